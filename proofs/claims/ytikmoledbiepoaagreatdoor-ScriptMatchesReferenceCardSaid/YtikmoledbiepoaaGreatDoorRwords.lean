/- The reference's words (printed by wip/gen_rwords.py). -/
import Derived.Test.YtikmoledbiepoaaGreatDoorRgue
import Derived.Test.YtikmoledbiepoaaGreatDoorRhex
import Derived.Test.YtikmoledbiepoaaGreatDoorRsame
namespace Go.Proofs.YtikmoledbiepoaaGreatDoor
open Go.RowKit
set_option linter.unusedSimpArgs false
set_option linter.unusedVariables false
/-- What num yields. -/
def NumIs (n : Int) (S : ByteArray) : Prop := 0 ≤ n ∧ n ≤ 9223372036854775807 ∧ S = ⟨(32 :: Lib.itoa n).toArray⟩
theorem num_is (n : Int) (S : ByteArray) (h : NumIs n S) (w : World) : Calls Tryz.prog 49 #[.int .i64 n] w fun e w' => e = .returned (.string S) ∧ Ext w w' := by
  obtain ⟨h0, h1, rfl⟩ := h
  obtain ⟨m, rfl⟩ := Int.eq_ofNat_of_zero_le h0
  rw [Lib.itoa_nonneg]
  exact num_any m w (by omega)
/-- What hex yields. -/
def HexIs (s : List UInt8) (S : ByteArray) : Prop := s.length ≤ 2147483648 ∧ S = ⟨(32 :: hexB s).toArray⟩
theorem hex_is (s : List UInt8) (S : ByteArray) (h : HexIs s S) (w : World) : Calls Tryz.prog 50 #[.string ⟨s.toArray⟩] w fun e w' => e = .returned (.string S) ∧ Ext w w' := by
  obtain ⟨h1, rfl⟩ := h
  exact rhex_any s w h1
/-- Two strings, one behind the other. -/
theorem cat_is {A B : ByteArray} {a b : List UInt8} (hA : A = ⟨a.toArray⟩) (hB : B = ⟨b.toArray⟩) (h : a.length + b.length ≤ 9223372036854775807) :
    ∃ C : ByteArray, Hid (C = ⟨(a ++ b).toArray⟩) ∧ ∀ w, (binOp .add 9 (.string A) (.string B)).run Tryz.prog w = .ok (.string C) w := by
  subst hA
  subst hB
  exact ⟨_, rfl, fun w => run_cat a b h w⟩
theorem exec_bin {ρ : Operand → Value} {o : Oper} {x y : Operand} {w : World} {A B C : ByteArray} (ho : o.op = .binOp .add 9 x y 9) (hx : ρ x = .string A) (hy : ρ y = .string B) (h : ∀ w, (binOp .add 9 (.string A) (.string B)).run Tryz.prog w = .ok (.string C) w) :
    (execOp ρ o).run Tryz.prog w = .ok (.value (.string C)) w := by
  unfold execOp
  simp only [ho, hx, hy, Sem.run_bind, h]
  rfl
theorem num_ex {n : Int} (h : (decide (0 ≤ n) && decide (n ≤ 9223372036854775807)) = true) : ∃ S, Hid (NumIs n S) := by
  simp only [Bool.and_eq_true, decide_eq_true_eq] at h
  exact ⟨_, h.1, h.2, rfl⟩
theorem hex_ex {s : List UInt8} (h : s.length ≤ 2147483648) : ∃ S, Hid (HexIs s S) := ⟨_, h, rfl⟩
theorem int_le {n : Int} {m : Nat} (h : (decide (0 ≤ n) && decide (n ≤ (m : Int))) = true) (hm : m ≤ 9223372036854775807) : (decide (0 ≤ n) && decide (n ≤ 9223372036854775807)) = true := by
  simp only [Bool.and_eq_true, decide_eq_true_eq] at h ⊢
  omega
theorem itoa_22 {n : Int} (h : (decide (0 ≤ n) && decide (n ≤ 9223372036854775807)) = true) : (Lib.itoa n).length ≤ 21 := by
  simp only [Bool.and_eq_true, decide_eq_true_eq] at h
  exact Lib.itoa_length_le n (by omega) (by omega)
set_option maxRecDepth 100000 in
set_option maxHeartbeats 4000000 in
theorem rwords_1 (c : Cal) (w : World) (hk : c.kind = 1) (hn : c.noSess = true) (hall : ∀ f ∈ (formOf 1).2, (wr f c).2 = true) :
    Calls Tryz.prog 48 #[.agg c.cells.toArray] w fun e w' => e = .returned (vS (Lib.join ((formOf 1).1 :: (formOf 1).2.map fun f => (wr f c).1) [32])) ∧ Ext w w' := by
  have q0 := int_le (n := c.loc) (hall fLocal (by simp [formOf])) (by decide)
  obtain ⟨N0, hN0⟩ := num_ex q0
  have l0 := itoa_22 q0
  have q1 := int_le (n := c.rem) (hall fRemote (by simp [formOf])) (by decide)
  obtain ⟨N1, hN1⟩ := num_ex q1
  have l1 := itoa_22 q1
  obtain ⟨S0, hS0, g0⟩ := cat_is (A := ⟨[100, 105, 97, 108].toArray⟩) (a := [100, 105, 97, 108]) rfl hN0.out.2.2 (by simp only [List.length_append, List.length_cons, List.length_nil]; omega)
  obtain ⟨S1, hS1, g1⟩ := cat_is hS0.out hN1.out.2.2 (by simp only [List.length_append, List.length_cons, List.length_nil]; omega)
  have HR : Hid (Value.string S1 = vS (Lib.join ((formOf 1).1 :: (formOf 1).2.map fun f => (wr f c).1) [32])) := by
    unfold Hid
    rw [hS1.out]
    show vS (([100, 105, 97, 108] ++ (32 :: Lib.itoa c.loc)) ++ (32 :: Lib.itoa c.rem)) = vS (Lib.join ([100, 105, 97, 108] :: [Lib.itoa c.loc, Lib.itoa c.rem]) [32])
    rw [Lib.join_cons]
    simp [Lib.joinTail]
  clear hS0 q0 l0 hS1 q1 l1
  clear hall
  have heq := eqSess c
  rw [hn] at heq
  clear hn
  obtain ⟨W0, hW0⟩ : ∃ W0, W0 = (w.alloc (.cells c.cells.toArray 28)).alloc (.cells #[.int .i64 c.p0, .int .i64 c.p1, .int .i64 c.p2, .int .i64 c.p3, .int .i64 c.p4, .int .i64 c.p5] 24) := ⟨_, rfl⟩
  have hb0 : W0.heap[w.heap.size]? = some (.cells c.cells.toArray 28) := by rw [hW0]; exact two_first _ _ _
  have hb1 : W0.heap[w.heap.size + 1]? = some (.cells #[.int .i64 c.p0, .int .i64 c.p1, .int .i64 c.p2, .int .i64 c.p3, .int .i64 c.p4, .int .i64 c.p5] 24) := by rw [hW0]; exact two_second _ _ _
  have x0 : Ext w W0 := by rw [hW0]; exact (Ext.alloc _ _).trans (Ext.alloc _ _)
  have e0 : W0.cell? ⟨w.heap.size, 0, none⟩ = some (.int .i64 1) := by rw [Lib.cell_of_heap hb0, ← hk]; rfl
  clear hk
  rw [Cal.cells_eq] at hW0 hb0 ⊢
  have HW := Lib.hid hW0
  clear hW0
  go_enter Tryz.func48, Tryz.ntmps48
  go_upto_region 2 with fail
  rw [← HW.out]
  clear HW
  have d8 : W0.cell? ⟨w.heap.size, 8, none⟩ = some (.string ⟨c.tick.toArray⟩) := by rw [Lib.cell_of_heap hb0]; rfl
  have d9 : W0.cell? ⟨w.heap.size, 9, none⟩ = some (.string ⟨c.sec.toArray⟩) := by rw [Lib.cell_of_heap hb0]; rfl
  have d10 : W0.cell? ⟨w.heap.size, 10, none⟩ = some (.int .i64 c.p0) := by rw [Lib.cell_of_heap hb0]; rfl
  have d11 : W0.cell? ⟨w.heap.size, 11, none⟩ = some (.int .i64 c.p1) := by rw [Lib.cell_of_heap hb0]; rfl
  have d12 : W0.cell? ⟨w.heap.size, 12, none⟩ = some (.int .i64 c.p2) := by rw [Lib.cell_of_heap hb0]; rfl
  have d13 : W0.cell? ⟨w.heap.size, 13, none⟩ = some (.int .i64 c.p3) := by rw [Lib.cell_of_heap hb0]; rfl
  have d14 : W0.cell? ⟨w.heap.size, 14, none⟩ = some (.int .i64 c.p4) := by rw [Lib.cell_of_heap hb0]; rfl
  have d15 : W0.cell? ⟨w.heap.size, 15, none⟩ = some (.int .i64 c.p5) := by rw [Lib.cell_of_heap hb0]; rfl
  go_upto_region 5 with fail
  have c0 : ∀ k : XW W0, k.val.cell? ⟨w.heap.size, 6, none⟩ = some (.int .i64 c.loc) := fun k => k.cell (by rw [Lib.cell_of_heap hb0]; rfl)
  have c1 : ∀ k : XW W0, k.val.cell? ⟨w.heap.size, 7, none⟩ = some (.int .i64 c.rem) := fun k => k.cell (by rw [Lib.cell_of_heap hb0]; rfl)
  refine wp_region_xw mixedOrd (by kernel_rfl) ?_
  repeat (first | go_big_quiet_step (first | (go_at_call 49; exact Calls.xw (num_is _ _ (by with_reducible first | exact hN0.out | exact hN1.out) _))) | (refine wpQuiet_xw rfl (fun k => exec_bin rfl rfl rfl (by with_reducible first | exact g0 | exact g1)) ?_; go_frame))
  refine wpQuiet_nil ?_
  rintro _ ⟨⟨W, hW⟩, rfl⟩
  go_wp2_with fail
  go_ret
  exact ⟨by rw [← HR.out]; rfl, x0.trans hW⟩
set_option maxRecDepth 100000 in
set_option maxHeartbeats 4000000 in
theorem rwords_7 (c : Cal) (w : World) (hk : c.kind = 7) (hall : ∀ f ∈ (formOf 7).2, (wr f c).2 = true) :
    Calls Tryz.prog 48 #[.agg c.cells.toArray] w fun e w' => e = .returned (vS (Lib.join ((formOf 7).1 :: (formOf 7).2.map fun f => (wr f c).1) [32])) ∧ Ext w w' := by
  have q0 := int_le (n := c.conn) (hall fConn (by simp [formOf])) (by decide)
  obtain ⟨N0, hN0⟩ := num_ex q0
  have l0 := itoa_22 q0
  have q1 := int_le (n := c.stream) (hall fStream (by simp [formOf])) (by decide)
  obtain ⟨N1, hN1⟩ := num_ex q1
  have l1 := itoa_22 q1
  have q2 := int_le (n := c.code) (hall fCode (by simp [formOf])) (by decide)
  obtain ⟨N2, hN2⟩ := num_ex q2
  have l2 := itoa_22 q2
  obtain ⟨S0, hS0, g0⟩ := cat_is (A := ⟨[114, 101, 115, 101, 116].toArray⟩) (a := [114, 101, 115, 101, 116]) rfl hN0.out.2.2 (by simp only [List.length_append, List.length_cons, List.length_nil]; omega)
  obtain ⟨S1, hS1, g1⟩ := cat_is hS0.out hN1.out.2.2 (by simp only [List.length_append, List.length_cons, List.length_nil]; omega)
  obtain ⟨S2, hS2, g2⟩ := cat_is hS1.out hN2.out.2.2 (by simp only [List.length_append, List.length_cons, List.length_nil]; omega)
  have HR : Hid (Value.string S2 = vS (Lib.join ((formOf 7).1 :: (formOf 7).2.map fun f => (wr f c).1) [32])) := by
    unfold Hid
    rw [hS2.out]
    show vS ((([114, 101, 115, 101, 116] ++ (32 :: Lib.itoa c.conn)) ++ (32 :: Lib.itoa c.stream)) ++ (32 :: Lib.itoa c.code)) = vS (Lib.join ([114, 101, 115, 101, 116] :: [Lib.itoa c.conn, Lib.itoa c.stream, Lib.itoa c.code]) [32])
    rw [Lib.join_cons]
    simp [Lib.joinTail]
  clear hS0 q0 l0 hS1 q1 l1 hS2 q2 l2
  clear hall
  obtain ⟨W0, hW0⟩ : ∃ W0, W0 = (w.alloc (.cells c.cells.toArray 28)).alloc (.cells #[.int .i64 c.p0, .int .i64 c.p1, .int .i64 c.p2, .int .i64 c.p3, .int .i64 c.p4, .int .i64 c.p5] 24) := ⟨_, rfl⟩
  have hb0 : W0.heap[w.heap.size]? = some (.cells c.cells.toArray 28) := by rw [hW0]; exact two_first _ _ _
  have hb1 : W0.heap[w.heap.size + 1]? = some (.cells #[.int .i64 c.p0, .int .i64 c.p1, .int .i64 c.p2, .int .i64 c.p3, .int .i64 c.p4, .int .i64 c.p5] 24) := by rw [hW0]; exact two_second _ _ _
  have x0 : Ext w W0 := by rw [hW0]; exact (Ext.alloc _ _).trans (Ext.alloc _ _)
  have e0 : W0.cell? ⟨w.heap.size, 0, none⟩ = some (.int .i64 7) := by rw [Lib.cell_of_heap hb0, ← hk]; rfl
  clear hk
  rw [Cal.cells_eq] at hW0 hb0 ⊢
  have HW := Lib.hid hW0
  clear hW0
  go_enter Tryz.func48, Tryz.ntmps48
  go_upto_region 2 with fail
  rw [← HW.out]
  clear HW
  go_upto_region 18 with fail
  have c0 : ∀ k : XW W0, k.val.cell? ⟨w.heap.size, 1, none⟩ = some (.int .i64 c.conn) := fun k => k.cell (by rw [Lib.cell_of_heap hb0]; rfl)
  have c1 : ∀ k : XW W0, k.val.cell? ⟨w.heap.size, 2, none⟩ = some (.int .i64 c.stream) := fun k => k.cell (by rw [Lib.cell_of_heap hb0]; rfl)
  have c2 : ∀ k : XW W0, k.val.cell? ⟨w.heap.size, 5, none⟩ = some (.int .i64 c.code) := fun k => k.cell (by rw [Lib.cell_of_heap hb0]; rfl)
  refine wp_region_xw mixedOrd (by kernel_rfl) ?_
  repeat (first | go_big_quiet_step (first | (go_at_call 49; exact Calls.xw (num_is _ _ (by with_reducible first | exact hN0.out | exact hN1.out | exact hN2.out) _))) | (refine wpQuiet_xw rfl (fun k => exec_bin rfl rfl rfl (by with_reducible first | exact g0 | exact g1 | exact g2)) ?_; go_frame))
  refine wpQuiet_nil ?_
  rintro _ ⟨⟨W, hW⟩, rfl⟩
  go_wp2_with fail
  go_ret
  exact ⟨by rw [← HR.out]; rfl, x0.trans hW⟩
set_option maxRecDepth 100000 in
set_option maxHeartbeats 4000000 in
theorem rwords_5 (c : Cal) (w : World) (hk : c.kind = 5) (hall : ∀ f ∈ (formOf 5).2, (wr f c).2 = true) :
    Calls Tryz.prog 48 #[.agg c.cells.toArray] w fun e w' => e = .returned (vS (Lib.join ((formOf 5).1 :: (formOf 5).2.map fun f => (wr f c).1) [32])) ∧ Ext w w' := by
  have q0 := int_le (n := c.conn) (hall fConn (by simp [formOf])) (by decide)
  obtain ⟨N0, hN0⟩ := num_ex q0
  have l0 := itoa_22 q0
  have q1 := int_le (n := c.stream) (hall fStream (by simp [formOf])) (by decide)
  obtain ⟨N1, hN1⟩ := num_ex q1
  have l1 := itoa_22 q1
  have q2 : (c.s).length ≤ 2147483648 := by
    have h : decide ((c.s).length ≤ fS.most) = true := hall fS (by simp [formOf])
    simp only [decide_eq_true_eq] at h
    exact Nat.le_trans h (by decide)
  obtain ⟨N2, hN2⟩ := hex_ex q2
  have l2 := hexB_length c.s
  obtain ⟨S0, hS0, g0⟩ := cat_is (A := ⟨[119, 114, 105, 116, 101].toArray⟩) (a := [119, 114, 105, 116, 101]) rfl hN0.out.2.2 (by simp only [List.length_append, List.length_cons, List.length_nil]; omega)
  obtain ⟨S1, hS1, g1⟩ := cat_is hS0.out hN1.out.2.2 (by simp only [List.length_append, List.length_cons, List.length_nil]; omega)
  obtain ⟨S2, hS2, g2⟩ := cat_is hS1.out hN2.out.2 (by simp only [List.length_append, List.length_cons, List.length_nil]; omega)
  have HR : Hid (Value.string S2 = vS (Lib.join ((formOf 5).1 :: (formOf 5).2.map fun f => (wr f c).1) [32])) := by
    unfold Hid
    rw [hS2.out]
    show vS ((([119, 114, 105, 116, 101] ++ (32 :: Lib.itoa c.conn)) ++ (32 :: Lib.itoa c.stream)) ++ (32 :: hexB c.s)) = vS (Lib.join ([119, 114, 105, 116, 101] :: [Lib.itoa c.conn, Lib.itoa c.stream, hexB c.s]) [32])
    rw [Lib.join_cons]
    simp [Lib.joinTail]
  clear hS0 q0 l0 hS1 q1 l1 hS2 q2 l2
  clear hall
  obtain ⟨W0, hW0⟩ : ∃ W0, W0 = (w.alloc (.cells c.cells.toArray 28)).alloc (.cells #[.int .i64 c.p0, .int .i64 c.p1, .int .i64 c.p2, .int .i64 c.p3, .int .i64 c.p4, .int .i64 c.p5] 24) := ⟨_, rfl⟩
  have hb0 : W0.heap[w.heap.size]? = some (.cells c.cells.toArray 28) := by rw [hW0]; exact two_first _ _ _
  have hb1 : W0.heap[w.heap.size + 1]? = some (.cells #[.int .i64 c.p0, .int .i64 c.p1, .int .i64 c.p2, .int .i64 c.p3, .int .i64 c.p4, .int .i64 c.p5] 24) := by rw [hW0]; exact two_second _ _ _
  have x0 : Ext w W0 := by rw [hW0]; exact (Ext.alloc _ _).trans (Ext.alloc _ _)
  have e0 : W0.cell? ⟨w.heap.size, 0, none⟩ = some (.int .i64 5) := by rw [Lib.cell_of_heap hb0, ← hk]; rfl
  clear hk
  rw [Cal.cells_eq] at hW0 hb0 ⊢
  have HW := Lib.hid hW0
  clear hW0
  go_enter Tryz.func48, Tryz.ntmps48
  go_upto_region 2 with fail
  rw [← HW.out]
  clear HW
  go_upto_region 14 with fail
  have c0 : ∀ k : XW W0, k.val.cell? ⟨w.heap.size, 1, none⟩ = some (.int .i64 c.conn) := fun k => k.cell (by rw [Lib.cell_of_heap hb0]; rfl)
  have c1 : ∀ k : XW W0, k.val.cell? ⟨w.heap.size, 2, none⟩ = some (.int .i64 c.stream) := fun k => k.cell (by rw [Lib.cell_of_heap hb0]; rfl)
  have c2 : ∀ k : XW W0, k.val.cell? ⟨w.heap.size, 4, none⟩ = some (.string ⟨c.s.toArray⟩) := fun k => k.cell (by rw [Lib.cell_of_heap hb0]; rfl)
  refine wp_region_xw mixedOrd (by kernel_rfl) ?_
  repeat (first | go_big_quiet_step (first | (go_at_call 49; exact Calls.xw (num_is _ _ (by with_reducible first | exact hN0.out | exact hN1.out) _)) | (go_at_call 50; exact Calls.xw (hex_is _ _ (by with_reducible first | exact hN2.out) _))) | (refine wpQuiet_xw rfl (fun k => exec_bin rfl rfl rfl (by with_reducible first | exact g0 | exact g1 | exact g2)) ?_; go_frame))
  refine wpQuiet_nil ?_
  rintro _ ⟨⟨W, hW⟩, rfl⟩
  go_wp2_with fail
  go_ret
  exact ⟨by rw [← HR.out]; rfl, x0.trans hW⟩
set_option maxRecDepth 100000 in
set_option maxHeartbeats 4000000 in
theorem rwords_6 (c : Cal) (w : World) (hk : c.kind = 6) (hall : ∀ f ∈ (formOf 6).2, (wr f c).2 = true) :
    Calls Tryz.prog 48 #[.agg c.cells.toArray] w fun e w' => e = .returned (vS (Lib.join ((formOf 6).1 :: (formOf 6).2.map fun f => (wr f c).1) [32])) ∧ Ext w w' := by
  have q0 := int_le (n := c.conn) (hall fConn (by simp [formOf])) (by decide)
  obtain ⟨N0, hN0⟩ := num_ex q0
  have l0 := itoa_22 q0
  have q1 := int_le (n := c.stream) (hall fStream (by simp [formOf])) (by decide)
  obtain ⟨N1, hN1⟩ := num_ex q1
  have l1 := itoa_22 q1
  obtain ⟨S0, hS0, g0⟩ := cat_is (A := ⟨[102, 105, 110, 105, 115, 104].toArray⟩) (a := [102, 105, 110, 105, 115, 104]) rfl hN0.out.2.2 (by simp only [List.length_append, List.length_cons, List.length_nil]; omega)
  obtain ⟨S1, hS1, g1⟩ := cat_is hS0.out hN1.out.2.2 (by simp only [List.length_append, List.length_cons, List.length_nil]; omega)
  have HR : Hid (Value.string S1 = vS (Lib.join ((formOf 6).1 :: (formOf 6).2.map fun f => (wr f c).1) [32])) := by
    unfold Hid
    rw [hS1.out]
    show vS (([102, 105, 110, 105, 115, 104] ++ (32 :: Lib.itoa c.conn)) ++ (32 :: Lib.itoa c.stream)) = vS (Lib.join ([102, 105, 110, 105, 115, 104] :: [Lib.itoa c.conn, Lib.itoa c.stream]) [32])
    rw [Lib.join_cons]
    simp [Lib.joinTail]
  clear hS0 q0 l0 hS1 q1 l1
  clear hall
  obtain ⟨W0, hW0⟩ : ∃ W0, W0 = (w.alloc (.cells c.cells.toArray 28)).alloc (.cells #[.int .i64 c.p0, .int .i64 c.p1, .int .i64 c.p2, .int .i64 c.p3, .int .i64 c.p4, .int .i64 c.p5] 24) := ⟨_, rfl⟩
  have hb0 : W0.heap[w.heap.size]? = some (.cells c.cells.toArray 28) := by rw [hW0]; exact two_first _ _ _
  have hb1 : W0.heap[w.heap.size + 1]? = some (.cells #[.int .i64 c.p0, .int .i64 c.p1, .int .i64 c.p2, .int .i64 c.p3, .int .i64 c.p4, .int .i64 c.p5] 24) := by rw [hW0]; exact two_second _ _ _
  have x0 : Ext w W0 := by rw [hW0]; exact (Ext.alloc _ _).trans (Ext.alloc _ _)
  have e0 : W0.cell? ⟨w.heap.size, 0, none⟩ = some (.int .i64 6) := by rw [Lib.cell_of_heap hb0, ← hk]; rfl
  clear hk
  rw [Cal.cells_eq] at hW0 hb0 ⊢
  have HW := Lib.hid hW0
  clear hW0
  go_enter Tryz.func48, Tryz.ntmps48
  go_upto_region 2 with fail
  rw [← HW.out]
  clear HW
  go_upto_region 16 with fail
  have c0 : ∀ k : XW W0, k.val.cell? ⟨w.heap.size, 1, none⟩ = some (.int .i64 c.conn) := fun k => k.cell (by rw [Lib.cell_of_heap hb0]; rfl)
  have c1 : ∀ k : XW W0, k.val.cell? ⟨w.heap.size, 2, none⟩ = some (.int .i64 c.stream) := fun k => k.cell (by rw [Lib.cell_of_heap hb0]; rfl)
  refine wp_region_xw mixedOrd (by kernel_rfl) ?_
  repeat (first | go_big_quiet_step (first | (go_at_call 49; exact Calls.xw (num_is _ _ (by with_reducible first | exact hN0.out | exact hN1.out) _))) | (refine wpQuiet_xw rfl (fun k => exec_bin rfl rfl rfl (by with_reducible first | exact g0 | exact g1)) ?_; go_frame))
  refine wpQuiet_nil ?_
  rintro _ ⟨⟨W, hW⟩, rfl⟩
  go_wp2_with fail
  go_ret
  exact ⟨by rw [← HR.out]; rfl, x0.trans hW⟩
set_option maxRecDepth 100000 in
set_option maxHeartbeats 4000000 in
theorem rwords_8 (c : Cal) (w : World) (hk : c.kind = 8) (hall : ∀ f ∈ (formOf 8).2, (wr f c).2 = true) :
    Calls Tryz.prog 48 #[.agg c.cells.toArray] w fun e w' => e = .returned (vS (Lib.join ((formOf 8).1 :: (formOf 8).2.map fun f => (wr f c).1) [32])) ∧ Ext w w' := by
  have q0 := int_le (n := c.conn) (hall fConn (by simp [formOf])) (by decide)
  obtain ⟨N0, hN0⟩ := num_ex q0
  have l0 := itoa_22 q0
  have q1 := int_le (n := c.stream) (hall fStream (by simp [formOf])) (by decide)
  obtain ⟨N1, hN1⟩ := num_ex q1
  have l1 := itoa_22 q1
  have q2 := int_le (n := c.code) (hall fCode (by simp [formOf])) (by decide)
  obtain ⟨N2, hN2⟩ := num_ex q2
  have l2 := itoa_22 q2
  obtain ⟨S0, hS0, g0⟩ := cat_is (A := ⟨[115, 116, 111, 112].toArray⟩) (a := [115, 116, 111, 112]) rfl hN0.out.2.2 (by simp only [List.length_append, List.length_cons, List.length_nil]; omega)
  obtain ⟨S1, hS1, g1⟩ := cat_is hS0.out hN1.out.2.2 (by simp only [List.length_append, List.length_cons, List.length_nil]; omega)
  obtain ⟨S2, hS2, g2⟩ := cat_is hS1.out hN2.out.2.2 (by simp only [List.length_append, List.length_cons, List.length_nil]; omega)
  have HR : Hid (Value.string S2 = vS (Lib.join ((formOf 8).1 :: (formOf 8).2.map fun f => (wr f c).1) [32])) := by
    unfold Hid
    rw [hS2.out]
    show vS ((([115, 116, 111, 112] ++ (32 :: Lib.itoa c.conn)) ++ (32 :: Lib.itoa c.stream)) ++ (32 :: Lib.itoa c.code)) = vS (Lib.join ([115, 116, 111, 112] :: [Lib.itoa c.conn, Lib.itoa c.stream, Lib.itoa c.code]) [32])
    rw [Lib.join_cons]
    simp [Lib.joinTail]
  clear hS0 q0 l0 hS1 q1 l1 hS2 q2 l2
  clear hall
  obtain ⟨W0, hW0⟩ : ∃ W0, W0 = (w.alloc (.cells c.cells.toArray 28)).alloc (.cells #[.int .i64 c.p0, .int .i64 c.p1, .int .i64 c.p2, .int .i64 c.p3, .int .i64 c.p4, .int .i64 c.p5] 24) := ⟨_, rfl⟩
  have hb0 : W0.heap[w.heap.size]? = some (.cells c.cells.toArray 28) := by rw [hW0]; exact two_first _ _ _
  have hb1 : W0.heap[w.heap.size + 1]? = some (.cells #[.int .i64 c.p0, .int .i64 c.p1, .int .i64 c.p2, .int .i64 c.p3, .int .i64 c.p4, .int .i64 c.p5] 24) := by rw [hW0]; exact two_second _ _ _
  have x0 : Ext w W0 := by rw [hW0]; exact (Ext.alloc _ _).trans (Ext.alloc _ _)
  have e0 : W0.cell? ⟨w.heap.size, 0, none⟩ = some (.int .i64 8) := by rw [Lib.cell_of_heap hb0, ← hk]; rfl
  clear hk
  rw [Cal.cells_eq] at hW0 hb0 ⊢
  have HW := Lib.hid hW0
  clear hW0
  go_enter Tryz.func48, Tryz.ntmps48
  go_upto_region 2 with fail
  rw [← HW.out]
  clear HW
  go_upto_region 20 with fail
  have c0 : ∀ k : XW W0, k.val.cell? ⟨w.heap.size, 1, none⟩ = some (.int .i64 c.conn) := fun k => k.cell (by rw [Lib.cell_of_heap hb0]; rfl)
  have c1 : ∀ k : XW W0, k.val.cell? ⟨w.heap.size, 2, none⟩ = some (.int .i64 c.stream) := fun k => k.cell (by rw [Lib.cell_of_heap hb0]; rfl)
  have c2 : ∀ k : XW W0, k.val.cell? ⟨w.heap.size, 5, none⟩ = some (.int .i64 c.code) := fun k => k.cell (by rw [Lib.cell_of_heap hb0]; rfl)
  refine wp_region_xw mixedOrd (by kernel_rfl) ?_
  repeat (first | go_big_quiet_step (first | (go_at_call 49; exact Calls.xw (num_is _ _ (by with_reducible first | exact hN0.out | exact hN1.out | exact hN2.out) _))) | (refine wpQuiet_xw rfl (fun k => exec_bin rfl rfl rfl (by with_reducible first | exact g0 | exact g1 | exact g2)) ?_; go_frame))
  refine wpQuiet_nil ?_
  rintro _ ⟨⟨W, hW⟩, rfl⟩
  go_wp2_with fail
  go_ret
  exact ⟨by rw [← HR.out]; rfl, x0.trans hW⟩
set_option maxRecDepth 100000 in
set_option maxHeartbeats 4000000 in
theorem rwords_9 (c : Cal) (w : World) (hk : c.kind = 9) (hall : ∀ f ∈ (formOf 9).2, (wr f c).2 = true) :
    Calls Tryz.prog 48 #[.agg c.cells.toArray] w fun e w' => e = .returned (vS (Lib.join ((formOf 9).1 :: (formOf 9).2.map fun f => (wr f c).1) [32])) ∧ Ext w w' := by
  have q0 := int_le (n := c.conn) (hall fConn (by simp [formOf])) (by decide)
  obtain ⟨N0, hN0⟩ := num_ex q0
  have l0 := itoa_22 q0
  have q1 := int_le (n := c.stream) (hall fStream (by simp [formOf])) (by decide)
  obtain ⟨N1, hN1⟩ := num_ex q1
  have l1 := itoa_22 q1
  have q2 := int_le (n := c.n) (hall fN (by simp [formOf])) (by decide)
  obtain ⟨N2, hN2⟩ := num_ex q2
  have l2 := itoa_22 q2
  obtain ⟨S0, hS0, g0⟩ := cat_is (A := ⟨[114, 101, 97, 100].toArray⟩) (a := [114, 101, 97, 100]) rfl hN0.out.2.2 (by simp only [List.length_append, List.length_cons, List.length_nil]; omega)
  obtain ⟨S1, hS1, g1⟩ := cat_is hS0.out hN1.out.2.2 (by simp only [List.length_append, List.length_cons, List.length_nil]; omega)
  obtain ⟨S2, hS2, g2⟩ := cat_is hS1.out hN2.out.2.2 (by simp only [List.length_append, List.length_cons, List.length_nil]; omega)
  have HR : Hid (Value.string S2 = vS (Lib.join ((formOf 9).1 :: (formOf 9).2.map fun f => (wr f c).1) [32])) := by
    unfold Hid
    rw [hS2.out]
    show vS ((([114, 101, 97, 100] ++ (32 :: Lib.itoa c.conn)) ++ (32 :: Lib.itoa c.stream)) ++ (32 :: Lib.itoa c.n)) = vS (Lib.join ([114, 101, 97, 100] :: [Lib.itoa c.conn, Lib.itoa c.stream, Lib.itoa c.n]) [32])
    rw [Lib.join_cons]
    simp [Lib.joinTail]
  clear hS0 q0 l0 hS1 q1 l1 hS2 q2 l2
  clear hall
  obtain ⟨W0, hW0⟩ : ∃ W0, W0 = (w.alloc (.cells c.cells.toArray 28)).alloc (.cells #[.int .i64 c.p0, .int .i64 c.p1, .int .i64 c.p2, .int .i64 c.p3, .int .i64 c.p4, .int .i64 c.p5] 24) := ⟨_, rfl⟩
  have hb0 : W0.heap[w.heap.size]? = some (.cells c.cells.toArray 28) := by rw [hW0]; exact two_first _ _ _
  have hb1 : W0.heap[w.heap.size + 1]? = some (.cells #[.int .i64 c.p0, .int .i64 c.p1, .int .i64 c.p2, .int .i64 c.p3, .int .i64 c.p4, .int .i64 c.p5] 24) := by rw [hW0]; exact two_second _ _ _
  have x0 : Ext w W0 := by rw [hW0]; exact (Ext.alloc _ _).trans (Ext.alloc _ _)
  have e0 : W0.cell? ⟨w.heap.size, 0, none⟩ = some (.int .i64 9) := by rw [Lib.cell_of_heap hb0, ← hk]; rfl
  clear hk
  rw [Cal.cells_eq] at hW0 hb0 ⊢
  have HW := Lib.hid hW0
  clear hW0
  go_enter Tryz.func48, Tryz.ntmps48
  go_upto_region 2 with fail
  rw [← HW.out]
  clear HW
  go_upto_region 22 with fail
  have c0 : ∀ k : XW W0, k.val.cell? ⟨w.heap.size, 1, none⟩ = some (.int .i64 c.conn) := fun k => k.cell (by rw [Lib.cell_of_heap hb0]; rfl)
  have c1 : ∀ k : XW W0, k.val.cell? ⟨w.heap.size, 2, none⟩ = some (.int .i64 c.stream) := fun k => k.cell (by rw [Lib.cell_of_heap hb0]; rfl)
  have c2 : ∀ k : XW W0, k.val.cell? ⟨w.heap.size, 3, none⟩ = some (.int .i64 c.n) := fun k => k.cell (by rw [Lib.cell_of_heap hb0]; rfl)
  refine wp_region_xw mixedOrd (by kernel_rfl) ?_
  repeat (first | go_big_quiet_step (first | (go_at_call 49; exact Calls.xw (num_is _ _ (by with_reducible first | exact hN0.out | exact hN1.out | exact hN2.out) _))) | (refine wpQuiet_xw rfl (fun k => exec_bin rfl rfl rfl (by with_reducible first | exact g0 | exact g1 | exact g2)) ?_; go_frame))
  refine wpQuiet_nil ?_
  rintro _ ⟨⟨W, hW⟩, rfl⟩
  go_wp2_with fail
  go_ret
  exact ⟨by rw [← HR.out]; rfl, x0.trans hW⟩
set_option maxRecDepth 100000 in
set_option maxHeartbeats 4000000 in
theorem rwords_10 (c : Cal) (w : World) (hk : c.kind = 10) (hall : ∀ f ∈ (formOf 10).2, (wr f c).2 = true) :
    Calls Tryz.prog 48 #[.agg c.cells.toArray] w fun e w' => e = .returned (vS (Lib.join ((formOf 10).1 :: (formOf 10).2.map fun f => (wr f c).1) [32])) ∧ Ext w w' := by
  have q0 := int_le (n := c.conn) (hall fConn (by simp [formOf])) (by decide)
  obtain ⟨N0, hN0⟩ := num_ex q0
  have l0 := itoa_22 q0
  have q1 := int_le (n := c.code) (hall fCode (by simp [formOf])) (by decide)
  obtain ⟨N1, hN1⟩ := num_ex q1
  have l1 := itoa_22 q1
  obtain ⟨S0, hS0, g0⟩ := cat_is (A := ⟨[99, 108, 111, 115, 101].toArray⟩) (a := [99, 108, 111, 115, 101]) rfl hN0.out.2.2 (by simp only [List.length_append, List.length_cons, List.length_nil]; omega)
  obtain ⟨S1, hS1, g1⟩ := cat_is hS0.out hN1.out.2.2 (by simp only [List.length_append, List.length_cons, List.length_nil]; omega)
  have HR : Hid (Value.string S1 = vS (Lib.join ((formOf 10).1 :: (formOf 10).2.map fun f => (wr f c).1) [32])) := by
    unfold Hid
    rw [hS1.out]
    show vS (([99, 108, 111, 115, 101] ++ (32 :: Lib.itoa c.conn)) ++ (32 :: Lib.itoa c.code)) = vS (Lib.join ([99, 108, 111, 115, 101] :: [Lib.itoa c.conn, Lib.itoa c.code]) [32])
    rw [Lib.join_cons]
    simp [Lib.joinTail]
  clear hS0 q0 l0 hS1 q1 l1
  clear hall
  obtain ⟨W0, hW0⟩ : ∃ W0, W0 = (w.alloc (.cells c.cells.toArray 28)).alloc (.cells #[.int .i64 c.p0, .int .i64 c.p1, .int .i64 c.p2, .int .i64 c.p3, .int .i64 c.p4, .int .i64 c.p5] 24) := ⟨_, rfl⟩
  have hb0 : W0.heap[w.heap.size]? = some (.cells c.cells.toArray 28) := by rw [hW0]; exact two_first _ _ _
  have hb1 : W0.heap[w.heap.size + 1]? = some (.cells #[.int .i64 c.p0, .int .i64 c.p1, .int .i64 c.p2, .int .i64 c.p3, .int .i64 c.p4, .int .i64 c.p5] 24) := by rw [hW0]; exact two_second _ _ _
  have x0 : Ext w W0 := by rw [hW0]; exact (Ext.alloc _ _).trans (Ext.alloc _ _)
  have e0 : W0.cell? ⟨w.heap.size, 0, none⟩ = some (.int .i64 10) := by rw [Lib.cell_of_heap hb0, ← hk]; rfl
  clear hk
  rw [Cal.cells_eq] at hW0 hb0 ⊢
  have HW := Lib.hid hW0
  clear hW0
  go_enter Tryz.func48, Tryz.ntmps48
  go_upto_region 2 with fail
  rw [← HW.out]
  clear HW
  go_upto_region 24 with fail
  have c0 : ∀ k : XW W0, k.val.cell? ⟨w.heap.size, 1, none⟩ = some (.int .i64 c.conn) := fun k => k.cell (by rw [Lib.cell_of_heap hb0]; rfl)
  have c1 : ∀ k : XW W0, k.val.cell? ⟨w.heap.size, 5, none⟩ = some (.int .i64 c.code) := fun k => k.cell (by rw [Lib.cell_of_heap hb0]; rfl)
  refine wp_region_xw mixedOrd (by kernel_rfl) ?_
  repeat (first | go_big_quiet_step (first | (go_at_call 49; exact Calls.xw (num_is _ _ (by with_reducible first | exact hN0.out | exact hN1.out) _))) | (refine wpQuiet_xw rfl (fun k => exec_bin rfl rfl rfl (by with_reducible first | exact g0 | exact g1)) ?_; go_frame))
  refine wpQuiet_nil ?_
  rintro _ ⟨⟨W, hW⟩, rfl⟩
  go_wp2_with fail
  go_ret
  exact ⟨by rw [← HR.out]; rfl, x0.trans hW⟩
set_option maxRecDepth 100000 in
set_option maxHeartbeats 4000000 in
theorem rwords_12 (c : Cal) (w : World) (hk : c.kind = 12) (hall : ∀ f ∈ (formOf 12).2, (wr f c).2 = true) :
    Calls Tryz.prog 48 #[.agg c.cells.toArray] w fun e w' => e = .returned (vS (Lib.join ((formOf 12).1 :: (formOf 12).2.map fun f => (wr f c).1) [32])) ∧ Ext w w' := by
  have q0 := int_le (n := c.conn) (hall fConn (by simp [formOf])) (by decide)
  obtain ⟨N0, hN0⟩ := num_ex q0
  have l0 := itoa_22 q0
  have q1 := int_le (n := c.loc) (hall fLocal (by simp [formOf])) (by decide)
  obtain ⟨N1, hN1⟩ := num_ex q1
  have l1 := itoa_22 q1
  obtain ⟨S0, hS0, g0⟩ := cat_is (A := ⟨[109, 105, 103, 114, 97, 116, 101].toArray⟩) (a := [109, 105, 103, 114, 97, 116, 101]) rfl hN0.out.2.2 (by simp only [List.length_append, List.length_cons, List.length_nil]; omega)
  obtain ⟨S1, hS1, g1⟩ := cat_is hS0.out hN1.out.2.2 (by simp only [List.length_append, List.length_cons, List.length_nil]; omega)
  have HR : Hid (Value.string S1 = vS (Lib.join ((formOf 12).1 :: (formOf 12).2.map fun f => (wr f c).1) [32])) := by
    unfold Hid
    rw [hS1.out]
    show vS (([109, 105, 103, 114, 97, 116, 101] ++ (32 :: Lib.itoa c.conn)) ++ (32 :: Lib.itoa c.loc)) = vS (Lib.join ([109, 105, 103, 114, 97, 116, 101] :: [Lib.itoa c.conn, Lib.itoa c.loc]) [32])
    rw [Lib.join_cons]
    simp [Lib.joinTail]
  clear hS0 q0 l0 hS1 q1 l1
  clear hall
  obtain ⟨W0, hW0⟩ : ∃ W0, W0 = (w.alloc (.cells c.cells.toArray 28)).alloc (.cells #[.int .i64 c.p0, .int .i64 c.p1, .int .i64 c.p2, .int .i64 c.p3, .int .i64 c.p4, .int .i64 c.p5] 24) := ⟨_, rfl⟩
  have hb0 : W0.heap[w.heap.size]? = some (.cells c.cells.toArray 28) := by rw [hW0]; exact two_first _ _ _
  have hb1 : W0.heap[w.heap.size + 1]? = some (.cells #[.int .i64 c.p0, .int .i64 c.p1, .int .i64 c.p2, .int .i64 c.p3, .int .i64 c.p4, .int .i64 c.p5] 24) := by rw [hW0]; exact two_second _ _ _
  have x0 : Ext w W0 := by rw [hW0]; exact (Ext.alloc _ _).trans (Ext.alloc _ _)
  have e0 : W0.cell? ⟨w.heap.size, 0, none⟩ = some (.int .i64 12) := by rw [Lib.cell_of_heap hb0, ← hk]; rfl
  clear hk
  rw [Cal.cells_eq] at hW0 hb0 ⊢
  have HW := Lib.hid hW0
  clear hW0
  go_enter Tryz.func48, Tryz.ntmps48
  go_upto_region 2 with fail
  rw [← HW.out]
  clear HW
  go_upto_region 28 with fail
  have c0 : ∀ k : XW W0, k.val.cell? ⟨w.heap.size, 1, none⟩ = some (.int .i64 c.conn) := fun k => k.cell (by rw [Lib.cell_of_heap hb0]; rfl)
  have c1 : ∀ k : XW W0, k.val.cell? ⟨w.heap.size, 6, none⟩ = some (.int .i64 c.loc) := fun k => k.cell (by rw [Lib.cell_of_heap hb0]; rfl)
  refine wp_region_xw mixedOrd (by kernel_rfl) ?_
  repeat (first | go_big_quiet_step (first | (go_at_call 49; exact Calls.xw (num_is _ _ (by with_reducible first | exact hN0.out | exact hN1.out) _))) | (refine wpQuiet_xw rfl (fun k => exec_bin rfl rfl rfl (by with_reducible first | exact g0 | exact g1)) ?_; go_frame))
  refine wpQuiet_nil ?_
  rintro _ ⟨⟨W, hW⟩, rfl⟩
  go_wp2_with fail
  go_ret
  exact ⟨by rw [← HR.out]; rfl, x0.trans hW⟩
set_option maxRecDepth 100000 in
set_option maxHeartbeats 4000000 in
theorem rwords_0 (c : Cal) (w : World) (hk : c.kind = 1) (hn : c.noSess = false) (hall : ∀ f ∈ (formOf 0).2, (wr f c).2 = true) :
    Calls Tryz.prog 48 #[.agg c.cells.toArray] w fun e w' => e = .returned (vS (Lib.join ((formOf 0).1 :: (formOf 0).2.map fun f => (wr f c).1) [32])) ∧ Ext w w' := by
  have q0 := int_le (n := c.loc) (hall fLocal (by simp [formOf])) (by decide)
  obtain ⟨N0, hN0⟩ := num_ex q0
  have l0 := itoa_22 q0
  have q1 := int_le (n := c.rem) (hall fRemote (by simp [formOf])) (by decide)
  obtain ⟨N1, hN1⟩ := num_ex q1
  have l1 := itoa_22 q1
  have q2 : (c.tick).length ≤ 2147483648 := by
    have h : decide ((c.tick).length ≤ fTicket.most) = true := hall fTicket (by simp [formOf])
    simp only [decide_eq_true_eq] at h
    exact Nat.le_trans h (by decide)
  obtain ⟨N2, hN2⟩ := hex_ex q2
  have l2 := hexB_length c.tick
  have q3 : (c.sec).length ≤ 2147483648 := by
    have h : decide ((c.sec).length ≤ fSecret.most) = true := hall fSecret (by simp [formOf])
    simp only [decide_eq_true_eq] at h
    exact Nat.le_trans h (by decide)
  obtain ⟨N3, hN3⟩ := hex_ex q3
  have l3 := hexB_length c.sec
  have q4 := int_le (n := c.p0) (hall (fPar 0) (by simp [formOf])) (by decide)
  obtain ⟨N4, hN4⟩ := num_ex q4
  have l4 := itoa_22 q4
  have q5 := int_le (n := c.p1) (hall (fPar 1) (by simp [formOf])) (by decide)
  obtain ⟨N5, hN5⟩ := num_ex q5
  have l5 := itoa_22 q5
  have q6 := int_le (n := c.p2) (hall (fPar 2) (by simp [formOf])) (by decide)
  obtain ⟨N6, hN6⟩ := num_ex q6
  have l6 := itoa_22 q6
  have q7 := int_le (n := c.p3) (hall (fPar 3) (by simp [formOf])) (by decide)
  obtain ⟨N7, hN7⟩ := num_ex q7
  have l7 := itoa_22 q7
  have q8 := int_le (n := c.p4) (hall (fPar 4) (by simp [formOf])) (by decide)
  obtain ⟨N8, hN8⟩ := num_ex q8
  have l8 := itoa_22 q8
  have q9 := int_le (n := c.p5) (hall (fPar 5) (by simp [formOf])) (by decide)
  obtain ⟨N9, hN9⟩ := num_ex q9
  have l9 := itoa_22 q9
  obtain ⟨S0, hS0, g0⟩ := cat_is (A := ⟨[114, 101, 115, 117, 109, 101].toArray⟩) (a := [114, 101, 115, 117, 109, 101]) rfl hN0.out.2.2 (by simp only [List.length_append, List.length_cons, List.length_nil]; omega)
  obtain ⟨S1, hS1, g1⟩ := cat_is hS0.out hN1.out.2.2 (by simp only [List.length_append, List.length_cons, List.length_nil]; omega)
  obtain ⟨S2, hS2, g2⟩ := cat_is hS1.out hN2.out.2 (by simp only [List.length_append, List.length_cons, List.length_nil]; omega)
  obtain ⟨S3, hS3, g3⟩ := cat_is hS2.out hN3.out.2 (by simp only [List.length_append, List.length_cons, List.length_nil]; omega)
  obtain ⟨S4, hS4, g4⟩ := cat_is hS3.out hN4.out.2.2 (by simp only [List.length_append, List.length_cons, List.length_nil]; omega)
  obtain ⟨S5, hS5, g5⟩ := cat_is hS4.out hN5.out.2.2 (by simp only [List.length_append, List.length_cons, List.length_nil]; omega)
  obtain ⟨S6, hS6, g6⟩ := cat_is hS5.out hN6.out.2.2 (by simp only [List.length_append, List.length_cons, List.length_nil]; omega)
  obtain ⟨S7, hS7, g7⟩ := cat_is hS6.out hN7.out.2.2 (by simp only [List.length_append, List.length_cons, List.length_nil]; omega)
  obtain ⟨S8, hS8, g8⟩ := cat_is hS7.out hN8.out.2.2 (by simp only [List.length_append, List.length_cons, List.length_nil]; omega)
  obtain ⟨S9, hS9, g9⟩ := cat_is hS8.out hN9.out.2.2 (by simp only [List.length_append, List.length_cons, List.length_nil]; omega)
  have HR : Hid (Value.string S9 = vS (Lib.join ((formOf 0).1 :: (formOf 0).2.map fun f => (wr f c).1) [32])) := by
    unfold Hid
    rw [hS9.out]
    show vS (((((((((([114, 101, 115, 117, 109, 101] ++ (32 :: Lib.itoa c.loc)) ++ (32 :: Lib.itoa c.rem)) ++ (32 :: hexB c.tick)) ++ (32 :: hexB c.sec)) ++ (32 :: Lib.itoa c.p0)) ++ (32 :: Lib.itoa c.p1)) ++ (32 :: Lib.itoa c.p2)) ++ (32 :: Lib.itoa c.p3)) ++ (32 :: Lib.itoa c.p4)) ++ (32 :: Lib.itoa c.p5)) = vS (Lib.join ([114, 101, 115, 117, 109, 101] :: [Lib.itoa c.loc, Lib.itoa c.rem, hexB c.tick, hexB c.sec, Lib.itoa c.p0, Lib.itoa c.p1, Lib.itoa c.p2, Lib.itoa c.p3, Lib.itoa c.p4, Lib.itoa c.p5]) [32])
    rw [Lib.join_cons]
    simp [Lib.joinTail]
  clear hS0 q0 l0 hS1 q1 l1 hS2 q2 l2 hS3 q3 l3 hS4 q4 l4 hS5 q5 l5 hS6 q6 l6 hS7 q7 l7 hS8 q8 l8 hS9 q9 l9
  clear hall
  have heq := eqSess c
  rw [hn] at heq
  clear hn
  obtain ⟨W0, hW0⟩ : ∃ W0, W0 = (w.alloc (.cells c.cells.toArray 28)).alloc (.cells #[.int .i64 c.p0, .int .i64 c.p1, .int .i64 c.p2, .int .i64 c.p3, .int .i64 c.p4, .int .i64 c.p5] 24) := ⟨_, rfl⟩
  have hb0 : W0.heap[w.heap.size]? = some (.cells c.cells.toArray 28) := by rw [hW0]; exact two_first _ _ _
  have hb1 : W0.heap[w.heap.size + 1]? = some (.cells #[.int .i64 c.p0, .int .i64 c.p1, .int .i64 c.p2, .int .i64 c.p3, .int .i64 c.p4, .int .i64 c.p5] 24) := by rw [hW0]; exact two_second _ _ _
  have x0 : Ext w W0 := by rw [hW0]; exact (Ext.alloc _ _).trans (Ext.alloc _ _)
  have e0 : W0.cell? ⟨w.heap.size, 0, none⟩ = some (.int .i64 1) := by rw [Lib.cell_of_heap hb0, ← hk]; rfl
  clear hk
  rw [Cal.cells_eq] at hW0 hb0 ⊢
  have HW := Lib.hid hW0
  clear hW0
  go_enter Tryz.func48, Tryz.ntmps48
  go_upto_region 2 with fail
  rw [← HW.out]
  clear HW
  have d8 : W0.cell? ⟨w.heap.size, 8, none⟩ = some (.string ⟨c.tick.toArray⟩) := by rw [Lib.cell_of_heap hb0]; rfl
  have d9 : W0.cell? ⟨w.heap.size, 9, none⟩ = some (.string ⟨c.sec.toArray⟩) := by rw [Lib.cell_of_heap hb0]; rfl
  have d10 : W0.cell? ⟨w.heap.size, 10, none⟩ = some (.int .i64 c.p0) := by rw [Lib.cell_of_heap hb0]; rfl
  have d11 : W0.cell? ⟨w.heap.size, 11, none⟩ = some (.int .i64 c.p1) := by rw [Lib.cell_of_heap hb0]; rfl
  have d12 : W0.cell? ⟨w.heap.size, 12, none⟩ = some (.int .i64 c.p2) := by rw [Lib.cell_of_heap hb0]; rfl
  have d13 : W0.cell? ⟨w.heap.size, 13, none⟩ = some (.int .i64 c.p3) := by rw [Lib.cell_of_heap hb0]; rfl
  have d14 : W0.cell? ⟨w.heap.size, 14, none⟩ = some (.int .i64 c.p4) := by rw [Lib.cell_of_heap hb0]; rfl
  have d15 : W0.cell? ⟨w.heap.size, 15, none⟩ = some (.int .i64 c.p5) := by rw [Lib.cell_of_heap hb0]; rfl
  go_upto_region 6 with fail
  have c0 : ∀ k : XW W0, k.val.cell? ⟨w.heap.size, 6, none⟩ = some (.int .i64 c.loc) := fun k => k.cell (by rw [Lib.cell_of_heap hb0]; rfl)
  have c1 : ∀ k : XW W0, k.val.cell? ⟨w.heap.size, 7, none⟩ = some (.int .i64 c.rem) := fun k => k.cell (by rw [Lib.cell_of_heap hb0]; rfl)
  have c2 : ∀ k : XW W0, k.val.cell? ⟨w.heap.size, 8, none⟩ = some (.string ⟨c.tick.toArray⟩) := fun k => k.cell (by rw [Lib.cell_of_heap hb0]; rfl)
  have c3 : ∀ k : XW W0, k.val.cell? ⟨w.heap.size, 9, none⟩ = some (.string ⟨c.sec.toArray⟩) := fun k => k.cell (by rw [Lib.cell_of_heap hb0]; rfl)
  have c4 : ∀ k : XW W0, k.val.cell? ⟨w.heap.size + 1, 0, none⟩ = some (.int .i64 c.p0) := fun k => k.cell (by rw [Lib.cell_of_heap hb1]; rfl)
  have c5 : ∀ k : XW W0, k.val.cell? ⟨w.heap.size + 1, 1, none⟩ = some (.int .i64 c.p1) := fun k => k.cell (by rw [Lib.cell_of_heap hb1]; rfl)
  have c6 : ∀ k : XW W0, k.val.cell? ⟨w.heap.size + 1, 2, none⟩ = some (.int .i64 c.p2) := fun k => k.cell (by rw [Lib.cell_of_heap hb1]; rfl)
  have c7 : ∀ k : XW W0, k.val.cell? ⟨w.heap.size + 1, 3, none⟩ = some (.int .i64 c.p3) := fun k => k.cell (by rw [Lib.cell_of_heap hb1]; rfl)
  have c8 : ∀ k : XW W0, k.val.cell? ⟨w.heap.size + 1, 4, none⟩ = some (.int .i64 c.p4) := fun k => k.cell (by rw [Lib.cell_of_heap hb1]; rfl)
  have c9 : ∀ k : XW W0, k.val.cell? ⟨w.heap.size + 1, 5, none⟩ = some (.int .i64 c.p5) := fun k => k.cell (by rw [Lib.cell_of_heap hb1]; rfl)
  refine wp_region_xw mixedOrd (by kernel_rfl) ?_
  repeat (first | go_big_quiet_step (first | (go_at_call 49; exact Calls.xw (num_is _ _ (by with_reducible first | exact hN0.out | exact hN1.out | exact hN4.out | exact hN5.out | exact hN6.out | exact hN7.out | exact hN8.out | exact hN9.out) _)) | (go_at_call 50; exact Calls.xw (hex_is _ _ (by with_reducible first | exact hN2.out | exact hN3.out) _))) | (refine wpQuiet_xw rfl (fun k => exec_bin rfl rfl rfl (by with_reducible first | exact g0 | exact g1 | exact g2 | exact g3 | exact g4 | exact g5 | exact g6 | exact g7 | exact g8 | exact g9)) ?_; go_frame))
  refine wpQuiet_nil ?_
  rintro _ ⟨⟨W, hW⟩, rfl⟩
  go_wp2_with fail
  go_ret
  exact ⟨by rw [← HR.out]; rfl, x0.trans hW⟩
set_option maxRecDepth 100000 in
set_option maxHeartbeats 4000000 in
theorem rwords_4 (c : Cal) (w : World) (hk : c.kind = 4) (hall : ∀ f ∈ (formOf 4).2, (wr f c).2 = true) :
    Calls Tryz.prog 48 #[.agg c.cells.toArray] w fun e w' => e = .returned (vS (Lib.join ((formOf 4).1 :: (formOf 4).2.map fun f => (wr f c).1) [32])) ∧ Ext w w' := by
  have q0 := int_le (n := c.conn) (hall fConn (by simp [formOf])) (by decide)
  obtain ⟨N0, hN0⟩ := num_ex q0
  have l0 := itoa_22 q0
  obtain ⟨S0, hS0, g0⟩ := cat_is (A := ⟨[105, 110, 99, 111, 109, 105, 110, 103].toArray⟩) (a := [105, 110, 99, 111, 109, 105, 110, 103]) rfl hN0.out.2.2 (by simp only [List.length_append, List.length_cons, List.length_nil]; omega)
  have HR : Hid (Value.string S0 = vS (Lib.join ((formOf 4).1 :: (formOf 4).2.map fun f => (wr f c).1) [32])) := by
    unfold Hid
    rw [hS0.out]
    show vS ([105, 110, 99, 111, 109, 105, 110, 103] ++ (32 :: Lib.itoa c.conn)) = vS (Lib.join ([105, 110, 99, 111, 109, 105, 110, 103] :: [Lib.itoa c.conn]) [32])
    rw [Lib.join_cons]
    simp [Lib.joinTail]
  clear hS0 q0 l0
  clear hall
  obtain ⟨W0, hW0⟩ : ∃ W0, W0 = (w.alloc (.cells c.cells.toArray 28)).alloc (.cells #[.int .i64 c.p0, .int .i64 c.p1, .int .i64 c.p2, .int .i64 c.p3, .int .i64 c.p4, .int .i64 c.p5] 24) := ⟨_, rfl⟩
  have hb0 : W0.heap[w.heap.size]? = some (.cells c.cells.toArray 28) := by rw [hW0]; exact two_first _ _ _
  have hb1 : W0.heap[w.heap.size + 1]? = some (.cells #[.int .i64 c.p0, .int .i64 c.p1, .int .i64 c.p2, .int .i64 c.p3, .int .i64 c.p4, .int .i64 c.p5] 24) := by rw [hW0]; exact two_second _ _ _
  have x0 : Ext w W0 := by rw [hW0]; exact (Ext.alloc _ _).trans (Ext.alloc _ _)
  have e0 : W0.cell? ⟨w.heap.size, 0, none⟩ = some (.int .i64 4) := by rw [Lib.cell_of_heap hb0, ← hk]; rfl
  clear hk
  rw [Cal.cells_eq] at hW0 hb0 ⊢
  have HW := Lib.hid hW0
  clear hW0
  go_enter Tryz.func48, Tryz.ntmps48
  go_upto_region 2 with fail
  rw [← HW.out]
  clear HW
  have c0 : W0.cell? ⟨w.heap.size, 1, none⟩ = some (.int .i64 c.conn) := by rw [Lib.cell_of_heap hb0]; rfl
  go_wp2_with (first | (go_at_call 49; refine (num_is _ _ hN0.out _).mono ?_; rintro e W ⟨rfl, hW⟩) | refine wpList_runs 84 rfl rfl (.string S0) _ (exec_bin rfl rfl rfl g0) ?_)
  go_ret
  exact ⟨by rw [← HR.out]; rfl, x0.trans hW⟩
set_option maxRecDepth 100000 in
set_option maxHeartbeats 4000000 in
theorem rwords_11 (c : Cal) (w : World) (hk : c.kind = 11) (hall : ∀ f ∈ (formOf 11).2, (wr f c).2 = true) :
    Calls Tryz.prog 48 #[.agg c.cells.toArray] w fun e w' => e = .returned (vS (Lib.join ((formOf 11).1 :: (formOf 11).2.map fun f => (wr f c).1) [32])) ∧ Ext w w' := by
  have q0 := int_le (n := c.conn) (hall fConn (by simp [formOf])) (by decide)
  obtain ⟨N0, hN0⟩ := num_ex q0
  have l0 := itoa_22 q0
  obtain ⟨S0, hS0, g0⟩ := cat_is (A := ⟨[117, 112, 100, 97, 116, 101].toArray⟩) (a := [117, 112, 100, 97, 116, 101]) rfl hN0.out.2.2 (by simp only [List.length_append, List.length_cons, List.length_nil]; omega)
  have HR : Hid (Value.string S0 = vS (Lib.join ((formOf 11).1 :: (formOf 11).2.map fun f => (wr f c).1) [32])) := by
    unfold Hid
    rw [hS0.out]
    show vS ([117, 112, 100, 97, 116, 101] ++ (32 :: Lib.itoa c.conn)) = vS (Lib.join ([117, 112, 100, 97, 116, 101] :: [Lib.itoa c.conn]) [32])
    rw [Lib.join_cons]
    simp [Lib.joinTail]
  clear hS0 q0 l0
  clear hall
  obtain ⟨W0, hW0⟩ : ∃ W0, W0 = (w.alloc (.cells c.cells.toArray 28)).alloc (.cells #[.int .i64 c.p0, .int .i64 c.p1, .int .i64 c.p2, .int .i64 c.p3, .int .i64 c.p4, .int .i64 c.p5] 24) := ⟨_, rfl⟩
  have hb0 : W0.heap[w.heap.size]? = some (.cells c.cells.toArray 28) := by rw [hW0]; exact two_first _ _ _
  have hb1 : W0.heap[w.heap.size + 1]? = some (.cells #[.int .i64 c.p0, .int .i64 c.p1, .int .i64 c.p2, .int .i64 c.p3, .int .i64 c.p4, .int .i64 c.p5] 24) := by rw [hW0]; exact two_second _ _ _
  have x0 : Ext w W0 := by rw [hW0]; exact (Ext.alloc _ _).trans (Ext.alloc _ _)
  have e0 : W0.cell? ⟨w.heap.size, 0, none⟩ = some (.int .i64 11) := by rw [Lib.cell_of_heap hb0, ← hk]; rfl
  clear hk
  rw [Cal.cells_eq] at hW0 hb0 ⊢
  have HW := Lib.hid hW0
  clear hW0
  go_enter Tryz.func48, Tryz.ntmps48
  go_upto_region 2 with fail
  rw [← HW.out]
  clear HW
  have c0 : W0.cell? ⟨w.heap.size, 1, none⟩ = some (.int .i64 c.conn) := by rw [Lib.cell_of_heap hb0]; rfl
  go_wp2_with (first | (go_at_call 49; refine (num_is _ _ hN0.out _).mono ?_; rintro e W ⟨rfl, hW⟩) | refine wpList_runs 166 rfl rfl (.string S0) _ (exec_bin rfl rfl rfl g0) ?_)
  go_ret
  exact ⟨by rw [← HR.out]; rfl, x0.trans hW⟩
set_option maxRecDepth 100000 in
set_option maxHeartbeats 4000000 in
theorem rwords_13 (c : Cal) (w : World) (hk : c.kind = 13) (hall : ∀ f ∈ (formOf 13).2, (wr f c).2 = true) :
    Calls Tryz.prog 48 #[.agg c.cells.toArray] w fun e w' => e = .returned (vS (Lib.join ((formOf 13).1 :: (formOf 13).2.map fun f => (wr f c).1) [32])) ∧ Ext w w' := by
  have q0 := int_le (n := c.conn) (hall fConn (by simp [formOf])) (by decide)
  obtain ⟨N0, hN0⟩ := num_ex q0
  have l0 := itoa_22 q0
  obtain ⟨S0, hS0, g0⟩ := cat_is (A := ⟨[115, 101, 115, 115, 105, 111, 110].toArray⟩) (a := [115, 101, 115, 115, 105, 111, 110]) rfl hN0.out.2.2 (by simp only [List.length_append, List.length_cons, List.length_nil]; omega)
  have HR : Hid (Value.string S0 = vS (Lib.join ((formOf 13).1 :: (formOf 13).2.map fun f => (wr f c).1) [32])) := by
    unfold Hid
    rw [hS0.out]
    show vS ([115, 101, 115, 115, 105, 111, 110] ++ (32 :: Lib.itoa c.conn)) = vS (Lib.join ([115, 101, 115, 115, 105, 111, 110] :: [Lib.itoa c.conn]) [32])
    rw [Lib.join_cons]
    simp [Lib.joinTail]
  clear hS0 q0 l0
  clear hall
  obtain ⟨W0, hW0⟩ : ∃ W0, W0 = (w.alloc (.cells c.cells.toArray 28)).alloc (.cells #[.int .i64 c.p0, .int .i64 c.p1, .int .i64 c.p2, .int .i64 c.p3, .int .i64 c.p4, .int .i64 c.p5] 24) := ⟨_, rfl⟩
  have hb0 : W0.heap[w.heap.size]? = some (.cells c.cells.toArray 28) := by rw [hW0]; exact two_first _ _ _
  have hb1 : W0.heap[w.heap.size + 1]? = some (.cells #[.int .i64 c.p0, .int .i64 c.p1, .int .i64 c.p2, .int .i64 c.p3, .int .i64 c.p4, .int .i64 c.p5] 24) := by rw [hW0]; exact two_second _ _ _
  have x0 : Ext w W0 := by rw [hW0]; exact (Ext.alloc _ _).trans (Ext.alloc _ _)
  have e0 : W0.cell? ⟨w.heap.size, 0, none⟩ = some (.int .i64 13) := by rw [Lib.cell_of_heap hb0, ← hk]; rfl
  clear hk
  rw [Cal.cells_eq] at hW0 hb0 ⊢
  have HW := Lib.hid hW0
  clear hW0
  go_enter Tryz.func48, Tryz.ntmps48
  go_upto_region 2 with fail
  rw [← HW.out]
  clear HW
  have c0 : W0.cell? ⟨w.heap.size, 1, none⟩ = some (.int .i64 c.conn) := by rw [Lib.cell_of_heap hb0]; rfl
  go_wp2_with (first | (go_at_call 49; refine (num_is _ _ hN0.out _).mono ?_; rintro e W ⟨rfl, hW⟩) | refine wpList_runs 180 rfl rfl (.string S0) _ (exec_bin rfl rfl rfl g0) ?_)
  go_ret
  exact ⟨by rw [← HR.out]; rfl, x0.trans hW⟩
set_option maxRecDepth 100000 in
set_option maxHeartbeats 4000000 in
theorem rwords_2 (c : Cal) (w : World) (hk : c.kind = 2) (hall : ∀ f ∈ (formOf 2).2, (wr f c).2 = true) :
    Calls Tryz.prog 48 #[.agg c.cells.toArray] w fun e w' => e = .returned (vS (Lib.join ((formOf 2).1 :: (formOf 2).2.map fun f => (wr f c).1) [32])) ∧ Ext w w' := by
  clear hall
  obtain ⟨W0, hW0⟩ : ∃ W0, W0 = (w.alloc (.cells c.cells.toArray 28)).alloc (.cells #[.int .i64 c.p0, .int .i64 c.p1, .int .i64 c.p2, .int .i64 c.p3, .int .i64 c.p4, .int .i64 c.p5] 24) := ⟨_, rfl⟩
  have hb0 : W0.heap[w.heap.size]? = some (.cells c.cells.toArray 28) := by rw [hW0]; exact two_first _ _ _
  have hb1 : W0.heap[w.heap.size + 1]? = some (.cells #[.int .i64 c.p0, .int .i64 c.p1, .int .i64 c.p2, .int .i64 c.p3, .int .i64 c.p4, .int .i64 c.p5] 24) := by rw [hW0]; exact two_second _ _ _
  have x0 : Ext w W0 := by rw [hW0]; exact (Ext.alloc _ _).trans (Ext.alloc _ _)
  have e0 : W0.cell? ⟨w.heap.size, 0, none⟩ = some (.int .i64 2) := by rw [Lib.cell_of_heap hb0, ← hk]; rfl
  clear hk
  rw [Cal.cells_eq] at hW0 hb0 ⊢
  have HW := Lib.hid hW0
  clear hW0
  go_enter Tryz.func48, Tryz.ntmps48
  go_upto_region 2 with fail
  rw [← HW.out]
  clear HW
  go_wp2_with fail
  go_ret
  exact ⟨rfl, x0⟩
end Go.Proofs.YtikmoledbiepoaaGreatDoor
/- The reference's words of a COpen; words at any call that has a line. -/
namespace Go.Proofs.YtikmoledbiepoaaGreatDoor
open Go.RowKit
set_option linter.unusedSimpArgs false
def two (A B : List UInt8) : Array Value := #[.string ⟨A.toArray⟩, .string ⟨B.toArray⟩]
theorem two_cell {w : World} {g : Nat} {A B : List UInt8} (h : w.heap[g]? = some (.cells (two A B) 9)) (n : Nat) (x : List UInt8) (hx : [A, B][n]? = some x) : w.cell? ⟨g, n, none⟩ = some (.string ⟨x.toArray⟩) := by
  rw [Lib.cell_of_heap h]
  match n, hx with
  | 0, hx => cases hx; rfl
  | 1, hx => cases hx; rfl
  | n + 2, hx => simp at hx
theorem exec_lits {ρ : Operand → Value} {o : Oper} {w : World} (A B : List UInt8) (ho : o.op = .buildSlice 47 2 #[(0, .const (.string ⟨A.toArray⟩)), (1, .const (.string ⟨B.toArray⟩))]) (hA : ρ (.const (.string ⟨A.toArray⟩)) = .string ⟨A.toArray⟩) (hB : ρ (.const (.string ⟨B.toArray⟩)) = .string ⟨B.toArray⟩) :
    (execOp ρ o).run Tryz.prog w = .ok (.value (.slice (some ⟨w.heap.size, 0, none⟩) 2 2)) (w.alloc (.cells (two A B) 9)) := exec_bs2 ho hA hB
def bidiB : List UInt8 := [32, 98, 105, 100, 105]
def uniB : List UInt8 := [32, 117, 110, 105]
/-- What the operations of 'open' + num(c.Conn) + []string{..}[c.N] yield. -/
def OG (C : Nat) (c : Cal) (N S : ByteArray) (n : Nat) (x : List UInt8) (R : ByteArray) : Nat → Value → World → Prop
  | 0, v, _ => v = .pointer (some ⟨C, 1, none⟩)
  | 1, v, _ => v = .int .i64 c.conn
  | 2, v, _ => v = .string N
  | 3, v, _ => v = .string S
  | 4, v, w => ∃ g, v = .slice (some ⟨g, 0, none⟩) 2 2 ∧ w.heap[g]? = some (.cells (two bidiB uniB) 9)
  | 5, v, _ => v = .pointer (some ⟨C, 3, none⟩)
  | 6, v, _ => v = .int .i64 (n : Int)
  | 7, v, w => ∃ g, v = .pointer (some ⟨g, n, none⟩) ∧ w.heap[g]? = some (.cells (two bidiB uniB) 9)
  | 8, v, _ => v = .string ⟨x.toArray⟩
  | 9, v, _ => v = .string R
  | 10, v, _ => v = .string R
  | _, _, _ => True
theorem OG.ext {C : Nat} {c : Cal} {N S : ByteArray} {n : Nat} {x : List UInt8} {R : ByteArray} (i : Nat) (v : Value) (w w' : World) (hx : Ext w w') (h : OG C c N S n x R i v w) : OG C c N S n x R i v w' := by
  match i, h with
  | 0, h => exact h
  | 1, h => exact h
  | 2, h => exact h
  | 3, h => exact h
  | 4, h =>
    obtain ⟨g, h1, h2⟩ := h
    exact ⟨g, h1, (hx.block _ (lt_of_block h2)).trans h2⟩
  | 5, h => exact h
  | 6, h => exact h
  | 7, h =>
    obtain ⟨g, h1, h2⟩ := h
    exact ⟨g, h1, (hx.block _ (lt_of_block h2)).trans h2⟩
  | 8, h => exact h
  | 9, h => exact h
  | 10, h => exact h
  | n + 11, _ => trivial
theorem ent49 : Ent 49 := enters_of Tryz.func49 (by kernel_rfl) rfl
set_option maxRecDepth 100000 in
set_option maxHeartbeats 4000000 in
theorem rwords_3 (c : Cal) (w : World) (hk : c.kind = 3) (hall : ∀ f ∈ (formOf 3).2, (wr f c).2 = true) :
    Calls Tryz.prog 48 #[.agg c.cells.toArray] w fun e w' => e = .returned (vS (Lib.join ((formOf 3).1 :: (formOf 3).2.map fun f => (wr f c).1) [32])) ∧ Ext w w' := by
  have q0 := int_le (n := c.conn) (hall fConn (by simp [formOf])) (by decide)
  obtain ⟨N0, hN0⟩ := num_ex q0
  have l0 := itoa_22 q0
  have hd : (wr fDir c).2 = true := hall fDir (by simp [formOf])
  obtain ⟨n, x, hn, hx, hw⟩ : ∃ (n : Nat) (x : List UInt8), c.n = (n : Int) ∧ [bidiB, uniB][n]? = some x ∧ x = 32 :: (wr fDir c).1 := by
    have e : wr fDir c = if c.n = 1 then (wUni, true) else (wBidi, c.n == 0) := rfl
    rw [e] at hd ⊢
    by_cases h : c.n = 1
    · rw [if_pos h] at hd ⊢
      exact ⟨1, uniB, h, rfl, rfl⟩
    · rw [if_neg h] at hd ⊢
      exact ⟨0, bidiB, by simpa using hd, rfl, rfl⟩
  have hxl : x.length ≤ 5 := by
    match n, hx with
    | 0, hx => cases hx; decide
    | 1, hx => cases hx; decide
    | n + 2, hx => simp at hx
  have hn2 : n < 2 := by
    rcases Nat.lt_or_ge n 2 with h | h
    · exact h
    · rw [List.getElem?_eq_none (by simp; omega)] at hx; cases hx
  obtain ⟨S0, hS0, g0⟩ := cat_is (A := ⟨[111, 112, 101, 110].toArray⟩) (a := [111, 112, 101, 110]) rfl hN0.out.2.2 (by simp only [List.length_append, List.length_cons, List.length_nil]; omega)
  obtain ⟨S1, hS1, g1⟩ := cat_is (B := ⟨x.toArray⟩) (b := x) hS0.out rfl (by simp only [List.length_append, List.length_cons, List.length_nil]; omega)
  have HR : Hid (Value.string S1 = vS (Lib.join ((formOf 3).1 :: (formOf 3).2.map fun f => (wr f c).1) [32])) := by
    unfold Hid
    rw [hS1.out, hw]
    show vS (([111, 112, 101, 110] ++ (32 :: Lib.itoa c.conn)) ++ (32 :: (wr fDir c).1)) = vS (Lib.join ([111, 112, 101, 110] :: [Lib.itoa c.conn, (wr fDir c).1]) [32])
    rw [Lib.join_cons]
    simp [Lib.joinTail]
  have HX := Lib.hid hx
  clear hS0 q0 l0 hS1 hall hd hw hxl hx
  obtain ⟨W0, hW0⟩ : ∃ W0, W0 = (w.alloc (.cells c.cells.toArray 28)).alloc (.cells #[.int .i64 c.p0, .int .i64 c.p1, .int .i64 c.p2, .int .i64 c.p3, .int .i64 c.p4, .int .i64 c.p5] 24) := ⟨_, rfl⟩
  have hb0 : W0.heap[w.heap.size]? = some (.cells c.cells.toArray 28) := by rw [hW0]; exact two_first _ _ _
  have x0 : Ext w W0 := by rw [hW0]; exact (Ext.alloc _ _).trans (Ext.alloc _ _)
  have e0 : W0.cell? ⟨w.heap.size, 0, none⟩ = some (.int .i64 3) := by rw [Lib.cell_of_heap hb0, ← hk]; rfl
  have c0 : W0.cell? ⟨w.heap.size, 1, none⟩ = some (.int .i64 c.conn) := by rw [Lib.cell_of_heap hb0]; rfl
  have c1 : W0.cell? ⟨w.heap.size, 3, none⟩ = some (.int .i64 (n : Int)) := by rw [Lib.cell_of_heap hb0, ← hn]; rfl
  clear hk hn
  rw [Cal.cells_eq] at hW0 hb0 ⊢
  have HW := Lib.hid hW0
  clear hW0
  go_enter Tryz.func48, Tryz.ntmps48
  go_upto_region 2 with fail
  rw [← HW.out]
  clear HW
  go_upto_region 10 with fail
  refine wp_region_ext (OG w.heap.size c N0 S0 n x S1) (fun j u w w' hx h => OG.ext j u w w' hx h) mixedOrd (by kernel_rfl) (by kernel_rfl) (by kernel_rfl) ?_ ?_
  · refine ⟨?_, ?_, ?_, ?_, ?_, ?_, ?_, ?_, ?_, ?_, ?_, trivial⟩
    · intro a' w' hs hW
      have h0 : a'.tmps[1]? = some (.pointer (some ⟨w.heap.size, 0, none⟩)) := hs.old 1 rfl
      exact wpOp_val rfl rfl (by simp [execOp, go_sem, h0]) ⟨_, rfl, .inr rfl, Ext.refl _⟩
    · intro a' w' hs hW
      obtain ⟨v, h0, rfl⟩ := hs.made 0 69 rfl rfl
      have e1 := (hW.cell (p := ⟨w.heap.size, 1, none⟩) (cell_lt c0)).trans c0
      exact wpOp_val rfl rfl (by simp [execOp, go_sem, h0, e1]) ⟨_, rfl, .inr rfl, Ext.refl _⟩
    · intro a' w' hs hW
      obtain ⟨v, h0, rfl⟩ := hs.made 1 70 rfl rfl
      refine wpOp_call (f := 49) (args := #[.int .i64 c.conn]) rfl rfl (exec_call rfl rfl ent49 (by simp [ev h0])) ?_
      refine (num_is _ _ hN0.out w').mono ?_
      rintro e w'' ⟨rfl, hxx⟩
      exact ⟨_, rfl, _, rfl, .inr rfl, hxx⟩
    · intro a' w' hs hW
      obtain ⟨v, h0, rfl⟩ := hs.made 2 71 rfl rfl
      exact wpOp_val rfl rfl (exec_bin rfl rfl (ev h0) g0) ⟨_, rfl, .inr rfl, Ext.refl _⟩
    · intro a' w' hs hW
      exact wpOp_val (w' := w'.alloc (.cells (two bidiB uniB) 9)) rfl rfl (exec_lits bidiB uniB rfl rfl rfl) ⟨_, rfl, .inr ⟨_, rfl, alloc_new _ _⟩, Ext.alloc _ _⟩
    · intro a' w' hs hW
      have h0 : a'.tmps[1]? = some (.pointer (some ⟨w.heap.size, 0, none⟩)) := hs.old 1 rfl
      exact wpOp_val rfl rfl (by simp [execOp, go_sem, h0]) ⟨_, rfl, .inr rfl, Ext.refl _⟩
    · intro a' w' hs hW
      obtain ⟨v, h0, rfl⟩ := hs.made 5 74 rfl rfl
      have e1 := (hW.cell (p := ⟨w.heap.size, 3, none⟩) (cell_lt c1)).trans c1
      exact wpOp_val rfl rfl (by simp [execOp, go_sem, h0, e1]) ⟨_, rfl, .inr rfl, Ext.refl _⟩
    · intro a' w' hs hW
      obtain ⟨v, h0, g, rfl, hg⟩ := hs.made 4 73 rfl rfl
      obtain ⟨v, h1, rfl⟩ := hs.made 6 75 rfl rfl
      have i0 : (0 : Int) ≤ (n : Int) := by omega
      have i1 : (n : Int) < 2 := by omega
      exact wpOp_val (v := .pointer (some ⟨g, n, none⟩)) rfl rfl (by simp [execOp, go_sem, h0, h1, i0, i1]) ⟨_, rfl, .inr ⟨g, rfl, hg⟩, Ext.refl _⟩
    · intro a' w' hs hW
      obtain ⟨v, h0, g, rfl, hg⟩ := hs.made 7 76 rfl rfl
      have e1 := two_cell hg n x HX.out
      exact wpOp_val rfl rfl (by simp [execOp, go_sem, h0, e1]) ⟨_, rfl, .inr rfl, Ext.refl _⟩
    · intro a' w' hs hW
      obtain ⟨v, h0, rfl⟩ := hs.made 3 72 rfl rfl
      obtain ⟨v, h1, rfl⟩ := hs.made 8 77 rfl rfl
      exact wpOp_val rfl rfl (exec_bin rfl (ev h0) (ev h1) g1) ⟨_, rfl, .inr rfl, Ext.refl _⟩
    · intro a' w' hs hW
      obtain ⟨v, h0, rfl⟩ := hs.made 9 78 rfl rfl
      exact wpOp_val rfl rfl (by simp [execOp, go_sem, h0]) ⟨_, rfl, .inr rfl, Ext.refl _⟩
  · intro a' w' hs hW
    obtain ⟨v69, h69, _⟩ := hs.made 0 69 rfl
    obtain ⟨v70, h70, _⟩ := hs.made 1 70 rfl
    obtain ⟨v71, h71, _⟩ := hs.made 2 71 rfl
    obtain ⟨v72, h72, _⟩ := hs.made 3 72 rfl
    obtain ⟨v73, h73, _⟩ := hs.made 4 73 rfl
    obtain ⟨v74, h74, _⟩ := hs.made 5 74 rfl
    obtain ⟨v75, h75, _⟩ := hs.made 6 75 rfl
    obtain ⟨v76, h76, _⟩ := hs.made 7 76 rfl
    obtain ⟨v77, h77, _⟩ := hs.made 8 77 rfl
    obtain ⟨v78, h78, _⟩ := hs.made 9 78 rfl
    obtain ⟨v2, h2, rfl⟩ := hs.made 10 2 rfl
    have ha := act_putAll [(69, v69), (70, v70), (71, v71), (72, v72), (73, v73), (74, v74), (75, v75), (76, v76), (77, v77), (78, v78), (2, .string S1)] hs.defers hs.size (by simp [h69, h70, h71, h72, h73, h74, h75, h76, h77, h78, h2]) rfl hs.old
    clear hs h69 h70 h71 h72 h73 h74 h75 h76 h77 h78 h2
    simp only [putAll, Act.put] at ha
    subst ha
    go_frame
    go_wp2_with fail
    go_ret
    exact ⟨by rw [← HR.out]; rfl, x0.trans hW⟩
/-- words. -/
theorem rwords_any (c : Cal) (w : World) (h : c.line.2 = true) : Calls Tryz.prog 48 #[.agg c.cells.toArray] w fun e w' => e = .returned (vS c.line.1) ∧ Ext w w' := by
  obtain ⟨k, hk, hl, _, hall, hkind, _, hz⟩ := call_parts c h
  rw [hl]
  match k, hk with
  | 0, _ => exact rwords_0 c w hkind (hz.1 rfl).2 hall
  | 1, _ =>
    refine rwords_1 c w hkind ?_ hall
    cases hn : c.noSess with
    | true => rfl
    | false => exact absurd (hz.2 ⟨hkind, hn⟩) (by decide)
  | 2, _ => exact rwords_2 c w hkind hall
  | 3, _ => exact rwords_3 c w hkind hall
  | 4, _ => exact rwords_4 c w hkind hall
  | 5, _ => exact rwords_5 c w hkind hall
  | 6, _ => exact rwords_6 c w hkind hall
  | 7, _ => exact rwords_7 c w hkind hall
  | 8, _ => exact rwords_8 c w hkind hall
  | 9, _ => exact rwords_9 c w hkind hall
  | 10, _ => exact rwords_10 c w hkind hall
  | 11, _ => exact rwords_11 c w hkind hall
  | 12, _ => exact rwords_12 c w hkind hall
  | 13, _ => exact rwords_13 c w hkind hall
  | n + 14, h => omega
end Go.Proofs.YtikmoledbiepoaaGreatDoor
/- The reference's line. -/
namespace Go.Proofs.YtikmoledbiepoaaGreatDoor
open Go.RowKit
set_option linter.unusedSimpArgs false
theorem line_text {a : Ac} (h : a.line.2 = true) : a.line.1 = a.text ∧ a.ok = true ∧ (a.kind = 1 → inR a.side 1 = true) := by
  unfold Ac.line at h ⊢
  by_cases hk : a.kind = 1 ∧ inR a.side 1 = false
  · rw [if_pos hk] at h; cases h
  rw [if_neg hk] at h ⊢
  simp only [Bool.and_eq_true] at h
  refine ⟨rfl, h.1, fun h1 => ?_⟩
  cases hh : inR a.side 1 with
  | true => rfl
  | false => exact absurd ⟨h1, hh⟩ hk
theorem int_of {n a b : Int} (h : a ≤ n) (h2 : n ≤ b) (ha : 0 ≤ a) (hb : b ≤ 9223372036854775807) : (decide (0 ≤ n) && decide (n ≤ 9223372036854775807)) = true := by
  simp only [Bool.and_eq_true, decide_eq_true_eq]
  omega
set_option maxRecDepth 100000 in
set_option maxHeartbeats 2000000 in
theorem rline_2 (a : Ac) (s1 : Option Addr) (n1 c1 : Nat) (w : World) (hk : a.kind = 2) (h : a.line.2 = true) : Calls Tryz.prog 31 #[.agg (a.cells (.slice s1 n1 c1)).toArray] w fun e w' => e = .returned (vS a.line.1) ∧ Ext w w' := by
  obtain ⟨ht, hok, _⟩ := line_text h
  unfold Ac.ok at hok
  rw [hk] at hok
  have hok : (decide (1 ≤ a.n) && decide (a.n ≤ 2000)) = true := hok
  simp only [Bool.and_eq_true, decide_eq_true_eq] at hok
  have q0 := int_of hok.1 hok.2 (by decide) (by decide)
  obtain ⟨N0, hN0⟩ := num_ex q0
  have l0 := itoa_22 q0
  obtain ⟨S0, hS0, g0⟩ := cat_is (A := ⟨[116, 105, 99, 107].toArray⟩) (a := [116, 105, 99, 107]) rfl hN0.out.2.2 (by simp only [List.length_append, List.length_cons, List.length_nil]; omega)
  have HR : Hid (Value.string S0 = vS a.line.1) := by
    unfold Hid
    rw [hS0.out, ht]
    unfold Ac.text
    rw [hk]
    show vS ([116, 105, 99, 107] ++ (32 :: Lib.itoa a.n)) = vS (wTick ++ Lib.itoa a.n)
    rfl
  clear hS0 ht hok q0 l0 h
  obtain ⟨W0, hW0⟩ : ∃ W0, W0 = w.alloc (.cells (a.cells (.slice s1 n1 c1)).toArray 33) := ⟨_, rfl⟩
  have hb0 : W0.heap[w.heap.size]? = some (.cells (a.cells (.slice s1 n1 c1)).toArray 33) := by rw [hW0]; exact alloc_new _ _
  have x0 : Ext w W0 := by rw [hW0]; exact Ext.alloc _ _
  have e0 : W0.cell? ⟨w.heap.size, 0, none⟩ = some (.int .i64 2) := by rw [Lib.cell_of_heap hb0, ← hk]; rfl
  have c0 : W0.cell? ⟨w.heap.size, 18, none⟩ = some (.int .i64 a.n) := by rw [Lib.cell_of_heap hb0]; rfl
  clear hk hb0
  rw [Ac.cells_eq] at hW0 ⊢
  have HW := Lib.hid hW0
  clear hW0
  go_enter Tryz.func31, Tryz.ntmps31
  go_upto_region 1 with fail
  rw [← HW.out]
  clear HW
  go_wp2_with (first | (go_at_call 49; refine (num_is _ _ hN0.out _).mono ?_; rintro e W ⟨rfl, hW⟩) | refine wpList_runs 24 rfl rfl (.string S0) _ (exec_bin rfl rfl rfl g0) ?_)
  go_ret
  exact ⟨by rw [← HR.out]; rfl, x0.trans hW⟩
set_option maxRecDepth 100000 in
set_option maxHeartbeats 2000000 in
theorem rline_4 (a : Ac) (s1 : Option Addr) (n1 c1 : Nat) (w : World) (hk : a.kind = 4) (h : a.line.2 = true) : Calls Tryz.prog 31 #[.agg (a.cells (.slice s1 n1 c1)).toArray] w fun e w' => e = .returned (vS a.line.1) ∧ Ext w w' := by
  obtain ⟨ht, hok, _⟩ := line_text h
  unfold Ac.ok at hok
  rw [hk] at hok
  have hok : (inR a.fr 65535 && inR a.tgt 65535 && decide (a.dat.length ≤ 1024)) = true := hok
  simp only [Bool.and_eq_true, decide_eq_true_eq, inR] at hok
  have q0 := int_of hok.1.1.1 hok.1.1.2 (by decide) (by decide)
  have q1 := int_of hok.1.2.1 hok.1.2.2 (by decide) (by decide)
  have q2 : a.dat.length ≤ 2147483648 := by have := hok.2; omega
  obtain ⟨N0, hN0⟩ := num_ex q0
  have l0 := itoa_22 q0
  obtain ⟨N1, hN1⟩ := num_ex q1
  have l1 := itoa_22 q1
  obtain ⟨N2, hN2⟩ := hex_ex q2
  have l2 := hexB_length a.dat
  obtain ⟨S0, hS0, g0⟩ := cat_is (A := ⟨[105, 110, 106, 101, 99, 116].toArray⟩) (a := [105, 110, 106, 101, 99, 116]) rfl hN0.out.2.2 (by simp only [List.length_append, List.length_cons, List.length_nil]; omega)
  obtain ⟨S1, hS1, g1⟩ := cat_is hS0.out hN1.out.2.2 (by simp only [List.length_append, List.length_cons, List.length_nil]; omega)
  obtain ⟨S2, hS2, g2⟩ := cat_is hS1.out hN2.out.2 (by simp only [List.length_append, List.length_cons, List.length_nil]; omega)
  have HR : Hid (Value.string S2 = vS a.line.1) := by
    unfold Hid
    rw [hS2.out, ht]
    unfold Ac.text
    rw [hk]
    show vS ((([105, 110, 106, 101, 99, 116] ++ (32 :: Lib.itoa a.fr)) ++ (32 :: Lib.itoa a.tgt)) ++ (32 :: hexB a.dat)) = vS (wInject ++ Lib.itoa a.fr ++ [32] ++ Lib.itoa a.tgt ++ [32] ++ hexB a.dat)
    simp [wInject]
  clear hS0 hS1 hS2 ht hok q0 q1 q2 l0 l1 l2 h
  obtain ⟨W0, hW0⟩ : ∃ W0, W0 = w.alloc (.cells (a.cells (.slice s1 n1 c1)).toArray 33) := ⟨_, rfl⟩
  have hb0 : W0.heap[w.heap.size]? = some (.cells (a.cells (.slice s1 n1 c1)).toArray 33) := by rw [hW0]; exact alloc_new _ _
  have x0 : Ext w W0 := by rw [hW0]; exact Ext.alloc _ _
  have e0 : W0.cell? ⟨w.heap.size, 0, none⟩ = some (.int .i64 4) := by rw [Lib.cell_of_heap hb0, ← hk]; rfl
  clear hk
  rw [Ac.cells_eq] at hW0 ⊢
  have HW := Lib.hid hW0
  clear hW0
  go_enter Tryz.func31, Tryz.ntmps31
  go_upto_region 1 with fail
  rw [← HW.out]
  clear HW
  go_upto_region 13 with fail
  have c0 : ∀ k : XW W0, k.val.cell? ⟨w.heap.size, 20, none⟩ = some (.int .i64 a.fr) := fun k => k.cell (by rw [Lib.cell_of_heap hb0]; rfl)
  have c1 : ∀ k : XW W0, k.val.cell? ⟨w.heap.size, 21, none⟩ = some (.int .i64 a.tgt) := fun k => k.cell (by rw [Lib.cell_of_heap hb0]; rfl)
  have c2 : ∀ k : XW W0, k.val.cell? ⟨w.heap.size, 22, none⟩ = some (.string ⟨a.dat.toArray⟩) := fun k => k.cell (by rw [Lib.cell_of_heap hb0]; rfl)
  refine wp_region_xw mixedOrd (by kernel_rfl) ?_
  repeat (first | go_big_quiet_step (first | (go_at_call 49; exact Calls.xw (num_is _ _ (by with_reducible first | exact hN0.out | exact hN1.out) _)) | (go_at_call 50; exact Calls.xw (hex_is _ _ hN2.out _))) | (refine wpQuiet_xw rfl (fun k => exec_bin rfl rfl rfl (by with_reducible first | exact g0 | exact g1 | exact g2)) ?_; go_frame))
  refine wpQuiet_nil ?_
  rintro _ ⟨⟨W, hW⟩, rfl⟩
  go_wp2_with fail
  go_ret
  exact ⟨by rw [← HR.out]; rfl, x0.trans hW⟩
set_option maxRecDepth 100000 in
set_option maxHeartbeats 2000000 in
theorem rline_3 (a : Ac) (fv : Value) (w : World) (hA : FatesAt w fv a.fates) (hk : a.kind = 3) (h : a.line.2 = true) : Calls Tryz.prog 31 #[.agg (a.cells fv).toArray] w fun e w' => e = .returned (vS a.line.1) ∧ Ext w w' := by
  obtain ⟨s1, n1, rfl, hlc, hcap, hcell⟩ := id hA
  obtain ⟨ht, hok, _⟩ := line_text h
  unfold Ac.ok at hok
  rw [hk] at hok
  have hok : (decide (a.fates.length ≤ 64) && a.fates.all fun x => inR x 25) = true := hok
  simp only [Bool.and_eq_true, decide_eq_true_eq] at hok
  obtain ⟨hlen, hall⟩ := hok
  have HALL := Lib.hid (List.all_eq_true.1 hall)
  have HTX : Hid (a.line.1 = wFates ++ fateW a.fates) := by
    unfold Hid
    rw [ht]
    unfold Ac.text
    rw [hk]
    rfl
  have HFL := Lib.hid (fate_len a.fates (fun x hx => by
    have h2 := HALL.out x hx
    simp only [inR, Bool.and_eq_true, decide_eq_true_eq] at h2
    exact ⟨by omega, by omega⟩))
  clear ht hall h
  obtain ⟨W0, hW0⟩ : ∃ W0, W0 = w.alloc (.cells (a.cells (.slice s1 a.fates.length n1)).toArray 33) := ⟨_, rfl⟩
  have hb0 : W0.heap[w.heap.size]? = some (.cells (a.cells (.slice s1 a.fates.length n1)).toArray 33) := by rw [hW0]; exact alloc_new _ _
  have x0 : Ext w W0 := by rw [hW0]; exact Ext.alloc _ _
  have e0 : W0.cell? ⟨w.heap.size, 0, none⟩ = some (.int .i64 3) := by rw [Lib.cell_of_heap hb0, ← hk]; rfl
  have c0 : W0.cell? ⟨w.heap.size, 19, none⟩ = some (.slice s1 a.fates.length n1) := by rw [Lib.cell_of_heap hb0]; rfl
  clear hk
  rw [Ac.cells_eq] at hW0 ⊢
  have HW := Lib.hid hW0
  clear hW0
  go_enter Tryz.func31, Tryz.ntmps31
  go_upto_region 1 with fail
  rw [← HW.out]
  clear HW
  go_wp2_with fail
  go_loopw [3, 4] (fun t i wq => ∃ (j : Nat) (A : ByteArray), j ≤ a.fates.length ∧ i = .int .i64 j ∧ t = .string A ∧ Hid (A = ⟨(wFates ++ fateW (a.fates.take j)).toArray⟩) ∧ Ext W0 wq) (fun _ i _ => a.fates.length - (intOf i).toNat)
  case atStart => exact ⟨0, _, Nat.zero_le _, rfl, rfl, rfl, Ext.refl _⟩
  case round =>
    obtain ⟨j, A, hj, rfl, rfl, HA2, hx⟩ := hrel
    have c1 := (hx.cell (p := ⟨w.heap.size, 19, none⟩) (cell_lt c0)).trans c0
    have i0 : (0 : Int) ≤ (j : Int) := by omega
    by_cases hlt : j < a.fates.length
    · have i1 : (j : Int) < (a.fates.length : Int) := by omega
      obtain ⟨b, o, rfl, hcc⟩ := hcell (by intro e; rw [e] at hlt; simp at hlt)
      obtain ⟨x, hxx⟩ : ∃ x, a.fates[j]? = some x := ⟨_, List.getElem?_eq_getElem hlt⟩
      have c2 := hcc j x hxx
      have c3 := ((x0.trans hx).cell (p := ⟨b, o + j, none⟩) (cell_lt c2)).trans c2
      have hin := HALL.out x (List.mem_of_getElem? hxx)
      simp only [inR, Bool.and_eq_true, decide_eq_true_eq] at hin
      have q0 := int_of hin.1 hin.2 (by decide) (by decide)
      obtain ⟨N0, hN0⟩ := num_ex q0
      have l0 := itoa_22 q0
      have lf : (fateW (a.fates.take j)).length ≤ 22 * 64 := by
        have h1 := fate_len (a.fates.take j) (fun y hy => by
          have h2 := HALL.out y (List.mem_of_mem_take hy)
          simp only [inR, Bool.and_eq_true, decide_eq_true_eq] at h2
          exact ⟨by omega, by omega⟩)
        rw [List.length_take] at h1
        omega
      obtain ⟨S0, hS0, g0⟩ := cat_is HA2.out hN0.out.2.2 (by simp only [List.length_append, List.length_cons, wFates, List.length_nil]; omega)
      have HS : Hid (S0 = ⟨(wFates ++ fateW (a.fates.take (j + 1))).toArray⟩) := by
        unfold Hid
        rw [hS0.out, fate_snoc hxx, List.append_assoc]
        rfl
      clear hS0 HA2 hcc c2 hxx hin q0 l0 lf hcell
      go_wp2_with (first | (go_at_call 49; refine (num_is _ _ hN0.out _).mono ?_; rintro e W ⟨rfl, hW⟩) | refine wpList_runs 41 rfl rfl (.string S0) _ (exec_bin rfl rfl rfl g0) ?_)
      go_roundw
      case rel => exact ⟨j + 1, S0, by omega, by go_num, rfl, HS, hx.trans hW⟩
      case measure => simp [intOf]; omega
    · have i1 : ¬ (j : Int) < (a.fates.length : Int) := by omega
      have HE : Hid (Value.string A = vS a.line.1) := by
        unfold Hid
        rw [HA2.out, HTX.out, List.take_of_length_le (by omega)]
        rfl
      clear hcell
      go_wp2_with fail
      go_ret
      exact ⟨by rw [← HE.out]; rfl, x0.trans hx⟩
def cliB : List UInt8 := [99, 108, 105, 101, 110, 116, 32]
def srvB : List UInt8 := [115, 101, 114, 118, 101, 114, 32]
/-- What the operations of 'call ' + []string{..}[a.Side] + words(a.Call) yield. -/
def LG (C : Nat) (c : Cal) (n : Nat) (x : List UInt8) (S R : ByteArray) : Nat → Value → World → Prop
  | 0, v, w => ∃ g, v = .slice (some ⟨g, 0, none⟩) 2 2 ∧ w.heap[g]? = some (.cells (two cliB srvB) 9)
  | 1, v, _ => v = .pointer (some ⟨C, 1, none⟩)
  | 2, v, _ => v = .int .i64 (n : Int)
  | 3, v, w => ∃ g, v = .pointer (some ⟨g, n, none⟩) ∧ w.heap[g]? = some (.cells (two cliB srvB) 9)
  | 4, v, _ => v = .string ⟨x.toArray⟩
  | 5, v, _ => v = .string S
  | 6, v, _ => v = .pointer (some ⟨C, 2, none⟩)
  | 7, v, _ => v = .agg c.cells.toArray
  | 8, v, _ => v = vS c.line.1
  | 9, v, _ => v = .string R
  | 10, v, _ => v = .string R
  | _, _, _ => True
theorem LG.ext {C : Nat} {c : Cal} {n : Nat} {x : List UInt8} {S R : ByteArray} (i : Nat) (v : Value) (w w' : World) (hx : Ext w w') (h : LG C c n x S R i v w) : LG C c n x S R i v w' := by
  match i, h with
  | 0, h =>
    obtain ⟨g, h1, h2⟩ := h
    exact ⟨g, h1, (hx.block _ (lt_of_block h2)).trans h2⟩
  | 1, h => exact h
  | 2, h => exact h
  | 3, h =>
    obtain ⟨g, h1, h2⟩ := h
    exact ⟨g, h1, (hx.block _ (lt_of_block h2)).trans h2⟩
  | 4, h => exact h
  | 5, h => exact h
  | 6, h => exact h
  | 7, h => exact h
  | 8, h => exact h
  | 9, h => exact h
  | 10, h => exact h
  | n + 11, _ => trivial
theorem ent48 : Ent 48 := enters_of Tryz.func48 (by kernel_rfl) rfl
theorem exec_ldc28 {ρ : Operand → Value} {o : Oper} {x : Operand} {w : World} {b k : Nat} {c : Cal} (ho : o.op = .load 28 x) (hx : ρ x = .pointer (some ⟨b, k, none⟩)) (h : w.rangeAt b k c.cells) :
    (execOp ρ o).run Tryz.prog w = .ok (.value (.agg c.cells.toArray)) w := by
  unfold execOp
  simp only [ho, hx, Sem.run_bind, load28 h]
  rfl
set_option maxRecDepth 100000 in
set_option maxHeartbeats 4000000 in
theorem rline_1 (a : Ac) (s1 : Option Addr) (n1 c1 : Nat) (w : World) (hfit : AcFit a) (hk : a.kind = 1) (h : a.line.2 = true) : Calls Tryz.prog 31 #[.agg (a.cells (.slice s1 n1 c1)).toArray] w fun e w' => e = .returned (vS a.line.1) ∧ Ext w w' := by
  obtain ⟨ht, hok, hsd⟩ := line_text h
  unfold Ac.ok at hok
  rw [hk] at hok
  have hcl : a.call.line.2 = true := hok
  have hcw := fun v => rwords_any a.call v hcl
  have hll := call_len hfit.call
  have hsd := hsd hk
  simp only [inR, Bool.and_eq_true, decide_eq_true_eq] at hsd
  obtain ⟨n, x, hn, hx, hw⟩ : ∃ (n : Nat) (x : List UInt8), a.side = (n : Int) ∧ [cliB, srvB][n]? = some x ∧ x = sideW a.side := by
    have : a.side = 0 ∨ a.side = 1 := by omega
    rcases this with e | e
    · exact ⟨0, cliB, e, rfl, by rw [e]; rfl⟩
    · exact ⟨1, srvB, e, rfl, by rw [e]; rfl⟩
  have hn2 : n < 2 := by
    rcases Nat.lt_or_ge n 2 with h | h
    · exact h
    · rw [List.getElem?_eq_none (by simp; omega)] at hx; cases hx
  have hxl : x.length ≤ 7 := by
    match n, hx with
    | 0, hx => cases hx; decide
    | 1, hx => cases hx; decide
    | n + 2, hx => simp at hx
  obtain ⟨S0, hS0, g0⟩ := cat_is (A := ⟨[99, 97, 108, 108, 32].toArray⟩) (a := [99, 97, 108, 108, 32]) (B := ⟨x.toArray⟩) (b := x) rfl rfl (by simp only [List.length_cons, List.length_nil]; omega)
  obtain ⟨S1, hS1, g1⟩ := cat_is (B := ⟨a.call.line.1.toArray⟩) (b := a.call.line.1) hS0.out rfl (by simp only [List.length_append, List.length_cons, List.length_nil]; omega)
  have HR : Hid (Value.string S1 = vS a.line.1) := by
    unfold Hid
    rw [hS1.out, ht, hw]
    unfold Ac.text
    rw [hk]
    rfl
  have HX := Lib.hid hx
  have HCW := Lib.hid hcw
  clear hS0 hS1 ht hok hcl hll hsd hw hxl hx hcw h hfit
  obtain ⟨W0, hW0⟩ : ∃ W0, W0 = w.alloc (.cells (a.cells (.slice s1 n1 c1)).toArray 33) := ⟨_, rfl⟩
  have hb0 : W0.heap[w.heap.size]? = some (.cells (a.cells (.slice s1 n1 c1)).toArray 33) := by rw [hW0]; exact alloc_new _ _
  have x0 : Ext w W0 := by rw [hW0]; exact Ext.alloc _ _
  have e0 : W0.cell? ⟨w.heap.size, 0, none⟩ = some (.int .i64 1) := by rw [Lib.cell_of_heap hb0, ← hk]; rfl
  have d1 : W0.cell? ⟨w.heap.size, 1, none⟩ = some (.int .i64 (n : Int)) := by rw [Lib.cell_of_heap hb0, ← hn]; rfl
  clear hk hn
  rw [Ac.cells_eq] at hW0 ⊢
  have HW := Lib.hid hW0
  clear hW0
  go_enter Tryz.func31, Tryz.ntmps31
  go_upto_region 1 with fail
  rw [← HW.out]
  clear HW
  go_upto_region 3 with fail
  refine wp_region_ext (LG w.heap.size a.call n x S0 S1) (fun j u w w' hx h => LG.ext j u w w' hx h) mixedOrd (by kernel_rfl) (by kernel_rfl) (by kernel_rfl) ?_ ?_
  · refine ⟨?_, ?_, ?_, ?_, ?_, ?_, ?_, ?_, ?_, ?_, ?_, trivial⟩
    · intro a' w' hs hW
      exact wpOp_val (w' := w'.alloc (.cells (two cliB srvB) 9)) rfl rfl (exec_lits cliB srvB rfl rfl rfl) ⟨_, rfl, .inr ⟨_, rfl, alloc_new _ _⟩, Ext.alloc _ _⟩
    · intro a' w' hs hW
      have h0 : a'.tmps[1]? = some (.pointer (some ⟨w.heap.size, 0, none⟩)) := hs.old 1 rfl
      exact wpOp_val rfl rfl (by simp [execOp, go_sem, h0]) ⟨_, rfl, .inr rfl, Ext.refl _⟩
    · intro a' w' hs hW
      obtain ⟨v, h0, rfl⟩ := hs.made 1 10 rfl rfl
      have e1 := (hW.cell (p := ⟨w.heap.size, 1, none⟩) (cell_lt d1)).trans d1
      exact wpOp_val rfl rfl (by simp [execOp, go_sem, h0, e1]) ⟨_, rfl, .inr rfl, Ext.refl _⟩
    · intro a' w' hs hW
      obtain ⟨v, h0, g, rfl, hg⟩ := hs.made 0 9 rfl rfl
      obtain ⟨v, h1, rfl⟩ := hs.made 2 11 rfl rfl
      have i0 : (0 : Int) ≤ (n : Int) := by omega
      have i1 : (n : Int) < 2 := by omega
      exact wpOp_val (v := .pointer (some ⟨g, n, none⟩)) rfl rfl (by simp [execOp, go_sem, h0, h1, i0, i1]) ⟨_, rfl, .inr ⟨g, rfl, hg⟩, Ext.refl _⟩
    · intro a' w' hs hW
      obtain ⟨v, h0, g, rfl, hg⟩ := hs.made 3 12 rfl rfl
      have e1 := two_cell hg n x HX.out
      exact wpOp_val rfl rfl (by simp [execOp, go_sem, h0, e1]) ⟨_, rfl, .inr rfl, Ext.refl _⟩
    · intro a' w' hs hW
      obtain ⟨v, h0, rfl⟩ := hs.made 4 13 rfl rfl
      exact wpOp_val rfl rfl (exec_bin rfl rfl (ev h0) g0) ⟨_, rfl, .inr rfl, Ext.refl _⟩
    · intro a' w' hs hW
      have h0 : a'.tmps[1]? = some (.pointer (some ⟨w.heap.size, 0, none⟩)) := hs.old 1 rfl
      exact wpOp_val rfl rfl (by simp [execOp, go_sem, h0]) ⟨_, rfl, .inr rfl, Ext.refl _⟩
    · intro a' w' hs hW
      obtain ⟨v, h0, rfl⟩ := hs.made 6 15 rfl rfl
      exact wpOp_val rfl rfl (exec_ldc28 rfl (ev h0) (ac_call ((hW.block _ (lt_of_block hb0)).trans hb0))) ⟨_, rfl, .inr rfl, Ext.refl _⟩
    · intro a' w' hs hW
      obtain ⟨v, h0, rfl⟩ := hs.made 7 16 rfl rfl
      refine wpOp_call (f := 48) (args := #[.agg a.call.cells.toArray]) rfl rfl (exec_call rfl rfl ent48 (by simp [ev h0])) ?_
      refine (HCW.out w').mono ?_
      rintro e w'' ⟨rfl, hxx⟩
      exact ⟨_, rfl, _, rfl, .inr rfl, hxx⟩
    · intro a' w' hs hW
      obtain ⟨v, h0, rfl⟩ := hs.made 5 14 rfl rfl
      obtain ⟨v, h1, rfl⟩ := hs.made 8 17 rfl rfl
      exact wpOp_val rfl rfl (exec_bin rfl (ev h0) (ev h1) g1) ⟨_, rfl, .inr rfl, Ext.refl _⟩
    · intro a' w' hs hW
      obtain ⟨v, h0, rfl⟩ := hs.made 9 18 rfl rfl
      exact wpOp_val rfl rfl (by simp [execOp, go_sem, h0]) ⟨_, rfl, .inr rfl, Ext.refl _⟩
  · intro a' w' hs hW
    obtain ⟨v9, h9, _⟩ := hs.made 0 9 rfl
    obtain ⟨v10, h10, _⟩ := hs.made 1 10 rfl
    obtain ⟨v11, h11, _⟩ := hs.made 2 11 rfl
    obtain ⟨v12, h12, _⟩ := hs.made 3 12 rfl
    obtain ⟨v13, h13, _⟩ := hs.made 4 13 rfl
    obtain ⟨v14, h14, _⟩ := hs.made 5 14 rfl
    obtain ⟨v15, h15, _⟩ := hs.made 6 15 rfl
    obtain ⟨v16, h16, _⟩ := hs.made 7 16 rfl
    obtain ⟨v17, h17, _⟩ := hs.made 8 17 rfl
    obtain ⟨v18, h18, _⟩ := hs.made 9 18 rfl
    obtain ⟨v2, h2, rfl⟩ := hs.made 10 2 rfl
    have ha := act_putAll [(9, v9), (10, v10), (11, v11), (12, v12), (13, v13), (14, v14), (15, v15), (16, v16), (17, v17), (18, v18), (2, .string S1)] hs.defers hs.size (by simp [h9, h10, h11, h12, h13, h14, h15, h16, h17, h18, h2]) rfl hs.old
    clear hs h9 h10 h11 h12 h13 h14 h15 h16 h17 h18 h2
    simp only [putAll, Act.put] at ha
    subst ha
    go_frame
    go_wp2_with fail
    go_ret
    exact ⟨by rw [← HR.out]; rfl, x0.trans hW⟩
/-- line. -/
theorem rline_any (a : Ac) (fv : Value) (w : World) (hfit : AcFit a) (hA : FatesAt w fv a.fates) (h : a.line.2 = true) : Calls Tryz.prog 31 #[.agg (a.cells fv).toArray] w fun e w' => e = .returned (vS a.line.1) ∧ Ext w w' := by
  obtain ⟨s1, n1, rfl, _⟩ := id hA
  by_cases h1 : a.kind = 1
  · exact rline_1 a _ _ _ w hfit h1 h
  by_cases h2 : a.kind = 2
  · exact rline_2 a _ _ _ w h2 h
  by_cases h3 : a.kind = 3
  · exact rline_3 a _ w hA h3 h
  by_cases h4 : a.kind = 4
  · exact rline_4 a _ _ _ w h4 h
  have hok := (line_text h).2.1
  unfold Ac.ok at hok
  rw [if_neg h1, if_neg h2, if_neg h3, if_neg h4] at hok
  cases hok
end Go.Proofs.YtikmoledbiepoaaGreatDoor

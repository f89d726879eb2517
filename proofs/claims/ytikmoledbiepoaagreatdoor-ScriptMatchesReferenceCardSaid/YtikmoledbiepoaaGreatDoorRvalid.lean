/- The reference's validCall (printed by wip/gen_rvc2.py). -/
import Derived.Test.YtikmoledbiepoaaGreatDoorRused
import Derived.Test.YtikmoledbiepoaaGreatDoorAction
import Derived.Test.YtikmoledbiepoaaGreatDoorRgue
import Derived.Test.YtikmoledbiepoaaGreatDoorRusedac
import Derived.Test.YtikmoledbiepoaaGreatDoorRwords
namespace Go.Proofs.YtikmoledbiepoaaGreatDoor
open Go.RowKit
set_option linter.unusedSimpArgs false
set_option linter.unusedVariables false
theorem ent51 : Ent 51 := enters_of Tryz.func51 (by kernel_rfl) rfl
theorem load28c {w : World} {b : Nat} {c : Cal} (h : w.heap[b]? = some (.cells c.cells.toArray 28)) : (Instr.loadAt 28 (.pointer (some ⟨b, 0, none⟩))).run Tryz.prog w = .ok (.agg c.cells.toArray) w :=
  load28 (range_of (pre := []) (post := []) h (by simp))
theorem run_b28 (k : Int) (w : World) : (Instr.build 28 #[(0, .int .i64 k)]).run Tryz.prog w = .ok (.agg (Cal.ofKind k).cells.toArray) w := by kernel_rfl
set_option maxRecDepth 100000 in
theorem exec_b28 {ρ : Operand → Value} {o : Oper} {x : Operand} {w : World} {k : Int} (ho : o.op = .build 28 #[(0, x)]) (hx : ρ x = .int .i64 k) :
    (execOp ρ o).run Tryz.prog w = .ok (.value (.agg (Cal.ofKind k).cells.toArray)) w := by
  unfold execOp
  simp only [ho, List.map_toArray, List.map_cons, List.map_nil, hx, Sem.run_bind, run_b28]
  rfl
set_option maxRecDepth 100000 in
theorem neq28 (x y : Cal) (w : World) : (binOp .neq 28 (.agg x.cells.toArray) (.agg y.cells.toArray)).run Tryz.prog w = .ok (.bool !(x.eqb y)) w := by
  have h := eq28 x y w
  rw [run_eql_struct] at h
  rw [run_neq_struct]
  revert h
  generalize Sem.run Tryz.prog (Op.equalIn 10000 28 (.agg x.cells.toArray) (.agg y.cells.toArray)) w = R
  intro h
  cases R with
  | ok b v =>
    simp only [Result.andThen, Result.ok.injEq, Value.bool.injEq] at h ⊢
    obtain ⟨h1, h2⟩ := h
    subst h1
    exact ⟨rfl, h2⟩
  | _ => simp [Result.andThen] at h
set_option maxRecDepth 100000 in
theorem exec_neq28 {ρ : Operand → Value} {o : Oper} {x y : Operand} {w : World} {c d : Cal} (ho : o.op = .binOp .neq 28 x y 28) (hx : ρ x = .agg c.cells.toArray) (hy : ρ y = .agg d.cells.toArray) :
    (execOp ρ o).run Tryz.prog w = .ok (.value (.bool !(c.eqb d))) w := by
  have hgu : (eqGuard .neq 28 x y (.agg c.cells.toArray) (.agg d.cells.toArray)).run Tryz.prog w = .ok () w := by
    apply run_eqGuard_agg
    kernel_rfl
  unfold execOp
  simp only [ho, hx, hy, Sem.run_bind, neq28, hgu]
  rfl
set_option maxRecDepth 100000 in
theorem und26 : ∃ fs, Tryz.prog.underlying 26 = some (.struct fs) := by
  have h : (match Tryz.prog.underlying 26 with | some (.struct _) => true | _ => false) = true := by kernel_rfl
  split at h
  · exact ⟨_, ‹_›⟩
  · cases h
theorem cal_sess {W : World} {C : Nat} {c : Cal} (h : W.heap[C]? = some (.cells c.cells.toArray 28)) : W.rangeAt C 8 c.sess :=
  range_of (pre := [vI c.kind, vI c.conn, vI c.stream, vI c.n, vS c.s, vI c.code, vI c.loc, vI c.rem]) (post := []) h (by simp [Cal.cells, Cal.sess])
theorem cal_eight {W : World} {C : Nat} {c : Cal} (h : W.heap[C]? = some (.cells c.cells.toArray 28)) : W.cell? ⟨C, 0, none⟩ = some (.int .i64 c.kind) ∧ W.cell? ⟨C, 1, none⟩ = some (.int .i64 c.conn) ∧ W.cell? ⟨C, 2, none⟩ = some (.int .i64 c.stream) ∧ W.cell? ⟨C, 3, none⟩ = some (.int .i64 c.n) ∧
    W.cell? ⟨C, 4, none⟩ = some (.string ⟨c.s.toArray⟩) ∧ W.cell? ⟨C, 5, none⟩ = some (.int .i64 c.code) ∧ W.cell? ⟨C, 6, none⟩ = some (.int .i64 c.loc) ∧ W.cell? ⟨C, 7, none⟩ = some (.int .i64 c.rem) := by
  refine ⟨?_, ?_, ?_, ?_, ?_, ?_, ?_, ?_⟩ <;> (rw [Lib.cell_of_heap h]; rfl)
theorem exec_nqA {ρ : Operand → Value} {o : Oper} {x y : Operand} {w : World} {c d : Cal} {A B : Array Value} {r : Bool} (ho : o.op = .binOp .neq 28 x y 28) (hx : ρ x = .agg A) (hy : ρ y = .agg B) (h1 : A = c.cells.toArray) (h2 : B = d.cells.toArray) (hr : (!(c.eqb d)) = r) :
    (execOp ρ o).run Tryz.prog w = .ok (.value (.bool r)) w := by
  subst h1
  subst h2
  subst hr
  exact exec_neq28 ho hx hy
set_option maxRecDepth 100000 in
set_option maxHeartbeats 4000000 in
theorem RvalidCall_n1 (c : Cal) (w : World) (k1 : c.kind < 1) :
    Calls Tryz.prog 33 #[.agg c.cells.toArray] w fun e w' => e = .returned (.bool false) ∧ Ext w w' := by
  obtain ⟨W0, hW0⟩ : ∃ W0, W0 = w.alloc (.cells c.cells.toArray 28) := ⟨_, rfl⟩
  have hb0 : W0.heap[w.heap.size]? = some (.cells c.cells.toArray 28) := by rw [hW0]; exact alloc_new _ _
  have x0 : Ext w W0 := by rw [hW0]; exact Ext.alloc _ _
  have hkd : ∀ k : XW W0, k.val.cell? ⟨w.heap.size, 0, none⟩ = some (.int .i64 c.kind) := fun k => k.cell (by rw [Lib.cell_of_heap hb0]; rfl)
  have d1 : decide (c.kind < 1) = true := decide_eq_true k1
  rw [Cal.cells_eq] at hW0 ⊢
  have HW := Lib.hid hW0
  clear hW0
  go_enter Tryz.func33, Tryz.ntmps33
  go_upto_region 1 with fail
  rw [← HW.out]
  clear HW
  refine wp_region_xw mixedOrd (by kernel_rfl) ?_
  repeat (go_big_quiet_step (fail))
  refine wpQuiet_nil ?_
  rintro _ ⟨⟨W, hW⟩, rfl⟩
  go_wp2_with fail
  go_ret
  exact ⟨rfl, x0.trans hW⟩
set_option maxRecDepth 100000 in
set_option maxHeartbeats 4000000 in
theorem RvalidCall_n2 (c : Cal) (w : World) (k1 : ¬ c.kind < 1) (k2 : 13 < c.kind) :
    Calls Tryz.prog 33 #[.agg c.cells.toArray] w fun e w' => e = .returned (.bool false) ∧ Ext w w' := by
  obtain ⟨W0, hW0⟩ : ∃ W0, W0 = w.alloc (.cells c.cells.toArray 28) := ⟨_, rfl⟩
  have hb0 : W0.heap[w.heap.size]? = some (.cells c.cells.toArray 28) := by rw [hW0]; exact alloc_new _ _
  have x0 : Ext w W0 := by rw [hW0]; exact Ext.alloc _ _
  have hkd : ∀ k : XW W0, k.val.cell? ⟨w.heap.size, 0, none⟩ = some (.int .i64 c.kind) := fun k => k.cell (by rw [Lib.cell_of_heap hb0]; rfl)
  have d1 : decide (c.kind < 1) = false := decide_eq_false k1
  have d2 : decide (13 < c.kind) = true := decide_eq_true k2
  rw [Cal.cells_eq] at hW0 ⊢
  have HW := Lib.hid hW0
  clear hW0
  go_enter Tryz.func33, Tryz.ntmps33
  go_upto_region 1 with fail
  rw [← HW.out]
  clear HW
  refine wp_region_xw mixedOrd (by kernel_rfl) ?_
  repeat (go_big_quiet_step (fail))
  refine wpQuiet_nil ?_
  rintro _ ⟨⟨W, hW⟩, rfl⟩
  go_wp2_with fail
  go_ret
  exact ⟨rfl, x0.trans hW⟩
set_option maxRecDepth 100000 in
set_option maxHeartbeats 4000000 in
theorem RvalidCall_n3 (c : Cal) (w : World) (k1 : ¬ c.kind < 1) (k2 : ¬ 13 < c.kind) (HN : Hid ((!(c.used.eqb (Cal.ofKind c.kind))) = true)) :
    Calls Tryz.prog 33 #[.agg c.cells.toArray] w fun e w' => e = .returned (.bool false) ∧ Ext w w' := by
  obtain ⟨W0, hW0⟩ : ∃ W0, W0 = w.alloc (.cells c.cells.toArray 28) := ⟨_, rfl⟩
  have hb0 : W0.heap[w.heap.size]? = some (.cells c.cells.toArray 28) := by rw [hW0]; exact alloc_new _ _
  have x0 : Ext w W0 := by rw [hW0]; exact Ext.alloc _ _
  have hkd : ∀ k : XW W0, k.val.cell? ⟨w.heap.size, 0, none⟩ = some (.int .i64 c.kind) := fun k => k.cell (by rw [Lib.cell_of_heap hb0]; rfl)
  obtain ⟨A0, hA0⟩ : ∃ A0, A0 = c.cells.toArray := ⟨_, rfl⟩
  obtain ⟨A1, hA1⟩ : ∃ A1, A1 = c.used.cells.toArray := ⟨_, rfl⟩
  obtain ⟨A2, hA2⟩ : ∃ A2, A2 = (Cal.ofKind c.kind).cells.toArray := ⟨_, rfl⟩
  have HU := fun v => Lib.hid (RusedCall_any c v)
  rw [← hA0, ← hA1] at HU
  have hl : ∀ k : XW W0, (Instr.loadAt 28 (.pointer (some ⟨w.heap.size, 0, none⟩))).run Tryz.prog k.val = .ok (.agg A0) k.val := fun k => by
    rw [hA0]
    exact load28c ((k.ext.block _ (lt_of_block hb0)).trans hb0)
  have hbd : ∀ v : World, (Instr.build 28 #[(0, .int .i64 c.kind)]).run Tryz.prog v = .ok (.agg A2) v := fun v => by rw [hA2]; exact run_b28 c.kind v
  have H1 := Lib.hid hA1
  have H2 := Lib.hid hA2
  clear hA0 hA1 hA2
  have d1 : decide (c.kind < 1) = false := decide_eq_false k1
  have d2 : decide (13 < c.kind) = false := decide_eq_false k2
  rw [Cal.cells_eq] at hW0 ⊢
  have HW := Lib.hid hW0
  clear hW0
  go_enter Tryz.func33, Tryz.ntmps33
  go_upto_region 1 with fail
  rw [← HW.out]
  clear HW
  refine wp_region_xw mixedOrd (by kernel_rfl) ?_
  iterate 9 go_big_quiet_step (fail)
  refine wpQuiet_xw rfl (fun k => exec_ld rfl rfl (hl k)) ?_
  go_frame
  go_big_quiet_step (first | (go_at_call 51; exact Calls.xw (HU _).out))
  iterate 2 go_big_quiet_step (fail)
  refine wpQuiet_xw rfl (fun k => exec_bd1 rfl rfl (hbd _)) ?_
  go_frame
  refine wpQuiet_xw rfl (fun k => exec_nqA (r := true) rfl rfl rfl H1.out H2.out HN.out) ?_
  go_frame
  go_big_quiet_step (fail)
  refine wpQuiet_nil ?_
  rintro _ ⟨⟨W, hW⟩, rfl⟩
  go_wp2_with fail
  go_ret
  exact ⟨rfl, x0.trans hW⟩
set_option maxRecDepth 100000 in
set_option maxHeartbeats 4000000 in
theorem RvalidCall_t0 (c : Cal) (w : World) (k1 : ¬ c.kind < 1) (k2 : ¬ 13 < c.kind) (HN : Hid ((!(c.used.eqb (Cal.ofKind c.kind))) = false)) (hk : (c.kind == 3) = true) (hsl : c.s.length ≤ 2147483648)
    (hq : ∀ v, Hid (Calls Tryz.prog 52 #[.agg c.sess.toArray] v fun e w' => e = .returned (.bool false) ∧ Ext v w')) :
    Calls Tryz.prog 33 #[.agg c.cells.toArray] w fun e w' => e = .returned (.bool false) ∧ Ext w w' := by
  obtain ⟨fs26, hu26⟩ := und26
  obtain ⟨W0, hW0⟩ : ∃ W0, W0 = w.alloc (.cells c.cells.toArray 28) := ⟨_, rfl⟩
  have hb0 : W0.heap[w.heap.size]? = some (.cells c.cells.toArray 28) := by rw [hW0]; exact alloc_new _ _
  have x0 : Ext w W0 := by rw [hW0]; exact Ext.alloc _ _
  have hkd : ∀ k : XW W0, k.val.cell? ⟨w.heap.size, 0, none⟩ = some (.int .i64 c.kind) := fun k => k.cell (by rw [Lib.cell_of_heap hb0]; rfl)
  obtain ⟨A0, hA0⟩ : ∃ A0, A0 = c.cells.toArray := ⟨_, rfl⟩
  obtain ⟨A1, hA1⟩ : ∃ A1, A1 = c.used.cells.toArray := ⟨_, rfl⟩
  obtain ⟨A2, hA2⟩ : ∃ A2, A2 = (Cal.ofKind c.kind).cells.toArray := ⟨_, rfl⟩
  have HU := fun v => Lib.hid (RusedCall_any c v)
  rw [← hA0, ← hA1] at HU
  have hl : ∀ k : XW W0, (Instr.loadAt 28 (.pointer (some ⟨w.heap.size, 0, none⟩))).run Tryz.prog k.val = .ok (.agg A0) k.val := fun k => by
    rw [hA0]
    exact load28c ((k.ext.block _ (lt_of_block hb0)).trans hb0)
  have hbd : ∀ v : World, (Instr.build 28 #[(0, .int .i64 c.kind)]).run Tryz.prog v = .ok (.agg A2) v := fun v => by rw [hA2]; exact run_b28 c.kind v
  have H1 := Lib.hid hA1
  have H2 := Lib.hid hA2
  clear hA0 hA1 hA2
  have d1 : decide (c.kind < 1) = false := decide_eq_false k1
  have d2 : decide (13 < c.kind) = false := decide_eq_false k2
  rw [Cal.cells_eq] at hW0 ⊢
  have HW := Lib.hid hW0
  clear hW0
  go_enter Tryz.func33, Tryz.ntmps33
  go_upto_region 1 with fail
  rw [← HW.out]
  clear HW
  refine wp_region_xw mixedOrd (by kernel_rfl) ?_
  iterate 9 go_big_quiet_step (fail)
  refine wpQuiet_xw rfl (fun k => exec_ld rfl rfl (hl k)) ?_
  go_frame
  go_big_quiet_step (first | (go_at_call 51; exact Calls.xw (HU _).out))
  iterate 2 go_big_quiet_step (fail)
  refine wpQuiet_xw rfl (fun k => exec_bd1 rfl rfl (hbd _)) ?_
  go_frame
  refine wpQuiet_xw rfl (fun k => exec_nqA (r := false) rfl rfl rfl H1.out H2.out HN.out) ?_
  go_frame
  go_big_quiet_step (fail)
  refine wpQuiet_nil ?_
  rintro _ ⟨⟨W, hW⟩, rfl⟩
  have hC := (hW.block _ (lt_of_block hb0)).trans hb0
  clear HU hl hbd hkd hb0
  go_wp2_with (first
    | refine wpList_load_mid rfl 26 _ rfl _ 8 rfl c.sess _ (cal_sess hC) hu26 rfl inf26 ?_
    | (go_at_call 52; refine (hq _).out.mono ?_; rintro e w2 ⟨rfl, hy⟩; have hC2 := (hy.block _ (lt_of_block hC)).trans hC; obtain ⟨e0, e1, e2, e3, e4, e5, e6, e7⟩ := cal_eight hC2))
  go_ret
  exact ⟨rfl, (x0.trans hW).trans hy⟩
set_option maxRecDepth 100000 in
set_option maxHeartbeats 4000000 in
theorem RvalidCall_t1 (c : Cal) (w : World) (k1 : ¬ c.kind < 1) (k2 : ¬ 13 < c.kind) (HN : Hid ((!(c.used.eqb (Cal.ofKind c.kind))) = false)) (hk : (c.kind == 3) = true) (hsl : c.s.length ≤ 2147483648)
    (hq : ∀ v, Hid (Calls Tryz.prog 52 #[.agg c.sess.toArray] v fun e w' => e = .returned (.bool true) ∧ Ext v w')) (h1 : Hid ((decide (0 ≤ c.loc) && decide (c.loc ≤ 65535)) = false)) :
    Calls Tryz.prog 33 #[.agg c.cells.toArray] w fun e w' => e = .returned (.bool false) ∧ Ext w w' := by
  obtain ⟨fs26, hu26⟩ := und26
  obtain ⟨W0, hW0⟩ : ∃ W0, W0 = w.alloc (.cells c.cells.toArray 28) := ⟨_, rfl⟩
  have hb0 : W0.heap[w.heap.size]? = some (.cells c.cells.toArray 28) := by rw [hW0]; exact alloc_new _ _
  have x0 : Ext w W0 := by rw [hW0]; exact Ext.alloc _ _
  have hkd : ∀ k : XW W0, k.val.cell? ⟨w.heap.size, 0, none⟩ = some (.int .i64 c.kind) := fun k => k.cell (by rw [Lib.cell_of_heap hb0]; rfl)
  obtain ⟨A0, hA0⟩ : ∃ A0, A0 = c.cells.toArray := ⟨_, rfl⟩
  obtain ⟨A1, hA1⟩ : ∃ A1, A1 = c.used.cells.toArray := ⟨_, rfl⟩
  obtain ⟨A2, hA2⟩ : ∃ A2, A2 = (Cal.ofKind c.kind).cells.toArray := ⟨_, rfl⟩
  have HU := fun v => Lib.hid (RusedCall_any c v)
  rw [← hA0, ← hA1] at HU
  have hl : ∀ k : XW W0, (Instr.loadAt 28 (.pointer (some ⟨w.heap.size, 0, none⟩))).run Tryz.prog k.val = .ok (.agg A0) k.val := fun k => by
    rw [hA0]
    exact load28c ((k.ext.block _ (lt_of_block hb0)).trans hb0)
  have hbd : ∀ v : World, (Instr.build 28 #[(0, .int .i64 c.kind)]).run Tryz.prog v = .ok (.agg A2) v := fun v => by rw [hA2]; exact run_b28 c.kind v
  have H1 := Lib.hid hA1
  have H2 := Lib.hid hA2
  clear hA0 hA1 hA2
  have d1 : decide (c.kind < 1) = false := decide_eq_false k1
  have d2 : decide (13 < c.kind) = false := decide_eq_false k2
  rw [Cal.cells_eq] at hW0 ⊢
  have HW := Lib.hid hW0
  clear hW0
  go_enter Tryz.func33, Tryz.ntmps33
  go_upto_region 1 with fail
  rw [← HW.out]
  clear HW
  refine wp_region_xw mixedOrd (by kernel_rfl) ?_
  iterate 9 go_big_quiet_step (fail)
  refine wpQuiet_xw rfl (fun k => exec_ld rfl rfl (hl k)) ?_
  go_frame
  go_big_quiet_step (first | (go_at_call 51; exact Calls.xw (HU _).out))
  iterate 2 go_big_quiet_step (fail)
  refine wpQuiet_xw rfl (fun k => exec_bd1 rfl rfl (hbd _)) ?_
  go_frame
  refine wpQuiet_xw rfl (fun k => exec_nqA (r := false) rfl rfl rfl H1.out H2.out HN.out) ?_
  go_frame
  go_big_quiet_step (fail)
  refine wpQuiet_nil ?_
  rintro _ ⟨⟨W, hW⟩, rfl⟩
  have hC := (hW.block _ (lt_of_block hb0)).trans hb0
  clear HU hl hbd hkd hb0
  go_wp2_with (first
    | refine wpList_load_mid rfl 26 _ rfl _ 8 rfl c.sess _ (cal_sess hC) hu26 rfl inf26 ?_
    | (go_at_call 52; refine (hq _).out.mono ?_; rintro e w2 ⟨rfl, hy⟩; have hC2 := (hy.block _ (lt_of_block hC)).trans hC; obtain ⟨e0, e1, e2, e3, e4, e5, e6, e7⟩ := cal_eight hC2)
    | (go_at_call 34; refine (Rwithin_any _ _ _ (by with_reducible first | exact h1.out) _).mono ?_; rintro e w3 ⟨rfl, rfl⟩))
  go_ret
  exact ⟨rfl, (x0.trans hW).trans hy⟩
set_option maxRecDepth 100000 in
set_option maxHeartbeats 4000000 in
theorem RvalidCall_t2 (c : Cal) (w : World) (k1 : ¬ c.kind < 1) (k2 : ¬ 13 < c.kind) (HN : Hid ((!(c.used.eqb (Cal.ofKind c.kind))) = false)) (hk : (c.kind == 3) = true) (hsl : c.s.length ≤ 2147483648)
    (hq : ∀ v, Hid (Calls Tryz.prog 52 #[.agg c.sess.toArray] v fun e w' => e = .returned (.bool true) ∧ Ext v w')) (h1 : Hid ((decide (0 ≤ c.loc) && decide (c.loc ≤ 65535)) = true)) (h2 : Hid ((decide (0 ≤ c.rem) && decide (c.rem ≤ 65535)) = false)) :
    Calls Tryz.prog 33 #[.agg c.cells.toArray] w fun e w' => e = .returned (.bool false) ∧ Ext w w' := by
  obtain ⟨fs26, hu26⟩ := und26
  obtain ⟨W0, hW0⟩ : ∃ W0, W0 = w.alloc (.cells c.cells.toArray 28) := ⟨_, rfl⟩
  have hb0 : W0.heap[w.heap.size]? = some (.cells c.cells.toArray 28) := by rw [hW0]; exact alloc_new _ _
  have x0 : Ext w W0 := by rw [hW0]; exact Ext.alloc _ _
  have hkd : ∀ k : XW W0, k.val.cell? ⟨w.heap.size, 0, none⟩ = some (.int .i64 c.kind) := fun k => k.cell (by rw [Lib.cell_of_heap hb0]; rfl)
  obtain ⟨A0, hA0⟩ : ∃ A0, A0 = c.cells.toArray := ⟨_, rfl⟩
  obtain ⟨A1, hA1⟩ : ∃ A1, A1 = c.used.cells.toArray := ⟨_, rfl⟩
  obtain ⟨A2, hA2⟩ : ∃ A2, A2 = (Cal.ofKind c.kind).cells.toArray := ⟨_, rfl⟩
  have HU := fun v => Lib.hid (RusedCall_any c v)
  rw [← hA0, ← hA1] at HU
  have hl : ∀ k : XW W0, (Instr.loadAt 28 (.pointer (some ⟨w.heap.size, 0, none⟩))).run Tryz.prog k.val = .ok (.agg A0) k.val := fun k => by
    rw [hA0]
    exact load28c ((k.ext.block _ (lt_of_block hb0)).trans hb0)
  have hbd : ∀ v : World, (Instr.build 28 #[(0, .int .i64 c.kind)]).run Tryz.prog v = .ok (.agg A2) v := fun v => by rw [hA2]; exact run_b28 c.kind v
  have H1 := Lib.hid hA1
  have H2 := Lib.hid hA2
  clear hA0 hA1 hA2
  have d1 : decide (c.kind < 1) = false := decide_eq_false k1
  have d2 : decide (13 < c.kind) = false := decide_eq_false k2
  rw [Cal.cells_eq] at hW0 ⊢
  have HW := Lib.hid hW0
  clear hW0
  go_enter Tryz.func33, Tryz.ntmps33
  go_upto_region 1 with fail
  rw [← HW.out]
  clear HW
  refine wp_region_xw mixedOrd (by kernel_rfl) ?_
  iterate 9 go_big_quiet_step (fail)
  refine wpQuiet_xw rfl (fun k => exec_ld rfl rfl (hl k)) ?_
  go_frame
  go_big_quiet_step (first | (go_at_call 51; exact Calls.xw (HU _).out))
  iterate 2 go_big_quiet_step (fail)
  refine wpQuiet_xw rfl (fun k => exec_bd1 rfl rfl (hbd _)) ?_
  go_frame
  refine wpQuiet_xw rfl (fun k => exec_nqA (r := false) rfl rfl rfl H1.out H2.out HN.out) ?_
  go_frame
  go_big_quiet_step (fail)
  refine wpQuiet_nil ?_
  rintro _ ⟨⟨W, hW⟩, rfl⟩
  have hC := (hW.block _ (lt_of_block hb0)).trans hb0
  clear HU hl hbd hkd hb0
  go_wp2_with (first
    | refine wpList_load_mid rfl 26 _ rfl _ 8 rfl c.sess _ (cal_sess hC) hu26 rfl inf26 ?_
    | (go_at_call 52; refine (hq _).out.mono ?_; rintro e w2 ⟨rfl, hy⟩; have hC2 := (hy.block _ (lt_of_block hC)).trans hC; obtain ⟨e0, e1, e2, e3, e4, e5, e6, e7⟩ := cal_eight hC2)
    | (go_at_call 34; refine (Rwithin_any _ _ _ (by with_reducible first | exact h1.out | exact h2.out) _).mono ?_; rintro e w3 ⟨rfl, rfl⟩))
  go_ret
  exact ⟨rfl, (x0.trans hW).trans hy⟩
set_option maxRecDepth 100000 in
set_option maxHeartbeats 4000000 in
theorem RvalidCall_t3 (c : Cal) (w : World) (k1 : ¬ c.kind < 1) (k2 : ¬ 13 < c.kind) (HN : Hid ((!(c.used.eqb (Cal.ofKind c.kind))) = false)) (hk : (c.kind == 3) = true) (hsl : c.s.length ≤ 2147483648)
    (hq : ∀ v, Hid (Calls Tryz.prog 52 #[.agg c.sess.toArray] v fun e w' => e = .returned (.bool true) ∧ Ext v w')) (h1 : Hid ((decide (0 ≤ c.loc) && decide (c.loc ≤ 65535)) = true)) (h2 : Hid ((decide (0 ≤ c.rem) && decide (c.rem ≤ 65535)) = true)) (h3 : Hid ((decide (0 ≤ c.conn) && decide (c.conn ≤ 1073741823)) = false)) :
    Calls Tryz.prog 33 #[.agg c.cells.toArray] w fun e w' => e = .returned (.bool false) ∧ Ext w w' := by
  obtain ⟨fs26, hu26⟩ := und26
  obtain ⟨W0, hW0⟩ : ∃ W0, W0 = w.alloc (.cells c.cells.toArray 28) := ⟨_, rfl⟩
  have hb0 : W0.heap[w.heap.size]? = some (.cells c.cells.toArray 28) := by rw [hW0]; exact alloc_new _ _
  have x0 : Ext w W0 := by rw [hW0]; exact Ext.alloc _ _
  have hkd : ∀ k : XW W0, k.val.cell? ⟨w.heap.size, 0, none⟩ = some (.int .i64 c.kind) := fun k => k.cell (by rw [Lib.cell_of_heap hb0]; rfl)
  obtain ⟨A0, hA0⟩ : ∃ A0, A0 = c.cells.toArray := ⟨_, rfl⟩
  obtain ⟨A1, hA1⟩ : ∃ A1, A1 = c.used.cells.toArray := ⟨_, rfl⟩
  obtain ⟨A2, hA2⟩ : ∃ A2, A2 = (Cal.ofKind c.kind).cells.toArray := ⟨_, rfl⟩
  have HU := fun v => Lib.hid (RusedCall_any c v)
  rw [← hA0, ← hA1] at HU
  have hl : ∀ k : XW W0, (Instr.loadAt 28 (.pointer (some ⟨w.heap.size, 0, none⟩))).run Tryz.prog k.val = .ok (.agg A0) k.val := fun k => by
    rw [hA0]
    exact load28c ((k.ext.block _ (lt_of_block hb0)).trans hb0)
  have hbd : ∀ v : World, (Instr.build 28 #[(0, .int .i64 c.kind)]).run Tryz.prog v = .ok (.agg A2) v := fun v => by rw [hA2]; exact run_b28 c.kind v
  have H1 := Lib.hid hA1
  have H2 := Lib.hid hA2
  clear hA0 hA1 hA2
  have d1 : decide (c.kind < 1) = false := decide_eq_false k1
  have d2 : decide (13 < c.kind) = false := decide_eq_false k2
  rw [Cal.cells_eq] at hW0 ⊢
  have HW := Lib.hid hW0
  clear hW0
  go_enter Tryz.func33, Tryz.ntmps33
  go_upto_region 1 with fail
  rw [← HW.out]
  clear HW
  refine wp_region_xw mixedOrd (by kernel_rfl) ?_
  iterate 9 go_big_quiet_step (fail)
  refine wpQuiet_xw rfl (fun k => exec_ld rfl rfl (hl k)) ?_
  go_frame
  go_big_quiet_step (first | (go_at_call 51; exact Calls.xw (HU _).out))
  iterate 2 go_big_quiet_step (fail)
  refine wpQuiet_xw rfl (fun k => exec_bd1 rfl rfl (hbd _)) ?_
  go_frame
  refine wpQuiet_xw rfl (fun k => exec_nqA (r := false) rfl rfl rfl H1.out H2.out HN.out) ?_
  go_frame
  go_big_quiet_step (fail)
  refine wpQuiet_nil ?_
  rintro _ ⟨⟨W, hW⟩, rfl⟩
  have hC := (hW.block _ (lt_of_block hb0)).trans hb0
  clear HU hl hbd hkd hb0
  go_wp2_with (first
    | refine wpList_load_mid rfl 26 _ rfl _ 8 rfl c.sess _ (cal_sess hC) hu26 rfl inf26 ?_
    | (go_at_call 52; refine (hq _).out.mono ?_; rintro e w2 ⟨rfl, hy⟩; have hC2 := (hy.block _ (lt_of_block hC)).trans hC; obtain ⟨e0, e1, e2, e3, e4, e5, e6, e7⟩ := cal_eight hC2)
    | (go_at_call 34; refine (Rwithin_any _ _ _ (by with_reducible first | exact h1.out | exact h2.out) _).mono ?_; rintro e w3 ⟨rfl, rfl⟩)
    | (go_at_call 53; refine (Rid_any _ _ (by with_reducible first | exact h3.out) _).mono ?_; rintro e w3 ⟨rfl, rfl⟩))
  go_ret
  exact ⟨rfl, (x0.trans hW).trans hy⟩
set_option maxRecDepth 100000 in
set_option maxHeartbeats 4000000 in
theorem RvalidCall_t4 (c : Cal) (w : World) (k1 : ¬ c.kind < 1) (k2 : ¬ 13 < c.kind) (HN : Hid ((!(c.used.eqb (Cal.ofKind c.kind))) = false)) (hk : (c.kind == 3) = true) (hsl : c.s.length ≤ 2147483648)
    (hq : ∀ v, Hid (Calls Tryz.prog 52 #[.agg c.sess.toArray] v fun e w' => e = .returned (.bool true) ∧ Ext v w')) (h1 : Hid ((decide (0 ≤ c.loc) && decide (c.loc ≤ 65535)) = true)) (h2 : Hid ((decide (0 ≤ c.rem) && decide (c.rem ≤ 65535)) = true)) (h3 : Hid ((decide (0 ≤ c.conn) && decide (c.conn ≤ 1073741823)) = true)) (h4 : Hid ((decide (0 ≤ c.stream) && decide (c.stream ≤ 1073741823)) = false)) :
    Calls Tryz.prog 33 #[.agg c.cells.toArray] w fun e w' => e = .returned (.bool false) ∧ Ext w w' := by
  obtain ⟨fs26, hu26⟩ := und26
  obtain ⟨W0, hW0⟩ : ∃ W0, W0 = w.alloc (.cells c.cells.toArray 28) := ⟨_, rfl⟩
  have hb0 : W0.heap[w.heap.size]? = some (.cells c.cells.toArray 28) := by rw [hW0]; exact alloc_new _ _
  have x0 : Ext w W0 := by rw [hW0]; exact Ext.alloc _ _
  have hkd : ∀ k : XW W0, k.val.cell? ⟨w.heap.size, 0, none⟩ = some (.int .i64 c.kind) := fun k => k.cell (by rw [Lib.cell_of_heap hb0]; rfl)
  obtain ⟨A0, hA0⟩ : ∃ A0, A0 = c.cells.toArray := ⟨_, rfl⟩
  obtain ⟨A1, hA1⟩ : ∃ A1, A1 = c.used.cells.toArray := ⟨_, rfl⟩
  obtain ⟨A2, hA2⟩ : ∃ A2, A2 = (Cal.ofKind c.kind).cells.toArray := ⟨_, rfl⟩
  have HU := fun v => Lib.hid (RusedCall_any c v)
  rw [← hA0, ← hA1] at HU
  have hl : ∀ k : XW W0, (Instr.loadAt 28 (.pointer (some ⟨w.heap.size, 0, none⟩))).run Tryz.prog k.val = .ok (.agg A0) k.val := fun k => by
    rw [hA0]
    exact load28c ((k.ext.block _ (lt_of_block hb0)).trans hb0)
  have hbd : ∀ v : World, (Instr.build 28 #[(0, .int .i64 c.kind)]).run Tryz.prog v = .ok (.agg A2) v := fun v => by rw [hA2]; exact run_b28 c.kind v
  have H1 := Lib.hid hA1
  have H2 := Lib.hid hA2
  clear hA0 hA1 hA2
  have d1 : decide (c.kind < 1) = false := decide_eq_false k1
  have d2 : decide (13 < c.kind) = false := decide_eq_false k2
  rw [Cal.cells_eq] at hW0 ⊢
  have HW := Lib.hid hW0
  clear hW0
  go_enter Tryz.func33, Tryz.ntmps33
  go_upto_region 1 with fail
  rw [← HW.out]
  clear HW
  refine wp_region_xw mixedOrd (by kernel_rfl) ?_
  iterate 9 go_big_quiet_step (fail)
  refine wpQuiet_xw rfl (fun k => exec_ld rfl rfl (hl k)) ?_
  go_frame
  go_big_quiet_step (first | (go_at_call 51; exact Calls.xw (HU _).out))
  iterate 2 go_big_quiet_step (fail)
  refine wpQuiet_xw rfl (fun k => exec_bd1 rfl rfl (hbd _)) ?_
  go_frame
  refine wpQuiet_xw rfl (fun k => exec_nqA (r := false) rfl rfl rfl H1.out H2.out HN.out) ?_
  go_frame
  go_big_quiet_step (fail)
  refine wpQuiet_nil ?_
  rintro _ ⟨⟨W, hW⟩, rfl⟩
  have hC := (hW.block _ (lt_of_block hb0)).trans hb0
  clear HU hl hbd hkd hb0
  go_wp2_with (first
    | refine wpList_load_mid rfl 26 _ rfl _ 8 rfl c.sess _ (cal_sess hC) hu26 rfl inf26 ?_
    | (go_at_call 52; refine (hq _).out.mono ?_; rintro e w2 ⟨rfl, hy⟩; have hC2 := (hy.block _ (lt_of_block hC)).trans hC; obtain ⟨e0, e1, e2, e3, e4, e5, e6, e7⟩ := cal_eight hC2)
    | (go_at_call 34; refine (Rwithin_any _ _ _ (by with_reducible first | exact h1.out | exact h2.out) _).mono ?_; rintro e w3 ⟨rfl, rfl⟩)
    | (go_at_call 53; refine (Rid_any _ _ (by with_reducible first | exact h3.out | exact h4.out) _).mono ?_; rintro e w3 ⟨rfl, rfl⟩))
  go_ret
  exact ⟨rfl, (x0.trans hW).trans hy⟩
set_option maxRecDepth 100000 in
set_option maxHeartbeats 4000000 in
theorem RvalidCall_t5 (c : Cal) (w : World) (k1 : ¬ c.kind < 1) (k2 : ¬ 13 < c.kind) (HN : Hid ((!(c.used.eqb (Cal.ofKind c.kind))) = false)) (hk : (c.kind == 3) = true) (hsl : c.s.length ≤ 2147483648)
    (hq : ∀ v, Hid (Calls Tryz.prog 52 #[.agg c.sess.toArray] v fun e w' => e = .returned (.bool true) ∧ Ext v w')) (h1 : Hid ((decide (0 ≤ c.loc) && decide (c.loc ≤ 65535)) = true)) (h2 : Hid ((decide (0 ≤ c.rem) && decide (c.rem ≤ 65535)) = true)) (h3 : Hid ((decide (0 ≤ c.conn) && decide (c.conn ≤ 1073741823)) = true)) (h4 : Hid ((decide (0 ≤ c.stream) && decide (c.stream ≤ 1073741823)) = true)) (h5 : Hid ((decide (0 ≤ c.code) && decide (c.code ≤ 1073741823)) = false)) :
    Calls Tryz.prog 33 #[.agg c.cells.toArray] w fun e w' => e = .returned (.bool false) ∧ Ext w w' := by
  obtain ⟨fs26, hu26⟩ := und26
  obtain ⟨W0, hW0⟩ : ∃ W0, W0 = w.alloc (.cells c.cells.toArray 28) := ⟨_, rfl⟩
  have hb0 : W0.heap[w.heap.size]? = some (.cells c.cells.toArray 28) := by rw [hW0]; exact alloc_new _ _
  have x0 : Ext w W0 := by rw [hW0]; exact Ext.alloc _ _
  have hkd : ∀ k : XW W0, k.val.cell? ⟨w.heap.size, 0, none⟩ = some (.int .i64 c.kind) := fun k => k.cell (by rw [Lib.cell_of_heap hb0]; rfl)
  obtain ⟨A0, hA0⟩ : ∃ A0, A0 = c.cells.toArray := ⟨_, rfl⟩
  obtain ⟨A1, hA1⟩ : ∃ A1, A1 = c.used.cells.toArray := ⟨_, rfl⟩
  obtain ⟨A2, hA2⟩ : ∃ A2, A2 = (Cal.ofKind c.kind).cells.toArray := ⟨_, rfl⟩
  have HU := fun v => Lib.hid (RusedCall_any c v)
  rw [← hA0, ← hA1] at HU
  have hl : ∀ k : XW W0, (Instr.loadAt 28 (.pointer (some ⟨w.heap.size, 0, none⟩))).run Tryz.prog k.val = .ok (.agg A0) k.val := fun k => by
    rw [hA0]
    exact load28c ((k.ext.block _ (lt_of_block hb0)).trans hb0)
  have hbd : ∀ v : World, (Instr.build 28 #[(0, .int .i64 c.kind)]).run Tryz.prog v = .ok (.agg A2) v := fun v => by rw [hA2]; exact run_b28 c.kind v
  have H1 := Lib.hid hA1
  have H2 := Lib.hid hA2
  clear hA0 hA1 hA2
  have d1 : decide (c.kind < 1) = false := decide_eq_false k1
  have d2 : decide (13 < c.kind) = false := decide_eq_false k2
  rw [Cal.cells_eq] at hW0 ⊢
  have HW := Lib.hid hW0
  clear hW0
  go_enter Tryz.func33, Tryz.ntmps33
  go_upto_region 1 with fail
  rw [← HW.out]
  clear HW
  refine wp_region_xw mixedOrd (by kernel_rfl) ?_
  iterate 9 go_big_quiet_step (fail)
  refine wpQuiet_xw rfl (fun k => exec_ld rfl rfl (hl k)) ?_
  go_frame
  go_big_quiet_step (first | (go_at_call 51; exact Calls.xw (HU _).out))
  iterate 2 go_big_quiet_step (fail)
  refine wpQuiet_xw rfl (fun k => exec_bd1 rfl rfl (hbd _)) ?_
  go_frame
  refine wpQuiet_xw rfl (fun k => exec_nqA (r := false) rfl rfl rfl H1.out H2.out HN.out) ?_
  go_frame
  go_big_quiet_step (fail)
  refine wpQuiet_nil ?_
  rintro _ ⟨⟨W, hW⟩, rfl⟩
  have hC := (hW.block _ (lt_of_block hb0)).trans hb0
  clear HU hl hbd hkd hb0
  go_wp2_with (first
    | refine wpList_load_mid rfl 26 _ rfl _ 8 rfl c.sess _ (cal_sess hC) hu26 rfl inf26 ?_
    | (go_at_call 52; refine (hq _).out.mono ?_; rintro e w2 ⟨rfl, hy⟩; have hC2 := (hy.block _ (lt_of_block hC)).trans hC; obtain ⟨e0, e1, e2, e3, e4, e5, e6, e7⟩ := cal_eight hC2)
    | (go_at_call 34; refine (Rwithin_any _ _ _ (by with_reducible first | exact h1.out | exact h2.out) _).mono ?_; rintro e w3 ⟨rfl, rfl⟩)
    | (go_at_call 53; refine (Rid_any _ _ (by with_reducible first | exact h3.out | exact h4.out | exact h5.out) _).mono ?_; rintro e w3 ⟨rfl, rfl⟩))
  go_ret
  exact ⟨rfl, (x0.trans hW).trans hy⟩
set_option maxRecDepth 100000 in
set_option maxHeartbeats 4000000 in
theorem RvalidCall_t6 (c : Cal) (w : World) (k1 : ¬ c.kind < 1) (k2 : ¬ 13 < c.kind) (HN : Hid ((!(c.used.eqb (Cal.ofKind c.kind))) = false)) (hk : (c.kind == 3) = true) (hsl : c.s.length ≤ 2147483648)
    (hq : ∀ v, Hid (Calls Tryz.prog 52 #[.agg c.sess.toArray] v fun e w' => e = .returned (.bool true) ∧ Ext v w')) (h1 : Hid ((decide (0 ≤ c.loc) && decide (c.loc ≤ 65535)) = true)) (h2 : Hid ((decide (0 ≤ c.rem) && decide (c.rem ≤ 65535)) = true)) (h3 : Hid ((decide (0 ≤ c.conn) && decide (c.conn ≤ 1073741823)) = true)) (h4 : Hid ((decide (0 ≤ c.stream) && decide (c.stream ≤ 1073741823)) = true)) (h5 : Hid ((decide (0 ≤ c.code) && decide (c.code ≤ 1073741823)) = true)) (h6 : Hid ((decide (0 ≤ c.n) && decide (c.n ≤ 1)) = false)) :
    Calls Tryz.prog 33 #[.agg c.cells.toArray] w fun e w' => e = .returned (.bool false) ∧ Ext w w' := by
  obtain ⟨fs26, hu26⟩ := und26
  obtain ⟨W0, hW0⟩ : ∃ W0, W0 = w.alloc (.cells c.cells.toArray 28) := ⟨_, rfl⟩
  have hb0 : W0.heap[w.heap.size]? = some (.cells c.cells.toArray 28) := by rw [hW0]; exact alloc_new _ _
  have x0 : Ext w W0 := by rw [hW0]; exact Ext.alloc _ _
  have hkd : ∀ k : XW W0, k.val.cell? ⟨w.heap.size, 0, none⟩ = some (.int .i64 c.kind) := fun k => k.cell (by rw [Lib.cell_of_heap hb0]; rfl)
  obtain ⟨A0, hA0⟩ : ∃ A0, A0 = c.cells.toArray := ⟨_, rfl⟩
  obtain ⟨A1, hA1⟩ : ∃ A1, A1 = c.used.cells.toArray := ⟨_, rfl⟩
  obtain ⟨A2, hA2⟩ : ∃ A2, A2 = (Cal.ofKind c.kind).cells.toArray := ⟨_, rfl⟩
  have HU := fun v => Lib.hid (RusedCall_any c v)
  rw [← hA0, ← hA1] at HU
  have hl : ∀ k : XW W0, (Instr.loadAt 28 (.pointer (some ⟨w.heap.size, 0, none⟩))).run Tryz.prog k.val = .ok (.agg A0) k.val := fun k => by
    rw [hA0]
    exact load28c ((k.ext.block _ (lt_of_block hb0)).trans hb0)
  have hbd : ∀ v : World, (Instr.build 28 #[(0, .int .i64 c.kind)]).run Tryz.prog v = .ok (.agg A2) v := fun v => by rw [hA2]; exact run_b28 c.kind v
  have H1 := Lib.hid hA1
  have H2 := Lib.hid hA2
  clear hA0 hA1 hA2
  have d1 : decide (c.kind < 1) = false := decide_eq_false k1
  have d2 : decide (13 < c.kind) = false := decide_eq_false k2
  rw [Cal.cells_eq] at hW0 ⊢
  have HW := Lib.hid hW0
  clear hW0
  go_enter Tryz.func33, Tryz.ntmps33
  go_upto_region 1 with fail
  rw [← HW.out]
  clear HW
  refine wp_region_xw mixedOrd (by kernel_rfl) ?_
  iterate 9 go_big_quiet_step (fail)
  refine wpQuiet_xw rfl (fun k => exec_ld rfl rfl (hl k)) ?_
  go_frame
  go_big_quiet_step (first | (go_at_call 51; exact Calls.xw (HU _).out))
  iterate 2 go_big_quiet_step (fail)
  refine wpQuiet_xw rfl (fun k => exec_bd1 rfl rfl (hbd _)) ?_
  go_frame
  refine wpQuiet_xw rfl (fun k => exec_nqA (r := false) rfl rfl rfl H1.out H2.out HN.out) ?_
  go_frame
  go_big_quiet_step (fail)
  refine wpQuiet_nil ?_
  rintro _ ⟨⟨W, hW⟩, rfl⟩
  have hC := (hW.block _ (lt_of_block hb0)).trans hb0
  clear HU hl hbd hkd hb0
  go_wp2_with (first
    | refine wpList_load_mid rfl 26 _ rfl _ 8 rfl c.sess _ (cal_sess hC) hu26 rfl inf26 ?_
    | (go_at_call 52; refine (hq _).out.mono ?_; rintro e w2 ⟨rfl, hy⟩; have hC2 := (hy.block _ (lt_of_block hC)).trans hC; obtain ⟨e0, e1, e2, e3, e4, e5, e6, e7⟩ := cal_eight hC2)
    | (go_at_call 34; refine (Rwithin_any _ _ _ (by with_reducible first | exact h1.out | exact h2.out | exact h6.out) _).mono ?_; rintro e w3 ⟨rfl, rfl⟩)
    | (go_at_call 53; refine (Rid_any _ _ (by with_reducible first | exact h3.out | exact h4.out | exact h5.out) _).mono ?_; rintro e w3 ⟨rfl, rfl⟩))
  go_ret
  exact ⟨rfl, (x0.trans hW).trans hy⟩
set_option maxRecDepth 100000 in
set_option maxHeartbeats 4000000 in
theorem RvalidCall_t7 (c : Cal) (w : World) (k1 : ¬ c.kind < 1) (k2 : ¬ 13 < c.kind) (HN : Hid ((!(c.used.eqb (Cal.ofKind c.kind))) = false)) (hk : (c.kind == 3) = true) (hsl : c.s.length ≤ 2147483648)
    (hq : ∀ v, Hid (Calls Tryz.prog 52 #[.agg c.sess.toArray] v fun e w' => e = .returned (.bool true) ∧ Ext v w')) (h1 : Hid ((decide (0 ≤ c.loc) && decide (c.loc ≤ 65535)) = true)) (h2 : Hid ((decide (0 ≤ c.rem) && decide (c.rem ≤ 65535)) = true)) (h3 : Hid ((decide (0 ≤ c.conn) && decide (c.conn ≤ 1073741823)) = true)) (h4 : Hid ((decide (0 ≤ c.stream) && decide (c.stream ≤ 1073741823)) = true)) (h5 : Hid ((decide (0 ≤ c.code) && decide (c.code ≤ 1073741823)) = true)) (h6 : Hid ((decide (0 ≤ c.n) && decide (c.n ≤ 1)) = true)) (h7 : ¬ c.s.length ≤ 2000) :
    Calls Tryz.prog 33 #[.agg c.cells.toArray] w fun e w' => e = .returned (.bool false) ∧ Ext w w' := by
  obtain ⟨fs26, hu26⟩ := und26
  have H7 : Hid (decide ((c.s.length : Int) ≤ 2000) = false) := by
    unfold Hid
    simp
    omega
  obtain ⟨W0, hW0⟩ : ∃ W0, W0 = w.alloc (.cells c.cells.toArray 28) := ⟨_, rfl⟩
  have hb0 : W0.heap[w.heap.size]? = some (.cells c.cells.toArray 28) := by rw [hW0]; exact alloc_new _ _
  have x0 : Ext w W0 := by rw [hW0]; exact Ext.alloc _ _
  have hkd : ∀ k : XW W0, k.val.cell? ⟨w.heap.size, 0, none⟩ = some (.int .i64 c.kind) := fun k => k.cell (by rw [Lib.cell_of_heap hb0]; rfl)
  obtain ⟨A0, hA0⟩ : ∃ A0, A0 = c.cells.toArray := ⟨_, rfl⟩
  obtain ⟨A1, hA1⟩ : ∃ A1, A1 = c.used.cells.toArray := ⟨_, rfl⟩
  obtain ⟨A2, hA2⟩ : ∃ A2, A2 = (Cal.ofKind c.kind).cells.toArray := ⟨_, rfl⟩
  have HU := fun v => Lib.hid (RusedCall_any c v)
  rw [← hA0, ← hA1] at HU
  have hl : ∀ k : XW W0, (Instr.loadAt 28 (.pointer (some ⟨w.heap.size, 0, none⟩))).run Tryz.prog k.val = .ok (.agg A0) k.val := fun k => by
    rw [hA0]
    exact load28c ((k.ext.block _ (lt_of_block hb0)).trans hb0)
  have hbd : ∀ v : World, (Instr.build 28 #[(0, .int .i64 c.kind)]).run Tryz.prog v = .ok (.agg A2) v := fun v => by rw [hA2]; exact run_b28 c.kind v
  have H1 := Lib.hid hA1
  have H2 := Lib.hid hA2
  clear hA0 hA1 hA2
  have d1 : decide (c.kind < 1) = false := decide_eq_false k1
  have d2 : decide (13 < c.kind) = false := decide_eq_false k2
  rw [Cal.cells_eq] at hW0 ⊢
  have HW := Lib.hid hW0
  clear hW0
  go_enter Tryz.func33, Tryz.ntmps33
  go_upto_region 1 with fail
  rw [← HW.out]
  clear HW
  refine wp_region_xw mixedOrd (by kernel_rfl) ?_
  iterate 9 go_big_quiet_step (fail)
  refine wpQuiet_xw rfl (fun k => exec_ld rfl rfl (hl k)) ?_
  go_frame
  go_big_quiet_step (first | (go_at_call 51; exact Calls.xw (HU _).out))
  iterate 2 go_big_quiet_step (fail)
  refine wpQuiet_xw rfl (fun k => exec_bd1 rfl rfl (hbd _)) ?_
  go_frame
  refine wpQuiet_xw rfl (fun k => exec_nqA (r := false) rfl rfl rfl H1.out H2.out HN.out) ?_
  go_frame
  go_big_quiet_step (fail)
  refine wpQuiet_nil ?_
  rintro _ ⟨⟨W, hW⟩, rfl⟩
  have hC := (hW.block _ (lt_of_block hb0)).trans hb0
  clear HU hl hbd hkd hb0
  go_wp2_with (first
    | refine wpList_load_mid rfl 26 _ rfl _ 8 rfl c.sess _ (cal_sess hC) hu26 rfl inf26 ?_
    | (go_at_call 52; refine (hq _).out.mono ?_; rintro e w2 ⟨rfl, hy⟩; have hC2 := (hy.block _ (lt_of_block hC)).trans hC; obtain ⟨e0, e1, e2, e3, e4, e5, e6, e7⟩ := cal_eight hC2)
    | (go_at_call 34; refine (Rwithin_any _ _ _ (by with_reducible first | exact h1.out | exact h2.out | exact h6.out) _).mono ?_; rintro e w3 ⟨rfl, rfl⟩)
    | (go_at_call 53; refine (Rid_any _ _ (by with_reducible first | exact h3.out | exact h4.out | exact h5.out) _).mono ?_; rintro e w3 ⟨rfl, rfl⟩))
  go_ret
  exact ⟨congrArg (fun b => Ending.returned (.bool b)) H7.out, (x0.trans hW).trans hy⟩
set_option maxRecDepth 100000 in
set_option maxHeartbeats 4000000 in
theorem RvalidCall_t8 (c : Cal) (w : World) (k1 : ¬ c.kind < 1) (k2 : ¬ 13 < c.kind) (HN : Hid ((!(c.used.eqb (Cal.ofKind c.kind))) = false)) (hk : (c.kind == 3) = true) (hsl : c.s.length ≤ 2147483648)
    (hq : ∀ v, Hid (Calls Tryz.prog 52 #[.agg c.sess.toArray] v fun e w' => e = .returned (.bool true) ∧ Ext v w')) (h1 : Hid ((decide (0 ≤ c.loc) && decide (c.loc ≤ 65535)) = true)) (h2 : Hid ((decide (0 ≤ c.rem) && decide (c.rem ≤ 65535)) = true)) (h3 : Hid ((decide (0 ≤ c.conn) && decide (c.conn ≤ 1073741823)) = true)) (h4 : Hid ((decide (0 ≤ c.stream) && decide (c.stream ≤ 1073741823)) = true)) (h5 : Hid ((decide (0 ≤ c.code) && decide (c.code ≤ 1073741823)) = true)) (h6 : Hid ((decide (0 ≤ c.n) && decide (c.n ≤ 1)) = true)) (h7 : c.s.length ≤ 2000) :
    Calls Tryz.prog 33 #[.agg c.cells.toArray] w fun e w' => e = .returned (.bool true) ∧ Ext w w' := by
  obtain ⟨fs26, hu26⟩ := und26
  have H7 : Hid (decide ((c.s.length : Int) ≤ 2000) = true) := by
    unfold Hid
    simp
    omega
  obtain ⟨W0, hW0⟩ : ∃ W0, W0 = w.alloc (.cells c.cells.toArray 28) := ⟨_, rfl⟩
  have hb0 : W0.heap[w.heap.size]? = some (.cells c.cells.toArray 28) := by rw [hW0]; exact alloc_new _ _
  have x0 : Ext w W0 := by rw [hW0]; exact Ext.alloc _ _
  have hkd : ∀ k : XW W0, k.val.cell? ⟨w.heap.size, 0, none⟩ = some (.int .i64 c.kind) := fun k => k.cell (by rw [Lib.cell_of_heap hb0]; rfl)
  obtain ⟨A0, hA0⟩ : ∃ A0, A0 = c.cells.toArray := ⟨_, rfl⟩
  obtain ⟨A1, hA1⟩ : ∃ A1, A1 = c.used.cells.toArray := ⟨_, rfl⟩
  obtain ⟨A2, hA2⟩ : ∃ A2, A2 = (Cal.ofKind c.kind).cells.toArray := ⟨_, rfl⟩
  have HU := fun v => Lib.hid (RusedCall_any c v)
  rw [← hA0, ← hA1] at HU
  have hl : ∀ k : XW W0, (Instr.loadAt 28 (.pointer (some ⟨w.heap.size, 0, none⟩))).run Tryz.prog k.val = .ok (.agg A0) k.val := fun k => by
    rw [hA0]
    exact load28c ((k.ext.block _ (lt_of_block hb0)).trans hb0)
  have hbd : ∀ v : World, (Instr.build 28 #[(0, .int .i64 c.kind)]).run Tryz.prog v = .ok (.agg A2) v := fun v => by rw [hA2]; exact run_b28 c.kind v
  have H1 := Lib.hid hA1
  have H2 := Lib.hid hA2
  clear hA0 hA1 hA2
  have d1 : decide (c.kind < 1) = false := decide_eq_false k1
  have d2 : decide (13 < c.kind) = false := decide_eq_false k2
  rw [Cal.cells_eq] at hW0 ⊢
  have HW := Lib.hid hW0
  clear hW0
  go_enter Tryz.func33, Tryz.ntmps33
  go_upto_region 1 with fail
  rw [← HW.out]
  clear HW
  refine wp_region_xw mixedOrd (by kernel_rfl) ?_
  iterate 9 go_big_quiet_step (fail)
  refine wpQuiet_xw rfl (fun k => exec_ld rfl rfl (hl k)) ?_
  go_frame
  go_big_quiet_step (first | (go_at_call 51; exact Calls.xw (HU _).out))
  iterate 2 go_big_quiet_step (fail)
  refine wpQuiet_xw rfl (fun k => exec_bd1 rfl rfl (hbd _)) ?_
  go_frame
  refine wpQuiet_xw rfl (fun k => exec_nqA (r := false) rfl rfl rfl H1.out H2.out HN.out) ?_
  go_frame
  go_big_quiet_step (fail)
  refine wpQuiet_nil ?_
  rintro _ ⟨⟨W, hW⟩, rfl⟩
  have hC := (hW.block _ (lt_of_block hb0)).trans hb0
  clear HU hl hbd hkd hb0
  go_wp2_with (first
    | refine wpList_load_mid rfl 26 _ rfl _ 8 rfl c.sess _ (cal_sess hC) hu26 rfl inf26 ?_
    | (go_at_call 52; refine (hq _).out.mono ?_; rintro e w2 ⟨rfl, hy⟩; have hC2 := (hy.block _ (lt_of_block hC)).trans hC; obtain ⟨e0, e1, e2, e3, e4, e5, e6, e7⟩ := cal_eight hC2)
    | (go_at_call 34; refine (Rwithin_any _ _ _ (by with_reducible first | exact h1.out | exact h2.out | exact h6.out) _).mono ?_; rintro e w3 ⟨rfl, rfl⟩)
    | (go_at_call 53; refine (Rid_any _ _ (by with_reducible first | exact h3.out | exact h4.out | exact h5.out) _).mono ?_; rintro e w3 ⟨rfl, rfl⟩))
  go_ret
  exact ⟨congrArg (fun b => Ending.returned (.bool b)) H7.out, (x0.trans hW).trans hy⟩
set_option maxRecDepth 100000 in
set_option maxHeartbeats 4000000 in
theorem RvalidCall_f0 (c : Cal) (w : World) (k1 : ¬ c.kind < 1) (k2 : ¬ 13 < c.kind) (HN : Hid ((!(c.used.eqb (Cal.ofKind c.kind))) = false)) (hk : (c.kind == 3) = false) (hsl : c.s.length ≤ 2147483648)
    (hq : ∀ v, Hid (Calls Tryz.prog 52 #[.agg c.sess.toArray] v fun e w' => e = .returned (.bool false) ∧ Ext v w')) :
    Calls Tryz.prog 33 #[.agg c.cells.toArray] w fun e w' => e = .returned (.bool false) ∧ Ext w w' := by
  obtain ⟨fs26, hu26⟩ := und26
  obtain ⟨W0, hW0⟩ : ∃ W0, W0 = w.alloc (.cells c.cells.toArray 28) := ⟨_, rfl⟩
  have hb0 : W0.heap[w.heap.size]? = some (.cells c.cells.toArray 28) := by rw [hW0]; exact alloc_new _ _
  have x0 : Ext w W0 := by rw [hW0]; exact Ext.alloc _ _
  have hkd : ∀ k : XW W0, k.val.cell? ⟨w.heap.size, 0, none⟩ = some (.int .i64 c.kind) := fun k => k.cell (by rw [Lib.cell_of_heap hb0]; rfl)
  obtain ⟨A0, hA0⟩ : ∃ A0, A0 = c.cells.toArray := ⟨_, rfl⟩
  obtain ⟨A1, hA1⟩ : ∃ A1, A1 = c.used.cells.toArray := ⟨_, rfl⟩
  obtain ⟨A2, hA2⟩ : ∃ A2, A2 = (Cal.ofKind c.kind).cells.toArray := ⟨_, rfl⟩
  have HU := fun v => Lib.hid (RusedCall_any c v)
  rw [← hA0, ← hA1] at HU
  have hl : ∀ k : XW W0, (Instr.loadAt 28 (.pointer (some ⟨w.heap.size, 0, none⟩))).run Tryz.prog k.val = .ok (.agg A0) k.val := fun k => by
    rw [hA0]
    exact load28c ((k.ext.block _ (lt_of_block hb0)).trans hb0)
  have hbd : ∀ v : World, (Instr.build 28 #[(0, .int .i64 c.kind)]).run Tryz.prog v = .ok (.agg A2) v := fun v => by rw [hA2]; exact run_b28 c.kind v
  have H1 := Lib.hid hA1
  have H2 := Lib.hid hA2
  clear hA0 hA1 hA2
  have d1 : decide (c.kind < 1) = false := decide_eq_false k1
  have d2 : decide (13 < c.kind) = false := decide_eq_false k2
  rw [Cal.cells_eq] at hW0 ⊢
  have HW := Lib.hid hW0
  clear hW0
  go_enter Tryz.func33, Tryz.ntmps33
  go_upto_region 1 with fail
  rw [← HW.out]
  clear HW
  refine wp_region_xw mixedOrd (by kernel_rfl) ?_
  iterate 9 go_big_quiet_step (fail)
  refine wpQuiet_xw rfl (fun k => exec_ld rfl rfl (hl k)) ?_
  go_frame
  go_big_quiet_step (first | (go_at_call 51; exact Calls.xw (HU _).out))
  iterate 2 go_big_quiet_step (fail)
  refine wpQuiet_xw rfl (fun k => exec_bd1 rfl rfl (hbd _)) ?_
  go_frame
  refine wpQuiet_xw rfl (fun k => exec_nqA (r := false) rfl rfl rfl H1.out H2.out HN.out) ?_
  go_frame
  go_big_quiet_step (fail)
  refine wpQuiet_nil ?_
  rintro _ ⟨⟨W, hW⟩, rfl⟩
  have hC := (hW.block _ (lt_of_block hb0)).trans hb0
  clear HU hl hbd hkd hb0
  go_wp2_with (first
    | refine wpList_load_mid rfl 26 _ rfl _ 8 rfl c.sess _ (cal_sess hC) hu26 rfl inf26 ?_
    | (go_at_call 52; refine (hq _).out.mono ?_; rintro e w2 ⟨rfl, hy⟩; have hC2 := (hy.block _ (lt_of_block hC)).trans hC; obtain ⟨e0, e1, e2, e3, e4, e5, e6, e7⟩ := cal_eight hC2))
  go_ret
  exact ⟨rfl, (x0.trans hW).trans hy⟩
set_option maxRecDepth 100000 in
set_option maxHeartbeats 4000000 in
theorem RvalidCall_f1 (c : Cal) (w : World) (k1 : ¬ c.kind < 1) (k2 : ¬ 13 < c.kind) (HN : Hid ((!(c.used.eqb (Cal.ofKind c.kind))) = false)) (hk : (c.kind == 3) = false) (hsl : c.s.length ≤ 2147483648)
    (hq : ∀ v, Hid (Calls Tryz.prog 52 #[.agg c.sess.toArray] v fun e w' => e = .returned (.bool true) ∧ Ext v w')) (h1 : Hid ((decide (0 ≤ c.loc) && decide (c.loc ≤ 65535)) = false)) :
    Calls Tryz.prog 33 #[.agg c.cells.toArray] w fun e w' => e = .returned (.bool false) ∧ Ext w w' := by
  obtain ⟨fs26, hu26⟩ := und26
  obtain ⟨W0, hW0⟩ : ∃ W0, W0 = w.alloc (.cells c.cells.toArray 28) := ⟨_, rfl⟩
  have hb0 : W0.heap[w.heap.size]? = some (.cells c.cells.toArray 28) := by rw [hW0]; exact alloc_new _ _
  have x0 : Ext w W0 := by rw [hW0]; exact Ext.alloc _ _
  have hkd : ∀ k : XW W0, k.val.cell? ⟨w.heap.size, 0, none⟩ = some (.int .i64 c.kind) := fun k => k.cell (by rw [Lib.cell_of_heap hb0]; rfl)
  obtain ⟨A0, hA0⟩ : ∃ A0, A0 = c.cells.toArray := ⟨_, rfl⟩
  obtain ⟨A1, hA1⟩ : ∃ A1, A1 = c.used.cells.toArray := ⟨_, rfl⟩
  obtain ⟨A2, hA2⟩ : ∃ A2, A2 = (Cal.ofKind c.kind).cells.toArray := ⟨_, rfl⟩
  have HU := fun v => Lib.hid (RusedCall_any c v)
  rw [← hA0, ← hA1] at HU
  have hl : ∀ k : XW W0, (Instr.loadAt 28 (.pointer (some ⟨w.heap.size, 0, none⟩))).run Tryz.prog k.val = .ok (.agg A0) k.val := fun k => by
    rw [hA0]
    exact load28c ((k.ext.block _ (lt_of_block hb0)).trans hb0)
  have hbd : ∀ v : World, (Instr.build 28 #[(0, .int .i64 c.kind)]).run Tryz.prog v = .ok (.agg A2) v := fun v => by rw [hA2]; exact run_b28 c.kind v
  have H1 := Lib.hid hA1
  have H2 := Lib.hid hA2
  clear hA0 hA1 hA2
  have d1 : decide (c.kind < 1) = false := decide_eq_false k1
  have d2 : decide (13 < c.kind) = false := decide_eq_false k2
  rw [Cal.cells_eq] at hW0 ⊢
  have HW := Lib.hid hW0
  clear hW0
  go_enter Tryz.func33, Tryz.ntmps33
  go_upto_region 1 with fail
  rw [← HW.out]
  clear HW
  refine wp_region_xw mixedOrd (by kernel_rfl) ?_
  iterate 9 go_big_quiet_step (fail)
  refine wpQuiet_xw rfl (fun k => exec_ld rfl rfl (hl k)) ?_
  go_frame
  go_big_quiet_step (first | (go_at_call 51; exact Calls.xw (HU _).out))
  iterate 2 go_big_quiet_step (fail)
  refine wpQuiet_xw rfl (fun k => exec_bd1 rfl rfl (hbd _)) ?_
  go_frame
  refine wpQuiet_xw rfl (fun k => exec_nqA (r := false) rfl rfl rfl H1.out H2.out HN.out) ?_
  go_frame
  go_big_quiet_step (fail)
  refine wpQuiet_nil ?_
  rintro _ ⟨⟨W, hW⟩, rfl⟩
  have hC := (hW.block _ (lt_of_block hb0)).trans hb0
  clear HU hl hbd hkd hb0
  go_wp2_with (first
    | refine wpList_load_mid rfl 26 _ rfl _ 8 rfl c.sess _ (cal_sess hC) hu26 rfl inf26 ?_
    | (go_at_call 52; refine (hq _).out.mono ?_; rintro e w2 ⟨rfl, hy⟩; have hC2 := (hy.block _ (lt_of_block hC)).trans hC; obtain ⟨e0, e1, e2, e3, e4, e5, e6, e7⟩ := cal_eight hC2)
    | (go_at_call 34; refine (Rwithin_any _ _ _ (by with_reducible first | exact h1.out) _).mono ?_; rintro e w3 ⟨rfl, rfl⟩))
  go_ret
  exact ⟨rfl, (x0.trans hW).trans hy⟩
set_option maxRecDepth 100000 in
set_option maxHeartbeats 4000000 in
theorem RvalidCall_f2 (c : Cal) (w : World) (k1 : ¬ c.kind < 1) (k2 : ¬ 13 < c.kind) (HN : Hid ((!(c.used.eqb (Cal.ofKind c.kind))) = false)) (hk : (c.kind == 3) = false) (hsl : c.s.length ≤ 2147483648)
    (hq : ∀ v, Hid (Calls Tryz.prog 52 #[.agg c.sess.toArray] v fun e w' => e = .returned (.bool true) ∧ Ext v w')) (h1 : Hid ((decide (0 ≤ c.loc) && decide (c.loc ≤ 65535)) = true)) (h2 : Hid ((decide (0 ≤ c.rem) && decide (c.rem ≤ 65535)) = false)) :
    Calls Tryz.prog 33 #[.agg c.cells.toArray] w fun e w' => e = .returned (.bool false) ∧ Ext w w' := by
  obtain ⟨fs26, hu26⟩ := und26
  obtain ⟨W0, hW0⟩ : ∃ W0, W0 = w.alloc (.cells c.cells.toArray 28) := ⟨_, rfl⟩
  have hb0 : W0.heap[w.heap.size]? = some (.cells c.cells.toArray 28) := by rw [hW0]; exact alloc_new _ _
  have x0 : Ext w W0 := by rw [hW0]; exact Ext.alloc _ _
  have hkd : ∀ k : XW W0, k.val.cell? ⟨w.heap.size, 0, none⟩ = some (.int .i64 c.kind) := fun k => k.cell (by rw [Lib.cell_of_heap hb0]; rfl)
  obtain ⟨A0, hA0⟩ : ∃ A0, A0 = c.cells.toArray := ⟨_, rfl⟩
  obtain ⟨A1, hA1⟩ : ∃ A1, A1 = c.used.cells.toArray := ⟨_, rfl⟩
  obtain ⟨A2, hA2⟩ : ∃ A2, A2 = (Cal.ofKind c.kind).cells.toArray := ⟨_, rfl⟩
  have HU := fun v => Lib.hid (RusedCall_any c v)
  rw [← hA0, ← hA1] at HU
  have hl : ∀ k : XW W0, (Instr.loadAt 28 (.pointer (some ⟨w.heap.size, 0, none⟩))).run Tryz.prog k.val = .ok (.agg A0) k.val := fun k => by
    rw [hA0]
    exact load28c ((k.ext.block _ (lt_of_block hb0)).trans hb0)
  have hbd : ∀ v : World, (Instr.build 28 #[(0, .int .i64 c.kind)]).run Tryz.prog v = .ok (.agg A2) v := fun v => by rw [hA2]; exact run_b28 c.kind v
  have H1 := Lib.hid hA1
  have H2 := Lib.hid hA2
  clear hA0 hA1 hA2
  have d1 : decide (c.kind < 1) = false := decide_eq_false k1
  have d2 : decide (13 < c.kind) = false := decide_eq_false k2
  rw [Cal.cells_eq] at hW0 ⊢
  have HW := Lib.hid hW0
  clear hW0
  go_enter Tryz.func33, Tryz.ntmps33
  go_upto_region 1 with fail
  rw [← HW.out]
  clear HW
  refine wp_region_xw mixedOrd (by kernel_rfl) ?_
  iterate 9 go_big_quiet_step (fail)
  refine wpQuiet_xw rfl (fun k => exec_ld rfl rfl (hl k)) ?_
  go_frame
  go_big_quiet_step (first | (go_at_call 51; exact Calls.xw (HU _).out))
  iterate 2 go_big_quiet_step (fail)
  refine wpQuiet_xw rfl (fun k => exec_bd1 rfl rfl (hbd _)) ?_
  go_frame
  refine wpQuiet_xw rfl (fun k => exec_nqA (r := false) rfl rfl rfl H1.out H2.out HN.out) ?_
  go_frame
  go_big_quiet_step (fail)
  refine wpQuiet_nil ?_
  rintro _ ⟨⟨W, hW⟩, rfl⟩
  have hC := (hW.block _ (lt_of_block hb0)).trans hb0
  clear HU hl hbd hkd hb0
  go_wp2_with (first
    | refine wpList_load_mid rfl 26 _ rfl _ 8 rfl c.sess _ (cal_sess hC) hu26 rfl inf26 ?_
    | (go_at_call 52; refine (hq _).out.mono ?_; rintro e w2 ⟨rfl, hy⟩; have hC2 := (hy.block _ (lt_of_block hC)).trans hC; obtain ⟨e0, e1, e2, e3, e4, e5, e6, e7⟩ := cal_eight hC2)
    | (go_at_call 34; refine (Rwithin_any _ _ _ (by with_reducible first | exact h1.out | exact h2.out) _).mono ?_; rintro e w3 ⟨rfl, rfl⟩))
  go_ret
  exact ⟨rfl, (x0.trans hW).trans hy⟩
set_option maxRecDepth 100000 in
set_option maxHeartbeats 4000000 in
theorem RvalidCall_f3 (c : Cal) (w : World) (k1 : ¬ c.kind < 1) (k2 : ¬ 13 < c.kind) (HN : Hid ((!(c.used.eqb (Cal.ofKind c.kind))) = false)) (hk : (c.kind == 3) = false) (hsl : c.s.length ≤ 2147483648)
    (hq : ∀ v, Hid (Calls Tryz.prog 52 #[.agg c.sess.toArray] v fun e w' => e = .returned (.bool true) ∧ Ext v w')) (h1 : Hid ((decide (0 ≤ c.loc) && decide (c.loc ≤ 65535)) = true)) (h2 : Hid ((decide (0 ≤ c.rem) && decide (c.rem ≤ 65535)) = true)) (h3 : Hid ((decide (0 ≤ c.conn) && decide (c.conn ≤ 1073741823)) = false)) :
    Calls Tryz.prog 33 #[.agg c.cells.toArray] w fun e w' => e = .returned (.bool false) ∧ Ext w w' := by
  obtain ⟨fs26, hu26⟩ := und26
  obtain ⟨W0, hW0⟩ : ∃ W0, W0 = w.alloc (.cells c.cells.toArray 28) := ⟨_, rfl⟩
  have hb0 : W0.heap[w.heap.size]? = some (.cells c.cells.toArray 28) := by rw [hW0]; exact alloc_new _ _
  have x0 : Ext w W0 := by rw [hW0]; exact Ext.alloc _ _
  have hkd : ∀ k : XW W0, k.val.cell? ⟨w.heap.size, 0, none⟩ = some (.int .i64 c.kind) := fun k => k.cell (by rw [Lib.cell_of_heap hb0]; rfl)
  obtain ⟨A0, hA0⟩ : ∃ A0, A0 = c.cells.toArray := ⟨_, rfl⟩
  obtain ⟨A1, hA1⟩ : ∃ A1, A1 = c.used.cells.toArray := ⟨_, rfl⟩
  obtain ⟨A2, hA2⟩ : ∃ A2, A2 = (Cal.ofKind c.kind).cells.toArray := ⟨_, rfl⟩
  have HU := fun v => Lib.hid (RusedCall_any c v)
  rw [← hA0, ← hA1] at HU
  have hl : ∀ k : XW W0, (Instr.loadAt 28 (.pointer (some ⟨w.heap.size, 0, none⟩))).run Tryz.prog k.val = .ok (.agg A0) k.val := fun k => by
    rw [hA0]
    exact load28c ((k.ext.block _ (lt_of_block hb0)).trans hb0)
  have hbd : ∀ v : World, (Instr.build 28 #[(0, .int .i64 c.kind)]).run Tryz.prog v = .ok (.agg A2) v := fun v => by rw [hA2]; exact run_b28 c.kind v
  have H1 := Lib.hid hA1
  have H2 := Lib.hid hA2
  clear hA0 hA1 hA2
  have d1 : decide (c.kind < 1) = false := decide_eq_false k1
  have d2 : decide (13 < c.kind) = false := decide_eq_false k2
  rw [Cal.cells_eq] at hW0 ⊢
  have HW := Lib.hid hW0
  clear hW0
  go_enter Tryz.func33, Tryz.ntmps33
  go_upto_region 1 with fail
  rw [← HW.out]
  clear HW
  refine wp_region_xw mixedOrd (by kernel_rfl) ?_
  iterate 9 go_big_quiet_step (fail)
  refine wpQuiet_xw rfl (fun k => exec_ld rfl rfl (hl k)) ?_
  go_frame
  go_big_quiet_step (first | (go_at_call 51; exact Calls.xw (HU _).out))
  iterate 2 go_big_quiet_step (fail)
  refine wpQuiet_xw rfl (fun k => exec_bd1 rfl rfl (hbd _)) ?_
  go_frame
  refine wpQuiet_xw rfl (fun k => exec_nqA (r := false) rfl rfl rfl H1.out H2.out HN.out) ?_
  go_frame
  go_big_quiet_step (fail)
  refine wpQuiet_nil ?_
  rintro _ ⟨⟨W, hW⟩, rfl⟩
  have hC := (hW.block _ (lt_of_block hb0)).trans hb0
  clear HU hl hbd hkd hb0
  go_wp2_with (first
    | refine wpList_load_mid rfl 26 _ rfl _ 8 rfl c.sess _ (cal_sess hC) hu26 rfl inf26 ?_
    | (go_at_call 52; refine (hq _).out.mono ?_; rintro e w2 ⟨rfl, hy⟩; have hC2 := (hy.block _ (lt_of_block hC)).trans hC; obtain ⟨e0, e1, e2, e3, e4, e5, e6, e7⟩ := cal_eight hC2)
    | (go_at_call 34; refine (Rwithin_any _ _ _ (by with_reducible first | exact h1.out | exact h2.out) _).mono ?_; rintro e w3 ⟨rfl, rfl⟩)
    | (go_at_call 53; refine (Rid_any _ _ (by with_reducible first | exact h3.out) _).mono ?_; rintro e w3 ⟨rfl, rfl⟩))
  go_ret
  exact ⟨rfl, (x0.trans hW).trans hy⟩
set_option maxRecDepth 100000 in
set_option maxHeartbeats 4000000 in
theorem RvalidCall_f4 (c : Cal) (w : World) (k1 : ¬ c.kind < 1) (k2 : ¬ 13 < c.kind) (HN : Hid ((!(c.used.eqb (Cal.ofKind c.kind))) = false)) (hk : (c.kind == 3) = false) (hsl : c.s.length ≤ 2147483648)
    (hq : ∀ v, Hid (Calls Tryz.prog 52 #[.agg c.sess.toArray] v fun e w' => e = .returned (.bool true) ∧ Ext v w')) (h1 : Hid ((decide (0 ≤ c.loc) && decide (c.loc ≤ 65535)) = true)) (h2 : Hid ((decide (0 ≤ c.rem) && decide (c.rem ≤ 65535)) = true)) (h3 : Hid ((decide (0 ≤ c.conn) && decide (c.conn ≤ 1073741823)) = true)) (h4 : Hid ((decide (0 ≤ c.stream) && decide (c.stream ≤ 1073741823)) = false)) :
    Calls Tryz.prog 33 #[.agg c.cells.toArray] w fun e w' => e = .returned (.bool false) ∧ Ext w w' := by
  obtain ⟨fs26, hu26⟩ := und26
  obtain ⟨W0, hW0⟩ : ∃ W0, W0 = w.alloc (.cells c.cells.toArray 28) := ⟨_, rfl⟩
  have hb0 : W0.heap[w.heap.size]? = some (.cells c.cells.toArray 28) := by rw [hW0]; exact alloc_new _ _
  have x0 : Ext w W0 := by rw [hW0]; exact Ext.alloc _ _
  have hkd : ∀ k : XW W0, k.val.cell? ⟨w.heap.size, 0, none⟩ = some (.int .i64 c.kind) := fun k => k.cell (by rw [Lib.cell_of_heap hb0]; rfl)
  obtain ⟨A0, hA0⟩ : ∃ A0, A0 = c.cells.toArray := ⟨_, rfl⟩
  obtain ⟨A1, hA1⟩ : ∃ A1, A1 = c.used.cells.toArray := ⟨_, rfl⟩
  obtain ⟨A2, hA2⟩ : ∃ A2, A2 = (Cal.ofKind c.kind).cells.toArray := ⟨_, rfl⟩
  have HU := fun v => Lib.hid (RusedCall_any c v)
  rw [← hA0, ← hA1] at HU
  have hl : ∀ k : XW W0, (Instr.loadAt 28 (.pointer (some ⟨w.heap.size, 0, none⟩))).run Tryz.prog k.val = .ok (.agg A0) k.val := fun k => by
    rw [hA0]
    exact load28c ((k.ext.block _ (lt_of_block hb0)).trans hb0)
  have hbd : ∀ v : World, (Instr.build 28 #[(0, .int .i64 c.kind)]).run Tryz.prog v = .ok (.agg A2) v := fun v => by rw [hA2]; exact run_b28 c.kind v
  have H1 := Lib.hid hA1
  have H2 := Lib.hid hA2
  clear hA0 hA1 hA2
  have d1 : decide (c.kind < 1) = false := decide_eq_false k1
  have d2 : decide (13 < c.kind) = false := decide_eq_false k2
  rw [Cal.cells_eq] at hW0 ⊢
  have HW := Lib.hid hW0
  clear hW0
  go_enter Tryz.func33, Tryz.ntmps33
  go_upto_region 1 with fail
  rw [← HW.out]
  clear HW
  refine wp_region_xw mixedOrd (by kernel_rfl) ?_
  iterate 9 go_big_quiet_step (fail)
  refine wpQuiet_xw rfl (fun k => exec_ld rfl rfl (hl k)) ?_
  go_frame
  go_big_quiet_step (first | (go_at_call 51; exact Calls.xw (HU _).out))
  iterate 2 go_big_quiet_step (fail)
  refine wpQuiet_xw rfl (fun k => exec_bd1 rfl rfl (hbd _)) ?_
  go_frame
  refine wpQuiet_xw rfl (fun k => exec_nqA (r := false) rfl rfl rfl H1.out H2.out HN.out) ?_
  go_frame
  go_big_quiet_step (fail)
  refine wpQuiet_nil ?_
  rintro _ ⟨⟨W, hW⟩, rfl⟩
  have hC := (hW.block _ (lt_of_block hb0)).trans hb0
  clear HU hl hbd hkd hb0
  go_wp2_with (first
    | refine wpList_load_mid rfl 26 _ rfl _ 8 rfl c.sess _ (cal_sess hC) hu26 rfl inf26 ?_
    | (go_at_call 52; refine (hq _).out.mono ?_; rintro e w2 ⟨rfl, hy⟩; have hC2 := (hy.block _ (lt_of_block hC)).trans hC; obtain ⟨e0, e1, e2, e3, e4, e5, e6, e7⟩ := cal_eight hC2)
    | (go_at_call 34; refine (Rwithin_any _ _ _ (by with_reducible first | exact h1.out | exact h2.out) _).mono ?_; rintro e w3 ⟨rfl, rfl⟩)
    | (go_at_call 53; refine (Rid_any _ _ (by with_reducible first | exact h3.out | exact h4.out) _).mono ?_; rintro e w3 ⟨rfl, rfl⟩))
  go_ret
  exact ⟨rfl, (x0.trans hW).trans hy⟩
set_option maxRecDepth 100000 in
set_option maxHeartbeats 4000000 in
theorem RvalidCall_f5 (c : Cal) (w : World) (k1 : ¬ c.kind < 1) (k2 : ¬ 13 < c.kind) (HN : Hid ((!(c.used.eqb (Cal.ofKind c.kind))) = false)) (hk : (c.kind == 3) = false) (hsl : c.s.length ≤ 2147483648)
    (hq : ∀ v, Hid (Calls Tryz.prog 52 #[.agg c.sess.toArray] v fun e w' => e = .returned (.bool true) ∧ Ext v w')) (h1 : Hid ((decide (0 ≤ c.loc) && decide (c.loc ≤ 65535)) = true)) (h2 : Hid ((decide (0 ≤ c.rem) && decide (c.rem ≤ 65535)) = true)) (h3 : Hid ((decide (0 ≤ c.conn) && decide (c.conn ≤ 1073741823)) = true)) (h4 : Hid ((decide (0 ≤ c.stream) && decide (c.stream ≤ 1073741823)) = true)) (h5 : Hid ((decide (0 ≤ c.code) && decide (c.code ≤ 1073741823)) = false)) :
    Calls Tryz.prog 33 #[.agg c.cells.toArray] w fun e w' => e = .returned (.bool false) ∧ Ext w w' := by
  obtain ⟨fs26, hu26⟩ := und26
  obtain ⟨W0, hW0⟩ : ∃ W0, W0 = w.alloc (.cells c.cells.toArray 28) := ⟨_, rfl⟩
  have hb0 : W0.heap[w.heap.size]? = some (.cells c.cells.toArray 28) := by rw [hW0]; exact alloc_new _ _
  have x0 : Ext w W0 := by rw [hW0]; exact Ext.alloc _ _
  have hkd : ∀ k : XW W0, k.val.cell? ⟨w.heap.size, 0, none⟩ = some (.int .i64 c.kind) := fun k => k.cell (by rw [Lib.cell_of_heap hb0]; rfl)
  obtain ⟨A0, hA0⟩ : ∃ A0, A0 = c.cells.toArray := ⟨_, rfl⟩
  obtain ⟨A1, hA1⟩ : ∃ A1, A1 = c.used.cells.toArray := ⟨_, rfl⟩
  obtain ⟨A2, hA2⟩ : ∃ A2, A2 = (Cal.ofKind c.kind).cells.toArray := ⟨_, rfl⟩
  have HU := fun v => Lib.hid (RusedCall_any c v)
  rw [← hA0, ← hA1] at HU
  have hl : ∀ k : XW W0, (Instr.loadAt 28 (.pointer (some ⟨w.heap.size, 0, none⟩))).run Tryz.prog k.val = .ok (.agg A0) k.val := fun k => by
    rw [hA0]
    exact load28c ((k.ext.block _ (lt_of_block hb0)).trans hb0)
  have hbd : ∀ v : World, (Instr.build 28 #[(0, .int .i64 c.kind)]).run Tryz.prog v = .ok (.agg A2) v := fun v => by rw [hA2]; exact run_b28 c.kind v
  have H1 := Lib.hid hA1
  have H2 := Lib.hid hA2
  clear hA0 hA1 hA2
  have d1 : decide (c.kind < 1) = false := decide_eq_false k1
  have d2 : decide (13 < c.kind) = false := decide_eq_false k2
  rw [Cal.cells_eq] at hW0 ⊢
  have HW := Lib.hid hW0
  clear hW0
  go_enter Tryz.func33, Tryz.ntmps33
  go_upto_region 1 with fail
  rw [← HW.out]
  clear HW
  refine wp_region_xw mixedOrd (by kernel_rfl) ?_
  iterate 9 go_big_quiet_step (fail)
  refine wpQuiet_xw rfl (fun k => exec_ld rfl rfl (hl k)) ?_
  go_frame
  go_big_quiet_step (first | (go_at_call 51; exact Calls.xw (HU _).out))
  iterate 2 go_big_quiet_step (fail)
  refine wpQuiet_xw rfl (fun k => exec_bd1 rfl rfl (hbd _)) ?_
  go_frame
  refine wpQuiet_xw rfl (fun k => exec_nqA (r := false) rfl rfl rfl H1.out H2.out HN.out) ?_
  go_frame
  go_big_quiet_step (fail)
  refine wpQuiet_nil ?_
  rintro _ ⟨⟨W, hW⟩, rfl⟩
  have hC := (hW.block _ (lt_of_block hb0)).trans hb0
  clear HU hl hbd hkd hb0
  go_wp2_with (first
    | refine wpList_load_mid rfl 26 _ rfl _ 8 rfl c.sess _ (cal_sess hC) hu26 rfl inf26 ?_
    | (go_at_call 52; refine (hq _).out.mono ?_; rintro e w2 ⟨rfl, hy⟩; have hC2 := (hy.block _ (lt_of_block hC)).trans hC; obtain ⟨e0, e1, e2, e3, e4, e5, e6, e7⟩ := cal_eight hC2)
    | (go_at_call 34; refine (Rwithin_any _ _ _ (by with_reducible first | exact h1.out | exact h2.out) _).mono ?_; rintro e w3 ⟨rfl, rfl⟩)
    | (go_at_call 53; refine (Rid_any _ _ (by with_reducible first | exact h3.out | exact h4.out | exact h5.out) _).mono ?_; rintro e w3 ⟨rfl, rfl⟩))
  go_ret
  exact ⟨rfl, (x0.trans hW).trans hy⟩
set_option maxRecDepth 100000 in
set_option maxHeartbeats 4000000 in
theorem RvalidCall_f6 (c : Cal) (w : World) (k1 : ¬ c.kind < 1) (k2 : ¬ 13 < c.kind) (HN : Hid ((!(c.used.eqb (Cal.ofKind c.kind))) = false)) (hk : (c.kind == 3) = false) (hsl : c.s.length ≤ 2147483648)
    (hq : ∀ v, Hid (Calls Tryz.prog 52 #[.agg c.sess.toArray] v fun e w' => e = .returned (.bool true) ∧ Ext v w')) (h1 : Hid ((decide (0 ≤ c.loc) && decide (c.loc ≤ 65535)) = true)) (h2 : Hid ((decide (0 ≤ c.rem) && decide (c.rem ≤ 65535)) = true)) (h3 : Hid ((decide (0 ≤ c.conn) && decide (c.conn ≤ 1073741823)) = true)) (h4 : Hid ((decide (0 ≤ c.stream) && decide (c.stream ≤ 1073741823)) = true)) (h5 : Hid ((decide (0 ≤ c.code) && decide (c.code ≤ 1073741823)) = true)) (h6 : Hid ((decide (0 ≤ c.n) && decide (c.n ≤ 1073741823)) = false)) :
    Calls Tryz.prog 33 #[.agg c.cells.toArray] w fun e w' => e = .returned (.bool false) ∧ Ext w w' := by
  obtain ⟨fs26, hu26⟩ := und26
  obtain ⟨W0, hW0⟩ : ∃ W0, W0 = w.alloc (.cells c.cells.toArray 28) := ⟨_, rfl⟩
  have hb0 : W0.heap[w.heap.size]? = some (.cells c.cells.toArray 28) := by rw [hW0]; exact alloc_new _ _
  have x0 : Ext w W0 := by rw [hW0]; exact Ext.alloc _ _
  have hkd : ∀ k : XW W0, k.val.cell? ⟨w.heap.size, 0, none⟩ = some (.int .i64 c.kind) := fun k => k.cell (by rw [Lib.cell_of_heap hb0]; rfl)
  obtain ⟨A0, hA0⟩ : ∃ A0, A0 = c.cells.toArray := ⟨_, rfl⟩
  obtain ⟨A1, hA1⟩ : ∃ A1, A1 = c.used.cells.toArray := ⟨_, rfl⟩
  obtain ⟨A2, hA2⟩ : ∃ A2, A2 = (Cal.ofKind c.kind).cells.toArray := ⟨_, rfl⟩
  have HU := fun v => Lib.hid (RusedCall_any c v)
  rw [← hA0, ← hA1] at HU
  have hl : ∀ k : XW W0, (Instr.loadAt 28 (.pointer (some ⟨w.heap.size, 0, none⟩))).run Tryz.prog k.val = .ok (.agg A0) k.val := fun k => by
    rw [hA0]
    exact load28c ((k.ext.block _ (lt_of_block hb0)).trans hb0)
  have hbd : ∀ v : World, (Instr.build 28 #[(0, .int .i64 c.kind)]).run Tryz.prog v = .ok (.agg A2) v := fun v => by rw [hA2]; exact run_b28 c.kind v
  have H1 := Lib.hid hA1
  have H2 := Lib.hid hA2
  clear hA0 hA1 hA2
  have d1 : decide (c.kind < 1) = false := decide_eq_false k1
  have d2 : decide (13 < c.kind) = false := decide_eq_false k2
  rw [Cal.cells_eq] at hW0 ⊢
  have HW := Lib.hid hW0
  clear hW0
  go_enter Tryz.func33, Tryz.ntmps33
  go_upto_region 1 with fail
  rw [← HW.out]
  clear HW
  refine wp_region_xw mixedOrd (by kernel_rfl) ?_
  iterate 9 go_big_quiet_step (fail)
  refine wpQuiet_xw rfl (fun k => exec_ld rfl rfl (hl k)) ?_
  go_frame
  go_big_quiet_step (first | (go_at_call 51; exact Calls.xw (HU _).out))
  iterate 2 go_big_quiet_step (fail)
  refine wpQuiet_xw rfl (fun k => exec_bd1 rfl rfl (hbd _)) ?_
  go_frame
  refine wpQuiet_xw rfl (fun k => exec_nqA (r := false) rfl rfl rfl H1.out H2.out HN.out) ?_
  go_frame
  go_big_quiet_step (fail)
  refine wpQuiet_nil ?_
  rintro _ ⟨⟨W, hW⟩, rfl⟩
  have hC := (hW.block _ (lt_of_block hb0)).trans hb0
  clear HU hl hbd hkd hb0
  go_wp2_with (first
    | refine wpList_load_mid rfl 26 _ rfl _ 8 rfl c.sess _ (cal_sess hC) hu26 rfl inf26 ?_
    | (go_at_call 52; refine (hq _).out.mono ?_; rintro e w2 ⟨rfl, hy⟩; have hC2 := (hy.block _ (lt_of_block hC)).trans hC; obtain ⟨e0, e1, e2, e3, e4, e5, e6, e7⟩ := cal_eight hC2)
    | (go_at_call 34; refine (Rwithin_any _ _ _ (by with_reducible first | exact h1.out | exact h2.out | exact h6.out) _).mono ?_; rintro e w3 ⟨rfl, rfl⟩)
    | (go_at_call 53; refine (Rid_any _ _ (by with_reducible first | exact h3.out | exact h4.out | exact h5.out) _).mono ?_; rintro e w3 ⟨rfl, rfl⟩))
  go_ret
  exact ⟨rfl, (x0.trans hW).trans hy⟩
set_option maxRecDepth 100000 in
set_option maxHeartbeats 4000000 in
theorem RvalidCall_f7 (c : Cal) (w : World) (k1 : ¬ c.kind < 1) (k2 : ¬ 13 < c.kind) (HN : Hid ((!(c.used.eqb (Cal.ofKind c.kind))) = false)) (hk : (c.kind == 3) = false) (hsl : c.s.length ≤ 2147483648)
    (hq : ∀ v, Hid (Calls Tryz.prog 52 #[.agg c.sess.toArray] v fun e w' => e = .returned (.bool true) ∧ Ext v w')) (h1 : Hid ((decide (0 ≤ c.loc) && decide (c.loc ≤ 65535)) = true)) (h2 : Hid ((decide (0 ≤ c.rem) && decide (c.rem ≤ 65535)) = true)) (h3 : Hid ((decide (0 ≤ c.conn) && decide (c.conn ≤ 1073741823)) = true)) (h4 : Hid ((decide (0 ≤ c.stream) && decide (c.stream ≤ 1073741823)) = true)) (h5 : Hid ((decide (0 ≤ c.code) && decide (c.code ≤ 1073741823)) = true)) (h6 : Hid ((decide (0 ≤ c.n) && decide (c.n ≤ 1073741823)) = true)) (h7 : ¬ c.s.length ≤ 2000) :
    Calls Tryz.prog 33 #[.agg c.cells.toArray] w fun e w' => e = .returned (.bool false) ∧ Ext w w' := by
  obtain ⟨fs26, hu26⟩ := und26
  have H7 : Hid (decide ((c.s.length : Int) ≤ 2000) = false) := by
    unfold Hid
    simp
    omega
  obtain ⟨W0, hW0⟩ : ∃ W0, W0 = w.alloc (.cells c.cells.toArray 28) := ⟨_, rfl⟩
  have hb0 : W0.heap[w.heap.size]? = some (.cells c.cells.toArray 28) := by rw [hW0]; exact alloc_new _ _
  have x0 : Ext w W0 := by rw [hW0]; exact Ext.alloc _ _
  have hkd : ∀ k : XW W0, k.val.cell? ⟨w.heap.size, 0, none⟩ = some (.int .i64 c.kind) := fun k => k.cell (by rw [Lib.cell_of_heap hb0]; rfl)
  obtain ⟨A0, hA0⟩ : ∃ A0, A0 = c.cells.toArray := ⟨_, rfl⟩
  obtain ⟨A1, hA1⟩ : ∃ A1, A1 = c.used.cells.toArray := ⟨_, rfl⟩
  obtain ⟨A2, hA2⟩ : ∃ A2, A2 = (Cal.ofKind c.kind).cells.toArray := ⟨_, rfl⟩
  have HU := fun v => Lib.hid (RusedCall_any c v)
  rw [← hA0, ← hA1] at HU
  have hl : ∀ k : XW W0, (Instr.loadAt 28 (.pointer (some ⟨w.heap.size, 0, none⟩))).run Tryz.prog k.val = .ok (.agg A0) k.val := fun k => by
    rw [hA0]
    exact load28c ((k.ext.block _ (lt_of_block hb0)).trans hb0)
  have hbd : ∀ v : World, (Instr.build 28 #[(0, .int .i64 c.kind)]).run Tryz.prog v = .ok (.agg A2) v := fun v => by rw [hA2]; exact run_b28 c.kind v
  have H1 := Lib.hid hA1
  have H2 := Lib.hid hA2
  clear hA0 hA1 hA2
  have d1 : decide (c.kind < 1) = false := decide_eq_false k1
  have d2 : decide (13 < c.kind) = false := decide_eq_false k2
  rw [Cal.cells_eq] at hW0 ⊢
  have HW := Lib.hid hW0
  clear hW0
  go_enter Tryz.func33, Tryz.ntmps33
  go_upto_region 1 with fail
  rw [← HW.out]
  clear HW
  refine wp_region_xw mixedOrd (by kernel_rfl) ?_
  iterate 9 go_big_quiet_step (fail)
  refine wpQuiet_xw rfl (fun k => exec_ld rfl rfl (hl k)) ?_
  go_frame
  go_big_quiet_step (first | (go_at_call 51; exact Calls.xw (HU _).out))
  iterate 2 go_big_quiet_step (fail)
  refine wpQuiet_xw rfl (fun k => exec_bd1 rfl rfl (hbd _)) ?_
  go_frame
  refine wpQuiet_xw rfl (fun k => exec_nqA (r := false) rfl rfl rfl H1.out H2.out HN.out) ?_
  go_frame
  go_big_quiet_step (fail)
  refine wpQuiet_nil ?_
  rintro _ ⟨⟨W, hW⟩, rfl⟩
  have hC := (hW.block _ (lt_of_block hb0)).trans hb0
  clear HU hl hbd hkd hb0
  go_wp2_with (first
    | refine wpList_load_mid rfl 26 _ rfl _ 8 rfl c.sess _ (cal_sess hC) hu26 rfl inf26 ?_
    | (go_at_call 52; refine (hq _).out.mono ?_; rintro e w2 ⟨rfl, hy⟩; have hC2 := (hy.block _ (lt_of_block hC)).trans hC; obtain ⟨e0, e1, e2, e3, e4, e5, e6, e7⟩ := cal_eight hC2)
    | (go_at_call 34; refine (Rwithin_any _ _ _ (by with_reducible first | exact h1.out | exact h2.out | exact h6.out) _).mono ?_; rintro e w3 ⟨rfl, rfl⟩)
    | (go_at_call 53; refine (Rid_any _ _ (by with_reducible first | exact h3.out | exact h4.out | exact h5.out) _).mono ?_; rintro e w3 ⟨rfl, rfl⟩))
  go_ret
  exact ⟨congrArg (fun b => Ending.returned (.bool b)) H7.out, (x0.trans hW).trans hy⟩
set_option maxRecDepth 100000 in
set_option maxHeartbeats 4000000 in
theorem RvalidCall_f8 (c : Cal) (w : World) (k1 : ¬ c.kind < 1) (k2 : ¬ 13 < c.kind) (HN : Hid ((!(c.used.eqb (Cal.ofKind c.kind))) = false)) (hk : (c.kind == 3) = false) (hsl : c.s.length ≤ 2147483648)
    (hq : ∀ v, Hid (Calls Tryz.prog 52 #[.agg c.sess.toArray] v fun e w' => e = .returned (.bool true) ∧ Ext v w')) (h1 : Hid ((decide (0 ≤ c.loc) && decide (c.loc ≤ 65535)) = true)) (h2 : Hid ((decide (0 ≤ c.rem) && decide (c.rem ≤ 65535)) = true)) (h3 : Hid ((decide (0 ≤ c.conn) && decide (c.conn ≤ 1073741823)) = true)) (h4 : Hid ((decide (0 ≤ c.stream) && decide (c.stream ≤ 1073741823)) = true)) (h5 : Hid ((decide (0 ≤ c.code) && decide (c.code ≤ 1073741823)) = true)) (h6 : Hid ((decide (0 ≤ c.n) && decide (c.n ≤ 1073741823)) = true)) (h7 : c.s.length ≤ 2000) :
    Calls Tryz.prog 33 #[.agg c.cells.toArray] w fun e w' => e = .returned (.bool true) ∧ Ext w w' := by
  obtain ⟨fs26, hu26⟩ := und26
  have H7 : Hid (decide ((c.s.length : Int) ≤ 2000) = true) := by
    unfold Hid
    simp
    omega
  obtain ⟨W0, hW0⟩ : ∃ W0, W0 = w.alloc (.cells c.cells.toArray 28) := ⟨_, rfl⟩
  have hb0 : W0.heap[w.heap.size]? = some (.cells c.cells.toArray 28) := by rw [hW0]; exact alloc_new _ _
  have x0 : Ext w W0 := by rw [hW0]; exact Ext.alloc _ _
  have hkd : ∀ k : XW W0, k.val.cell? ⟨w.heap.size, 0, none⟩ = some (.int .i64 c.kind) := fun k => k.cell (by rw [Lib.cell_of_heap hb0]; rfl)
  obtain ⟨A0, hA0⟩ : ∃ A0, A0 = c.cells.toArray := ⟨_, rfl⟩
  obtain ⟨A1, hA1⟩ : ∃ A1, A1 = c.used.cells.toArray := ⟨_, rfl⟩
  obtain ⟨A2, hA2⟩ : ∃ A2, A2 = (Cal.ofKind c.kind).cells.toArray := ⟨_, rfl⟩
  have HU := fun v => Lib.hid (RusedCall_any c v)
  rw [← hA0, ← hA1] at HU
  have hl : ∀ k : XW W0, (Instr.loadAt 28 (.pointer (some ⟨w.heap.size, 0, none⟩))).run Tryz.prog k.val = .ok (.agg A0) k.val := fun k => by
    rw [hA0]
    exact load28c ((k.ext.block _ (lt_of_block hb0)).trans hb0)
  have hbd : ∀ v : World, (Instr.build 28 #[(0, .int .i64 c.kind)]).run Tryz.prog v = .ok (.agg A2) v := fun v => by rw [hA2]; exact run_b28 c.kind v
  have H1 := Lib.hid hA1
  have H2 := Lib.hid hA2
  clear hA0 hA1 hA2
  have d1 : decide (c.kind < 1) = false := decide_eq_false k1
  have d2 : decide (13 < c.kind) = false := decide_eq_false k2
  rw [Cal.cells_eq] at hW0 ⊢
  have HW := Lib.hid hW0
  clear hW0
  go_enter Tryz.func33, Tryz.ntmps33
  go_upto_region 1 with fail
  rw [← HW.out]
  clear HW
  refine wp_region_xw mixedOrd (by kernel_rfl) ?_
  iterate 9 go_big_quiet_step (fail)
  refine wpQuiet_xw rfl (fun k => exec_ld rfl rfl (hl k)) ?_
  go_frame
  go_big_quiet_step (first | (go_at_call 51; exact Calls.xw (HU _).out))
  iterate 2 go_big_quiet_step (fail)
  refine wpQuiet_xw rfl (fun k => exec_bd1 rfl rfl (hbd _)) ?_
  go_frame
  refine wpQuiet_xw rfl (fun k => exec_nqA (r := false) rfl rfl rfl H1.out H2.out HN.out) ?_
  go_frame
  go_big_quiet_step (fail)
  refine wpQuiet_nil ?_
  rintro _ ⟨⟨W, hW⟩, rfl⟩
  have hC := (hW.block _ (lt_of_block hb0)).trans hb0
  clear HU hl hbd hkd hb0
  go_wp2_with (first
    | refine wpList_load_mid rfl 26 _ rfl _ 8 rfl c.sess _ (cal_sess hC) hu26 rfl inf26 ?_
    | (go_at_call 52; refine (hq _).out.mono ?_; rintro e w2 ⟨rfl, hy⟩; have hC2 := (hy.block _ (lt_of_block hC)).trans hC; obtain ⟨e0, e1, e2, e3, e4, e5, e6, e7⟩ := cal_eight hC2)
    | (go_at_call 34; refine (Rwithin_any _ _ _ (by with_reducible first | exact h1.out | exact h2.out | exact h6.out) _).mono ?_; rintro e w3 ⟨rfl, rfl⟩)
    | (go_at_call 53; refine (Rid_any _ _ (by with_reducible first | exact h3.out | exact h4.out | exact h5.out) _).mono ?_; rintro e w3 ⟨rfl, rfl⟩))
  go_ret
  exact ⟨congrArg (fun b => Ending.returned (.bool b)) H7.out, (x0.trans hW).trans hy⟩
theorem RvalidCall_any (c : Cal) (w : World) (hfit : CalFit c) : Calls Tryz.prog 33 #[.agg c.cells.toArray] w fun e w' => e = .returned (.bool c.rok) ∧ Ext w w' := by
  have hsl : c.s.length ≤ 2147483648 := by
    have := hfit.strs 4 rfl
    simpa [Cal.getS] using this
  have HQ := fun v => Rsession_any c v hfit
  by_cases k1 : c.kind < 1
  · have e : c.rok = false := by unfold Cal.rok; rw [decide_eq_true k1]; rfl
    rw [e]
    exact RvalidCall_n1 c w k1
  by_cases k2 : 13 < c.kind
  · have e : c.rok = false := by unfold Cal.rok; rw [decide_eq_false k1, decide_eq_true k2]; rfl
    rw [e]
    exact RvalidCall_n2 c w k1 k2
  cases hr : (!(c.used.eqb (Cal.ofKind c.kind))) with
  | true =>
    have e : c.rok = false := by unfold Cal.rok; rw [decide_eq_false k1, decide_eq_false k2, hr]; rfl
    rw [e]
    exact RvalidCall_n3 c w k1 k2 (Lib.hid hr)
  | false =>
  have e : c.rok = (c.sessOk && (inW c.loc 65535 && (inW c.rem 65535 && (inW c.conn 1073741823 && (inW c.stream 1073741823 && (inW c.code 1073741823 && (inW c.n (if c.kind = 3 then 1 else 1073741823) && decide (c.s.length ≤ 2000)))))))) := by unfold Cal.rok; rw [decide_eq_false k1, decide_eq_false k2, hr]; rfl
  rw [e]
  have HN := Lib.hid hr
  by_cases hk : c.kind = 3
  · rw [if_pos hk]
    have hk' : (c.kind == 3) = true := beq_iff_eq.2 hk
    cases e0 : c.sessOk with
    | false => rw [e0] at HQ; exact RvalidCall_t0 c w k1 k2 HN hk' hsl (fun v => Lib.hid (HQ v))
    | true =>
    rw [e0] at HQ
    cases e1 : inW c.loc 65535 with
    | false => exact RvalidCall_t1 c w k1 k2 HN hk' hsl (fun v => Lib.hid (HQ v)) (Lib.hid e1)
    | true =>
    cases e2 : inW c.rem 65535 with
    | false => exact RvalidCall_t2 c w k1 k2 HN hk' hsl (fun v => Lib.hid (HQ v)) (Lib.hid e1) (Lib.hid e2)
    | true =>
    cases e3 : inW c.conn 1073741823 with
    | false => exact RvalidCall_t3 c w k1 k2 HN hk' hsl (fun v => Lib.hid (HQ v)) (Lib.hid e1) (Lib.hid e2) (Lib.hid e3)
    | true =>
    cases e4 : inW c.stream 1073741823 with
    | false => exact RvalidCall_t4 c w k1 k2 HN hk' hsl (fun v => Lib.hid (HQ v)) (Lib.hid e1) (Lib.hid e2) (Lib.hid e3) (Lib.hid e4)
    | true =>
    cases e5 : inW c.code 1073741823 with
    | false => exact RvalidCall_t5 c w k1 k2 HN hk' hsl (fun v => Lib.hid (HQ v)) (Lib.hid e1) (Lib.hid e2) (Lib.hid e3) (Lib.hid e4) (Lib.hid e5)
    | true =>
    cases e6 : inW c.n 1 with
    | false => exact RvalidCall_t6 c w k1 k2 HN hk' hsl (fun v => Lib.hid (HQ v)) (Lib.hid e1) (Lib.hid e2) (Lib.hid e3) (Lib.hid e4) (Lib.hid e5) (Lib.hid e6)
    | true =>
    by_cases e7 : c.s.length ≤ 2000
    · rw [decide_eq_true e7]; exact RvalidCall_t8 c w k1 k2 HN hk' hsl (fun v => Lib.hid (HQ v)) (Lib.hid e1) (Lib.hid e2) (Lib.hid e3) (Lib.hid e4) (Lib.hid e5) (Lib.hid e6) e7
    · rw [decide_eq_false e7]; exact RvalidCall_t7 c w k1 k2 HN hk' hsl (fun v => Lib.hid (HQ v)) (Lib.hid e1) (Lib.hid e2) (Lib.hid e3) (Lib.hid e4) (Lib.hid e5) (Lib.hid e6) e7
  · rw [if_neg hk]
    have hk' : (c.kind == 3) = false := beq_eq_false_iff_ne.2 hk
    cases e0 : c.sessOk with
    | false => rw [e0] at HQ; exact RvalidCall_f0 c w k1 k2 HN hk' hsl (fun v => Lib.hid (HQ v))
    | true =>
    rw [e0] at HQ
    cases e1 : inW c.loc 65535 with
    | false => exact RvalidCall_f1 c w k1 k2 HN hk' hsl (fun v => Lib.hid (HQ v)) (Lib.hid e1)
    | true =>
    cases e2 : inW c.rem 65535 with
    | false => exact RvalidCall_f2 c w k1 k2 HN hk' hsl (fun v => Lib.hid (HQ v)) (Lib.hid e1) (Lib.hid e2)
    | true =>
    cases e3 : inW c.conn 1073741823 with
    | false => exact RvalidCall_f3 c w k1 k2 HN hk' hsl (fun v => Lib.hid (HQ v)) (Lib.hid e1) (Lib.hid e2) (Lib.hid e3)
    | true =>
    cases e4 : inW c.stream 1073741823 with
    | false => exact RvalidCall_f4 c w k1 k2 HN hk' hsl (fun v => Lib.hid (HQ v)) (Lib.hid e1) (Lib.hid e2) (Lib.hid e3) (Lib.hid e4)
    | true =>
    cases e5 : inW c.code 1073741823 with
    | false => exact RvalidCall_f5 c w k1 k2 HN hk' hsl (fun v => Lib.hid (HQ v)) (Lib.hid e1) (Lib.hid e2) (Lib.hid e3) (Lib.hid e4) (Lib.hid e5)
    | true =>
    cases e6 : inW c.n 1073741823 with
    | false => exact RvalidCall_f6 c w k1 k2 HN hk' hsl (fun v => Lib.hid (HQ v)) (Lib.hid e1) (Lib.hid e2) (Lib.hid e3) (Lib.hid e4) (Lib.hid e5) (Lib.hid e6)
    | true =>
    by_cases e7 : c.s.length ≤ 2000
    · rw [decide_eq_true e7]; exact RvalidCall_f8 c w k1 k2 HN hk' hsl (fun v => Lib.hid (HQ v)) (Lib.hid e1) (Lib.hid e2) (Lib.hid e3) (Lib.hid e4) (Lib.hid e5) (Lib.hid e6) e7
    · rw [decide_eq_false e7]; exact RvalidCall_f7 c w k1 k2 HN hk' hsl (fun v => Lib.hid (HQ v)) (Lib.hid e1) (Lib.hid e2) (Lib.hid e3) (Lib.hid e4) (Lib.hid e5) (Lib.hid e6) e7
end Go.Proofs.YtikmoledbiepoaaGreatDoor
/- The reference's Valid (printed by wip/gen_rvalid.py). -/
namespace Go.Proofs.YtikmoledbiepoaaGreatDoor
open Go.RowKit
set_option linter.unusedSimpArgs false
set_option linter.unusedVariables false
theorem run_b33k (k : Int) (w : World) : (Instr.build 33 #[(0, .int .i64 k)]).run Tryz.prog w = .ok (.agg ((Ac.none k).cells (.slice none 0 0)).toArray) w := by kernel_rfl
def usedV (a : Ac) (fv : Value) : Value := if a.kind = 3 then .slice none 0 0 else fv
theorem used_det (a : Ac) (s1 : Option Addr) (n1 c1 : Nat) (w : World) : Calls Tryz.prog 32 #[.agg (a.cells (.slice s1 n1 c1)).toArray] w fun e w' => e = .returned (.agg (a.used.cells (usedV a (.slice s1 n1 c1))).toArray) ∧ Ext w w' := by
  unfold usedV
  by_cases h3 : a.kind = 3
  · rw [if_pos h3]
    exact Rused_3 a s1 n1 c1 w h3
  · rw [if_neg h3]
    by_cases h1 : a.kind = 1
    · exact Rused_1 a s1 n1 c1 w h1
    · by_cases h2 : a.kind = 2
      · exact Rused_2 a s1 n1 c1 w h2
      · by_cases h4 : a.kind = 4
        · exact Rused_4 a s1 n1 c1 w h4
        · exact Rused_0 a s1 n1 c1 w h1 h2 h3 h4
theorem used_fates {a : Ac} {fv : Value} {w : World} (h : FatesAt w fv a.fates) : FatesAt w (usedV a fv) a.used.fates := by
  unfold usedV Ac.used
  by_cases h3 : a.kind = 3
  · simp [h3]
    exact FatesAt.nil _
  · by_cases h1 : a.kind = 1
    · simp [h1]; exact h
    · by_cases h2 : a.kind = 2
      · simp [h2]; exact h
      · by_cases h4 : a.kind = 4
        · simp [h4]; exact h
        · simp [h1, h2, h3, h4]; exact h
theorem rok_false {a : Ac} (h : a.used.eqb (Ac.none a.kind) = false) : a.rok = false := by unfold Ac.rok; rw [h]; rfl
theorem rok_rest {a : Ac} (h : a.used.eqb (Ac.none a.kind) = true) : a.rok = (if a.kind = 1 then a.call.rok && inR a.side 1 else if a.kind = 2 then decide (1 ≤ a.n) && decide (a.n ≤ 2000)
     else if a.kind = 3 then (a.fates.all fun x => inR x 25) && decide (a.fates.length ≤ 64)
     else if a.kind = 4 then inR a.fr 65535 && inR a.tgt 65535 && decide (a.dat.length ≤ 1024) else false) := by unfold Ac.rok; rw [h, Bool.true_and]
/-- The world behind the first test. -/
def VPost (a : Ac) (fv : Value) (w : World) (r : Bool) (s : Value) (W : World) : Prop := s = .bool r ∧ W.heap[w.heap.size]? = some (.cells (a.cells fv).toArray 33) ∧ Ext w W
set_option maxRecDepth 100000 in
set_option maxHeartbeats 4000000 in
theorem rvalid_no (a : Ac) (s1 : Option Addr) (n1 : Nat) (w : World) (hA : FatesAt w (.slice s1 a.fates.length n1) a.fates) (hr : a.used.eqb (Ac.none a.kind) = false) : Calls Tryz.prog 18 #[.agg (a.cells (.slice s1 a.fates.length n1)).toArray] w fun e w' => e = .returned (.bool a.rok) ∧ Ext w w' := by
  have HR := Lib.hid (rok_false hr)
  obtain ⟨W0, hW0⟩ : ∃ W0, W0 = w.alloc (.cells (a.cells (.slice s1 a.fates.length n1)).toArray 33) := ⟨_, rfl⟩
  have hb0 : W0.heap[w.heap.size]? = some (.cells (a.cells (.slice s1 a.fates.length n1)).toArray 33) := by rw [hW0]; exact alloc_new _ _
  have x0 : Ext w W0 := by rw [hW0]; exact Ext.alloc _ _
  have hF1 := fun k : XW W0 => Lib.hid (used_fates (hA.ext (x0.trans k.ext)))
  have hF2 := fun k : XW W0 => Lib.hid (FatesAt.nil k.val)
  have HUD := fun v => Lib.hid (used_det a s1 a.fates.length n1 v)
  have HSM := fun (k : XW W0) => Lib.hid (Rsame_any a.used (Ac.none a.kind) (usedV a (.slice s1 a.fates.length n1)) (.slice none 0 0) k.val (hF1 k).out (hF2 k).out)
  rw [hr] at HSM
  obtain ⟨A0, hA0⟩ : ∃ A0, A0 = (a.cells (.slice s1 a.fates.length n1)).toArray := ⟨_, rfl⟩
  obtain ⟨A1, hA1⟩ : ∃ A1, A1 = (a.used.cells (usedV a (.slice s1 a.fates.length n1))).toArray := ⟨_, rfl⟩
  obtain ⟨A2, hA2⟩ : ∃ A2, A2 = ((Ac.none a.kind).cells (.slice none 0 0)).toArray := ⟨_, rfl⟩
  rw [← hA1, ← hA0] at HUD
  rw [← hA1, ← hA2] at HSM
  have hl : ∀ k : XW W0, (Instr.loadAt 33 (.pointer (some ⟨w.heap.size, 0, none⟩))).run Tryz.prog k.val = .ok (.agg A0) k.val := fun k => by
    rw [hA0]
    exact load33m (fun j v hv => by rw [Lib.cell_of_heap ((k.ext.block _ (lt_of_block hb0)).trans hb0), Nat.zero_add]; simpa using hv)
  have hbd : ∀ v : World, (Instr.build 33 #[(0, .int .i64 a.kind)]).run Tryz.prog v = .ok (.agg A2) v := fun v => by rw [hA2]; exact run_b33k a.kind v
  have hkd : ∀ k : XW W0, k.val.cell? ⟨w.heap.size, 0, none⟩ = some (.int .i64 a.kind) := fun k => k.cell (by rw [Lib.cell_of_heap hb0]; rfl)
  clear hA0 hA1 hA2 hF1 hF2
  rw [Ac.cells_eq] at hW0 ⊢
  have HW := Lib.hid hW0
  clear hW0
  go_enter Tryz.func18, Tryz.ntmps18
  go_upto_region 1 with fail
  rw [← HW.out]
  clear HW
  go_cut [11] (fun s W => VPost a (.slice s1 a.fates.length n1) w true s W)
  case first =>
    refine wp_region_xw mixedOrd (by kernel_rfl) ?_
    refine wpQuiet_xw rfl (fun k => exec_ld rfl rfl (hl k)) ?_
    go_frame
    go_big_quiet_step (first | (go_at_call 32; exact Calls.xw (HUD _).out))
    go_big_quiet_step (fail)
    go_big_quiet_step (fail)
    refine wpQuiet_xw rfl (fun k => exec_bd1 rfl rfl (hbd _)) ?_
    go_frame
    go_big_quiet_step (first | (go_at_call 20; exact Calls.xw (HSM _).out))
    go_big_quiet_step (fail)
    refine wpQuiet_nil ?_
    rintro _ ⟨⟨W, hW⟩, rfl⟩
    go_wp2_with fail
    go_meet
    exact ⟨rfl, (hW.block _ (lt_of_block hb0)).trans hb0, x0.trans hW⟩
  case rest =>
    obtain ⟨rfl, hbW, hxW⟩ := hcut
    clear HUD HSM hl hbd hkd hb0 x0
    clear hbW
    have HE : Hid (a.rok = false) := by unfold Hid; rw [HR.out]; try rfl
    go_wp2_with fail
    go_ret
    exact ⟨by rw [HE.out]; rfl, hxW⟩
set_option maxRecDepth 100000 in
set_option maxHeartbeats 4000000 in
theorem rvalid_2 (a : Ac) (s1 : Option Addr) (n1 : Nat) (w : World) (hA : FatesAt w (.slice s1 a.fates.length n1) a.fates) (hr : a.used.eqb (Ac.none a.kind) = true) (hk : a.kind = 2) : Calls Tryz.prog 18 #[.agg (a.cells (.slice s1 a.fates.length n1)).toArray] w fun e w' => e = .returned (.bool a.rok) ∧ Ext w w' := by
  have HR : Hid (a.rok = (decide (1 ≤ a.n) && decide (a.n ≤ 2000))) := by
    unfold Hid
    rw [rok_rest hr, hk]
    rfl
  have HK := Lib.hid hk
  clear hk
  obtain ⟨W0, hW0⟩ : ∃ W0, W0 = w.alloc (.cells (a.cells (.slice s1 a.fates.length n1)).toArray 33) := ⟨_, rfl⟩
  have hb0 : W0.heap[w.heap.size]? = some (.cells (a.cells (.slice s1 a.fates.length n1)).toArray 33) := by rw [hW0]; exact alloc_new _ _
  have x0 : Ext w W0 := by rw [hW0]; exact Ext.alloc _ _
  have hF1 := fun k : XW W0 => Lib.hid (used_fates (hA.ext (x0.trans k.ext)))
  have hF2 := fun k : XW W0 => Lib.hid (FatesAt.nil k.val)
  have HUD := fun v => Lib.hid (used_det a s1 a.fates.length n1 v)
  have HSM := fun (k : XW W0) => Lib.hid (Rsame_any a.used (Ac.none a.kind) (usedV a (.slice s1 a.fates.length n1)) (.slice none 0 0) k.val (hF1 k).out (hF2 k).out)
  rw [hr] at HSM
  obtain ⟨A0, hA0⟩ : ∃ A0, A0 = (a.cells (.slice s1 a.fates.length n1)).toArray := ⟨_, rfl⟩
  obtain ⟨A1, hA1⟩ : ∃ A1, A1 = (a.used.cells (usedV a (.slice s1 a.fates.length n1))).toArray := ⟨_, rfl⟩
  obtain ⟨A2, hA2⟩ : ∃ A2, A2 = ((Ac.none a.kind).cells (.slice none 0 0)).toArray := ⟨_, rfl⟩
  rw [← hA1, ← hA0] at HUD
  rw [← hA1, ← hA2] at HSM
  have hl : ∀ k : XW W0, (Instr.loadAt 33 (.pointer (some ⟨w.heap.size, 0, none⟩))).run Tryz.prog k.val = .ok (.agg A0) k.val := fun k => by
    rw [hA0]
    exact load33m (fun j v hv => by rw [Lib.cell_of_heap ((k.ext.block _ (lt_of_block hb0)).trans hb0), Nat.zero_add]; simpa using hv)
  have hbd : ∀ v : World, (Instr.build 33 #[(0, .int .i64 a.kind)]).run Tryz.prog v = .ok (.agg A2) v := fun v => by rw [hA2]; exact run_b33k a.kind v
  have hkd : ∀ k : XW W0, k.val.cell? ⟨w.heap.size, 0, none⟩ = some (.int .i64 a.kind) := fun k => k.cell (by rw [Lib.cell_of_heap hb0]; rfl)
  clear hA0 hA1 hA2 hF1 hF2
  rw [Ac.cells_eq] at hW0 ⊢
  have HW := Lib.hid hW0
  clear hW0
  go_enter Tryz.func18, Tryz.ntmps18
  go_upto_region 1 with fail
  rw [← HW.out]
  clear HW
  go_cut [11] (fun s W => VPost a (.slice s1 a.fates.length n1) w false s W)
  case first =>
    refine wp_region_xw mixedOrd (by kernel_rfl) ?_
    refine wpQuiet_xw rfl (fun k => exec_ld rfl rfl (hl k)) ?_
    go_frame
    go_big_quiet_step (first | (go_at_call 32; exact Calls.xw (HUD _).out))
    go_big_quiet_step (fail)
    go_big_quiet_step (fail)
    refine wpQuiet_xw rfl (fun k => exec_bd1 rfl rfl (hbd _)) ?_
    go_frame
    go_big_quiet_step (first | (go_at_call 20; exact Calls.xw (HSM _).out))
    go_big_quiet_step (fail)
    refine wpQuiet_nil ?_
    rintro _ ⟨⟨W, hW⟩, rfl⟩
    go_wp2_with fail
    go_meet
    exact ⟨rfl, (hW.block _ (lt_of_block hb0)).trans hb0, x0.trans hW⟩
  case rest =>
    obtain ⟨rfl, hbW, hxW⟩ := hcut
    clear HUD HSM hl hbd hkd hb0 x0
    have e0 : wc.cell? ⟨w.heap.size, 0, none⟩ = some (.int .i64 2) := by rw [Lib.cell_of_heap hbW, ← HK.out]; rfl
    have e1 : wc.cell? ⟨w.heap.size, 18, none⟩ = some (.int .i64 a.n) := by rw [Lib.cell_of_heap hbW]; rfl
    clear hbW
    by_cases h1 : 1 ≤ a.n
    · by_cases h2 : a.n ≤ 2000
      · have HE : Hid (a.rok = true) := by unfold Hid; rw [HR.out, decide_eq_true h1, decide_eq_true h2]; try rfl
        go_wp2_with fail
        go_ret
        exact ⟨by rw [HE.out]; rfl, hxW⟩
      · have HE : Hid (a.rok = false) := by unfold Hid; rw [HR.out, decide_eq_false h2, Bool.and_false]; try rfl
        go_wp2_with fail
        go_ret
        exact ⟨by rw [HE.out]; rfl, hxW⟩
    · have HE : Hid (a.rok = false) := by unfold Hid; rw [HR.out, decide_eq_false h1, Bool.false_and]; try rfl
      go_wp2_with fail
      go_ret
      exact ⟨by rw [HE.out]; rfl, hxW⟩
set_option maxRecDepth 100000 in
set_option maxHeartbeats 4000000 in
theorem rvalid_1 (a : Ac) (s1 : Option Addr) (n1 : Nat) (w : World) (hA : FatesAt w (.slice s1 a.fates.length n1) a.fates) (hfit : AcFit a) (hr : a.used.eqb (Ac.none a.kind) = true) (hk : a.kind = 1) : Calls Tryz.prog 18 #[.agg (a.cells (.slice s1 a.fates.length n1)).toArray] w fun e w' => e = .returned (.bool a.rok) ∧ Ext w w' := by
  have HR : Hid (a.rok = (a.call.rok && inR a.side 1)) := by
    unfold Hid
    rw [rok_rest hr, hk]
    rfl
  have HK := Lib.hid hk
  clear hk
  obtain ⟨W0, hW0⟩ : ∃ W0, W0 = w.alloc (.cells (a.cells (.slice s1 a.fates.length n1)).toArray 33) := ⟨_, rfl⟩
  have hb0 : W0.heap[w.heap.size]? = some (.cells (a.cells (.slice s1 a.fates.length n1)).toArray 33) := by rw [hW0]; exact alloc_new _ _
  have x0 : Ext w W0 := by rw [hW0]; exact Ext.alloc _ _
  have hF1 := fun k : XW W0 => Lib.hid (used_fates (hA.ext (x0.trans k.ext)))
  have hF2 := fun k : XW W0 => Lib.hid (FatesAt.nil k.val)
  have HUD := fun v => Lib.hid (used_det a s1 a.fates.length n1 v)
  have HSM := fun (k : XW W0) => Lib.hid (Rsame_any a.used (Ac.none a.kind) (usedV a (.slice s1 a.fates.length n1)) (.slice none 0 0) k.val (hF1 k).out (hF2 k).out)
  rw [hr] at HSM
  obtain ⟨A0, hA0⟩ : ∃ A0, A0 = (a.cells (.slice s1 a.fates.length n1)).toArray := ⟨_, rfl⟩
  obtain ⟨A1, hA1⟩ : ∃ A1, A1 = (a.used.cells (usedV a (.slice s1 a.fates.length n1))).toArray := ⟨_, rfl⟩
  obtain ⟨A2, hA2⟩ : ∃ A2, A2 = ((Ac.none a.kind).cells (.slice none 0 0)).toArray := ⟨_, rfl⟩
  rw [← hA1, ← hA0] at HUD
  rw [← hA1, ← hA2] at HSM
  have hl : ∀ k : XW W0, (Instr.loadAt 33 (.pointer (some ⟨w.heap.size, 0, none⟩))).run Tryz.prog k.val = .ok (.agg A0) k.val := fun k => by
    rw [hA0]
    exact load33m (fun j v hv => by rw [Lib.cell_of_heap ((k.ext.block _ (lt_of_block hb0)).trans hb0), Nat.zero_add]; simpa using hv)
  have hbd : ∀ v : World, (Instr.build 33 #[(0, .int .i64 a.kind)]).run Tryz.prog v = .ok (.agg A2) v := fun v => by rw [hA2]; exact run_b33k a.kind v
  have hkd : ∀ k : XW W0, k.val.cell? ⟨w.heap.size, 0, none⟩ = some (.int .i64 a.kind) := fun k => k.cell (by rw [Lib.cell_of_heap hb0]; rfl)
  clear hA0 hA1 hA2 hF1 hF2
  rw [Ac.cells_eq] at hW0 ⊢
  have HW := Lib.hid hW0
  clear hW0
  go_enter Tryz.func18, Tryz.ntmps18
  go_upto_region 1 with fail
  rw [← HW.out]
  clear HW
  go_cut [11] (fun s W => VPost a (.slice s1 a.fates.length n1) w false s W)
  case first =>
    refine wp_region_xw mixedOrd (by kernel_rfl) ?_
    refine wpQuiet_xw rfl (fun k => exec_ld rfl rfl (hl k)) ?_
    go_frame
    go_big_quiet_step (first | (go_at_call 32; exact Calls.xw (HUD _).out))
    go_big_quiet_step (fail)
    go_big_quiet_step (fail)
    refine wpQuiet_xw rfl (fun k => exec_bd1 rfl rfl (hbd _)) ?_
    go_frame
    go_big_quiet_step (first | (go_at_call 20; exact Calls.xw (HSM _).out))
    go_big_quiet_step (fail)
    refine wpQuiet_nil ?_
    rintro _ ⟨⟨W, hW⟩, rfl⟩
    go_wp2_with fail
    go_meet
    exact ⟨rfl, (hW.block _ (lt_of_block hb0)).trans hb0, x0.trans hW⟩
  case rest =>
    obtain ⟨rfl, hbW, hxW⟩ := hcut
    clear HUD HSM hl hbd hkd hb0 x0
    have e0 : wc.cell? ⟨w.heap.size, 0, none⟩ = some (.int .i64 1) := by rw [Lib.cell_of_heap hbW, ← HK.out]; rfl
    have e1 : wc.cell? ⟨w.heap.size, 1, none⟩ = some (.int .i64 a.side) := by rw [Lib.cell_of_heap hbW]; rfl
    have HV := fun v => Lib.hid (RvalidCall_any a.call v hfit.call)
    cases hv : a.call.rok with
    | false =>
      rw [hv] at HV HR
      clear hv
      have HE : Hid (a.rok = false) := by unfold Hid; rw [HR.out]; try rfl
      go_wp2_with (first | (refine wpList_ld28g (by rfl) _ rfl w.heap.size 2 rfl a.call (ac_call hbW) ?_) | (go_at_call 33; refine (HV _).out.mono ?_; rintro e W2 ⟨rfl, hx2⟩))
      go_ret
      exact ⟨by rw [HE.out]; rfl, hxW.trans hx2⟩
    | true =>
      rw [hv] at HV HR
      clear hv
      obtain ⟨t, ht⟩ : ∃ t, (decide (0 ≤ a.side) && decide (a.side ≤ 1)) = t := ⟨_, rfl⟩
      have HT := Lib.hid ht
      clear ht
      have HE : Hid (a.rok = t) := by unfold Hid; rw [HR.out]; unfold inR; rw [HT.out]; try rfl
      go_wp2_with (first | (refine wpList_ld28g (by rfl) _ rfl w.heap.size 2 rfl a.call (ac_call hbW) ?_) | (go_at_call 33; refine (HV _).out.mono ?_; rintro e W2 ⟨rfl, hx2⟩; have e2 := (hx2.cell (p := ⟨w.heap.size, 1, none⟩) (cell_lt e1)).trans e1) | (go_at_call 34; refine (Rwithin_any _ _ t HT.out _).mono ?_; rintro e W3 ⟨rfl, rfl⟩))
      go_ret
      exact ⟨by rw [HE.out]; rfl, hxW.trans hx2⟩
set_option maxRecDepth 100000 in
set_option maxHeartbeats 4000000 in
theorem rvalid_4 (a : Ac) (s1 : Option Addr) (n1 : Nat) (w : World) (hA : FatesAt w (.slice s1 a.fates.length n1) a.fates) (hfit : AcFit a) (hr : a.used.eqb (Ac.none a.kind) = true) (hk : a.kind = 4) : Calls Tryz.prog 18 #[.agg (a.cells (.slice s1 a.fates.length n1)).toArray] w fun e w' => e = .returned (.bool a.rok) ∧ Ext w w' := by
  have HR : Hid (a.rok = (inR a.fr 65535 && inR a.tgt 65535 && decide (a.dat.length ≤ 1024))) := by
    unfold Hid
    rw [rok_rest hr, hk]
    rfl
  have HK := Lib.hid hk
  clear hk
  obtain ⟨W0, hW0⟩ : ∃ W0, W0 = w.alloc (.cells (a.cells (.slice s1 a.fates.length n1)).toArray 33) := ⟨_, rfl⟩
  have hb0 : W0.heap[w.heap.size]? = some (.cells (a.cells (.slice s1 a.fates.length n1)).toArray 33) := by rw [hW0]; exact alloc_new _ _
  have x0 : Ext w W0 := by rw [hW0]; exact Ext.alloc _ _
  have hF1 := fun k : XW W0 => Lib.hid (used_fates (hA.ext (x0.trans k.ext)))
  have hF2 := fun k : XW W0 => Lib.hid (FatesAt.nil k.val)
  have HUD := fun v => Lib.hid (used_det a s1 a.fates.length n1 v)
  have HSM := fun (k : XW W0) => Lib.hid (Rsame_any a.used (Ac.none a.kind) (usedV a (.slice s1 a.fates.length n1)) (.slice none 0 0) k.val (hF1 k).out (hF2 k).out)
  rw [hr] at HSM
  obtain ⟨A0, hA0⟩ : ∃ A0, A0 = (a.cells (.slice s1 a.fates.length n1)).toArray := ⟨_, rfl⟩
  obtain ⟨A1, hA1⟩ : ∃ A1, A1 = (a.used.cells (usedV a (.slice s1 a.fates.length n1))).toArray := ⟨_, rfl⟩
  obtain ⟨A2, hA2⟩ : ∃ A2, A2 = ((Ac.none a.kind).cells (.slice none 0 0)).toArray := ⟨_, rfl⟩
  rw [← hA1, ← hA0] at HUD
  rw [← hA1, ← hA2] at HSM
  have hl : ∀ k : XW W0, (Instr.loadAt 33 (.pointer (some ⟨w.heap.size, 0, none⟩))).run Tryz.prog k.val = .ok (.agg A0) k.val := fun k => by
    rw [hA0]
    exact load33m (fun j v hv => by rw [Lib.cell_of_heap ((k.ext.block _ (lt_of_block hb0)).trans hb0), Nat.zero_add]; simpa using hv)
  have hbd : ∀ v : World, (Instr.build 33 #[(0, .int .i64 a.kind)]).run Tryz.prog v = .ok (.agg A2) v := fun v => by rw [hA2]; exact run_b33k a.kind v
  have hkd : ∀ k : XW W0, k.val.cell? ⟨w.heap.size, 0, none⟩ = some (.int .i64 a.kind) := fun k => k.cell (by rw [Lib.cell_of_heap hb0]; rfl)
  clear hA0 hA1 hA2 hF1 hF2
  rw [Ac.cells_eq] at hW0 ⊢
  have HW := Lib.hid hW0
  clear hW0
  go_enter Tryz.func18, Tryz.ntmps18
  go_upto_region 1 with fail
  rw [← HW.out]
  clear HW
  go_cut [11] (fun s W => VPost a (.slice s1 a.fates.length n1) w false s W)
  case first =>
    refine wp_region_xw mixedOrd (by kernel_rfl) ?_
    refine wpQuiet_xw rfl (fun k => exec_ld rfl rfl (hl k)) ?_
    go_frame
    go_big_quiet_step (first | (go_at_call 32; exact Calls.xw (HUD _).out))
    go_big_quiet_step (fail)
    go_big_quiet_step (fail)
    refine wpQuiet_xw rfl (fun k => exec_bd1 rfl rfl (hbd _)) ?_
    go_frame
    go_big_quiet_step (first | (go_at_call 20; exact Calls.xw (HSM _).out))
    go_big_quiet_step (fail)
    refine wpQuiet_nil ?_
    rintro _ ⟨⟨W, hW⟩, rfl⟩
    go_wp2_with fail
    go_meet
    exact ⟨rfl, (hW.block _ (lt_of_block hb0)).trans hb0, x0.trans hW⟩
  case rest =>
    obtain ⟨rfl, hbW, hxW⟩ := hcut
    clear HUD HSM hl hbd hkd hb0 x0
    have e0 : wc.cell? ⟨w.heap.size, 0, none⟩ = some (.int .i64 4) := by rw [Lib.cell_of_heap hbW, ← HK.out]; rfl
    have e1 : wc.cell? ⟨w.heap.size, 20, none⟩ = some (.int .i64 a.fr) := by rw [Lib.cell_of_heap hbW]; rfl
    have e2 : wc.cell? ⟨w.heap.size, 21, none⟩ = some (.int .i64 a.tgt) := by rw [Lib.cell_of_heap hbW]; rfl
    have e3 : wc.cell? ⟨w.heap.size, 22, none⟩ = some (.string ⟨a.dat.toArray⟩) := by rw [Lib.cell_of_heap hbW]; rfl
    have hdl := hfit.dat
    clear hbW
    unfold inR at HR
    cases ht : (decide (0 ≤ a.fr) && decide (a.fr ≤ 65535)) with
    | false =>
      rw [ht] at HR
      have HT := Lib.hid ht
      clear ht
      have HE : Hid (a.rok = false) := by unfold Hid; rw [HR.out]; try rfl
      go_wp2_with (go_at_call 34; refine (Rwithin_any _ _ _ (by with_reducible first | exact HT.out) _).mono ?_; rintro e W3 ⟨rfl, rfl⟩)
      go_ret
      exact ⟨by rw [HE.out]; rfl, hxW⟩
    | true =>
    rw [ht] at HR
    have HT := Lib.hid ht
    clear ht
    cases hu : (decide (0 ≤ a.tgt) && decide (a.tgt ≤ 65535)) with
    | false =>
      rw [hu] at HR
      have HU := Lib.hid hu
      clear hu
      have HE : Hid (a.rok = false) := by unfold Hid; rw [HR.out]; try rfl
      go_wp2_with (go_at_call 34; refine (Rwithin_any _ _ _ (by with_reducible first | exact HT.out | exact HU.out) _).mono ?_; rintro e W3 ⟨rfl, rfl⟩)
      go_ret
      exact ⟨by rw [HE.out]; rfl, hxW⟩
    | true =>
    rw [hu] at HR
    have HU := Lib.hid hu
    clear hu
    have hd : decide (a.dat.length ≤ 1024) = decide ((a.dat.length : Int) ≤ 1024) := decide_eq_decide.2 (by omega)
    have HE : Hid (a.rok = decide ((a.dat.length : Int) ≤ 1024)) := by unfold Hid; rw [HR.out, hd]; try rfl
    clear hd
    go_wp2_with (go_at_call 34; refine (Rwithin_any _ _ _ (by with_reducible first | exact HT.out | exact HU.out) _).mono ?_; rintro e W3 ⟨rfl, rfl⟩)
    go_ret
    exact ⟨by rw [HE.out]; rfl, hxW⟩
set_option maxRecDepth 100000 in
set_option maxHeartbeats 4000000 in
theorem rvalid_3 (a : Ac) (s1 : Option Addr) (n1 : Nat) (w : World) (hA : FatesAt w (.slice s1 a.fates.length n1) a.fates) (hfit : AcFit a) (hr : a.used.eqb (Ac.none a.kind) = true) (hk : a.kind = 3) : Calls Tryz.prog 18 #[.agg (a.cells (.slice s1 a.fates.length n1)).toArray] w fun e w' => e = .returned (.bool a.rok) ∧ Ext w w' := by
  have HR : Hid (a.rok = ((a.fates.all fun x => inR x 25) && decide (a.fates.length ≤ 64))) := by
    unfold Hid
    rw [rok_rest hr, hk]
    rfl
  have HK := Lib.hid hk
  clear hk
  obtain ⟨W0, hW0⟩ : ∃ W0, W0 = w.alloc (.cells (a.cells (.slice s1 a.fates.length n1)).toArray 33) := ⟨_, rfl⟩
  have hb0 : W0.heap[w.heap.size]? = some (.cells (a.cells (.slice s1 a.fates.length n1)).toArray 33) := by rw [hW0]; exact alloc_new _ _
  have x0 : Ext w W0 := by rw [hW0]; exact Ext.alloc _ _
  have hF1 := fun k : XW W0 => Lib.hid (used_fates (hA.ext (x0.trans k.ext)))
  have hF2 := fun k : XW W0 => Lib.hid (FatesAt.nil k.val)
  have HUD := fun v => Lib.hid (used_det a s1 a.fates.length n1 v)
  have HSM := fun (k : XW W0) => Lib.hid (Rsame_any a.used (Ac.none a.kind) (usedV a (.slice s1 a.fates.length n1)) (.slice none 0 0) k.val (hF1 k).out (hF2 k).out)
  rw [hr] at HSM
  obtain ⟨A0, hA0⟩ : ∃ A0, A0 = (a.cells (.slice s1 a.fates.length n1)).toArray := ⟨_, rfl⟩
  obtain ⟨A1, hA1⟩ : ∃ A1, A1 = (a.used.cells (usedV a (.slice s1 a.fates.length n1))).toArray := ⟨_, rfl⟩
  obtain ⟨A2, hA2⟩ : ∃ A2, A2 = ((Ac.none a.kind).cells (.slice none 0 0)).toArray := ⟨_, rfl⟩
  rw [← hA1, ← hA0] at HUD
  rw [← hA1, ← hA2] at HSM
  have hl : ∀ k : XW W0, (Instr.loadAt 33 (.pointer (some ⟨w.heap.size, 0, none⟩))).run Tryz.prog k.val = .ok (.agg A0) k.val := fun k => by
    rw [hA0]
    exact load33m (fun j v hv => by rw [Lib.cell_of_heap ((k.ext.block _ (lt_of_block hb0)).trans hb0), Nat.zero_add]; simpa using hv)
  have hbd : ∀ v : World, (Instr.build 33 #[(0, .int .i64 a.kind)]).run Tryz.prog v = .ok (.agg A2) v := fun v => by rw [hA2]; exact run_b33k a.kind v
  have hkd : ∀ k : XW W0, k.val.cell? ⟨w.heap.size, 0, none⟩ = some (.int .i64 a.kind) := fun k => k.cell (by rw [Lib.cell_of_heap hb0]; rfl)
  clear hA0 hA1 hA2 hF1 hF2
  rw [Ac.cells_eq] at hW0 ⊢
  have HW := Lib.hid hW0
  clear hW0
  go_enter Tryz.func18, Tryz.ntmps18
  go_upto_region 1 with fail
  rw [← HW.out]
  clear HW
  go_cut [11] (fun s W => VPost a (.slice s1 a.fates.length n1) w false s W)
  case first =>
    refine wp_region_xw mixedOrd (by kernel_rfl) ?_
    refine wpQuiet_xw rfl (fun k => exec_ld rfl rfl (hl k)) ?_
    go_frame
    go_big_quiet_step (first | (go_at_call 32; exact Calls.xw (HUD _).out))
    go_big_quiet_step (fail)
    go_big_quiet_step (fail)
    refine wpQuiet_xw rfl (fun k => exec_bd1 rfl rfl (hbd _)) ?_
    go_frame
    go_big_quiet_step (first | (go_at_call 20; exact Calls.xw (HSM _).out))
    go_big_quiet_step (fail)
    refine wpQuiet_nil ?_
    rintro _ ⟨⟨W, hW⟩, rfl⟩
    go_wp2_with fail
    go_meet
    exact ⟨rfl, (hW.block _ (lt_of_block hb0)).trans hb0, x0.trans hW⟩
  case rest =>
    obtain ⟨rfl, hbW, hxW⟩ := hcut
    clear HUD HSM hl hbd hkd hb0 x0
    have e0 : wc.cell? ⟨w.heap.size, 0, none⟩ = some (.int .i64 3) := by rw [Lib.cell_of_heap hbW, ← HK.out]; rfl
    have e1 : wc.cell? ⟨w.heap.size, 19, none⟩ = some (.slice s1 a.fates.length n1) := by rw [Lib.cell_of_heap hbW]; rfl
    have hfew := hfit.few
    obtain ⟨s1', n1', he, _, _, hcell⟩ := hA
    cases he
    clear hbW
    go_wp2_with fail
    go_loopw [4] (fun i wq => ∃ j : Nat, j ≤ a.fates.length ∧ i = .int .i64 j ∧ Hid ((a.fates.take j).all (fun x => inR x 25) = true) ∧ Ext wc wq) (fun i _ => a.fates.length - (intOf i).toNat)
    case atStart => exact ⟨0, Nat.zero_le _, rfl, rfl, Ext.refl _⟩
    case round =>
      obtain ⟨j, hj, rfl, HALL, hq⟩ := hrel
      have e1q := (hq.cell (p := ⟨w.heap.size, 19, none⟩) (cell_lt e1)).trans e1
      have hxq := hxW.trans hq
      have i0 : (0 : Int) ≤ (j : Int) := by omega
      by_cases hlt : j < a.fates.length
      · have i1 : (j : Int) < (a.fates.length : Int) := by omega
        obtain ⟨b, o, rfl, hcc⟩ := hcell (by intro e; rw [e] at hlt; simp at hlt)
        obtain ⟨x, hxx⟩ : ∃ x, a.fates[j]? = some x := ⟨_, List.getElem?_eq_getElem hlt⟩
        have c2 := hcc j x hxx
        have c3 := (hxq.cell (p := ⟨b, o + j, none⟩) (cell_lt c2)).trans c2
        clear c2 hcc hcell
        cases ht : (decide (0 ≤ x) && decide (x ≤ 25)) with
        | true =>
          have HN : Hid ((a.fates.take (j + 1)).all (fun x => inR x 25) = true) := by
            unfold Hid
            rw [fates_all_snoc hxx, HALL.out]
            unfold inR
            rw [ht]
            rfl
          have HT := Lib.hid ht
          clear ht hxx
          go_wp2_with (go_at_call 34; refine (Rwithin_any _ _ _ (by with_reducible first | exact HT.out) _).mono ?_; rintro e W3 ⟨rfl, rfl⟩)
          go_roundw
          case rel => exact ⟨j + 1, by omega, by go_num, HN, hq⟩
          case measure => simp [intOf]; omega
        | false =>
          have HN : Hid ((a.fates.all fun x => inR x 25) = false) := by
            unfold Hid
            rw [List.all_eq_false]
            refine ⟨x, List.mem_of_getElem? hxx, ?_⟩
            unfold inR
            rw [ht]
            decide
          have HT := Lib.hid ht
          clear ht hxx
          have HE : Hid (a.rok = false) := by unfold Hid; rw [HR.out, HN.out]; try rfl
          go_wp2_with (go_at_call 34; refine (Rwithin_any _ _ _ (by with_reducible first | exact HT.out) _).mono ?_; rintro e W3 ⟨rfl, rfl⟩)
          go_ret
          exact ⟨by rw [HE.out]; rfl, hxq⟩
      · have i1 : ¬ (j : Int) < (a.fates.length : Int) := by omega
        have HN : Hid ((a.fates.all fun x => inR x 25) = true) := by
          have := HALL.out
          rw [List.take_of_length_le (by omega)] at this
          exact this
        clear hcell
        by_cases hd : a.fates.length ≤ 64
        · have hd' : (a.fates.length : Int) ≤ 64 := by omega
          have HE : Hid (a.rok = true) := by unfold Hid; rw [HR.out, HN.out, decide_eq_true hd]; try rfl
          go_wp2_with fail
          go_ret
          exact ⟨by rw [HE.out]; rfl, hxq⟩
        · have hd' : ¬ (a.fates.length : Int) ≤ 64 := by omega
          have HE : Hid (a.rok = false) := by unfold Hid; rw [HR.out, decide_eq_false hd, Bool.and_false]; try rfl
          go_wp2_with fail
          go_ret
          exact ⟨by rw [HE.out]; rfl, hxq⟩
set_option maxRecDepth 100000 in
set_option maxHeartbeats 4000000 in
theorem rvalid_0 (a : Ac) (s1 : Option Addr) (n1 : Nat) (w : World) (hA : FatesAt w (.slice s1 a.fates.length n1) a.fates) (hr : a.used.eqb (Ac.none a.kind) = true) (h1 : a.kind ≠ 1) (h2 : a.kind ≠ 2) (h3 : a.kind ≠ 3) (h4 : a.kind ≠ 4) : Calls Tryz.prog 18 #[.agg (a.cells (.slice s1 a.fates.length n1)).toArray] w fun e w' => e = .returned (.bool a.rok) ∧ Ext w w' := by
  have HR : Hid (a.rok = false) := by
    unfold Hid
    rw [rok_rest hr, if_neg h1, if_neg h2, if_neg h3, if_neg h4]
  have g1 : (a.kind == 1) = false := beq_eq_false_iff_ne.2 h1
  have g2 : (a.kind == 2) = false := beq_eq_false_iff_ne.2 h2
  have g3 : (a.kind == 3) = false := beq_eq_false_iff_ne.2 h3
  have g4 : (a.kind == 4) = false := beq_eq_false_iff_ne.2 h4
  clear h1 h2 h3 h4
  obtain ⟨W0, hW0⟩ : ∃ W0, W0 = w.alloc (.cells (a.cells (.slice s1 a.fates.length n1)).toArray 33) := ⟨_, rfl⟩
  have hb0 : W0.heap[w.heap.size]? = some (.cells (a.cells (.slice s1 a.fates.length n1)).toArray 33) := by rw [hW0]; exact alloc_new _ _
  have x0 : Ext w W0 := by rw [hW0]; exact Ext.alloc _ _
  have hF1 := fun k : XW W0 => Lib.hid (used_fates (hA.ext (x0.trans k.ext)))
  have hF2 := fun k : XW W0 => Lib.hid (FatesAt.nil k.val)
  have HUD := fun v => Lib.hid (used_det a s1 a.fates.length n1 v)
  have HSM := fun (k : XW W0) => Lib.hid (Rsame_any a.used (Ac.none a.kind) (usedV a (.slice s1 a.fates.length n1)) (.slice none 0 0) k.val (hF1 k).out (hF2 k).out)
  rw [hr] at HSM
  obtain ⟨A0, hA0⟩ : ∃ A0, A0 = (a.cells (.slice s1 a.fates.length n1)).toArray := ⟨_, rfl⟩
  obtain ⟨A1, hA1⟩ : ∃ A1, A1 = (a.used.cells (usedV a (.slice s1 a.fates.length n1))).toArray := ⟨_, rfl⟩
  obtain ⟨A2, hA2⟩ : ∃ A2, A2 = ((Ac.none a.kind).cells (.slice none 0 0)).toArray := ⟨_, rfl⟩
  rw [← hA1, ← hA0] at HUD
  rw [← hA1, ← hA2] at HSM
  have hl : ∀ k : XW W0, (Instr.loadAt 33 (.pointer (some ⟨w.heap.size, 0, none⟩))).run Tryz.prog k.val = .ok (.agg A0) k.val := fun k => by
    rw [hA0]
    exact load33m (fun j v hv => by rw [Lib.cell_of_heap ((k.ext.block _ (lt_of_block hb0)).trans hb0), Nat.zero_add]; simpa using hv)
  have hbd : ∀ v : World, (Instr.build 33 #[(0, .int .i64 a.kind)]).run Tryz.prog v = .ok (.agg A2) v := fun v => by rw [hA2]; exact run_b33k a.kind v
  have hkd : ∀ k : XW W0, k.val.cell? ⟨w.heap.size, 0, none⟩ = some (.int .i64 a.kind) := fun k => k.cell (by rw [Lib.cell_of_heap hb0]; rfl)
  clear hA0 hA1 hA2 hF1 hF2
  rw [Ac.cells_eq] at hW0 ⊢
  have HW := Lib.hid hW0
  clear hW0
  go_enter Tryz.func18, Tryz.ntmps18
  go_upto_region 1 with fail
  rw [← HW.out]
  clear HW
  go_cut [11] (fun s W => VPost a (.slice s1 a.fates.length n1) w false s W)
  case first =>
    refine wp_region_xw mixedOrd (by kernel_rfl) ?_
    refine wpQuiet_xw rfl (fun k => exec_ld rfl rfl (hl k)) ?_
    go_frame
    go_big_quiet_step (first | (go_at_call 32; exact Calls.xw (HUD _).out))
    go_big_quiet_step (fail)
    go_big_quiet_step (fail)
    refine wpQuiet_xw rfl (fun k => exec_bd1 rfl rfl (hbd _)) ?_
    go_frame
    go_big_quiet_step (first | (go_at_call 20; exact Calls.xw (HSM _).out))
    go_big_quiet_step (fail)
    refine wpQuiet_nil ?_
    rintro _ ⟨⟨W, hW⟩, rfl⟩
    go_wp2_with fail
    go_meet
    exact ⟨rfl, (hW.block _ (lt_of_block hb0)).trans hb0, x0.trans hW⟩
  case rest =>
    obtain ⟨rfl, hbW, hxW⟩ := hcut
    clear HUD HSM hl hbd hkd hb0 x0
    have e0 : wc.cell? ⟨w.heap.size, 0, none⟩ = some (.int .i64 a.kind) := by rw [Lib.cell_of_heap hbW]; rfl
    clear hbW
    have HE : Hid (a.rok = false) := by unfold Hid; rw [HR.out]; try rfl
    go_wp2_with fail
    go_ret
    exact ⟨by rw [HE.out]; rfl, hxW⟩
/-- Valid. -/
theorem rvalid_any (a : Ac) (fv : Value) (w : World) (hfit : AcFit a) (hA : FatesAt w fv a.fates) : Calls Tryz.prog 18 #[.agg (a.cells fv).toArray] w fun e w' => e = .returned (.bool a.line.2) ∧ Ext w w' := by
  rw [← ac_rok_line]
  obtain ⟨s1, n1, rfl, _⟩ := id hA
  cases hr : a.used.eqb (Ac.none a.kind) with
  | false => exact rvalid_no a _ _ w hA hr
  | true =>
  by_cases h1 : a.kind = 1
  · exact rvalid_1 a _ _ w hA hfit hr h1
  by_cases h2 : a.kind = 2
  · exact rvalid_2 a _ _ w hA hr h2
  by_cases h3 : a.kind = 3
  · exact rvalid_3 a _ _ w hA hfit hr h3
  by_cases h4 : a.kind = 4
  · exact rvalid_4 a _ _ w hA hfit hr h4
  exact rvalid_0 a _ _ w hA hr h1 h2 h3 h4
end Go.Proofs.YtikmoledbiepoaaGreatDoor
/- The reference's Print. -/
namespace Go.Proofs.YtikmoledbiepoaaGreatDoor
open Go.RowKit
set_option linter.unusedSimpArgs false
theorem lines_le {l : List Ac} {j M : Nat} (h : ∀ a ∈ l, a.line.1.length ≤ M) (h2 : l.length ≤ 100) : (linesOf (l.take j)).length ≤ 100 * (M + 1) := by
  have h1 := linesOf_short (l := l.take j) (M := M) fun a ha => h a (List.mem_of_mem_take ha)
  have h3 : (l.take j).length ≤ 100 := by rw [List.length_take]; omega
  exact Nat.le_trans h1 (Nat.mul_le_mul_right (M + 1) h3)
theorem okL_snoc {l : List Ac} {j : Nat} {x : Ac} (h : l[j]? = some x) : okL (l.take (j + 1)) = (okL (l.take j) && x.line.2) := by
  unfold okL
  rw [List.take_add_one, h, List.all_append]
  simp
theorem line_bound {x : Ac} (h : AcFit x) : x.line.1.length ≤ 128849019380 := by
  have := line_short (M := 4294967296) h (fun k hk => Nat.le_trans (h.call.strs k hk) (by decide)) (Nat.le_trans h.dat (by decide)) h.few
  omega
theorem printL_bad {l : List Ac} {x : Ac} (h : x ∈ l) (hx : x.line.2 = false) : printL l = ([], 290) := by
  unfold printL
  rw [if_neg]
  rintro ⟨_, h2⟩
  have := List.all_eq_true.1 h2 x h
  rw [hx] at this
  cases this
theorem printL_long {l : List Ac} (h : ¬ l.length ≤ 100) : printL l = ([], 290) := by
  unfold printL
  rw [if_neg]
  rintro ⟨h1, _⟩
  exact h h1
set_option maxRecDepth 100000 in
set_option maxHeartbeats 4000000 in
theorem rprint_any (l : List Ac) (v : Value) (w : World) (hl : ActsAt w v l) (hfit : ∀ a ∈ l, AcFit a) (hs : l.length ≤ 4294967296) :
    Calls Tryz.prog 16 #[v] w fun e w' => e = .returned (.tuple #[vS (printL l).1, .int .i64 (printL l).2]) ∧ Ext w w' := by
  obtain ⟨s1, n1, rfl, hn1, hc1⟩ := hl
  go_enter Tryz.func16, Tryz.ntmps16
  go_wp2_with fail
  go_loopw [4, 5] (fun t i wq => ∃ (j : Nat) (A : ByteArray), j ≤ l.length ∧ i = .int .i64 j ∧ t = .string A ∧ Hid (A = ⟨(linesOf (l.take j)).toArray⟩) ∧ Hid (okL (l.take j) = true ∧ (j = 0 ∨ l.length ≤ 100)) ∧ Ext w wq) (fun _ i _ => l.length - (intOf i).toNat)
  case atStart => exact ⟨0, _, Nat.zero_le _, rfl, rfl, rfl, ⟨rfl, .inl rfl⟩, Ext.refl _⟩
  case round =>
    obtain ⟨j, A, hj, rfl, rfl, HA, HO, hx⟩ := hrel
    have i0 : (0 : Int) ≤ (j : Int) := by omega
    by_cases hlt : j < l.length
    · have i1 : (j : Int) < (l.length : Int) := by omega
      obtain ⟨b1, o1, rfl, hd1⟩ := hc1 (by intro e; rw [e] at hlt; simp at hlt)
      obtain ⟨x, hxx⟩ : ∃ x, l[j]? = some x := ⟨_, List.getElem?_eq_getElem hlt⟩
      have hxm := List.mem_of_getElem? hxx
      have hxf := hfit x hxm
      obtain ⟨t1, m1, k1, r1, f1⟩ := hd1 j x hxx
      have r1' := rangeAt_ext r1 hx
      have f1' := f1.ext hx
      have HV := Lib.hid (rvalid_any x (.slice t1 m1 k1) wr hxf f1')
      obtain ⟨X, hX⟩ : ∃ X, X = (x.cells (.slice t1 m1 k1)).toArray := ⟨_, rfl⟩
      cases hv : x.line.2 with
      | false =>
        rw [hv, ← hX] at HV
        have HP := Lib.hid (printL_bad hxm hv)
        have hld := load33m r1'
        rw [← hX] at hld
        clear hX hv hxf r1 r1' f1 f1' hd1 hxx hc1
        go_wp2_with (first | refine wpList_runs 16 rfl rfl (.agg X) _ (exec_ld rfl rfl hld) ?_ | (go_at_call 18; refine HV.out.mono ?_; rintro e W ⟨rfl, hW⟩))
        go_ret2
        exact ⟨by rw [HP.out]; rfl, hx.trans hW⟩
      | true =>
        rw [hv, ← hX] at HV
        have hld := load33m r1'
        rw [← hX] at hld
        by_cases hlen : l.length ≤ 100
        · have hlen' : (l.length : Int) ≤ 100 := by omega
          have HL := fun W (hW : Ext wr W) => Lib.hid (rline_any x (.slice t1 m1 k1) W hxf (f1'.ext hW) hv)
          rw [← hX] at HL
          have hld2 := fun W (hW : Ext wr W) => load33m (rangeAt_ext r1' hW)
          rw [← hX] at hld2
          have HLD := Lib.hid hld2
          have HLL := Lib.hid HL
          have l1 := line_bound hxf
          have l2 := lines_le (j := j) (fun a ha => line_bound (hfit a ha)) hlen
          obtain ⟨S0, hS0, g0⟩ := cat_is (B := ⟨x.line.1.toArray⟩) (b := x.line.1) HA.out rfl (by omega)
          obtain ⟨S1, hS1, g1⟩ := cat_is (B := ⟨[10].toArray⟩) (b := [10]) hS0.out rfl (by simp only [List.length_append, List.length_cons, List.length_nil]; omega)
          have HS : Hid (S1 = ⟨(linesOf (l.take (j + 1))).toArray⟩) := by
            unfold Hid
            rw [hS1.out, linesOf_snoc hxx, List.append_assoc]
          have HN : Hid (okL (l.take (j + 1)) = true ∧ (j + 1 = 0 ∨ l.length ≤ 100)) := ⟨by rw [okL_snoc hxx, HO.out.1, hv]; rfl, .inr hlen⟩
          clear hX hv hxf r1 r1' f1 f1' hd1 hxx hc1 HL hld2 l1 l2 hS0 hS1 HA HO
          go_wp2_with (first
            | refine wpList_runs 16 rfl rfl (.agg X) _ (exec_ld rfl rfl hld) ?_
            | (go_at_call 18; refine HV.out.mono ?_; rintro e W ⟨rfl, hW⟩)
            | refine wpList_runs 29 rfl rfl (.agg X) _ (exec_ld rfl rfl (HLD.out _ hW)) ?_
            | (go_at_call 31; refine (HLL.out _ hW).out.mono ?_; rintro e W2 ⟨rfl, hW2⟩)
            | refine wpList_runs 31 rfl rfl (.string S0) _ (exec_bin rfl rfl rfl g0) ?_
            | refine wpList_runs 32 rfl rfl (.string S1) _ (exec_bin rfl rfl rfl g1) ?_)
          go_roundw
          case rel => exact ⟨j + 1, S1, by omega, by go_num, rfl, HS, HN, hx.trans (hW.trans hW2)⟩
          case measure => simp [intOf]; omega
        · have hlen' : ¬ (l.length : Int) ≤ 100 := by omega
          have HP := Lib.hid (printL_long hlen)
          clear hX hv hxf r1 r1' f1 f1' hd1 hxx hc1 hlen
          go_wp2_with (first
            | refine wpList_runs 16 rfl rfl (.agg X) _ (exec_ld rfl rfl hld) ?_
            | (go_at_call 18; refine HV.out.mono ?_; rintro e W ⟨rfl, hW⟩))
          go_ret2
          exact ⟨by rw [HP.out]; rfl, hx.trans hW⟩
    · have i1 : ¬ (j : Int) < (l.length : Int) := by omega
      have HP : Hid (vS (printL l).1 = .string A ∧ (printL l).2 = 0) := by
        have h1 : l.take j = l := List.take_of_length_le (by omega)
        obtain ⟨h2, h3⟩ := HO.out
        have h4 := HA.out
        rw [h1] at h2 h4
        have h5 : l.length ≤ 100 := by omega
        unfold Hid
        rw [printL_ok l h2 h5, h4]
        exact ⟨rfl, rfl⟩
      clear hc1 HA HO
      go_wp2_with fail
      go_ret2
      exact ⟨by rw [HP.out.1, HP.out.2]; rfl, hx⟩
end Go.Proofs.YtikmoledbiepoaaGreatDoor

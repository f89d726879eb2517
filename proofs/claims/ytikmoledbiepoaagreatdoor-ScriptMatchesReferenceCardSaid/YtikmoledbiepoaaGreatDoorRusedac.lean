/- The reference's used (printed by wip/gen_rusedac.py). -/
import Derived.Test.YtikmoledbiepoaaGreatDoorRused
import Derived.Test.YtikmoledbiepoaaGreatDoorRsame
import Derived.Test.YtikmoledbiepoaaGreatDoorAction
namespace Go.Proofs.YtikmoledbiepoaaGreatDoor
open Go.RowKit
/-- The world while used goes on: the action at block C, the result at block R. -/
structure UA (w0 : World) (C R : Nat) (a : Ac) (fv : Value) (W : World) : Prop where
  act : W.heap[C]? = some (.cells (a.cells fv).toArray 33)
  res : W.heap[R]? = some (.cells ((Ac.none 0).cells (.slice none 0 0)).toArray 33)
  ext : Ext w0 W
  rc : R ≠ C
  lo : w0.heap.size ≤ C
  lr : w0.heap.size ≤ R
section
variable {w0 W W' : World} {C R : Nat} {a a' : Ac} {fv fv' : Value}
theorem UA.kept (h : UA w0 C R a fv W) (hk : Kept (· = C) W W') (hc : W'.heap[C]? = some (.cells (a'.cells fv').toArray 33)) : UA w0 C R a' fv' W' :=
  ⟨hc, (hk.block _ (lt_of_block h.res) h.rc).trans h.res, h.ext.kept hk (fun k hl e => by have := h.lo; omega), h.rc, h.lo, h.lr⟩
theorem UA.cell (h : UA w0 C R a fv W) (i : Nat) (v : Value) (hs : (a.cells fv).toArray.setIfInBounds i v = (a'.cells fv').toArray) : UA w0 C R a' fv' (W.setCell ⟨C, i, none⟩ v) := by
  refine h.kept (Kept.setCell (S := (· = C)) W (p := ⟨C, i, none⟩) rfl v) ?_
  rw [heap_setCell_self h.act, hs]
end
section
variable {ops : Array Oper} {rest : List Oper} {o : Oper} {f : Act} {w w0 : World} {Q : Exit → Act → World → Prop} {C R : Nat} {a : Ac} {fv : Value}
theorem wpList_UAint (a' : Ac) (i : Nat) (hgd : o.guard = none) (x y : Operand) (ho : o.op = .store 3 x y) (hx : f.eval x = .pointer (some ⟨C, i, none⟩)) (v u : Int) (hy : f.eval y = .int .i64 v) (h0 : UA w0 C R a fv w) (hi : (a.cells fv).toArray[i]? = some (.int .i64 u))
    (hs : (a.cells fv).toArray.setIfInBounds i (.int .i64 v) = (a'.cells fv).toArray)
    (h : ∀ W, UA w0 C R a' fv W → wpList Tryz.prog ops Q rest (f.put o.dst undef) W) : wpList Tryz.prog ops Q (o :: rest) f w := by
  refine wpList_plain hgd fun K hK => ?_
  have e0 : w.cell? ⟨C, i, none⟩ = some (.int .i64 u) := by rw [Lib.cell_of_heap h0.act]; exact hi
  have e1 := Lib.frozen_of_heap h0.act i
  have h2 := hK _ _ (h _ (h0.cell i _ hs))
  unfold Oper.wp execOp
  simp only [ho, hx, hy]
  simp [go_sem, e0, e1]
  exact h2
theorem wpList_UAnil (a' : Ac) (hgd : o.guard = none) (x y : Operand) (ho : o.op = .store 29 x y) (hx : f.eval x = .pointer (some ⟨C, 19, none⟩)) (hy : f.eval y = .slice none 0 0) (s1 : Option Addr) (n1 c1 : Nat) (h0 : UA w0 C R a (.slice s1 n1 c1) w)
    (hs : (a.cells (.slice s1 n1 c1)).toArray.setIfInBounds 19 (.slice none 0 0) = (a'.cells (.slice none 0 0)).toArray)
    (h : ∀ W, UA w0 C R a' (.slice none 0 0) W → wpList Tryz.prog ops Q rest (f.put o.dst undef) W) : wpList Tryz.prog ops Q (o :: rest) f w := by
  refine wpList_plain hgd fun K hK => ?_
  have e0 : w.cell? ⟨C, 19, none⟩ = some (.slice s1 n1 c1) := by rw [Lib.cell_of_heap h0.act]; rfl
  have e1 := Lib.frozen_of_heap h0.act 19
  have h2 := hK _ _ (h _ (h0.cell 19 _ hs))
  unfold Oper.wp execOp
  simp only [ho, hx, hy]
  simp [go_sem, e0, e1]
  exact h2
theorem wpList_UAcall (hgd : o.guard = none) (x y : Operand) (ho : o.op = .store 28 x y) (hx : f.eval x = .pointer (some ⟨C, 2, none⟩)) (hy : f.eval y = .agg (Cal.ofKind 0).cells.toArray) (h0 : UA w0 C R a fv w)
    (h : ∀ W, UA w0 C R { a with call := Cal.ofKind 0 } fv W → wpList Tryz.prog ops Q rest (f.put o.dst undef) W) : wpList Tryz.prog ops Q (o :: rest) f w := by
  refine wpList_store_mid hgd 28 x y ho C 2 (Cal.ofKind 0).cells.toArray hx hy (there_of_block h0.act 2 16 (by simp [Ac.cells, Cal.cells_length])) inf28 (cal_one _) (h _ (h0.kept (Kept.setCells _ _ _) ?_))
  rw [heap_setCells_self _ _ _ _ h0.act, put_call]
theorem wpList_UAinj (hgd : o.guard = none) (x y : Operand) (ho : o.op = .store 31 x y) (hx : f.eval x = .pointer (some ⟨C, 20, none⟩)) (hy : f.eval y = .agg #[.int .i64 0, .int .i64 0, .string ⟨#[]⟩]) (h0 : UA w0 C R a fv w)
    (h : ∀ W, UA w0 C R { a with fr := 0, tgt := 0, dat := [] } fv W → wpList Tryz.prog ops Q rest (f.put o.dst undef) W) : wpList Tryz.prog ops Q (o :: rest) f w := by
  refine wpList_st31 hgd x y ho C 20 hx _ _ _ hy h0.act (by simp [Ac.cells, Cal.cells_length]) (by simp [Value.oneCell']) (h _ (h0.kept (Kept.setCells _ _ _) ?_))
  rw [heap_setCells_self _ _ _ _ h0.act]
  exact congrArg (fun q => some (Obj.cells q 33)) (put_inj a 0 0 [] fv)
end
/-- What used leaves of an action. -/
def Ac.used (a : Ac) : Ac :=
  if a.kind = 1 then { a with side := 0, call := Cal.ofKind 0 } else
  if a.kind = 2 then { a with n := 0 } else
  if a.kind = 3 then { a with fates := [] } else
  if a.kind = 4 then { a with fr := 0, tgt := 0, dat := [] } else a
set_option maxRecDepth 100000 in
set_option maxHeartbeats 2000000 in
theorem Rused_1 (a : Ac) (s1 : Option Addr) (n1 c1 : Nat) (w : World) (hk : a.kind = 1) : Calls Tryz.prog 32 #[.agg (a.cells (.slice s1 n1 c1)).toArray] w fun e w' => e = .returned (.agg (a.used.cells (.slice s1 n1 c1)).toArray) ∧ Ext w w' := by
  have HF : Hid (a.used = { a with side := 0, call := Cal.ofKind 0 }) := by
    unfold Hid Ac.used
    simp [hk]
  have HK := Lib.hid hk
  clear hk
  obtain ⟨W0, hW0⟩ : ∃ W0, W0 = (w.alloc (.cells (a.cells (.slice s1 n1 c1)).toArray 33)).alloc (.cells ((Ac.none 0).cells (.slice none 0 0)).toArray 33) := ⟨_, rfl⟩
  have hC : UA w w.heap.size (w.heap.size + 1) a (.slice s1 n1 c1) W0 := by
    subst hW0
    exact ⟨two_first _ _ _, two_second _ _ _, (Ext.alloc _ _).trans (Ext.alloc _ _), by omega, by omega, by omega⟩
  have hcc : (a.cells (.slice s1 n1 c1)).toArray = #[.int .i64 a.kind, .int .i64 a.side, .int .i64 a.call.kind, .int .i64 a.call.conn, .int .i64 a.call.stream, .int .i64 a.call.n, .string ⟨a.call.s.toArray⟩, .int .i64 a.call.code, .int .i64 a.call.loc, .int .i64 a.call.rem, .string ⟨a.call.tick.toArray⟩, .string ⟨a.call.sec.toArray⟩, .int .i64 a.call.p0, .int .i64 a.call.p1, .int .i64 a.call.p2, .int .i64 a.call.p3, .int .i64 a.call.p4, .int .i64 a.call.p5, .int .i64 a.n, .slice s1 n1 c1, .int .i64 a.fr, .int .i64 a.tgt, .string ⟨a.dat.toArray⟩] := rfl
  rw [hcc, acNone_cells] at hW0
  rw [hcc]
  clear hcc
  have HW := Lib.hid hW0
  clear hW0
  go_enter Tryz.func32, Tryz.ntmps32
  go_upto_region 1 with fail
  rw [← HW.out]
  clear HW
  have e9 : W0.cell? ⟨w.heap.size, 0, none⟩ = some (.int .i64 1) := by
    rw [Lib.cell_of_heap hC.act, ← HK.out]; rfl
  go_wp2_with (first
    | (refine wpList_UAint { a with side := 0 } 1 rfl _ _ rfl rfl _ _ rfl hC rfl rfl ?_; clear e9 hC; intro W1 hC; have e9 := True.intro)
    | (refine wpList_UAcall rfl _ _ rfl rfl rfl hC ?_; clear e9 hC; intro W1 hC; have e9 := True.intro)
    | refine wpList_load33 (by rfl) _ rfl _ rfl _ hC.act rfl ?_
    | refine wpList_store33 rfl _ _ rfl _ _ rfl rfl _ hC.res rfl rfl (Ac.one _ _ _ _) ?_)
  refine bodyPost_ret (res33 rfl _ _ (w.heap.size + 1) _ rfl (setRow_heap _ _ _ _ _ _ hC.res) rfl) rfl ⟨?_, hC.ext.setRow _ _ hC.lr⟩
  rw [HF.out]
set_option maxRecDepth 100000 in
set_option maxHeartbeats 2000000 in
theorem Rused_2 (a : Ac) (s1 : Option Addr) (n1 c1 : Nat) (w : World) (hk : a.kind = 2) : Calls Tryz.prog 32 #[.agg (a.cells (.slice s1 n1 c1)).toArray] w fun e w' => e = .returned (.agg (a.used.cells (.slice s1 n1 c1)).toArray) ∧ Ext w w' := by
  have HF : Hid (a.used = { a with n := 0 }) := by
    unfold Hid Ac.used
    simp [hk]
  have HK := Lib.hid hk
  clear hk
  obtain ⟨W0, hW0⟩ : ∃ W0, W0 = (w.alloc (.cells (a.cells (.slice s1 n1 c1)).toArray 33)).alloc (.cells ((Ac.none 0).cells (.slice none 0 0)).toArray 33) := ⟨_, rfl⟩
  have hC : UA w w.heap.size (w.heap.size + 1) a (.slice s1 n1 c1) W0 := by
    subst hW0
    exact ⟨two_first _ _ _, two_second _ _ _, (Ext.alloc _ _).trans (Ext.alloc _ _), by omega, by omega, by omega⟩
  have hcc : (a.cells (.slice s1 n1 c1)).toArray = #[.int .i64 a.kind, .int .i64 a.side, .int .i64 a.call.kind, .int .i64 a.call.conn, .int .i64 a.call.stream, .int .i64 a.call.n, .string ⟨a.call.s.toArray⟩, .int .i64 a.call.code, .int .i64 a.call.loc, .int .i64 a.call.rem, .string ⟨a.call.tick.toArray⟩, .string ⟨a.call.sec.toArray⟩, .int .i64 a.call.p0, .int .i64 a.call.p1, .int .i64 a.call.p2, .int .i64 a.call.p3, .int .i64 a.call.p4, .int .i64 a.call.p5, .int .i64 a.n, .slice s1 n1 c1, .int .i64 a.fr, .int .i64 a.tgt, .string ⟨a.dat.toArray⟩] := rfl
  rw [hcc, acNone_cells] at hW0
  rw [hcc]
  clear hcc
  have HW := Lib.hid hW0
  clear hW0
  go_enter Tryz.func32, Tryz.ntmps32
  go_upto_region 1 with fail
  rw [← HW.out]
  clear HW
  have e9 : W0.cell? ⟨w.heap.size, 0, none⟩ = some (.int .i64 2) := by
    rw [Lib.cell_of_heap hC.act, ← HK.out]; rfl
  go_wp2_with (first
    | (refine wpList_UAint { a with n := 0 } 18 rfl _ _ rfl rfl _ _ rfl hC rfl rfl ?_; clear e9 hC; intro W1 hC; have e9 := True.intro)
    | refine wpList_load33 (by rfl) _ rfl _ rfl _ hC.act rfl ?_
    | refine wpList_store33 rfl _ _ rfl _ _ rfl rfl _ hC.res rfl rfl (Ac.one _ _ _ _) ?_)
  refine bodyPost_ret (res33 rfl _ _ (w.heap.size + 1) _ rfl (setRow_heap _ _ _ _ _ _ hC.res) rfl) rfl ⟨?_, hC.ext.setRow _ _ hC.lr⟩
  rw [HF.out]
set_option maxRecDepth 100000 in
set_option maxHeartbeats 2000000 in
theorem Rused_3 (a : Ac) (s1 : Option Addr) (n1 c1 : Nat) (w : World) (hk : a.kind = 3) : Calls Tryz.prog 32 #[.agg (a.cells (.slice s1 n1 c1)).toArray] w fun e w' => e = .returned (.agg (a.used.cells (.slice none 0 0)).toArray) ∧ Ext w w' := by
  have HF : Hid (a.used = { a with fates := [] }) := by
    unfold Hid Ac.used
    simp [hk]
  have HK := Lib.hid hk
  clear hk
  obtain ⟨W0, hW0⟩ : ∃ W0, W0 = (w.alloc (.cells (a.cells (.slice s1 n1 c1)).toArray 33)).alloc (.cells ((Ac.none 0).cells (.slice none 0 0)).toArray 33) := ⟨_, rfl⟩
  have hC : UA w w.heap.size (w.heap.size + 1) a (.slice s1 n1 c1) W0 := by
    subst hW0
    exact ⟨two_first _ _ _, two_second _ _ _, (Ext.alloc _ _).trans (Ext.alloc _ _), by omega, by omega, by omega⟩
  have hcc : (a.cells (.slice s1 n1 c1)).toArray = #[.int .i64 a.kind, .int .i64 a.side, .int .i64 a.call.kind, .int .i64 a.call.conn, .int .i64 a.call.stream, .int .i64 a.call.n, .string ⟨a.call.s.toArray⟩, .int .i64 a.call.code, .int .i64 a.call.loc, .int .i64 a.call.rem, .string ⟨a.call.tick.toArray⟩, .string ⟨a.call.sec.toArray⟩, .int .i64 a.call.p0, .int .i64 a.call.p1, .int .i64 a.call.p2, .int .i64 a.call.p3, .int .i64 a.call.p4, .int .i64 a.call.p5, .int .i64 a.n, .slice s1 n1 c1, .int .i64 a.fr, .int .i64 a.tgt, .string ⟨a.dat.toArray⟩] := rfl
  rw [hcc, acNone_cells] at hW0
  rw [hcc]
  clear hcc
  have HW := Lib.hid hW0
  clear hW0
  go_enter Tryz.func32, Tryz.ntmps32
  go_upto_region 1 with fail
  rw [← HW.out]
  clear HW
  have e9 : W0.cell? ⟨w.heap.size, 0, none⟩ = some (.int .i64 3) := by
    rw [Lib.cell_of_heap hC.act, ← HK.out]; rfl
  go_wp2_with (first
    | (refine wpList_UAnil { a with fates := [] } rfl _ _ rfl rfl rfl _ _ _ hC rfl ?_; clear e9 hC; intro W1 hC; have e9 := True.intro)
    | refine wpList_load33 (by rfl) _ rfl _ rfl _ hC.act rfl ?_
    | refine wpList_store33 rfl _ _ rfl _ _ rfl rfl _ hC.res rfl rfl (Ac.one _ _ _ _) ?_)
  refine bodyPost_ret (res33 rfl _ _ (w.heap.size + 1) _ rfl (setRow_heap _ _ _ _ _ _ hC.res) rfl) rfl ⟨?_, hC.ext.setRow _ _ hC.lr⟩
  rw [HF.out]
set_option maxRecDepth 100000 in
set_option maxHeartbeats 2000000 in
theorem Rused_4 (a : Ac) (s1 : Option Addr) (n1 c1 : Nat) (w : World) (hk : a.kind = 4) : Calls Tryz.prog 32 #[.agg (a.cells (.slice s1 n1 c1)).toArray] w fun e w' => e = .returned (.agg (a.used.cells (.slice s1 n1 c1)).toArray) ∧ Ext w w' := by
  have HF : Hid (a.used = { a with fr := 0, tgt := 0, dat := [] }) := by
    unfold Hid Ac.used
    simp [hk]
  have HK := Lib.hid hk
  clear hk
  obtain ⟨W0, hW0⟩ : ∃ W0, W0 = (w.alloc (.cells (a.cells (.slice s1 n1 c1)).toArray 33)).alloc (.cells ((Ac.none 0).cells (.slice none 0 0)).toArray 33) := ⟨_, rfl⟩
  have hC : UA w w.heap.size (w.heap.size + 1) a (.slice s1 n1 c1) W0 := by
    subst hW0
    exact ⟨two_first _ _ _, two_second _ _ _, (Ext.alloc _ _).trans (Ext.alloc _ _), by omega, by omega, by omega⟩
  have hcc : (a.cells (.slice s1 n1 c1)).toArray = #[.int .i64 a.kind, .int .i64 a.side, .int .i64 a.call.kind, .int .i64 a.call.conn, .int .i64 a.call.stream, .int .i64 a.call.n, .string ⟨a.call.s.toArray⟩, .int .i64 a.call.code, .int .i64 a.call.loc, .int .i64 a.call.rem, .string ⟨a.call.tick.toArray⟩, .string ⟨a.call.sec.toArray⟩, .int .i64 a.call.p0, .int .i64 a.call.p1, .int .i64 a.call.p2, .int .i64 a.call.p3, .int .i64 a.call.p4, .int .i64 a.call.p5, .int .i64 a.n, .slice s1 n1 c1, .int .i64 a.fr, .int .i64 a.tgt, .string ⟨a.dat.toArray⟩] := rfl
  rw [hcc, acNone_cells] at hW0
  rw [hcc]
  clear hcc
  have HW := Lib.hid hW0
  clear hW0
  go_enter Tryz.func32, Tryz.ntmps32
  go_upto_region 1 with fail
  rw [← HW.out]
  clear HW
  have e9 : W0.cell? ⟨w.heap.size, 0, none⟩ = some (.int .i64 4) := by
    rw [Lib.cell_of_heap hC.act, ← HK.out]; rfl
  go_wp2_with (first
    | (refine wpList_UAinj rfl _ _ rfl rfl rfl hC ?_; clear e9 hC; intro W1 hC; have e9 := True.intro)
    | refine wpList_load33 (by rfl) _ rfl _ rfl _ hC.act rfl ?_
    | refine wpList_store33 rfl _ _ rfl _ _ rfl rfl _ hC.res rfl rfl (Ac.one _ _ _ _) ?_)
  refine bodyPost_ret (res33 rfl _ _ (w.heap.size + 1) _ rfl (setRow_heap _ _ _ _ _ _ hC.res) rfl) rfl ⟨?_, hC.ext.setRow _ _ hC.lr⟩
  rw [HF.out]
set_option maxRecDepth 100000 in
set_option maxHeartbeats 2000000 in
theorem Rused_0 (a : Ac) (s1 : Option Addr) (n1 c1 : Nat) (w : World) (h1 : a.kind ≠ 1) (h2 : a.kind ≠ 2) (h3 : a.kind ≠ 3) (h4 : a.kind ≠ 4) : Calls Tryz.prog 32 #[.agg (a.cells (.slice s1 n1 c1)).toArray] w fun e w' => e = .returned (.agg (a.used.cells (.slice s1 n1 c1)).toArray) ∧ Ext w w' := by
  have HF : Hid (a.used = a) := by
    unfold Hid Ac.used
    simp [h1, h2, h3, h4]
  have g1 : (a.kind == 1) = false := beq_eq_false_iff_ne.2 h1
  have g2 : (a.kind == 2) = false := beq_eq_false_iff_ne.2 h2
  have g3 : (a.kind == 3) = false := beq_eq_false_iff_ne.2 h3
  have g4 : (a.kind == 4) = false := beq_eq_false_iff_ne.2 h4
  clear h1 h2 h3 h4
  obtain ⟨W0, hW0⟩ : ∃ W0, W0 = (w.alloc (.cells (a.cells (.slice s1 n1 c1)).toArray 33)).alloc (.cells ((Ac.none 0).cells (.slice none 0 0)).toArray 33) := ⟨_, rfl⟩
  have hC : UA w w.heap.size (w.heap.size + 1) a (.slice s1 n1 c1) W0 := by
    subst hW0
    exact ⟨two_first _ _ _, two_second _ _ _, (Ext.alloc _ _).trans (Ext.alloc _ _), by omega, by omega, by omega⟩
  have hcc : (a.cells (.slice s1 n1 c1)).toArray = #[.int .i64 a.kind, .int .i64 a.side, .int .i64 a.call.kind, .int .i64 a.call.conn, .int .i64 a.call.stream, .int .i64 a.call.n, .string ⟨a.call.s.toArray⟩, .int .i64 a.call.code, .int .i64 a.call.loc, .int .i64 a.call.rem, .string ⟨a.call.tick.toArray⟩, .string ⟨a.call.sec.toArray⟩, .int .i64 a.call.p0, .int .i64 a.call.p1, .int .i64 a.call.p2, .int .i64 a.call.p3, .int .i64 a.call.p4, .int .i64 a.call.p5, .int .i64 a.n, .slice s1 n1 c1, .int .i64 a.fr, .int .i64 a.tgt, .string ⟨a.dat.toArray⟩] := rfl
  rw [hcc, acNone_cells] at hW0
  rw [hcc]
  clear hcc
  have HW := Lib.hid hW0
  clear hW0
  go_enter Tryz.func32, Tryz.ntmps32
  go_upto_region 1 with fail
  rw [← HW.out]
  clear HW
  have e9 : W0.cell? ⟨w.heap.size, 0, none⟩ = some (.int .i64 a.kind) := by
    rw [Lib.cell_of_heap hC.act]; rfl
  go_wp2_with (first
    | refine wpList_load33 (by rfl) _ rfl _ rfl _ hC.act rfl ?_
    | refine wpList_store33 rfl _ _ rfl _ _ rfl rfl _ hC.res rfl rfl (Ac.one _ _ _ _) ?_)
  refine bodyPost_ret (res33 rfl _ _ (w.heap.size + 1) _ rfl (setRow_heap _ _ _ _ _ _ hC.res) rfl) rfl ⟨?_, hC.ext.setRow _ _ hC.lr⟩
  rw [HF.out]
theorem Rused_any (a : Ac) (fv : Value) (w : World) (hA : FatesAt w fv a.fates) :
    Calls Tryz.prog 32 #[.agg (a.cells fv).toArray] w fun e w' => ∃ gv, e = .returned (.agg (a.used.cells gv).toArray) ∧ Ext w w' ∧ FatesAt w gv a.used.fates := by
  obtain ⟨s1, n1, rfl, hA'⟩ := id hA
  by_cases h3 : a.kind = 3
  · refine (Rused_3 a s1 _ n1 w h3).mono ?_
    rintro e w' ⟨rfl, hx⟩
    refine ⟨_, rfl, hx, ?_⟩
    have : a.used.fates = [] := by unfold Ac.used; simp [h3]
    rw [this]; exact FatesAt.nil _
  · have hf : a.used.fates = a.fates := by
      unfold Ac.used
      by_cases h1 : a.kind = 1
      · simp [h1]
      · by_cases h2 : a.kind = 2
        · simp [h2]
        · by_cases h4 : a.kind = 4
          · simp [h4]
          · simp [h1, h2, h3, h4]
    have key : Calls Tryz.prog 32 #[.agg (a.cells (.slice s1 a.fates.length n1)).toArray] w fun e w' => e = .returned (.agg (a.used.cells (.slice s1 a.fates.length n1)).toArray) ∧ Ext w w' := by
      by_cases h1 : a.kind = 1
      · exact Rused_1 a s1 _ n1 w h1
      · by_cases h2 : a.kind = 2
        · exact Rused_2 a s1 _ n1 w h2
        · by_cases h4 : a.kind = 4
          · exact Rused_4 a s1 _ n1 w h4
          · exact Rused_0 a s1 _ n1 w h1 h2 h3 h4
    refine key.mono ?_
    rintro e w' ⟨rfl, hx⟩
    exact ⟨_, rfl, hx, by rw [hf]; exact hA⟩
end Go.Proofs.YtikmoledbiepoaaGreatDoor
/- The reference's Valid: the plain law. -/
namespace Go.Proofs.YtikmoledbiepoaaGreatDoor
open Go.RowKit
set_option linter.unusedSimpArgs false
/-- The reference's Valid. -/
def Ac.rok (a : Ac) : Bool :=
  a.used.eqb (Ac.none a.kind) &&
    (if a.kind = 1 then a.call.rok && inR a.side 1 else if a.kind = 2 then decide (1 ≤ a.n) && decide (a.n ≤ 2000)
     else if a.kind = 3 then (a.fates.all fun x => inR x 25) && decide (a.fates.length ≤ 64)
     else if a.kind = 4 then inR a.fr 65535 && inR a.tgt 65535 && decide (a.dat.length ≤ 1024) else false)
theorem cal_eqb_self (c : Cal) : c.eqb c = true := by simp [Cal.eqb]
theorem ac_rok_line (a : Ac) : a.rok = a.line.2 := by
  unfold Ac.rok Ac.line
  by_cases h1 : a.kind = 1
  · cases hs : inR a.side 1 <;> simp [h1, hs, Ac.ok, Ac.want, Ac.used, Ac.eqb, Ac.inj, Ac.none, cal_eqb_self, rok_line, Bool.and_comm]
  · by_cases h2 : a.kind = 2
    · simp [h2, Ac.ok, Ac.want, Ac.used, Ac.eqb, Ac.inj, Ac.none, Bool.and_comm]
    · by_cases h3 : a.kind = 3
      · simp [h3, Ac.ok, Ac.want, Ac.used, Ac.eqb, Ac.inj, Ac.none, Bool.and_comm]
      · by_cases h4 : a.kind = 4
        · simp [h4, Ac.ok, Ac.want, Ac.used, Ac.eqb, Ac.inj, Ac.none, Bool.and_comm]
        · simp [h1, h2, h3, h4, Ac.ok]
end Go.Proofs.YtikmoledbiepoaaGreatDoor

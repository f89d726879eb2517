/- mixed: an action with one field of another (printed by wip/gen_rmix.py). -/
import Derived.Test.YtikmoledbiepoaaGreatDoorRusedac
import Derived.Test.YtikmoledbiepoaaGreatDoorRvalid
import Derived.Test.YtikmoledbiepoaaGreatDoorParse
namespace Go.Proofs.YtikmoledbiepoaaGreatDoor
open Go.RowKit
set_option linter.unusedSimpArgs false
set_option linter.unusedVariables false
/-- mixed. -/
def Ac.mix (a b : Ac) (k : Nat) : Ac := match k with
  | 0 => { a with side := b.side }
  | 1 => { a with n := b.n }
  | 2 => { a with fates := b.fates }
  | 3 => { a with fr := b.fr, tgt := b.tgt, dat := b.dat }
  | 4 => { a with call := { a.call with conn := b.call.conn } }
  | 5 => { a with call := { a.call with stream := b.call.stream } }
  | 6 => { a with call := { a.call with n := b.call.n } }
  | 7 => { a with call := { a.call with code := b.call.code } }
  | 8 => { a with call := { a.call with tick := b.call.tick, sec := b.call.sec, p0 := b.call.p0, p1 := b.call.p1, p2 := b.call.p2, p3 := b.call.p3, p4 := b.call.p4, p5 := b.call.p5 } }
  | 9 => { a with call := { a.call with loc := b.call.loc } }
  | 10 => { a with call := { a.call with s := b.call.s } }
  | _ => { a with call := { a.call with kind := b.call.kind } }
theorem put_sesA (a : Ac) (T S : List UInt8) (p q r s t u : Int) (fv : Value) : putAt (a.cells fv).toArray 10 (ses T S p q r s t u) = ({ a with call := { a.call with tick := T, sec := S, p0 := p, p1 := q, p2 := r, p3 := s, p4 := t, p5 := u } }.cells fv).toArray := by
  rw [putAt_list _ _ _ (by simp [Ac.cells, Cal.cells_length, ses, p6])]
  rfl
def mixV (fa fb : Value) (k : Nat) : Value := if k = 2 then fb else fa
theorem wpList_runs0 {ops : Array Oper} {rest : List Oper} {o : Oper} {f : Act} {w : World} {Q : Exit → Act → World → Prop} (hgd : o.guard = none) (w' : World) (hr : (execOp f.eval o).run Tryz.prog w = .ok .skip w') (h : wpList Tryz.prog ops Q rest (f.put o.dst undef) w') : wpList Tryz.prog ops Q (o :: rest) f w := by
  refine wpList_plain hgd fun K hK => ?_
  unfold Oper.wp
  rw [hr]
  exact hK _ _ h
section
variable {ops : Array Oper} {rest : List Oper} {o : Oper} {f : Act} {w w0 : World} {Q : Exit → Act → World → Prop} {C R : Nat} {a : Ac} {fv : Value}
/-- A cell of the action, stored: an int, a string, a slice. -/
theorem wpList_UAcell (a' : Ac) (fv' : Value) (i : Nat) (T : TypeId) (hgd : o.guard = none) (x y : Operand) (ho : o.op = .store T x y) (hx : f.eval x = .pointer (some ⟨C, i, none⟩)) (u v : Value) (hy : f.eval y = v) (h0 : UA w0 C R a fv w) (hi : (a.cells fv).toArray[i]? = some u)
    (hs : (a.cells fv).toArray.setIfInBounds i v = (a'.cells fv').toArray) (hr : ∀ w : World, w.cell? ⟨C, i, none⟩ = some u → w.frozen? ⟨C, i, none⟩ = false → (Instr.storeAt T (.pointer (some ⟨C, i, none⟩)) v).run Tryz.prog w = .ok () (w.setCell ⟨C, i, none⟩ v))
    (h : ∀ W, UA w0 C R a' fv' W → wpList Tryz.prog ops Q rest (f.put o.dst undef) W) : wpList Tryz.prog ops Q (o :: rest) f w := by
  have e0 : w.cell? ⟨C, i, none⟩ = some u := by rw [Lib.cell_of_heap h0.act]; exact hi
  have e1 := Lib.frozen_of_heap h0.act i
  refine wpList_runs0 hgd (w.setCell ⟨C, i, none⟩ v) ?_ (h _ (h0.cell i v hs))
  unfold execOp
  simp only [ho, hx, hy, Sem.run_bind, hr w e0 e1]
  rfl
theorem wpList_UAses (a' : Ac) (T S : List UInt8) (p q r s t u : Int) (hgd : o.guard = none) (x y : Operand) (ho : o.op = .store 26 x y) (hx : f.eval x = .pointer (some ⟨C, 10, none⟩)) (hy : f.eval y = .agg (ses T S p q r s t u).toArray) (h0 : UA w0 C R a fv w)
    (hs : putAt (a.cells fv).toArray 10 (ses T S p q r s t u) = (a'.cells fv).toArray) (h : ∀ W, UA w0 C R a' fv W → wpList Tryz.prog ops Q rest (f.put o.dst undef) W) : wpList Tryz.prog ops Q (o :: rest) f w := by
  refine wpList_store_mid hgd 26 x y ho C 10 (ses T S p q r s t u).toArray hx hy (there_of_block h0.act 10 8 (by simp [Ac.cells, Cal.cells_length])) inf26 (by simp [ses, p6, Value.oneCell']) (h _ (h0.kept (Kept.setCells _ _ _) ?_))
  rw [heap_setCells_self _ _ _ _ h0.act, hs]
theorem wpList_UAin (x' y' : Int) (d : List UInt8) (hgd : o.guard = none) (x y : Operand) (ho : o.op = .store 31 x y) (hx : f.eval x = .pointer (some ⟨C, 20, none⟩)) (hy : f.eval y = .agg #[.int .i64 x', .int .i64 y', .string ⟨d.toArray⟩]) (h0 : UA w0 C R a fv w)
    (h : ∀ W, UA w0 C R { a with fr := x', tgt := y', dat := d } fv W → wpList Tryz.prog ops Q rest (f.put o.dst undef) W) : wpList Tryz.prog ops Q (o :: rest) f w := by
  refine wpList_st31 hgd x y ho C 20 hx _ _ _ hy h0.act (by simp [Ac.cells, Cal.cells_length]) (by simp [Value.oneCell']) (h _ (h0.kept (Kept.setCells _ _ _) ?_))
  rw [heap_setCells_self _ _ _ _ h0.act]
  exact congrArg (fun q => some (Obj.cells q 33)) (put_inj a x' y' d fv)
end
theorem res33m {fn : Func} (h : fn.results = #[.cell 6 33]) (tmps : Array Value) (w : World) (b : Nat) (cs : Array Value) (hp : tmps.getD 6 undef = .pointer (some ⟨b, 0, none⟩)) (hb : w.heap[b]? = some (.cells cs 33)) (hs : cs.size = 23) :
    (results fn tmps).run Tryz.prog w = .ok (.agg cs) w := by
  obtain ⟨d, hu⟩ := und33
  exact results_cell_row h tmps w b 33 cs (0, 0) _ hp hb hu rfl (by rw [hs]; kernel_rfl)
theorem st_int (C i : Nat) (u : Value) (v : Int) (w : World) (h : w.cell? ⟨C, i, none⟩ = some u) (hf : w.frozen? ⟨C, i, none⟩ = false) : (Instr.storeAt 3 (.pointer (some ⟨C, i, none⟩)) (.int .i64 v)).run Tryz.prog w = .ok () (w.setCell ⟨C, i, none⟩ (.int .i64 v)) := by
  simp [go_sem, h, hf]
theorem st_str (C i : Nat) (u : Value) (v : List UInt8) (w : World) (h : w.cell? ⟨C, i, none⟩ = some u) (hf : w.frozen? ⟨C, i, none⟩ = false) : (Instr.storeAt 9 (.pointer (some ⟨C, i, none⟩)) (.string ⟨v.toArray⟩)).run Tryz.prog w = .ok () (w.setCell ⟨C, i, none⟩ (.string ⟨v.toArray⟩)) := by
  simp [go_sem, h, hf]
theorem st_sl (C i : Nat) (u : Value) (s : Option Addr) (n c : Nat) (w : World) (h : w.cell? ⟨C, i, none⟩ = some u) (hf : w.frozen? ⟨C, i, none⟩ = false) : (Instr.storeAt 29 (.pointer (some ⟨C, i, none⟩)) (.slice s n c)).run Tryz.prog w = .ok () (w.setCell ⟨C, i, none⟩ (.slice s n c)) := by
  simp [go_sem, h, hf]
theorem ac_sess {W : World} {C : Nat} {a : Ac} {fv : Value} (h : W.heap[C]? = some (.cells (a.cells fv).toArray 33)) : W.rangeAt C 10 a.call.sess := fun j v hv => by
  have h2 := ac_call h (8 + j) v (by
    have : (a.call.cells)[8 + j]? = a.call.sess[j]? := by
      have e : a.call.cells = [vI a.call.kind, vI a.call.conn, vI a.call.stream, vI a.call.n, vS a.call.s, vI a.call.code, vI a.call.loc, vI a.call.rem] ++ a.call.sess := rfl
      rw [e, List.getElem?_append_right (by simp)]
      simp
    rw [this]
    exact hv)
  rw [show 2 + (8 + j) = 10 + j by omega] at h2
  exact h2
set_option maxRecDepth 100000 in
set_option maxHeartbeats 2000000 in
theorem rmix_0 (a b : Ac) (s1 s2 : Option Addr) (n1 c1 n2 c2 : Nat) (x : Int) (hx : IntFit x) (hk : pickN x 12 = 0) (w : World) : Calls Tryz.prog 14 #[.agg (a.cells (.slice s1 n1 c1)).toArray, .agg (b.cells (.slice s2 n2 c2)).toArray, .int .i64 x] w fun e w' => e = .returned (.agg ((a.mix b 0).cells (.slice s1 n1 c1)).toArray) ∧ Ext w w' := by
  have HP := fun W => Lib.hid (pickA x 12 W hx (by decide) (by decide))
  rw [hk] at HP
  clear hk
  obtain ⟨W0, hW0⟩ : ∃ W0, W0 = ((w.alloc (.cells (a.cells (.slice s1 n1 c1)).toArray 33)).alloc (.cells (b.cells (.slice s2 n2 c2)).toArray 33)).alloc (.cells ((Ac.none 0).cells (.slice none 0 0)).toArray 33) := ⟨_, rfl⟩
  have hb1 : W0.heap[w.heap.size + 1]? = some (.cells (b.cells (.slice s2 n2 c2)).toArray 33) := by
    rw [hW0, alloc_old _ _ (by simp)]
    exact two_second _ _ _
  have hU : UA w w.heap.size (w.heap.size + 2) a (.slice s1 n1 c1) W0 := by
    subst hW0
    refine ⟨?_, three_third _ _ _ _, ((Ext.alloc _ _).trans (Ext.alloc _ _)).trans (Ext.alloc _ _), by omega, by omega, by omega⟩
    rw [alloc_old _ _ (by simp; omega)]
    exact two_first _ _ _
  rw [Ac.cells_eq, Ac.cells_eq, acNone_cells] at hW0
  rw [Ac.cells_eq a, Ac.cells_eq b]
  have HW := Lib.hid hW0
  clear hW0
  go_enter Tryz.func14, Tryz.ntmps14
  go_upto_region 1 with fail
  rw [← HW.out]
  clear HW
  have e1 : W0.cell? ⟨w.heap.size + 1, 1, none⟩ = some (.int .i64 b.side) := by rw [Lib.cell_of_heap hb1]; rfl
  go_wp2_with (first
    | (go_at_call 13; refine (HP _).out.mono ?_; rintro e W ⟨rfl, rfl⟩)
    | (refine wpList_UAcell { a with side := b.side } _ 1 3 rfl _ _ rfl rfl _ (.int .i64 b.side) rfl hU rfl rfl (fun w h1 h2 => st_int _ _ _ _ w h1 h2) ?_; clear e1 hU; intro W1 hU1)
    | refine wpList_load33 (by rfl) _ rfl _ rfl _ hU1.act rfl ?_
    | refine wpList_store33 rfl _ _ rfl _ _ rfl rfl _ hU1.res rfl rfl (Ac.one _ _ _ _) ?_)
  exact bodyPost_ret (res33m rfl _ _ (w.heap.size + 2) _ rfl (setRow_heap _ _ _ _ _ _ hU1.res) rfl) rfl ⟨rfl, hU1.ext.setRow _ _ hU1.lr⟩
set_option maxRecDepth 100000 in
set_option maxHeartbeats 2000000 in
theorem rmix_1 (a b : Ac) (s1 s2 : Option Addr) (n1 c1 n2 c2 : Nat) (x : Int) (hx : IntFit x) (hk : pickN x 12 = 1) (w : World) : Calls Tryz.prog 14 #[.agg (a.cells (.slice s1 n1 c1)).toArray, .agg (b.cells (.slice s2 n2 c2)).toArray, .int .i64 x] w fun e w' => e = .returned (.agg ((a.mix b 1).cells (.slice s1 n1 c1)).toArray) ∧ Ext w w' := by
  have HP := fun W => Lib.hid (pickA x 12 W hx (by decide) (by decide))
  rw [hk] at HP
  clear hk
  obtain ⟨W0, hW0⟩ : ∃ W0, W0 = ((w.alloc (.cells (a.cells (.slice s1 n1 c1)).toArray 33)).alloc (.cells (b.cells (.slice s2 n2 c2)).toArray 33)).alloc (.cells ((Ac.none 0).cells (.slice none 0 0)).toArray 33) := ⟨_, rfl⟩
  have hb1 : W0.heap[w.heap.size + 1]? = some (.cells (b.cells (.slice s2 n2 c2)).toArray 33) := by
    rw [hW0, alloc_old _ _ (by simp)]
    exact two_second _ _ _
  have hU : UA w w.heap.size (w.heap.size + 2) a (.slice s1 n1 c1) W0 := by
    subst hW0
    refine ⟨?_, three_third _ _ _ _, ((Ext.alloc _ _).trans (Ext.alloc _ _)).trans (Ext.alloc _ _), by omega, by omega, by omega⟩
    rw [alloc_old _ _ (by simp; omega)]
    exact two_first _ _ _
  rw [Ac.cells_eq, Ac.cells_eq, acNone_cells] at hW0
  rw [Ac.cells_eq a, Ac.cells_eq b]
  have HW := Lib.hid hW0
  clear hW0
  go_enter Tryz.func14, Tryz.ntmps14
  go_upto_region 1 with fail
  rw [← HW.out]
  clear HW
  have e1 : W0.cell? ⟨w.heap.size + 1, 18, none⟩ = some (.int .i64 b.n) := by rw [Lib.cell_of_heap hb1]; rfl
  go_wp2_with (first
    | (go_at_call 13; refine (HP _).out.mono ?_; rintro e W ⟨rfl, rfl⟩)
    | (refine wpList_UAcell { a with n := b.n } _ 18 3 rfl _ _ rfl rfl _ (.int .i64 b.n) rfl hU rfl rfl (fun w h1 h2 => st_int _ _ _ _ w h1 h2) ?_; clear e1 hU; intro W1 hU1)
    | refine wpList_load33 (by rfl) _ rfl _ rfl _ hU1.act rfl ?_
    | refine wpList_store33 rfl _ _ rfl _ _ rfl rfl _ hU1.res rfl rfl (Ac.one _ _ _ _) ?_)
  exact bodyPost_ret (res33m rfl _ _ (w.heap.size + 2) _ rfl (setRow_heap _ _ _ _ _ _ hU1.res) rfl) rfl ⟨rfl, hU1.ext.setRow _ _ hU1.lr⟩
set_option maxRecDepth 100000 in
set_option maxHeartbeats 2000000 in
theorem rmix_2 (a b : Ac) (s1 s2 : Option Addr) (n1 c1 n2 c2 : Nat) (x : Int) (hx : IntFit x) (hk : pickN x 12 = 2) (w : World) : Calls Tryz.prog 14 #[.agg (a.cells (.slice s1 n1 c1)).toArray, .agg (b.cells (.slice s2 n2 c2)).toArray, .int .i64 x] w fun e w' => e = .returned (.agg ((a.mix b 2).cells (.slice s2 n2 c2)).toArray) ∧ Ext w w' := by
  have HP := fun W => Lib.hid (pickA x 12 W hx (by decide) (by decide))
  rw [hk] at HP
  clear hk
  obtain ⟨W0, hW0⟩ : ∃ W0, W0 = ((w.alloc (.cells (a.cells (.slice s1 n1 c1)).toArray 33)).alloc (.cells (b.cells (.slice s2 n2 c2)).toArray 33)).alloc (.cells ((Ac.none 0).cells (.slice none 0 0)).toArray 33) := ⟨_, rfl⟩
  have hb1 : W0.heap[w.heap.size + 1]? = some (.cells (b.cells (.slice s2 n2 c2)).toArray 33) := by
    rw [hW0, alloc_old _ _ (by simp)]
    exact two_second _ _ _
  have hU : UA w w.heap.size (w.heap.size + 2) a (.slice s1 n1 c1) W0 := by
    subst hW0
    refine ⟨?_, three_third _ _ _ _, ((Ext.alloc _ _).trans (Ext.alloc _ _)).trans (Ext.alloc _ _), by omega, by omega, by omega⟩
    rw [alloc_old _ _ (by simp; omega)]
    exact two_first _ _ _
  rw [Ac.cells_eq, Ac.cells_eq, acNone_cells] at hW0
  rw [Ac.cells_eq a, Ac.cells_eq b]
  have HW := Lib.hid hW0
  clear hW0
  go_enter Tryz.func14, Tryz.ntmps14
  go_upto_region 1 with fail
  rw [← HW.out]
  clear HW
  have e1 : W0.cell? ⟨w.heap.size + 1, 19, none⟩ = some (.slice s2 n2 c2) := by rw [Lib.cell_of_heap hb1]; rfl
  go_wp2_with (first
    | (go_at_call 13; refine (HP _).out.mono ?_; rintro e W ⟨rfl, rfl⟩)
    | (refine wpList_UAcell { a with fates := b.fates } (.slice s2 n2 c2) 19 29 rfl _ _ rfl rfl _ (.slice s2 n2 c2) rfl hU rfl rfl (fun w h1 h2 => st_sl _ _ _ _ _ _ w h1 h2) ?_; clear e1 hU; intro W1 hU1)
    | refine wpList_load33 (by rfl) _ rfl _ rfl _ hU1.act rfl ?_
    | refine wpList_store33 rfl _ _ rfl _ _ rfl rfl _ hU1.res rfl rfl (Ac.one _ _ _ _) ?_)
  exact bodyPost_ret (res33m rfl _ _ (w.heap.size + 2) _ rfl (setRow_heap _ _ _ _ _ _ hU1.res) rfl) rfl ⟨rfl, hU1.ext.setRow _ _ hU1.lr⟩
set_option maxRecDepth 100000 in
set_option maxHeartbeats 2000000 in
theorem rmix_3 (a b : Ac) (s1 s2 : Option Addr) (n1 c1 n2 c2 : Nat) (x : Int) (hx : IntFit x) (hk : pickN x 12 = 3) (w : World) : Calls Tryz.prog 14 #[.agg (a.cells (.slice s1 n1 c1)).toArray, .agg (b.cells (.slice s2 n2 c2)).toArray, .int .i64 x] w fun e w' => e = .returned (.agg ((a.mix b 3).cells (.slice s1 n1 c1)).toArray) ∧ Ext w w' := by
  have HP := fun W => Lib.hid (pickA x 12 W hx (by decide) (by decide))
  rw [hk] at HP
  clear hk
  obtain ⟨W0, hW0⟩ : ∃ W0, W0 = ((w.alloc (.cells (a.cells (.slice s1 n1 c1)).toArray 33)).alloc (.cells (b.cells (.slice s2 n2 c2)).toArray 33)).alloc (.cells ((Ac.none 0).cells (.slice none 0 0)).toArray 33) := ⟨_, rfl⟩
  have hb1 : W0.heap[w.heap.size + 1]? = some (.cells (b.cells (.slice s2 n2 c2)).toArray 33) := by
    rw [hW0, alloc_old _ _ (by simp)]
    exact two_second _ _ _
  have hU : UA w w.heap.size (w.heap.size + 2) a (.slice s1 n1 c1) W0 := by
    subst hW0
    refine ⟨?_, three_third _ _ _ _, ((Ext.alloc _ _).trans (Ext.alloc _ _)).trans (Ext.alloc _ _), by omega, by omega, by omega⟩
    rw [alloc_old _ _ (by simp; omega)]
    exact two_first _ _ _
  rw [Ac.cells_eq, Ac.cells_eq, acNone_cells] at hW0
  rw [Ac.cells_eq a, Ac.cells_eq b]
  have HW := Lib.hid hW0
  clear hW0
  go_enter Tryz.func14, Tryz.ntmps14
  go_upto_region 1 with fail
  rw [← HW.out]
  clear HW
  go_wp2_with (first
    | (go_at_call 13; refine (HP _).out.mono ?_; rintro e W ⟨rfl, rfl⟩)
    | refine wpList_ld31g (by rfl) _ rfl (w.heap.size + 1) 20 rfl _ _ _ (ac_inj hb1) ?_
    | (refine wpList_UAin b.fr b.tgt b.dat rfl _ _ rfl rfl rfl hU ?_; clear hU; intro W1 hU1)
    | refine wpList_load33 (by rfl) _ rfl _ rfl _ hU1.act rfl ?_
    | refine wpList_store33 rfl _ _ rfl _ _ rfl rfl _ hU1.res rfl rfl (Ac.one _ _ _ _) ?_)
  exact bodyPost_ret (res33m rfl _ _ (w.heap.size + 2) _ rfl (setRow_heap _ _ _ _ _ _ hU1.res) rfl) rfl ⟨rfl, hU1.ext.setRow _ _ hU1.lr⟩
set_option maxRecDepth 100000 in
set_option maxHeartbeats 2000000 in
theorem rmix_4 (a b : Ac) (s1 s2 : Option Addr) (n1 c1 n2 c2 : Nat) (x : Int) (hx : IntFit x) (hk : pickN x 12 = 4) (w : World) : Calls Tryz.prog 14 #[.agg (a.cells (.slice s1 n1 c1)).toArray, .agg (b.cells (.slice s2 n2 c2)).toArray, .int .i64 x] w fun e w' => e = .returned (.agg ((a.mix b 4).cells (.slice s1 n1 c1)).toArray) ∧ Ext w w' := by
  have HP := fun W => Lib.hid (pickA x 12 W hx (by decide) (by decide))
  rw [hk] at HP
  clear hk
  obtain ⟨W0, hW0⟩ : ∃ W0, W0 = ((w.alloc (.cells (a.cells (.slice s1 n1 c1)).toArray 33)).alloc (.cells (b.cells (.slice s2 n2 c2)).toArray 33)).alloc (.cells ((Ac.none 0).cells (.slice none 0 0)).toArray 33) := ⟨_, rfl⟩
  have hb1 : W0.heap[w.heap.size + 1]? = some (.cells (b.cells (.slice s2 n2 c2)).toArray 33) := by
    rw [hW0, alloc_old _ _ (by simp)]
    exact two_second _ _ _
  have hU : UA w w.heap.size (w.heap.size + 2) a (.slice s1 n1 c1) W0 := by
    subst hW0
    refine ⟨?_, three_third _ _ _ _, ((Ext.alloc _ _).trans (Ext.alloc _ _)).trans (Ext.alloc _ _), by omega, by omega, by omega⟩
    rw [alloc_old _ _ (by simp; omega)]
    exact two_first _ _ _
  rw [Ac.cells_eq, Ac.cells_eq, acNone_cells] at hW0
  rw [Ac.cells_eq a, Ac.cells_eq b]
  have HW := Lib.hid hW0
  clear hW0
  go_enter Tryz.func14, Tryz.ntmps14
  go_upto_region 1 with fail
  rw [← HW.out]
  clear HW
  have e1 : W0.cell? ⟨w.heap.size + 1, 3, none⟩ = some (.int .i64 b.call.conn) := by rw [Lib.cell_of_heap hb1]; rfl
  go_wp2_with (first
    | (go_at_call 13; refine (HP _).out.mono ?_; rintro e W ⟨rfl, rfl⟩)
    | (refine wpList_UAcell { a with call := { a.call with conn := b.call.conn } } _ 3 3 rfl _ _ rfl rfl _ (.int .i64 b.call.conn) rfl hU rfl rfl (fun w h1 h2 => st_int _ _ _ _ w h1 h2) ?_; clear e1 hU; intro W1 hU1)
    | refine wpList_load33 (by rfl) _ rfl _ rfl _ hU1.act rfl ?_
    | refine wpList_store33 rfl _ _ rfl _ _ rfl rfl _ hU1.res rfl rfl (Ac.one _ _ _ _) ?_)
  exact bodyPost_ret (res33m rfl _ _ (w.heap.size + 2) _ rfl (setRow_heap _ _ _ _ _ _ hU1.res) rfl) rfl ⟨rfl, hU1.ext.setRow _ _ hU1.lr⟩
set_option maxRecDepth 100000 in
set_option maxHeartbeats 2000000 in
theorem rmix_5 (a b : Ac) (s1 s2 : Option Addr) (n1 c1 n2 c2 : Nat) (x : Int) (hx : IntFit x) (hk : pickN x 12 = 5) (w : World) : Calls Tryz.prog 14 #[.agg (a.cells (.slice s1 n1 c1)).toArray, .agg (b.cells (.slice s2 n2 c2)).toArray, .int .i64 x] w fun e w' => e = .returned (.agg ((a.mix b 5).cells (.slice s1 n1 c1)).toArray) ∧ Ext w w' := by
  have HP := fun W => Lib.hid (pickA x 12 W hx (by decide) (by decide))
  rw [hk] at HP
  clear hk
  obtain ⟨W0, hW0⟩ : ∃ W0, W0 = ((w.alloc (.cells (a.cells (.slice s1 n1 c1)).toArray 33)).alloc (.cells (b.cells (.slice s2 n2 c2)).toArray 33)).alloc (.cells ((Ac.none 0).cells (.slice none 0 0)).toArray 33) := ⟨_, rfl⟩
  have hb1 : W0.heap[w.heap.size + 1]? = some (.cells (b.cells (.slice s2 n2 c2)).toArray 33) := by
    rw [hW0, alloc_old _ _ (by simp)]
    exact two_second _ _ _
  have hU : UA w w.heap.size (w.heap.size + 2) a (.slice s1 n1 c1) W0 := by
    subst hW0
    refine ⟨?_, three_third _ _ _ _, ((Ext.alloc _ _).trans (Ext.alloc _ _)).trans (Ext.alloc _ _), by omega, by omega, by omega⟩
    rw [alloc_old _ _ (by simp; omega)]
    exact two_first _ _ _
  rw [Ac.cells_eq, Ac.cells_eq, acNone_cells] at hW0
  rw [Ac.cells_eq a, Ac.cells_eq b]
  have HW := Lib.hid hW0
  clear hW0
  go_enter Tryz.func14, Tryz.ntmps14
  go_upto_region 1 with fail
  rw [← HW.out]
  clear HW
  have e1 : W0.cell? ⟨w.heap.size + 1, 4, none⟩ = some (.int .i64 b.call.stream) := by rw [Lib.cell_of_heap hb1]; rfl
  go_wp2_with (first
    | (go_at_call 13; refine (HP _).out.mono ?_; rintro e W ⟨rfl, rfl⟩)
    | (refine wpList_UAcell { a with call := { a.call with stream := b.call.stream } } _ 4 3 rfl _ _ rfl rfl _ (.int .i64 b.call.stream) rfl hU rfl rfl (fun w h1 h2 => st_int _ _ _ _ w h1 h2) ?_; clear e1 hU; intro W1 hU1)
    | refine wpList_load33 (by rfl) _ rfl _ rfl _ hU1.act rfl ?_
    | refine wpList_store33 rfl _ _ rfl _ _ rfl rfl _ hU1.res rfl rfl (Ac.one _ _ _ _) ?_)
  exact bodyPost_ret (res33m rfl _ _ (w.heap.size + 2) _ rfl (setRow_heap _ _ _ _ _ _ hU1.res) rfl) rfl ⟨rfl, hU1.ext.setRow _ _ hU1.lr⟩
set_option maxRecDepth 100000 in
set_option maxHeartbeats 2000000 in
theorem rmix_6 (a b : Ac) (s1 s2 : Option Addr) (n1 c1 n2 c2 : Nat) (x : Int) (hx : IntFit x) (hk : pickN x 12 = 6) (w : World) : Calls Tryz.prog 14 #[.agg (a.cells (.slice s1 n1 c1)).toArray, .agg (b.cells (.slice s2 n2 c2)).toArray, .int .i64 x] w fun e w' => e = .returned (.agg ((a.mix b 6).cells (.slice s1 n1 c1)).toArray) ∧ Ext w w' := by
  have HP := fun W => Lib.hid (pickA x 12 W hx (by decide) (by decide))
  rw [hk] at HP
  clear hk
  obtain ⟨W0, hW0⟩ : ∃ W0, W0 = ((w.alloc (.cells (a.cells (.slice s1 n1 c1)).toArray 33)).alloc (.cells (b.cells (.slice s2 n2 c2)).toArray 33)).alloc (.cells ((Ac.none 0).cells (.slice none 0 0)).toArray 33) := ⟨_, rfl⟩
  have hb1 : W0.heap[w.heap.size + 1]? = some (.cells (b.cells (.slice s2 n2 c2)).toArray 33) := by
    rw [hW0, alloc_old _ _ (by simp)]
    exact two_second _ _ _
  have hU : UA w w.heap.size (w.heap.size + 2) a (.slice s1 n1 c1) W0 := by
    subst hW0
    refine ⟨?_, three_third _ _ _ _, ((Ext.alloc _ _).trans (Ext.alloc _ _)).trans (Ext.alloc _ _), by omega, by omega, by omega⟩
    rw [alloc_old _ _ (by simp; omega)]
    exact two_first _ _ _
  rw [Ac.cells_eq, Ac.cells_eq, acNone_cells] at hW0
  rw [Ac.cells_eq a, Ac.cells_eq b]
  have HW := Lib.hid hW0
  clear hW0
  go_enter Tryz.func14, Tryz.ntmps14
  go_upto_region 1 with fail
  rw [← HW.out]
  clear HW
  have e1 : W0.cell? ⟨w.heap.size + 1, 5, none⟩ = some (.int .i64 b.call.n) := by rw [Lib.cell_of_heap hb1]; rfl
  go_wp2_with (first
    | (go_at_call 13; refine (HP _).out.mono ?_; rintro e W ⟨rfl, rfl⟩)
    | (refine wpList_UAcell { a with call := { a.call with n := b.call.n } } _ 5 3 rfl _ _ rfl rfl _ (.int .i64 b.call.n) rfl hU rfl rfl (fun w h1 h2 => st_int _ _ _ _ w h1 h2) ?_; clear e1 hU; intro W1 hU1)
    | refine wpList_load33 (by rfl) _ rfl _ rfl _ hU1.act rfl ?_
    | refine wpList_store33 rfl _ _ rfl _ _ rfl rfl _ hU1.res rfl rfl (Ac.one _ _ _ _) ?_)
  exact bodyPost_ret (res33m rfl _ _ (w.heap.size + 2) _ rfl (setRow_heap _ _ _ _ _ _ hU1.res) rfl) rfl ⟨rfl, hU1.ext.setRow _ _ hU1.lr⟩
set_option maxRecDepth 100000 in
set_option maxHeartbeats 2000000 in
theorem rmix_7 (a b : Ac) (s1 s2 : Option Addr) (n1 c1 n2 c2 : Nat) (x : Int) (hx : IntFit x) (hk : pickN x 12 = 7) (w : World) : Calls Tryz.prog 14 #[.agg (a.cells (.slice s1 n1 c1)).toArray, .agg (b.cells (.slice s2 n2 c2)).toArray, .int .i64 x] w fun e w' => e = .returned (.agg ((a.mix b 7).cells (.slice s1 n1 c1)).toArray) ∧ Ext w w' := by
  have HP := fun W => Lib.hid (pickA x 12 W hx (by decide) (by decide))
  rw [hk] at HP
  clear hk
  obtain ⟨W0, hW0⟩ : ∃ W0, W0 = ((w.alloc (.cells (a.cells (.slice s1 n1 c1)).toArray 33)).alloc (.cells (b.cells (.slice s2 n2 c2)).toArray 33)).alloc (.cells ((Ac.none 0).cells (.slice none 0 0)).toArray 33) := ⟨_, rfl⟩
  have hb1 : W0.heap[w.heap.size + 1]? = some (.cells (b.cells (.slice s2 n2 c2)).toArray 33) := by
    rw [hW0, alloc_old _ _ (by simp)]
    exact two_second _ _ _
  have hU : UA w w.heap.size (w.heap.size + 2) a (.slice s1 n1 c1) W0 := by
    subst hW0
    refine ⟨?_, three_third _ _ _ _, ((Ext.alloc _ _).trans (Ext.alloc _ _)).trans (Ext.alloc _ _), by omega, by omega, by omega⟩
    rw [alloc_old _ _ (by simp; omega)]
    exact two_first _ _ _
  rw [Ac.cells_eq, Ac.cells_eq, acNone_cells] at hW0
  rw [Ac.cells_eq a, Ac.cells_eq b]
  have HW := Lib.hid hW0
  clear hW0
  go_enter Tryz.func14, Tryz.ntmps14
  go_upto_region 1 with fail
  rw [← HW.out]
  clear HW
  have e1 : W0.cell? ⟨w.heap.size + 1, 7, none⟩ = some (.int .i64 b.call.code) := by rw [Lib.cell_of_heap hb1]; rfl
  go_wp2_with (first
    | (go_at_call 13; refine (HP _).out.mono ?_; rintro e W ⟨rfl, rfl⟩)
    | (refine wpList_UAcell { a with call := { a.call with code := b.call.code } } _ 7 3 rfl _ _ rfl rfl _ (.int .i64 b.call.code) rfl hU rfl rfl (fun w h1 h2 => st_int _ _ _ _ w h1 h2) ?_; clear e1 hU; intro W1 hU1)
    | refine wpList_load33 (by rfl) _ rfl _ rfl _ hU1.act rfl ?_
    | refine wpList_store33 rfl _ _ rfl _ _ rfl rfl _ hU1.res rfl rfl (Ac.one _ _ _ _) ?_)
  exact bodyPost_ret (res33m rfl _ _ (w.heap.size + 2) _ rfl (setRow_heap _ _ _ _ _ _ hU1.res) rfl) rfl ⟨rfl, hU1.ext.setRow _ _ hU1.lr⟩
set_option maxRecDepth 100000 in
set_option maxHeartbeats 2000000 in
theorem rmix_8 (a b : Ac) (s1 s2 : Option Addr) (n1 c1 n2 c2 : Nat) (x : Int) (hx : IntFit x) (hk : pickN x 12 = 8) (w : World) : Calls Tryz.prog 14 #[.agg (a.cells (.slice s1 n1 c1)).toArray, .agg (b.cells (.slice s2 n2 c2)).toArray, .int .i64 x] w fun e w' => e = .returned (.agg ((a.mix b 8).cells (.slice s1 n1 c1)).toArray) ∧ Ext w w' := by
  have HP := fun W => Lib.hid (pickA x 12 W hx (by decide) (by decide))
  rw [hk] at HP
  clear hk
  obtain ⟨W0, hW0⟩ : ∃ W0, W0 = ((w.alloc (.cells (a.cells (.slice s1 n1 c1)).toArray 33)).alloc (.cells (b.cells (.slice s2 n2 c2)).toArray 33)).alloc (.cells ((Ac.none 0).cells (.slice none 0 0)).toArray 33) := ⟨_, rfl⟩
  have hb1 : W0.heap[w.heap.size + 1]? = some (.cells (b.cells (.slice s2 n2 c2)).toArray 33) := by
    rw [hW0, alloc_old _ _ (by simp)]
    exact two_second _ _ _
  have hU : UA w w.heap.size (w.heap.size + 2) a (.slice s1 n1 c1) W0 := by
    subst hW0
    refine ⟨?_, three_third _ _ _ _, ((Ext.alloc _ _).trans (Ext.alloc _ _)).trans (Ext.alloc _ _), by omega, by omega, by omega⟩
    rw [alloc_old _ _ (by simp; omega)]
    exact two_first _ _ _
  rw [Ac.cells_eq, Ac.cells_eq, acNone_cells] at hW0
  rw [Ac.cells_eq a, Ac.cells_eq b]
  have HW := Lib.hid hW0
  clear hW0
  obtain ⟨fs26, hu26⟩ := und26
  go_enter Tryz.func14, Tryz.ntmps14
  go_upto_region 1 with fail
  rw [← HW.out]
  clear HW
  go_wp2_with (first
    | (go_at_call 13; refine (HP _).out.mono ?_; rintro e W ⟨rfl, rfl⟩)
    | refine wpList_load_mid rfl 26 _ rfl _ 10 rfl b.call.sess _ (ac_sess hb1) hu26 rfl inf26 ?_
    | (refine wpList_UAses { a with call := { a.call with tick := b.call.tick, sec := b.call.sec, p0 := b.call.p0, p1 := b.call.p1, p2 := b.call.p2, p3 := b.call.p3, p4 := b.call.p4, p5 := b.call.p5 } } b.call.tick b.call.sec b.call.p0 b.call.p1 b.call.p2 b.call.p3 b.call.p4 b.call.p5 rfl _ _ rfl rfl rfl hU (put_sesA a _ _ _ _ _ _ _ _ _) ?_; clear hU; intro W1 hU1)
    | refine wpList_load33 (by rfl) _ rfl _ rfl _ hU1.act rfl ?_
    | refine wpList_store33 rfl _ _ rfl _ _ rfl rfl _ hU1.res rfl rfl (Ac.one _ _ _ _) ?_)
  exact bodyPost_ret (res33m rfl _ _ (w.heap.size + 2) _ rfl (setRow_heap _ _ _ _ _ _ hU1.res) rfl) rfl ⟨rfl, hU1.ext.setRow _ _ hU1.lr⟩
set_option maxRecDepth 100000 in
set_option maxHeartbeats 2000000 in
theorem rmix_9 (a b : Ac) (s1 s2 : Option Addr) (n1 c1 n2 c2 : Nat) (x : Int) (hx : IntFit x) (hk : pickN x 12 = 9) (w : World) : Calls Tryz.prog 14 #[.agg (a.cells (.slice s1 n1 c1)).toArray, .agg (b.cells (.slice s2 n2 c2)).toArray, .int .i64 x] w fun e w' => e = .returned (.agg ((a.mix b 9).cells (.slice s1 n1 c1)).toArray) ∧ Ext w w' := by
  have HP := fun W => Lib.hid (pickA x 12 W hx (by decide) (by decide))
  rw [hk] at HP
  clear hk
  obtain ⟨W0, hW0⟩ : ∃ W0, W0 = ((w.alloc (.cells (a.cells (.slice s1 n1 c1)).toArray 33)).alloc (.cells (b.cells (.slice s2 n2 c2)).toArray 33)).alloc (.cells ((Ac.none 0).cells (.slice none 0 0)).toArray 33) := ⟨_, rfl⟩
  have hb1 : W0.heap[w.heap.size + 1]? = some (.cells (b.cells (.slice s2 n2 c2)).toArray 33) := by
    rw [hW0, alloc_old _ _ (by simp)]
    exact two_second _ _ _
  have hU : UA w w.heap.size (w.heap.size + 2) a (.slice s1 n1 c1) W0 := by
    subst hW0
    refine ⟨?_, three_third _ _ _ _, ((Ext.alloc _ _).trans (Ext.alloc _ _)).trans (Ext.alloc _ _), by omega, by omega, by omega⟩
    rw [alloc_old _ _ (by simp; omega)]
    exact two_first _ _ _
  rw [Ac.cells_eq, Ac.cells_eq, acNone_cells] at hW0
  rw [Ac.cells_eq a, Ac.cells_eq b]
  have HW := Lib.hid hW0
  clear hW0
  go_enter Tryz.func14, Tryz.ntmps14
  go_upto_region 1 with fail
  rw [← HW.out]
  clear HW
  have e1 : W0.cell? ⟨w.heap.size + 1, 8, none⟩ = some (.int .i64 b.call.loc) := by rw [Lib.cell_of_heap hb1]; rfl
  go_wp2_with (first
    | (go_at_call 13; refine (HP _).out.mono ?_; rintro e W ⟨rfl, rfl⟩)
    | (refine wpList_UAcell { a with call := { a.call with loc := b.call.loc } } _ 8 3 rfl _ _ rfl rfl _ (.int .i64 b.call.loc) rfl hU rfl rfl (fun w h1 h2 => st_int _ _ _ _ w h1 h2) ?_; clear e1 hU; intro W1 hU1)
    | refine wpList_load33 (by rfl) _ rfl _ rfl _ hU1.act rfl ?_
    | refine wpList_store33 rfl _ _ rfl _ _ rfl rfl _ hU1.res rfl rfl (Ac.one _ _ _ _) ?_)
  exact bodyPost_ret (res33m rfl _ _ (w.heap.size + 2) _ rfl (setRow_heap _ _ _ _ _ _ hU1.res) rfl) rfl ⟨rfl, hU1.ext.setRow _ _ hU1.lr⟩
set_option maxRecDepth 100000 in
set_option maxHeartbeats 2000000 in
theorem rmix_10 (a b : Ac) (s1 s2 : Option Addr) (n1 c1 n2 c2 : Nat) (x : Int) (hx : IntFit x) (hk : pickN x 12 = 10) (w : World) : Calls Tryz.prog 14 #[.agg (a.cells (.slice s1 n1 c1)).toArray, .agg (b.cells (.slice s2 n2 c2)).toArray, .int .i64 x] w fun e w' => e = .returned (.agg ((a.mix b 10).cells (.slice s1 n1 c1)).toArray) ∧ Ext w w' := by
  have HP := fun W => Lib.hid (pickA x 12 W hx (by decide) (by decide))
  rw [hk] at HP
  clear hk
  obtain ⟨W0, hW0⟩ : ∃ W0, W0 = ((w.alloc (.cells (a.cells (.slice s1 n1 c1)).toArray 33)).alloc (.cells (b.cells (.slice s2 n2 c2)).toArray 33)).alloc (.cells ((Ac.none 0).cells (.slice none 0 0)).toArray 33) := ⟨_, rfl⟩
  have hb1 : W0.heap[w.heap.size + 1]? = some (.cells (b.cells (.slice s2 n2 c2)).toArray 33) := by
    rw [hW0, alloc_old _ _ (by simp)]
    exact two_second _ _ _
  have hU : UA w w.heap.size (w.heap.size + 2) a (.slice s1 n1 c1) W0 := by
    subst hW0
    refine ⟨?_, three_third _ _ _ _, ((Ext.alloc _ _).trans (Ext.alloc _ _)).trans (Ext.alloc _ _), by omega, by omega, by omega⟩
    rw [alloc_old _ _ (by simp; omega)]
    exact two_first _ _ _
  rw [Ac.cells_eq, Ac.cells_eq, acNone_cells] at hW0
  rw [Ac.cells_eq a, Ac.cells_eq b]
  have HW := Lib.hid hW0
  clear hW0
  go_enter Tryz.func14, Tryz.ntmps14
  go_upto_region 1 with fail
  rw [← HW.out]
  clear HW
  have e1 : W0.cell? ⟨w.heap.size + 1, 6, none⟩ = some (.string ⟨b.call.s.toArray⟩) := by rw [Lib.cell_of_heap hb1]; rfl
  go_wp2_with (first
    | (go_at_call 13; refine (HP _).out.mono ?_; rintro e W ⟨rfl, rfl⟩)
    | (refine wpList_UAcell { a with call := { a.call with s := b.call.s } } _ 6 9 rfl _ _ rfl rfl _ (.string ⟨b.call.s.toArray⟩) rfl hU rfl rfl (fun w h1 h2 => st_str _ _ _ _ w h1 h2) ?_; clear e1 hU; intro W1 hU1)
    | refine wpList_load33 (by rfl) _ rfl _ rfl _ hU1.act rfl ?_
    | refine wpList_store33 rfl _ _ rfl _ _ rfl rfl _ hU1.res rfl rfl (Ac.one _ _ _ _) ?_)
  exact bodyPost_ret (res33m rfl _ _ (w.heap.size + 2) _ rfl (setRow_heap _ _ _ _ _ _ hU1.res) rfl) rfl ⟨rfl, hU1.ext.setRow _ _ hU1.lr⟩
set_option maxRecDepth 100000 in
set_option maxHeartbeats 2000000 in
theorem rmix_11 (a b : Ac) (s1 s2 : Option Addr) (n1 c1 n2 c2 : Nat) (x : Int) (hx : IntFit x) (hk : pickN x 12 = 11) (w : World) : Calls Tryz.prog 14 #[.agg (a.cells (.slice s1 n1 c1)).toArray, .agg (b.cells (.slice s2 n2 c2)).toArray, .int .i64 x] w fun e w' => e = .returned (.agg ((a.mix b 11).cells (.slice s1 n1 c1)).toArray) ∧ Ext w w' := by
  have HP := fun W => Lib.hid (pickA x 12 W hx (by decide) (by decide))
  rw [hk] at HP
  clear hk
  obtain ⟨W0, hW0⟩ : ∃ W0, W0 = ((w.alloc (.cells (a.cells (.slice s1 n1 c1)).toArray 33)).alloc (.cells (b.cells (.slice s2 n2 c2)).toArray 33)).alloc (.cells ((Ac.none 0).cells (.slice none 0 0)).toArray 33) := ⟨_, rfl⟩
  have hb1 : W0.heap[w.heap.size + 1]? = some (.cells (b.cells (.slice s2 n2 c2)).toArray 33) := by
    rw [hW0, alloc_old _ _ (by simp)]
    exact two_second _ _ _
  have hU : UA w w.heap.size (w.heap.size + 2) a (.slice s1 n1 c1) W0 := by
    subst hW0
    refine ⟨?_, three_third _ _ _ _, ((Ext.alloc _ _).trans (Ext.alloc _ _)).trans (Ext.alloc _ _), by omega, by omega, by omega⟩
    rw [alloc_old _ _ (by simp; omega)]
    exact two_first _ _ _
  rw [Ac.cells_eq, Ac.cells_eq, acNone_cells] at hW0
  rw [Ac.cells_eq a, Ac.cells_eq b]
  have HW := Lib.hid hW0
  clear hW0
  go_enter Tryz.func14, Tryz.ntmps14
  go_upto_region 1 with fail
  rw [← HW.out]
  clear HW
  have e1 : W0.cell? ⟨w.heap.size + 1, 2, none⟩ = some (.int .i64 b.call.kind) := by rw [Lib.cell_of_heap hb1]; rfl
  go_wp2_with (first
    | (go_at_call 13; refine (HP _).out.mono ?_; rintro e W ⟨rfl, rfl⟩)
    | (refine wpList_UAcell { a with call := { a.call with kind := b.call.kind } } _ 2 3 rfl _ _ rfl rfl _ (.int .i64 b.call.kind) rfl hU rfl rfl (fun w h1 h2 => st_int _ _ _ _ w h1 h2) ?_; clear e1 hU; intro W1 hU1)
    | refine wpList_load33 (by rfl) _ rfl _ rfl _ hU1.act rfl ?_
    | refine wpList_store33 rfl _ _ rfl _ _ rfl rfl _ hU1.res rfl rfl (Ac.one _ _ _ _) ?_)
  exact bodyPost_ret (res33m rfl _ _ (w.heap.size + 2) _ rfl (setRow_heap _ _ _ _ _ _ hU1.res) rfl) rfl ⟨rfl, hU1.ext.setRow _ _ hU1.lr⟩
/-- mixed. -/
theorem rmix_at (a b : Ac) (fa fb : Value) (x : Int) (hx : IntFit x) {k : Nat} (hk : pickN x 12 = (k : Int)) (w : World) (hA : FatesAt w fa a.fates) (hB : FatesAt w fb b.fates) : Calls Tryz.prog 14 #[.agg (a.cells fa).toArray, .agg (b.cells fb).toArray, .int .i64 x] w fun e w' => e = .returned (.agg ((a.mix b k).cells (mixV fa fb k)).toArray) ∧ Ext w w' := by
  obtain ⟨s1, c1, rfl, _⟩ := hA
  obtain ⟨s2, c2, rfl, _⟩ := hB
  have h := pickN_lt x (n := 12) (by decide)
  match k, hk with
  | 0, hk => exact rmix_0 a b _ _ _ _ _ _ x hx hk w
  | 1, hk => exact rmix_1 a b _ _ _ _ _ _ x hx hk w
  | 2, hk => exact rmix_2 a b _ _ _ _ _ _ x hx hk w
  | 3, hk => exact rmix_3 a b _ _ _ _ _ _ x hx hk w
  | 4, hk => exact rmix_4 a b _ _ _ _ _ _ x hx hk w
  | 5, hk => exact rmix_5 a b _ _ _ _ _ _ x hx hk w
  | 6, hk => exact rmix_6 a b _ _ _ _ _ _ x hx hk w
  | 7, hk => exact rmix_7 a b _ _ _ _ _ _ x hx hk w
  | 8, hk => exact rmix_8 a b _ _ _ _ _ _ x hx hk w
  | 9, hk => exact rmix_9 a b _ _ _ _ _ _ x hx hk w
  | 10, hk => exact rmix_10 a b _ _ _ _ _ _ x hx hk w
  | 11, hk => exact rmix_11 a b _ _ _ _ _ _ x hx hk w
  | n + 12, hk => omega
end Go.Proofs.YtikmoledbiepoaaGreatDoor

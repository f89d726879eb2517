/- An action as a row of cells: loads and stores, whole and in part. -/
import Derived.Test.YtikmoledbiepoaaGreatDoorTake
import Derived.Test.YtikmoledbiepoaaGreatDoorFlags
import Derived.Deep.CutBlock
import Derived.Deep.MidRow
namespace Go.Proofs.YtikmoledbiepoaaGreatDoor
open Go.RowKit
theorem wpList_load33 {ops : Array Oper} {rest : List Oper} {o : Oper} {a : Act} {w : World} {Q : Exit → Act → World → Prop} (hw : Region.wanted o (yielded ops a.tmps) = true) (x : Operand) (ho : o.op = .load 33 x)
    (b : Nat) (hx : a.eval x = .pointer (some ⟨b, 0, none⟩)) (cs : Array Value) (hg : w.heap[b]? = some (.cells cs 33)) (hs : cs.size = 23)
    (h : wpList Tryz.prog ops Q rest (a.put o.dst (.agg cs)) w) : wpList Tryz.prog ops Q (o :: rest) a w :=
  wpList_step fun K hK => by
    obtain ⟨d, hu⟩ := und33
    rw [if_pos hw]
    exact wp_load_row 33 x ho b hx 33 cs (0, 0) _ hg hu rfl (by rw [hs]; kernel_rfl) (hK _ _ h)
theorem Ext.setCell {a b : World} (h : Ext a b) {p : Addr} (hp : a.heap.size ≤ p.block) (u : Value) : Ext a (b.setCell p u) :=
  ⟨h.os, h.tape, h.output, by simpa [World.setCell] using h.size, fun k hk => by rw [Below.heap_setCell _ _ _ _ (by omega)]; exact h.block k hk⟩
/-- The cells vs laid from offset o on. -/
def putAt (cs : Array Value) : Nat → List Value → Array Value
  | _, [] => cs
  | o, v :: r => putAt (cs.setIfInBounds o v) (o + 1) r
theorem heap_setCells_self {b : Nat} {T : TypeId} : ∀ (vs : List Value) (o : Nat) (w : World) (cs : Array Value), w.heap[b]? = some (.cells cs T) → (w.setCells b o vs).heap[b]? = some (.cells (putAt cs o vs) T)
  | [], _, _, _, h => h
  | v :: r, o, _, _, h => heap_setCells_self r (o + 1) _ _ (heap_setCell_self h o v)
theorem putAt_list : ∀ (vs : List Value) (o : Nat) (l : List Value), o + vs.length ≤ l.length → putAt l.toArray o vs = (l.take o ++ (vs ++ l.drop (o + vs.length))).toArray
  | [], o, l, _ => by simp [putAt]
  | v :: r, o, l, h => by
    simp only [List.length_cons] at h
    rw [putAt, List.setIfInBounds_toArray, putAt_list r (o + 1) (l.set o v) (by simp; omega)]
    congr 1
    have h1 : (l.set o v).take (o + 1) = l.take o ++ [v] := by
      rw [List.take_add_one, List.take_set_of_le (Nat.le_refl _), List.getElem?_set_self (by omega)]
      rfl
    have h2 : (l.set o v).drop (o + 1 + r.length) = l.drop (o + (v :: r).length) := by
      rw [List.drop_set_of_lt (by omega)]
      congr 1
      simp
      omega
    rw [h1, h2]
    simp
theorem put_call (x : Ac) (c : Cal) (fv : Value) : putAt (x.cells fv).toArray 2 c.cells = ({ x with call := c }.cells fv).toArray := by
  rw [putAt_list _ _ _ (by simp [Ac.cells, Cal.cells_length]), Cal.cells_length]
  rfl
theorem put_inj (x : Ac) (a b : Int) (d : List UInt8) (fv : Value) : putAt (x.cells fv).toArray 20 [.int .i64 a, .int .i64 b, .string ⟨d.toArray⟩] = ({ x with fr := a, tgt := b, dat := d }.cells fv).toArray := by
  rw [putAt_list _ _ _ (by simp [Ac.cells, Cal.cells_length])]
  rfl
theorem Ext.setCells {a : World} {g : Nat} (hg : a.heap.size ≤ g) : ∀ (vs : List Value) (o : Nat) (b : World), Ext a b → Ext a (b.setCells g o vs)
  | [], _, _, h => h
  | v :: r, o, _, h => Ext.setCells hg r (o + 1) _ (h.setCell (p := ⟨g, o, none⟩) hg v)
theorem setCells_other {g k : Nat} (hk : k ≠ g) : ∀ (vs : List Value) (o : Nat) (b : World), (b.setCells g o vs).heap[k]? = b.heap[k]?
  | [], _, _ => rfl
  | v :: r, o, b => by
    rw [World.setCells, setCells_other hk r (o + 1), Below.heap_setCell _ _ _ _ hk]
theorem there_of_block {w : World} {b : Nat} {cs : Array Value} {T : TypeId} (h : w.heap[b]? = some (.cells cs T)) (o n : Nat) (hn : o + n ≤ cs.size) : w.there b o n := fun j hj =>
  ⟨by rw [Lib.cell_of_heap h, Array.getElem?_eq_getElem (by omega)]; rfl, Lib.frozen_of_heap h _⟩
theorem und28 : ∃ fs, Tryz.prog.underlying 28 = some (.struct fs) := by
  have h : (match Tryz.prog.underlying 28 with | some (.struct _) => true | _ => false) = true := by kernel_rfl
  cases hu : Tryz.prog.underlying 28 with
  | none => rw [hu] at h; cases h
  | some d =>
    rw [hu] at h
    cases d <;> first | exact ⟨_, rfl⟩ | cases h
theorem und31 : ∃ fs, Tryz.prog.underlying 31 = some (.struct fs) := by
  have h : (match Tryz.prog.underlying 31 with | some (.struct _) => true | _ => false) = true := by kernel_rfl
  cases hu : Tryz.prog.underlying 31 with
  | none => rw [hu] at h; cases h
  | some d =>
    rw [hu] at h
    cases d <;> first | exact ⟨_, rfl⟩ | cases h
theorem inf28 : (Tryz.prog.info? 28).map (·.size) = some 16 := by kernel_rfl
theorem inf31 : (Tryz.prog.info? 31).map (·.size) = some 3 := by kernel_rfl
theorem inf33 : (Tryz.prog.info? 33).map (·.size) = some 23 := by kernel_rfl
/-- The call of an action in memory. -/
theorem ac_call {w : World} {b : Nat} {T : TypeId} {a : Ac} {fv : Value} (h : w.heap[b]? = some (.cells (a.cells fv).toArray T)) : w.rangeAt b 2 a.call.cells := fun j v hv => by
  have hC : CalIn w b 2 T [vI a.kind, vI a.side] [vI a.n, fv, vI a.fr, vI a.tgt, vS a.dat] a.call := ⟨rfl, h⟩
  exact hC.cell hv
theorem ac_inj {w : World} {b : Nat} {T : TypeId} {a : Ac} {fv : Value} (h : w.heap[b]? = some (.cells (a.cells fv).toArray T)) : w.rangeAt b 20 [vI a.fr, vI a.tgt, vS a.dat] := fun j v hv => by
  rw [Lib.cell_of_heap h]
  match j, hv with
  | 0, hv => exact hv
  | 1, hv => exact hv
  | 2, hv => exact hv
theorem load28 {w : World} {b o : Nat} {c : Cal} (h : w.rangeAt b o c.cells) : (Instr.loadAt 28 (.pointer (some ⟨b, o, none⟩))).run Tryz.prog w = .ok (.agg c.cells.toArray) w := by
  obtain ⟨fs, hu⟩ := und28
  exact run_loadAt_mid w b o 28 c.cells _ h hu rfl inf28
theorem load31 {w : World} {b o : Nat} {x y z : Value} (h : w.rangeAt b o [x, y, z]) : (Instr.loadAt 31 (.pointer (some ⟨b, o, none⟩))).run Tryz.prog w = .ok (.agg #[x, y, z]) w := by
  obtain ⟨fs, hu⟩ := und31
  exact run_loadAt_mid w b o 31 [x, y, z] _ h hu rfl inf31
theorem load33m {w : World} {b o : Nat} {a : Ac} {fv : Value} (h : w.rangeAt b o (a.cells fv)) : (Instr.loadAt 33 (.pointer (some ⟨b, o, none⟩))).run Tryz.prog w = .ok (.agg (a.cells fv).toArray) w := by
  obtain ⟨fs, hu⟩ := und33
  exact run_loadAt_mid w b o 33 (a.cells fv) _ h hu rfl inf33
theorem cal_one (c : Cal) : c.cells.toArray.all (·.oneCell') = true := by
  simp [Cal.cells, vI, vS, Value.oneCell']
theorem store28 {w : World} {b o : Nat} {cs : Array Value} {T : TypeId} (c : Cal) (h : w.heap[b]? = some (.cells cs T)) (hn : o + 16 ≤ cs.size) :
    (Instr.storeAt 28 (.pointer (some ⟨b, o, none⟩)) (.agg c.cells.toArray)).run Tryz.prog w = .ok () (w.setCells b o c.cells) :=
  run_storeAt_mid w b o 28 c.cells.toArray (there_of_block h o 16 hn) inf28 (cal_one c)
theorem store31 {w : World} {b o : Nat} {cs : Array Value} {T : TypeId} (x y z : Value) (h : w.heap[b]? = some (.cells cs T)) (hn : o + 3 ≤ cs.size) (h1 : (#[x, y, z] : Array Value).all (·.oneCell') = true) :
    (Instr.storeAt 31 (.pointer (some ⟨b, o, none⟩)) (.agg #[x, y, z])).run Tryz.prog w = .ok () (w.setCells b o [x, y, z]) :=
  run_storeAt_mid w b o 31 #[x, y, z] (there_of_block h o 3 hn) inf31 h1
section
variable {ops : Array Oper} {rest : List Oper} {o : Oper} {f : Act} {w : World} {Q : Exit → Act → World → Prop}
theorem wpList_ld28 (hgd : o.guard = none) (x : Operand) (ho : o.op = .load 28 x) (b k : Nat) (hx : f.eval x = .pointer (some ⟨b, k, none⟩)) (c : Cal) (hr : w.rangeAt b k c.cells)
    (h : wpList Tryz.prog ops Q rest (f.put o.dst (.agg c.cells.toArray)) w) : wpList Tryz.prog ops Q (o :: rest) f w := by
  obtain ⟨fs, hu⟩ := und28
  exact wpList_load_mid hgd 28 x ho b k hx c.cells _ hr hu rfl inf28 h
theorem wpList_ld31 (hgd : o.guard = none) (x : Operand) (ho : o.op = .load 31 x) (b k : Nat) (hx : f.eval x = .pointer (some ⟨b, k, none⟩)) (p q r : Value) (hr : w.rangeAt b k [p, q, r])
    (h : wpList Tryz.prog ops Q rest (f.put o.dst (.agg #[p, q, r])) w) : wpList Tryz.prog ops Q (o :: rest) f w := by
  obtain ⟨fs, hu⟩ := und31
  exact wpList_load_mid hgd 31 x ho b k hx [p, q, r] _ hr hu rfl inf31 h
theorem wpList_st31 (hgd : o.guard = none) (x y : Operand) (ho : o.op = .store 31 x y) (b k : Nat) (hx : f.eval x = .pointer (some ⟨b, k, none⟩)) (p q r : Value) (hy : f.eval y = .agg #[p, q, r]) {cs : Array Value} {T : TypeId} (hb : w.heap[b]? = some (.cells cs T)) (hn : k + 3 ≤ cs.size)
    (h1 : (#[p, q, r] : Array Value).all (·.oneCell') = true) (h : wpList Tryz.prog ops Q rest (f.put o.dst undef) (w.setCells b k [p, q, r])) : wpList Tryz.prog ops Q (o :: rest) f w :=
  wpList_store_mid hgd 31 x y ho b k #[p, q, r] hx hy (there_of_block hb k 3 hn) inf31 h1 h
theorem wpList_ld33m (hgd : o.guard = none) (x : Operand) (ho : o.op = .load 33 x) (b k : Nat) (hx : f.eval x = .pointer (some ⟨b, k, none⟩)) (c : Ac) (fv : Value) (hr : w.rangeAt b k (c.cells fv))
    (h : wpList Tryz.prog ops Q rest (f.put o.dst (.agg (c.cells fv).toArray)) w) : wpList Tryz.prog ops Q (o :: rest) f w := by
  obtain ⟨fs, hu⟩ := und33
  exact wpList_load_mid hgd 33 x ho b k hx (c.cells fv) _ hr hu rfl inf33 h
end
end Go.Proofs.YtikmoledbiepoaaGreatDoor

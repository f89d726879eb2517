/- The makers of fields: integer, text, direction. -/
import Derived.Test.YtikmoledbiepoaaGreatDoorWrites
import Derived.Laws.EntriesVeiled
namespace Go.Proofs.YtikmoledbiepoaaGreatDoor
open Go.RowKit
theorem mkFn : ∀ (fn : Fn) (first cap : Array Value) (w : World), (Instr.makeFunc fn first cap).run Tryz.prog w = .ok (.func fn first cap) w := fun _ _ _ _ => rfl
theorem alloc_new (w : World) (o : Obj) : (w.alloc o).heap[w.heap.size]? = some o := by
  show (w.heap.push o)[w.heap.size]? = _
  simp
theorem alloc_old (w : World) (o : Obj) {k : Nat} (h : k < w.heap.size) : (w.alloc o).heap[k]? = w.heap[k]? := Below.heap_alloc w o k h
theorem alloc_size (w : World) (o : Obj) : (w.alloc o).heap.size = w.heap.size + 1 := by simp
theorem Ext.alloc (w : World) (o : Obj) : Ext w (w.alloc o) := (Below.refl _ _).alloc (Nat.le_refl _) _
/-- What the makers of an integer or a text field leave: two function values over two boxes. -/
def MadeField (f1 f2 : FuncId) (T2 : TypeId) (m : Int) (ov : Value) (w : World) (e : Ending) (w' : World) : Prop :=
  e = .returned (.agg #[.func (.func f1) #[] #[.pointer (some ⟨w.heap.size + 1, 0, none⟩)], .func (.func f2) #[] #[.pointer (some ⟨w.heap.size + 1, 0, none⟩), .pointer (some ⟨w.heap.size, 0, none⟩)]]) ∧ Ext w w' ∧
      w'.heap[w.heap.size]? = some (.cells #[.int .i64 m] 3) ∧ w'.heap[w.heap.size + 1]? = some (.cells #[ov] T2)
theorem three_allocs (w : World) (a b c : Obj) : Ext w (((w.alloc a).alloc b).alloc c) ∧ (((w.alloc a).alloc b).alloc c).heap[w.heap.size]? = some a ∧ (((w.alloc a).alloc b).alloc c).heap[w.heap.size + 1]? = some b := by
  refine ⟨((Ext.alloc w a).trans (Ext.alloc _ b)).trans (Ext.alloc _ c), ?_, ?_⟩
  · rw [alloc_old _ _ (by simp; omega), alloc_old _ _ (by simp), alloc_new]
  · rw [alloc_old _ _ (by simp), ← alloc_size w a, alloc_new]
set_option maxHeartbeats 400000 in
theorem integer_raw (m : Int) (F : FuncId) (caps : Array Value) (w : World) :
    Calls Tryz.prog 82 #[.int .i64 m, .func (.func F) #[] caps] w (MadeField 116 117 140 m (.func (.func F) #[] caps) w) := by
  have hmf := mkFn
  go_enter Tryz.func82, Tryz.ntmps82
  go_wp2
  exact bodyPost_ret (v := .agg #[.func (.func 116) #[] #[.pointer (some ⟨w.heap.size + 1, 0, none⟩)], .func (.func 117) #[] #[.pointer (some ⟨w.heap.size + 1, 0, none⟩), .pointer (some ⟨w.heap.size, 0, none⟩)]]) (by simp [results, Tryz.results82, go_sem]) rfl ⟨rfl, three_allocs _ _ _ _⟩
set_option maxHeartbeats 400000 in
theorem text_raw (m : Int) (F : FuncId) (caps : Array Value) (w : World) :
    Calls Tryz.prog 89 #[.int .i64 m, .func (.func F) #[] caps] w (MadeField 118 119 143 m (.func (.func F) #[] caps) w) := by
  have hmf := mkFn
  go_enter Tryz.func89, Tryz.ntmps89
  go_wp2
  exact bodyPost_ret (v := .agg #[.func (.func 118) #[] #[.pointer (some ⟨w.heap.size + 1, 0, none⟩)], .func (.func 119) #[] #[.pointer (some ⟨w.heap.size + 1, 0, none⟩), .pointer (some ⟨w.heap.size, 0, none⟩)]]) (by simp [results, Tryz.results89, go_sem]) rfl ⟨rfl, three_allocs _ _ _ _⟩
set_option maxHeartbeats 400000 in
theorem direction_raw (w : World) : Calls Tryz.prog 100 #[] w fun e w' => e = .returned (.agg #[.func (.func 120) #[] #[], .func (.func 121) #[] #[]]) ∧ Ext w w' := by
  go_enter Tryz.func100, Tryz.ntmps100
  go_wp2
  exact bodyPost_ret (v := .agg #[.func (.func 120) #[] #[], .func (.func 121) #[] #[]]) (by simp [results, Tryz.results100, go_sem]) rfl ⟨rfl, Ext.alloc _ _⟩
theorem ent116 : Ent 116 := enters_of Tryz.func116 (by kernel_rfl) rfl
theorem ent117 : Ent 117 := enters_of Tryz.func117 (by kernel_rfl) rfl
theorem ent118 : Ent 118 := enters_of Tryz.func118 (by kernel_rfl) rfl
theorem ent119 : Ent 119 := enters_of Tryz.func119 (by kernel_rfl) rfl
theorem ent120 : Ent 120 := enters_of Tryz.func120 (by kernel_rfl) rfl
theorem ent121 : Ent 121 := enters_of Tryz.func121 (by kernel_rfl) rfl

/-- A field's value: its two function values read and write the field f. -/
def FldAt (lo hi : Nat) (w : World) (v : Value) (f : Fld) : Prop := ∃ rv wv, v = .agg #[rv, wv] ∧ FldR lo hi w rv f ∧ FldW lo hi w wv f ∧ (∃ F1 c1 F2 c2, rv = .func (.func F1) #[] c1 ∧ wv = .func (.func F2) #[] c2)
theorem FldAt.mono {lo hi lo' hi' : Nat} {w w' : World} {v : Value} {f : Fld} (h : FldAt lo hi w v f) (hs : SameIn lo hi w w') (h1 : lo' ≤ lo) (h2 : hi ≤ hi') : FldAt lo' hi' w' v f := by
  obtain ⟨rv, wv, rfl, hr, hw, hx⟩ := h
  exact ⟨rv, wv, rfl, hr.mono hs h1 h2, hw.mono hs h1 h2, hx⟩

theorem cell0_of {w : World} {b : Nat} {v : Value} {T : TypeId} (h : w.heap[b]? = some (.cells #[v] T)) : w.cell? ⟨b, 0, none⟩ = some v := by rw [Lib.cell_of_heap h]; rfl

theorem integer_any (lo m k : Nat) (ov : Value) (w : World) (hk : isI k = true) (hof : Of lo w.heap.size w ov k) (hlo : lo ≤ w.heap.size) :
    Calls Tryz.prog 82 #[.int .i64 (m : Int), ov] w fun e w' => (∃ v, e = .returned v ∧ FldAt lo w'.heap.size w' v ⟨0, m, k⟩) ∧ Ext w w' := by
  obtain ⟨F, caps, rfl, hE, hF⟩ := hof
  refine (integer_raw m F caps w).mono ?_
  rintro e w' ⟨rfl, hx, hm, ho⟩
  have hof : Of lo w.heap.size w (.func (.func F) #[] caps) k := ⟨F, caps, rfl, hE, hF⟩
  have hof' : Of lo w'.heap.size w' (.func (.func F) #[] caps) k := hof.mono (SameIn.of_ext hx) (Nat.le_refl _) hx.size
  have hl1 := lt_of_block hm
  have hl2 := lt_of_block ho
  refine ⟨⟨_, rfl, _, _, rfl, ?_, ?_, ⟨_, _, _, _, rfl, rfl⟩⟩, hx⟩
  · refine ⟨116, _, rfl, ent116, fun w2 hs hg br bw ws b o T pre post c hr hC hne hnw h9 hws => ?_⟩
    have h1 := hs.box (by omega) hl2 ho (by decide)
    exact intRead lo w'.heap.size _ m k _ w2 hk (cell0_of h1) (hof'.mono hs (Nat.le_refl _) (Nat.le_refl _)) hg br bw b o ws T pre post c hr hC hne hnw h9 hws
  · refine ⟨117, _, rfl, ent117, fun w2 hs hg b o T pre post c hC hfit => ?_⟩
    have h1 := hs.box (by omega) hl2 ho (by decide)
    have h2 := hs.box (by omega) hl1 hm (by decide)
    exact intWrite lo w'.heap.size _ _ m k _ w2 hk (cell0_of h1) (cell0_of h2) (hof'.mono hs (Nat.le_refl _) (Nat.le_refl _)) hg b o T pre post c hC hfit (lt_of_block h1) (lt_of_block h2)
theorem text_any' (lo m k : Nat) (ov : Value) (w : World) (hk : isS k = true) (hof : Of lo w.heap.size w ov k) (hlo : lo ≤ w.heap.size) :
    Calls Tryz.prog 89 #[.int .i64 (m : Int), ov] w fun e w' => (∃ v, e = .returned v ∧ FldAt lo w'.heap.size w' v ⟨1, m, k⟩) ∧ Ext w w' := by
  obtain ⟨F, caps, rfl, hE, hF⟩ := hof
  refine (text_raw m F caps w).mono ?_
  rintro e w' ⟨rfl, hx, hm, ho⟩
  have hof : Of lo w.heap.size w (.func (.func F) #[] caps) k := ⟨F, caps, rfl, hE, hF⟩
  have hof' : Of lo w'.heap.size w' (.func (.func F) #[] caps) k := hof.mono (SameIn.of_ext hx) (Nat.le_refl _) hx.size
  have hl1 := lt_of_block hm
  have hl2 := lt_of_block ho
  refine ⟨⟨_, rfl, _, _, rfl, ?_, ?_, ⟨_, _, _, _, rfl, rfl⟩⟩, hx⟩
  · refine ⟨118, _, rfl, ent118, fun w2 hs hg br bw ws b o T pre post c hr hC hne hnw h9 hws => ?_⟩
    have h1 := hs.box (by omega) hl2 ho (by decide)
    exact txtRead lo w'.heap.size _ m k _ w2 hk (cell0_of h1) (hof'.mono hs (Nat.le_refl _) (Nat.le_refl _)) hg br bw b o ws T pre post c hr hC hne hnw h9 hws
  · refine ⟨119, _, rfl, ent119, fun w2 hs hg b o T pre post c hC hfit => ?_⟩
    have h1 := hs.box (by omega) hl2 ho (by decide)
    have h2 := hs.box (by omega) hl1 hm (by decide)
    exact txtWrite lo w'.heap.size _ _ m k _ w2 hk (cell0_of h1) (cell0_of h2) (hof'.mono hs (Nat.le_refl _) (Nat.le_refl _)) b o T pre post c hC hfit (lt_of_block h1) (lt_of_block h2)
theorem direction_any (lo m k : Nat) (w : World) :
    Calls Tryz.prog 100 #[] w fun e w' => (∃ v, e = .returned v ∧ FldAt lo w'.heap.size w' v ⟨2, m, k⟩) ∧ Ext w w' := by
  refine (direction_raw w).mono ?_
  rintro e w' ⟨rfl, hx⟩
  refine ⟨⟨_, rfl, _, _, rfl, ?_, ?_, ⟨_, _, _, _, rfl, rfl⟩⟩, hx⟩
  · exact ⟨120, _, rfl, ent120, fun w2 _ _ br bw ws b o T pre post c hr hC hne hnw _ hws => dirRead m k w2 br bw b o ws T pre post c hr hC hne hnw hws⟩
  · exact ⟨121, _, rfl, ent121, fun w2 _ _ b o T pre post c hC _ => dirWrite m k w2 b o T pre post c hC⟩
end Go.Proofs.YtikmoledbiepoaaGreatDoor

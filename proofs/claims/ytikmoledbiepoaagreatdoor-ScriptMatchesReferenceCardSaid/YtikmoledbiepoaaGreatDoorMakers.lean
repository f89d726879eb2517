/- The makers of fields: integer, text, direction. -/
import Derived.Test.YtikmoledbiepoaaGreatDoorFields
import Derived.Laws.EntriesVeiled
namespace Go.Proofs.YtikmoledbiepoaaGreatDoor
open Go.RowKit
theorem mkFn : ∀ (fn : Fn) (first cap : Array Value) (w : World), (Instr.makeFunc fn first cap).run Tryz.prog w = .ok (.func fn first cap) w := fun _ _ _ _ => rfl
theorem alloc_new (w : World) (o : Obj) : (w.alloc o).heap[w.heap.size]? = some o := by
  show (w.heap.push o)[w.heap.size]? = _
  simp
theorem alloc_old (w : World) (o : Obj) {k : Nat} (h : k < w.heap.size) : (w.alloc o).heap[k]? = w.heap[k]? := Below.heap_alloc w o k h
theorem alloc_size (w : World) (o : Obj) : (w.alloc o).heap.size = w.heap.size + 1 := by simp
theorem Ext.alloc (w : World) (o : Obj) : Ext w (w.alloc o) := (Below.refl _ _).alloc (Nat.le_refl _) _
/-- What the makers of an integer or a text field leave: two function values over two boxes. -/
def MadeField (f1 f2 : FuncId) (T2 : TypeId) (m : Int) (ov : Value) (w : World) (e : Ending) (w' : World) : Prop :=
  e = .returned (.agg #[.func (.func f1) #[] #[.pointer (some ⟨w.heap.size + 1, 0, none⟩)], .func (.func f2) #[] #[.pointer (some ⟨w.heap.size + 1, 0, none⟩), .pointer (some ⟨w.heap.size, 0, none⟩)]]) ∧ Ext w w' ∧
      w'.heap[w.heap.size]? = some (.cells #[.int .i64 m] 3) ∧ w'.heap[w.heap.size + 1]? = some (.cells #[ov] T2)
theorem three_allocs (w : World) (a b c : Obj) : Ext w (((w.alloc a).alloc b).alloc c) ∧ (((w.alloc a).alloc b).alloc c).heap[w.heap.size]? = some a ∧ (((w.alloc a).alloc b).alloc c).heap[w.heap.size + 1]? = some b := by
  refine ⟨((Ext.alloc w a).trans (Ext.alloc _ b)).trans (Ext.alloc _ c), ?_, ?_⟩
  · rw [alloc_old _ _ (by simp; omega), alloc_old _ _ (by simp), alloc_new]
  · rw [alloc_old _ _ (by simp), ← alloc_size w a, alloc_new]
set_option maxHeartbeats 400000 in
theorem integer_raw (m : Int) (F : FuncId) (caps : Array Value) (w : World) :
    Calls Tryz.prog 82 #[.int .i64 m, .func (.func F) #[] caps] w (MadeField 116 117 140 m (.func (.func F) #[] caps) w) := by
  have hmf := mkFn
  go_enter Tryz.func82, Tryz.ntmps82
  go_wp2
  exact bodyPost_ret (v := .agg #[.func (.func 116) #[] #[.pointer (some ⟨w.heap.size + 1, 0, none⟩)], .func (.func 117) #[] #[.pointer (some ⟨w.heap.size + 1, 0, none⟩), .pointer (some ⟨w.heap.size, 0, none⟩)]]) (by simp [results, Tryz.results82, go_sem]) rfl ⟨rfl, three_allocs _ _ _ _⟩
set_option maxHeartbeats 400000 in
theorem text_raw (m : Int) (F : FuncId) (caps : Array Value) (w : World) :
    Calls Tryz.prog 89 #[.int .i64 m, .func (.func F) #[] caps] w (MadeField 118 119 143 m (.func (.func F) #[] caps) w) := by
  have hmf := mkFn
  go_enter Tryz.func89, Tryz.ntmps89
  go_wp2
  exact bodyPost_ret (v := .agg #[.func (.func 118) #[] #[.pointer (some ⟨w.heap.size + 1, 0, none⟩)], .func (.func 119) #[] #[.pointer (some ⟨w.heap.size + 1, 0, none⟩), .pointer (some ⟨w.heap.size, 0, none⟩)]]) (by simp [results, Tryz.results89, go_sem]) rfl ⟨rfl, three_allocs _ _ _ _⟩
set_option maxHeartbeats 400000 in
theorem direction_raw (w : World) : Calls Tryz.prog 100 #[] w fun e w' => e = .returned (.agg #[.func (.func 120) #[] #[], .func (.func 121) #[] #[]]) ∧ Ext w w' := by
  go_enter Tryz.func100, Tryz.ntmps100
  go_wp2
  exact bodyPost_ret (v := .agg #[.func (.func 120) #[] #[], .func (.func 121) #[] #[]]) (by simp [results, Tryz.results100, go_sem]) rfl ⟨rfl, Ext.alloc _ _⟩
theorem ent116 : Ent 116 := enters_of Tryz.func116 (by kernel_rfl) rfl
theorem ent117 : Ent 117 := enters_of Tryz.func117 (by kernel_rfl) rfl
theorem ent118 : Ent 118 := enters_of Tryz.func118 (by kernel_rfl) rfl
theorem ent119 : Ent 119 := enters_of Tryz.func119 (by kernel_rfl) rfl
theorem ent120 : Ent 120 := enters_of Tryz.func120 (by kernel_rfl) rfl
theorem ent121 : Ent 121 := enters_of Tryz.func121 (by kernel_rfl) rfl

/-- A field's value: its two function values read and write the field f. -/
def FldAt (lo hi : Nat) (w : World) (v : Value) (f : Fld) : Prop := ∃ rv wv, v = .agg #[rv, wv] ∧ FldR lo hi w rv f ∧ FldW lo hi w wv f ∧ (∃ F1 c1 F2 c2, rv = .func (.func F1) #[] c1 ∧ wv = .func (.func F2) #[] c2)
theorem FldAt.mono {lo hi lo' hi' : Nat} {w w' : World} {v : Value} {f : Fld} (h : FldAt lo hi w v f) (hs : SameIn lo hi w w') (h1 : lo' ≤ lo) (h2 : hi ≤ hi') : FldAt lo' hi' w' v f := by
  obtain ⟨rv, wv, rfl, hr, hw, hx⟩ := h
  exact ⟨rv, wv, rfl, hr.mono hs h1 h2, hw.mono hs h1 h2, hx⟩

theorem cell0_of {w : World} {b : Nat} {v : Value} {T : TypeId} (h : w.heap[b]? = some (.cells #[v] T)) : w.cell? ⟨b, 0, none⟩ = some v := by rw [Lib.cell_of_heap h]; rfl

theorem integer_any (lo m k : Nat) (ov : Value) (w : World) (hk : isI k = true) (hof : Of lo w.heap.size w ov k) (hlo : lo ≤ w.heap.size) :
    Calls Tryz.prog 82 #[.int .i64 (m : Int), ov] w fun e w' => (∃ v, e = .returned v ∧ FldAt lo w'.heap.size w' v ⟨0, m, k⟩) ∧ Ext w w' := by
  obtain ⟨F, caps, rfl, hE, hF⟩ := hof
  refine (integer_raw m F caps w).mono ?_
  rintro e w' ⟨rfl, hx, hm, ho⟩
  have hof : Of lo w.heap.size w (.func (.func F) #[] caps) k := ⟨F, caps, rfl, hE, hF⟩
  have hof' : Of lo w'.heap.size w' (.func (.func F) #[] caps) k := hof.mono (SameIn.of_ext hx) (Nat.le_refl _) hx.size
  have hl1 := lt_of_block hm
  have hl2 := lt_of_block ho
  refine ⟨⟨_, rfl, _, _, rfl, ?_, ?_, ⟨_, _, _, _, rfl, rfl⟩⟩, hx⟩
  · refine ⟨116, _, rfl, ent116, fun w2 hs hg br bw ws b o T pre post c hr hC hne hnw h9 hws => ?_⟩
    have h1 := hs.box (by omega) hl2 ho (by decide)
    exact intRead lo w'.heap.size _ m k _ w2 hk (cell0_of h1) (hof'.mono hs (Nat.le_refl _) (Nat.le_refl _)) hg br bw b o ws T pre post c hr hC hne hnw h9 hws
  · refine ⟨117, _, rfl, ent117, fun w2 hs hg b o T pre post c hC hfit => ?_⟩
    have h1 := hs.box (by omega) hl2 ho (by decide)
    have h2 := hs.box (by omega) hl1 hm (by decide)
    exact intWrite lo w'.heap.size _ _ m k _ w2 hk (cell0_of h1) (cell0_of h2) (hof'.mono hs (Nat.le_refl _) (Nat.le_refl _)) hg b o T pre post c hC hfit (lt_of_block h1) (lt_of_block h2)
theorem text_any' (lo m k : Nat) (ov : Value) (w : World) (hk : isS k = true) (hof : Of lo w.heap.size w ov k) (hlo : lo ≤ w.heap.size) :
    Calls Tryz.prog 89 #[.int .i64 (m : Int), ov] w fun e w' => (∃ v, e = .returned v ∧ FldAt lo w'.heap.size w' v ⟨1, m, k⟩) ∧ Ext w w' := by
  obtain ⟨F, caps, rfl, hE, hF⟩ := hof
  refine (text_raw m F caps w).mono ?_
  rintro e w' ⟨rfl, hx, hm, ho⟩
  have hof : Of lo w.heap.size w (.func (.func F) #[] caps) k := ⟨F, caps, rfl, hE, hF⟩
  have hof' : Of lo w'.heap.size w' (.func (.func F) #[] caps) k := hof.mono (SameIn.of_ext hx) (Nat.le_refl _) hx.size
  have hl1 := lt_of_block hm
  have hl2 := lt_of_block ho
  refine ⟨⟨_, rfl, _, _, rfl, ?_, ?_, ⟨_, _, _, _, rfl, rfl⟩⟩, hx⟩
  · refine ⟨118, _, rfl, ent118, fun w2 hs hg br bw ws b o T pre post c hr hC hne hnw h9 hws => ?_⟩
    have h1 := hs.box (by omega) hl2 ho (by decide)
    exact txtRead lo w'.heap.size _ m k _ w2 hk (cell0_of h1) (hof'.mono hs (Nat.le_refl _) (Nat.le_refl _)) hg br bw b o ws T pre post c hr hC hne hnw h9 hws
  · refine ⟨119, _, rfl, ent119, fun w2 hs hg b o T pre post c hC hfit => ?_⟩
    have h1 := hs.box (by omega) hl2 ho (by decide)
    have h2 := hs.box (by omega) hl1 hm (by decide)
    exact txtWrite lo w'.heap.size _ _ m k _ w2 hk (cell0_of h1) (cell0_of h2) (hof'.mono hs (Nat.le_refl _) (Nat.le_refl _)) b o T pre post c hC hfit (lt_of_block h1) (lt_of_block h2)
theorem direction_any (lo m k : Nat) (w : World) :
    Calls Tryz.prog 100 #[] w fun e w' => (∃ v, e = .returned v ∧ FldAt lo w'.heap.size w' v ⟨2, m, k⟩) ∧ Ext w w' := by
  refine (direction_raw w).mono ?_
  rintro e w' ⟨rfl, hx⟩
  refine ⟨⟨_, rfl, _, _, rfl, ?_, ?_, ⟨_, _, _, _, rfl, rfl⟩⟩, hx⟩
  · exact ⟨120, _, rfl, ent120, fun w2 _ _ br bw ws b o T pre post c hr hC hne hnw _ hws => dirRead m k w2 br bw b o ws T pre post c hr hC hne hnw hws⟩
  · exact ⟨121, _, rfl, ent121, fun w2 _ _ b o T pre post c hC _ => dirWrite m k w2 b o T pre post c hC⟩
end Go.Proofs.YtikmoledbiepoaaGreatDoor
/- The map literal of script.forms: the state that its operations build, in whatever order. -/
namespace Go.Proofs.YtikmoledbiepoaaGreatDoor
open Go.RowKit
/-- A new row of fields that is made of values. -/
theorem run_buildFields1 (rv wv : Value) (w : World) :
    (Instr.buildSlice 114 1 #[(0, .agg #[rv, wv])]).run Tryz.prog w = .ok (.slice (some ⟨w.heap.size, 0, none⟩) 1 1) (w.alloc (.cells #[rv, wv] 123)) := by kernel_rfl
theorem run_buildFields2 (r0 w0 r1 w1 : Value) (w : World) :
    (Instr.buildSlice 114 2 #[(0, .agg #[r0, w0]), (1, .agg #[r1, w1])]).run Tryz.prog w = .ok (.slice (some ⟨w.heap.size, 0, none⟩) 2 2) (w.alloc (.cells #[r0, w0, r1, w1] 123)) := by kernel_rfl
theorem run_buildForm (s : ByteArray) (a : Option Addr) (n c : Nat) (w : World) :
    (Instr.build 116 #[(0, .string s), (1, .slice a n c)]).run Tryz.prog w = .ok (.agg #[.string s, .slice a n c]) w := by kernel_rfl
theorem run_load123 (b : Nat) (rv wv : Value) (w : World) (h : w.heap[b]? = some (.cells #[rv, wv] 123)) :
    (Instr.loadAt 123 (.pointer (some ⟨b, 0, none⟩))).run Tryz.prog w = .ok (.agg #[rv, wv]) w := by
  have h0 : w.cell? ⟨b, 0, none⟩ = some rv := by rw [Lib.cell_of_heap h]; rfl
  have h1 : w.cell? ⟨b, 1, none⟩ = some wv := by rw [Lib.cell_of_heap h]; rfl
  simp [go_sem, h0, h1]
theorem run_getObj_map {w : World} {bm : Nat} {es : Array MapEntry} {clk : Nat} (h : w.heap[bm]? = some (.map es clk)) : (getObj bm).run Tryz.prog w = .ok (.map es clk) w := by
  simp [getObj, Sem.run, h]
theorem run_setObj_map {w : World} {bm : Nat} {es : Array MapEntry} {clk : Nat} (h : w.heap[bm]? = some (.map es clk)) (o : Obj) : (setObj bm o).run Tryz.prog w = .ok () { w with heap := w.heap.setIfInBounds bm o } := by
  simp [setObj, Sem.run, h]
theorem run_insert (bm : Nat) (es : Array MapEntry) (clk : Nat) (k : Int) (v : Value) (w : World) (h : w.heap[bm]? = some (.map es clk)) (hn : ∀ e ∈ es.toList, ∃ j : Int, e.key = .int .i64 j ∧ j ≠ k) :
    (Instr.mapUpdate 118 (.map (some bm)) (.int .i64 k) v).run Tryz.prog w = .ok () { w with heap := w.heap.setIfInBounds bm (.map (es.push { key := .int .i64 k, val := v, born := clk }) (clk + 1)) } := by
  have hf : ∀ (l : List MapEntry) (i : Nat), (∀ e ∈ l, ∃ j : Int, e.key = .int .i64 j ∧ j ≠ k) → Instr.findNow (.int .i64) (.int .i64 k) l i = some none := by
    intro l
    induction l with
    | nil => intro i _; rfl
    | cons e r ih =>
      intro i hl
      obtain ⟨j, hj, hne⟩ := hl e (by simp)
      unfold Instr.findNow
      have : (k == j) = false := beq_eq_false_iff_ne.2 (Ne.symm hne)
      simp [hj, Instr.sameNow, this]
      exact ih (i + 1) fun e he => hl e (by simp [he])
  have hff := hf es.toList 0 hn
  have u118 : Tryz.prog.underlying 118 = some (.map 3 116) := by kernel_rfl
  have u3 : Tryz.prog.underlying 3 = some (.int .i64) := by kernel_rfl
  have hck : ∀ w, (Instr.checkKey false 10000 3 (.int .i64 k)).run Tryz.prog w = .ok () w := fun w => by kernel_rfl
  have hfk : ∀ w, (Instr.findKey 3 (.int .i64 k) es.toList).run Tryz.prog w = .ok none w := fun w => by
    unfold Instr.findKey
    simp [run_underlying u3, hff]
  unfold Instr.mapUpdate
  simp [run_underlying u118, run_getObj_map h, run_setObj_map h, hck, hfk]

theorem run_buildFields3 (r0 w0 r1 w1 r2 w2 : Value) (w : World) :
    (Instr.buildSlice 114 3 #[(0, .agg #[r0, w0]), (1, .agg #[r1, w1]), (2, .agg #[r2, w2])]).run Tryz.prog w = .ok (.slice (some ⟨w.heap.size, 0, none⟩) 3 3) (w.alloc (.cells #[r0, w0, r1, w1, r2, w2] 123)) := by kernel_rfl
theorem run_buildFields4 (r0 w0 r1 w1 r2 w2 r3 w3 : Value) (w : World) :
    (Instr.buildSlice 114 4 #[(0, .agg #[r0, w0]), (1, .agg #[r1, w1]), (2, .agg #[r2, w2]), (3, .agg #[r3, w3])]).run Tryz.prog w = .ok (.slice (some ⟨w.heap.size, 0, none⟩) 4 4) (w.alloc (.cells #[r0, w0, r1, w1, r2, w2, r3, w3] 123)) := by kernel_rfl

/-- The cells cur begin with the fields fs. -/
def FldCells (lo hi : Nat) (w : World) (cur : Array Value) (fs : List Fld) : Prop :=
  ∀ (j : Nat) (f : Fld), fs[j]? = some f → ∃ rv wv, cur[2 * j]? = some rv ∧ cur[2 * j + 1]? = some wv ∧ FldAt lo hi w (.agg #[rv, wv]) f
/-- A slice of fields. -/
def FldsAt (lo hi : Nat) (w : World) (v : Value) (fs : List Fld) : Prop :=
  ∃ a cap, v = .slice a fs.length cap ∧ (fs ≠ [] → ∃ bs cur, a = some ⟨bs, 0, none⟩ ∧ lo ≤ bs ∧ w.heap[bs]? = some (.cells cur 123) ∧ FldCells lo hi w cur fs)

/-- Below hi all is as it was, and so is every row of cells. -/
structure R (hi : Nat) (w w' : World) : Prop where
  below : Below hi w w'
  cells : ∀ (b : Nat) (cs : Array Value) (T : TypeId) (fz : Nat × Nat), w.heap[b]? = some (.cells cs T fz) → w'.heap[b]? = some (.cells cs T fz)
theorem R.refl (hi : Nat) (w : World) : R hi w w := ⟨Below.refl _ _, fun _ _ _ _ h => h⟩
theorem R.of_ext {hi : Nat} {w w' : World} (h : Ext w w') (hh : hi ≤ w.heap.size) : R hi w w' :=
  ⟨Below.mono h hh, fun b cs T fz hb => by rw [h.block b (lt_of_block hb)]; exact hb⟩
theorem R.same {lo hi : Nat} {w w' : World} (h : R hi w w') : SameIn lo hi w w' := fun x _ h2 _ => h.below.block x h2
theorem FldCells.mono {lo hi : Nat} {w w' : World} {cur : Array Value} {fs : List Fld} (h : FldCells lo hi w cur fs) (hs : SameIn lo hi w w') : FldCells lo hi w' cur fs := by
  intro j f hj
  obtain ⟨rv, wv, h1, h2, h3⟩ := h j f hj
  exact ⟨rv, wv, h1, h2, h3.mono hs (Nat.le_refl _) (Nat.le_refl _)⟩
theorem FldsAt.r {lo hi : Nat} {w w' : World} {v : Value} {fs : List Fld} (h : FldsAt lo hi w v fs) (hr : R hi w w') : FldsAt lo hi w' v fs := by
  obtain ⟨a, cap, rfl, h⟩ := h
  refine ⟨a, cap, rfl, fun hn => ?_⟩
  obtain ⟨bs, cur, rfl, hl, hb, hc⟩ := h hn
  exact ⟨bs, cur, rfl, hl, hr.cells _ _ _ _ hb, hc.mono hr.same⟩

/-- The fields that the literal loads: by their number. -/
def fldNo (t : Nat) : Fld := [fDir, fConn, fStream, fCode, fN, fLocal, fRemote, fS].getD t fDir
/-- What each operation of the map literal is for. -/
def cls (i : Nat) : Nat × Nat :=
  [(0, 0), (1, 0), (3, 0), (4, 0), (2, 5), (2, 6), (1, 1), (3, 1), (4, 1), (3, 2), (4, 2), (2, 1), (2, 0), (1, 3), (3, 3), (4, 3), (2, 1), (1, 4), (3, 4), (4, 4),
   (2, 1), (2, 2), (2, 7), (1, 5), (3, 5), (4, 5), (2, 1), (2, 2), (1, 6), (3, 6), (4, 6), (2, 1), (2, 2), (2, 3), (1, 7), (3, 7), (4, 7), (2, 1), (2, 2), (2, 3), (1, 8), (3, 8), (4, 8),
   (2, 1), (2, 2), (2, 4), (1, 9), (3, 9), (4, 9), (2, 1), (2, 3), (1, 10), (3, 10), (4, 10), (2, 1), (1, 11), (3, 11), (4, 11), (2, 1), (2, 5), (1, 12), (3, 12), (4, 12), (2, 1), (1, 13), (3, 13), (4, 13), (5, 0), (5, 0)].getD i (4, 99)
/-- The operation that inserts form k. -/
def insIdx (k : Nat) : Nat := [3, 8, 10, 15, 19, 25, 30, 36, 42, 48, 53, 57, 62, 66].getD k 99
theorem insIdx_inj {k k' : Nat} (h : k < 14) (h' : k' < 14) (e : insIdx k = insIdx k') : k = k' := by
  have : ∀ a b : Fin 14, insIdx a.1 = insIdx b.1 → a = b := by decide
  have := this ⟨k, h⟩ ⟨k', h'⟩ e
  simpa using this

/-- An entry of the map of forms. -/
def EntryOk (lo hi : Nat) (w : World) (k : Nat) (e : MapEntry) : Prop :=
  e.key = .int .i64 (k : Int) ∧ ∃ sl, e.val = .agg #[vS (formOf k).1, sl] ∧ FldsAt lo hi w sl (formOf k).2
/-- The entries inserted so far. -/
structure Ents (lo hi : Nat) (L : Array Bool) (w : World) (es : Array MapEntry) (clk : Nat) : Prop where
  clock : clk = es.size
  born : ∀ (i : Nat) (e : MapEntry), es[i]? = some e → e.born = i
  ok : ∀ (i : Nat) (e : MapEntry), es[i]? = some e → ∃ k, k < 14 ∧ L.getD (insIdx k) false = true ∧ EntryOk lo hi w k e
  all : ∀ k, k < 14 → L.getD (insIdx k) false = true → ∃ (i : Nat) (e : MapEntry), es[i]? = some e ∧ e.key = .int .i64 (k : Int)
def MapOk (lo hi : Nat) (L : Array Bool) (v : Value) (w : World) : Prop :=
  ∃ bm es clk, v = .map (some bm) ∧ hi ≤ bm ∧ w.heap[bm]? = some (.map es clk) ∧ Ents lo hi L w es clk
def G14 (lo hi : Nat) (L : Array Bool) (i : Nat) (v : Value) (w : World) : Prop :=
  match cls i with
  | (0, _) => MapOk lo hi L v w
  | (1, k) => FldsAt lo hi w v (formOf k).2
  | (2, t) => FldAt lo hi w v (fldNo t)
  | (3, k) => ∃ sl, v = .agg #[vS (formOf k).1, sl] ∧ FldsAt lo hi w sl (formOf k).2
  | (5, _) => MapOk lo hi L v w
  | _ => True

theorem EntryOk.r {lo hi : Nat} {w w' : World} {k : Nat} {e : MapEntry} (h : EntryOk lo hi w k e) (hr : R hi w w') : EntryOk lo hi w' k e := by
  obtain ⟨h1, sl, h2, h3⟩ := h
  exact ⟨h1, sl, h2, h3.r hr⟩
theorem Ents.r {lo hi : Nat} {L L' : Array Bool} {w w' : World} {es : Array MapEntry} {clk : Nat} (h : Ents lo hi L w es clk) (hr : R hi w w') (hL : ∀ k, k < 14 → L'.getD (insIdx k) false = L.getD (insIdx k) false) : Ents lo hi L' w' es clk := by
  refine ⟨h.clock, h.born, fun i e he => ?_, fun k hk hl => h.all k hk (by rw [← hL k hk]; exact hl)⟩
  obtain ⟨k, hk, hl, hok⟩ := h.ok i e he
  exact ⟨k, hk, by rw [hL k hk]; exact hl, hok.r hr⟩
def isIns (i : Nat) : Bool := [3, 8, 10, 15, 19, 25, 30, 36, 42, 48, 53, 57, 62, 66].contains i
theorem insIdx_isIns {k : Nat} (h : k < 14) : isIns (insIdx k) = true := by
  have : ∀ a : Fin 14, isIns (insIdx a.1) = true := by decide
  exact this ⟨k, h⟩
theorem getD_set_notIns {L : Array Bool} {i : Nat} (h : isIns i = false) {k : Nat} (hk : k < 14) : (L.setIfInBounds i true).getD (insIdx k) false = L.getD (insIdx k) false := by
  refine getD_set_ne false fun e => ?_
  rw [e, insIdx_isIns hk] at h
  cases h

/-- What is known of the slots stays known where nothing is inserted. -/
theorem G14.r {lo hi : Nat} {L : Array Bool} {i j : Nat} {v : Value} {w w' : World} (h : G14 lo hi L j v w) (hr : R hi w w') (hsame : ∀ (bm : Nat) (es : Array MapEntry) (clk : Nat), w.heap[bm]? = some (.map es clk) → w'.heap[bm]? = some (.map es clk)) (hi' : isIns i = false) :
    G14 lo hi (L.setIfInBounds i true) j v w' := by
  have hmap : MapOk lo hi L v w → MapOk lo hi (L.setIfInBounds i true) v w' := by
    rintro ⟨bm, es, clk, rfl, hb, hm, he⟩
    exact ⟨bm, es, clk, rfl, hb, hsame bm es clk hm, he.r hr fun k hk => getD_set_notIns hi' hk⟩
  unfold G14 at *
  revert h
  split
  · exact hmap
  · exact fun h => h.r hr
  · exact fun h => h.mono hr.same (Nat.le_refl _) (Nat.le_refl _)
  · rintro ⟨sl, h1, h2⟩; exact ⟨sl, h1, h2.r hr⟩
  · exact hmap
  · exact fun _ => trivial

section
variable {ops : Array Oper} {Q : Exit → Act → World → Prop} {a0 : Act} {w0 : World} {lo hi : Nat} {L : Array Bool} {a : Act} {w w' : World} {i : Nat} {o : Oper} {v : Value}

/-- What a step of the literal must leave. -/
def KK (ops : Array Oper) (lo hi : Nat) (w0 : World) (L : Array Bool) (a : Act) (w : World) (i : Nat) (o : Oper) (a' : Act) (w' : World) : Prop :=
  ∃ v, a' = a.put o.dst v ∧ (o.dst = none ∨ G14 lo hi (L.setIfInBounds i true) i v w') ∧ (Below hi w0 w' ∧ hi ≤ w'.heap.size) ∧
    ∀ (j : Nat) (oj : Oper) (d : Tmp) (u : Value), ops[j]? = some oj → L.getD j false = true → oj.dst = some d → a.tmps[d]? = some u → G14 lo hi L j u w → G14 lo hi (L.setIfInBounds i true) j u w'

theorem KK.mk (hR : Ext w w') (hn : isIns i = false) (hW : Below hi w0 w ∧ hi ≤ w.heap.size) (hG : G14 lo hi L i v w') : KK ops lo hi w0 L a w i o (a.put o.dst v) w' := by
  have hr : R hi w w' := R.of_ext hR hW.2
  refine ⟨v, rfl, .inr (hG.r (R.refl _ _) (fun _ _ _ h => h) hn), ⟨hW.1.trans hr.below, Nat.le_trans hW.2 hR.size⟩, fun j oj d u _ _ _ _ hg => hg.r hr (fun bm es clk hb => ?_) hn⟩
  rw [hR.block bm (lt_of_block hb)]; exact hb
theorem stepVal (ho : ops[i]? = some o) (hg : o.guard = none) (hr : (execOp a.eval o).run Tryz.prog w = .ok (.value v) w') (hR : Ext w w') (hn : isIns i = false) (hW : Below hi w0 w ∧ hi ≤ w.heap.size) (hG : G14 lo hi L i v w') :
    wpOp Tryz.prog ops Q i (KK ops lo hi w0 L a w i o) a w := wpOp_val ho hg hr (KK.mk hR hn hW hG)
theorem stepCall {f : FuncId} {args : Array Value} (ho : ops[i]? = some o) (hg : o.guard = none) (hr : (execOp a.eval o).run Tryz.prog w = .ok (.enter f args) w) (hn : isIns i = false) (hW : Below hi w0 w ∧ hi ≤ w.heap.size)
    (hc : Calls Tryz.prog f args w fun e w' => (∃ v, e = .returned v ∧ G14 lo hi L i v w') ∧ Ext w w') :
    wpOp Tryz.prog ops Q i (KK ops lo hi w0 L a w i o) a w :=
  wpOp_call ho hg hr (hc.mono fun _ _ ⟨⟨v, he, hG⟩, hx⟩ => ⟨v, he, KK.mk hx hn hW hG⟩)

def map35 (ops : Array Oper) : Bool := (List.range ops.size).all fun j => (cls j).1 != 0 || ((ops[j]?).bind (·.dst)) == some 35
def lastWaits (ops : Array Oper) (i : Nat) : Bool := (List.range ops.size).all fun j => (cls j).1 != 5 || match ops[j]? with | some o => waitsFor o i | none => true

theorem getD_set_ins {L : Array Bool} {k k' : Nat} (hk : k < 14) (hk' : k' < 14) (hs : insIdx k < L.size) : (L.setIfInBounds (insIdx k) true).getD (insIdx k') false = (decide (k = k') || L.getD (insIdx k') false) := by
  by_cases h : k = k'
  · subst h; simp [hs]
  · rw [getD_set_ne false fun e => h (insIdx_inj hk hk' e)]; simp [h]

theorem R.of_map {bm : Nat} {o o' : Obj} (hh : hi ≤ bm) (hm : w.heap[bm]? = some o) (hno : ∀ cs T fz, o ≠ .cells cs T fz) : R hi w { w with heap := w.heap.setIfInBounds bm o' } := by
  refine ⟨⟨rfl, rfl, rfl, by simp, fun k hk => ?_⟩, fun b cs T fz hb => ?_⟩
  · rw [Array.getElem?_setIfInBounds_ne (by omega)]
  · have : bm ≠ b := fun e => by subst e; rw [hm] at hb; exact hno _ _ _ (Option.some.inj hb)
    show (w.heap.setIfInBounds bm o')[b]? = _
    rw [Array.getElem?_setIfInBounds_ne this]; exact hb

theorem stepIns {k jb t : Nat} (ho : ops[i]? = some o) (hg : o.guard = none) (hop : o.op = .insert 118 (.tmp 35) (.const (.int .i64 (k : Int))) (.tmp t)) (hd : o.dst = none) (hk : k < 14) (hi' : i = insIdx k)
    (hT : Tab ops (G14 lo hi) a0 L a w) (hs : L.size = ops.size) (hun : L.getD i true = false) (hW : Below hi w0 w ∧ hi ≤ w.heap.size)
    (o0 ob : Oper) (h0 : ops[0]? = some o0) (d0 : o0.dst = some 35) (l0 : L.getD 0 false = true)
    (hb : ops[jb]? = some ob) (db : ob.dst = some t) (lb : L.getD jb false = true) (cb : cls jb = (3, k))
    (h35 : map35 ops = true) (hlast : lastWaits ops i = true) :
    wpOp Tryz.prog ops Q i (KK ops lo hi w0 L a w i o) a w := by
  obtain ⟨v35, hv35, hM⟩ := hT.good 0 o0 35 h0 l0 d0
  obtain ⟨bm, es, clk, rfl, hbm, hm, he⟩ : MapOk lo hi L v35 w := hM
  obtain ⟨vb, hvb, hB⟩ := hT.good jb ob t hb lb db
  have hB' : ∃ sl, vb = .agg #[vS (formOf k).1, sl] ∧ FldsAt lo hi w sl (formOf k).2 := by
    have h := hB
    unfold G14 at h
    rw [cb] at h
    exact h
  obtain ⟨sl, rfl, hsl⟩ := hB'
  have hunk : L.getD (insIdx k) false = false := by
    subst hi'
    have hlt : insIdx k < L.size := by rw [hs]; exact (Array.getElem?_eq_some_iff.1 ho).1
    simpa [hlt] using hun
  have hrun : (execOp a.eval o).run Tryz.prog w = .ok .skip { w with heap := w.heap.setIfInBounds bm (.map (es.push { key := .int .i64 (k : Int), val := .agg #[vS (formOf k).1, sl], born := clk }) (clk + 1)) } := by
    have := run_insert bm es clk (k : Int) (.agg #[vS (formOf k).1, sl]) w hm (fun e hmem => by
      obtain ⟨n, hn⟩ := List.getElem?_of_mem hmem
      obtain ⟨k', hk', hl', hkey, _⟩ := he.ok n e (by simpa using hn)
      refine ⟨(k' : Int), hkey, fun e => ?_⟩
      have : k' = k := by omega
      subst this
      rw [hunk] at hl'
      cases hl')
    unfold execOp
    simp only [hop, ev hv35, ev hvb]
    simp [Act.eval, this]
  have hR : R hi w { w with heap := w.heap.setIfInBounds bm (.map (es.push { key := .int .i64 (k : Int), val := .agg #[vS (formOf k).1, sl], born := clk }) (clk + 1)) } := R.of_map hbm hm (fun _ _ _ h => by cases h)
  have hlt : insIdx k < L.size := by rw [hs, ← hi']; exact (Array.getElem?_eq_some_iff.1 ho).1
  refine wpOp_skip ho hg hrun ⟨undef, rfl, .inl hd, ⟨hW.1.trans hR.below, by simpa using hW.2⟩, fun j oj d u hj hLj hdj hu hGj => ?_⟩
  have hmap : (cls j).1 = 0 → MapOk lo hi L u w → MapOk lo hi (L.setIfInBounds i true) u { w with heap := w.heap.setIfInBounds bm (.map (es.push { key := .int .i64 (k : Int), val := .agg #[vS (formOf k).1, sl], born := clk }) (clk + 1)) } := by
    intro hc _
    have hd35 : d = 35 := by
      simp only [map35, List.all_eq_true, List.mem_range] at h35
      have := h35 j (Array.getElem?_eq_some_iff.1 hj).1
      rw [hj, hc] at this
      simpa [hdj] using this
    subst hd35
    rw [hv35] at hu
    cases hu
    have hbs : bm < w.heap.size := lt_of_block hm
    refine ⟨bm, es.push { key := .int .i64 (k : Int), val := .agg #[vS (formOf k).1, sl], born := clk }, clk + 1, rfl, hbm, by simp [hbs], ?_⟩
    subst hi'
    refine ⟨by simp [he.clock], fun n e hn => ?_, fun n e hn => ?_, fun k' hk' hl' => ?_⟩
    · rw [Array.getElem?_push] at hn
      split at hn
      · cases hn; rename_i h; rw [h, he.clock]
      · exact he.born n e hn
    · rw [Array.getElem?_push] at hn
      split at hn
      · cases hn
        exact ⟨k, hk, by rw [getD_set_ins hk hk hlt]; simp, rfl, sl, rfl, hsl.r hR⟩
      · obtain ⟨k', hk', hl', hok⟩ := he.ok n e hn
        exact ⟨k', hk', by rw [getD_set_ins hk hk' hlt, hl']; simp, hok.r hR⟩
    · by_cases hkk : k = k'
      · subst hkk
        exact ⟨es.size, { key := .int .i64 (k : Int), val := .agg #[vS (formOf k).1, sl], born := clk }, by simp, rfl⟩
      · rw [getD_set_ins hk hk' hlt] at hl'
        obtain ⟨n, e, hn, hkey⟩ := he.all k' hk' (by simpa [hkk] using hl')
        refine ⟨n, e, ?_, hkey⟩
        rw [Array.getElem?_push, if_neg ?_]
        · exact hn
        · have := (Array.getElem?_eq_some_iff.1 hn).1; omega
  unfold G14 at hGj ⊢
  revert hGj
  split
  · rename_i hc; exact hmap (by rw [hc])
  · exact fun h => h.r hR
  · exact fun h => h.mono hR.same (Nat.le_refl _) (Nat.le_refl _)
  · rintro ⟨sl, h1, h2⟩; exact ⟨sl, h1, h2.r hR⟩
  · rename_i hc
    intro _
    exfalso
    simp only [lastWaits, List.all_eq_true, List.mem_range] at hlast
    have h1 := hlast j (Array.getElem?_eq_some_iff.1 hj).1
    rw [hj, hc] at h1
    simp only [bne_self_eq_false, Bool.false_or] at h1
    obtain ⟨e, he', hbe⟩ := List.any_eq_true.1 h1
    simp only [Bool.and_eq_true, beq_iff_eq] at hbe
    have h2 := hT.down j oj e hj hLj (Array.mem_toList_iff.1 he') hbe.1
    rw [hbe.2, hi', hunk] at h2
    cases h2
  · exact fun _ => trivial
end

theorem Tab.oldn {ops : Array Oper} {G : Array Bool → Nat → Value → World → Prop} {a0 : Act} {L : Array Bool} {a : Act} {w : World} (hT : Tab ops G a0 L a w) (t : Tmp) (h : noDst ops t = true) : a.tmps[t]? = a0.tmps[t]? :=
  hT.old t fun i o ho _ => noDst_spec h i o ho
theorem listed_of {o : Oper} {L : Array Bool} (hall : ∀ e ∈ o.after, Region.binds .any e = true → L.getD e.on false = true) {j : Nat} (h : waitsFor o j = true) : L.getD j false = true := by
  obtain ⟨e, he, hb⟩ := List.any_eq_true.1 h
  simp only [Bool.and_eq_true, beq_iff_eq] at hb
  exact hb.2 ▸ hall e (Array.mem_toList_iff.1 he) hb.1
theorem Tab.get {ops : Array Oper} {G : Array Bool → Nat → Value → World → Prop} {a0 : Act} {L : Array Bool} {a : Act} {w : World} {o : Oper} (hT : Tab ops G a0 L a w)
    (hall : ∀ e ∈ o.after, Region.binds .any e = true → L.getD e.on false = true) (j : Nat) (d : Tmp) (hd : (ops[j]?).bind (·.dst) = some d) (hw : waitsFor o j = true) : ∃ v, a.tmps[d]? = some v ∧ G L j v w := by
  obtain ⟨oj, hoj, hdj⟩ := Option.bind_eq_some_iff.1 hd
  exact hT.good j oj d hoj (listed_of hall hw) hdj
/-- Each insertion waits for the map. -/
def insWait (ops : Array Oper) : Bool := (List.range 14).all fun k => match ops[insIdx k]? with | some o => waitsFor o 0 | none => false
theorem ents_empty {ops : Array Oper} {a0 : Act} {L : Array Bool} {a : Act} {w w' : World} {lo hi : Nat} (hT : Tab ops (G14 lo hi) a0 L a w) (hi' : insWait ops = true) (hun : L.getD 0 true = false) (hs : 0 < L.size) : Ents lo hi L w' #[] 0 := by
  refine ⟨rfl, fun i e h => by simp at h, fun i e h => by simp at h, fun k hk hl => ?_⟩
  exfalso
  simp only [insWait, List.all_eq_true, List.mem_range] at hi'
  have h1 := hi' k hk
  cases ho : ops[insIdx k]? with
  | none => rw [ho] at h1; cases h1
  | some o =>
    rw [ho] at h1
    obtain ⟨e, he, hb⟩ := List.any_eq_true.1 h1
    simp only [Bool.and_eq_true, beq_iff_eq] at hb
    have h2 := hT.down _ o e ho hl (Array.mem_toList_iff.1 he) hb.1
    rw [hb.2] at h2
    simp [hs] at hun h2
    rw [hun] at h2
    cases h2
theorem exec_makeMap {ρ : Operand → Value} {o : Oper} {t : TypeId} {w : World} (hop : o.op = .makeMap t none) : (execOp ρ o).run Tryz.prog w = .ok (.value (.map (some w.heap.size))) (w.alloc (.map #[] 0)) := by
  unfold execOp
  simp only [hop]
  rfl
theorem exec_build {ρ : Operand → Value} {o : Oper} {t : TypeId} {ps : Array (Nat × Operand)} {qs : Array (Nat × Value)} {v : Value} {w w' : World} (hop : o.op = .build t ps) (hq : (ps.map fun (i, x) => (i, ρ x)) = qs)
    (hr : (Instr.build t qs).run Tryz.prog w = .ok v w') : (execOp ρ o).run Tryz.prog w = .ok (.value v) w' := by
  unfold execOp
  simp only [hop, hq]
  simp [hr]
theorem exec_load123 {ρ : Operand → Value} {o : Oper} {x : Operand} {b : Nat} {rv wv : Value} {w : World} (hop : o.op = .load 123 x) (hx : ρ x = .pointer (some ⟨b, 0, none⟩)) (hb : w.heap[b]? = some (.cells #[rv, wv] 123)) :
    (execOp ρ o).run Tryz.prog w = .ok (.value (.agg #[rv, wv])) w := by
  unfold execOp
  simp only [hop, hx]
  simp [run_load123 b rv wv w hb]
theorem exec_move {ρ : Operand → Value} {o : Oper} {x : Operand} {v : Value} {w : World} (hop : o.op = .move x ∨ o.op = .assign x) (hx : ρ x = v) : (execOp ρ o).run Tryz.prog w = .ok (.value v) w := by
  unfold execOp
  rcases hop with hop | hop <;> simp only [hop, hx] <;> rfl
theorem exec_buildSlice {ρ : Operand → Value} {o : Oper} {t : TypeId} {n : Nat} {ps : Array (Nat × Operand)} {qs : Array (Nat × Value)} {v : Value} {w w' : World} (hop : o.op = .buildSlice t n ps) (hq : (ps.map fun (i, x) => (i, ρ x)) = qs)
    (hr : (Instr.buildSlice t n qs).run Tryz.prog w = .ok v w') : (execOp ρ o).run Tryz.prog w = .ok (.value v) w' := by
  unfold execOp
  simp only [hop, hq]
  simp [hr]
theorem flds_made1 {lo hi : Nat} {w : World} {r q : Value} {f : Fld} (hl : lo ≤ w.heap.size) (h : FldAt lo hi w (.agg #[r, q]) f) : FldsAt lo hi (w.alloc (.cells #[r, q] 123)) (.slice (some ⟨w.heap.size, 0, none⟩) 1 1) [f] := by
  have hx := SameIn.of_ext (lo := lo) (hi := hi) (Ext.alloc w (.cells #[r, q] 123))
  refine ⟨_, _, rfl, fun _ => ⟨_, _, rfl, hl, alloc_new _ _, fun j f' hj => ?_⟩⟩
  match j, hj with
  | 0, hj => cases hj; exact ⟨r, q, rfl, rfl, h.mono hx (Nat.le_refl _) (Nat.le_refl _)⟩
  | n + 1, hj => simp at hj
theorem flds_made2 {lo hi : Nat} {w : World} {r q r' q' : Value} {f f' : Fld} (hl : lo ≤ w.heap.size) (h : FldAt lo hi w (.agg #[r, q]) f) (h' : FldAt lo hi w (.agg #[r', q']) f') :
    FldsAt lo hi (w.alloc (.cells #[r, q, r', q'] 123)) (.slice (some ⟨w.heap.size, 0, none⟩) 2 2) [f, f'] := by
  have hx := SameIn.of_ext (lo := lo) (hi := hi) (Ext.alloc w (.cells #[r, q, r', q'] 123))
  refine ⟨_, _, rfl, fun _ => ⟨_, _, rfl, hl, alloc_new _ _, fun j f'' hj => ?_⟩⟩
  match j, hj with
  | 0, hj => cases hj; exact ⟨r, q, rfl, rfl, h.mono hx (Nat.le_refl _) (Nat.le_refl _)⟩
  | 1, hj => cases hj; exact ⟨r', q', rfl, rfl, h'.mono hx (Nat.le_refl _) (Nat.le_refl _)⟩
  | n + 2, hj => simp at hj
theorem flds_made3 {lo hi : Nat} {w : World} {r q r' q' s t : Value} {f f' g : Fld} (hl : lo ≤ w.heap.size) (h : FldAt lo hi w (.agg #[r, q]) f) (h' : FldAt lo hi w (.agg #[r', q']) f') (h2 : FldAt lo hi w (.agg #[s, t]) g) :
    FldsAt lo hi (w.alloc (.cells #[r, q, r', q', s, t] 123)) (.slice (some ⟨w.heap.size, 0, none⟩) 3 3) [f, f', g] := by
  have hx := SameIn.of_ext (lo := lo) (hi := hi) (Ext.alloc w (.cells #[r, q, r', q', s, t] 123))
  refine ⟨_, _, rfl, fun _ => ⟨_, _, rfl, hl, alloc_new _ _, fun j f'' hj => ?_⟩⟩
  match j, hj with
  | 0, hj => cases hj; exact ⟨r, q, rfl, rfl, h.mono hx (Nat.le_refl _) (Nat.le_refl _)⟩
  | 1, hj => cases hj; exact ⟨r', q', rfl, rfl, h'.mono hx (Nat.le_refl _) (Nat.le_refl _)⟩
  | 2, hj => cases hj; exact ⟨s, t, rfl, rfl, h2.mono hx (Nat.le_refl _) (Nat.le_refl _)⟩
  | n + 3, hj => simp at hj
theorem direction_at (lo hi : Nat) (w : World) : Calls Tryz.prog 100 #[] w fun e w' => (∃ v, e = .returned v ∧ FldAt lo hi w' v fDir) ∧ Ext w w' := by
  refine (direction_raw w).mono ?_
  rintro e w' ⟨rfl, hx⟩
  refine ⟨⟨_, rfl, _, _, rfl, ?_, ?_, ⟨_, _, _, _, rfl, rfl⟩⟩, hx⟩
  · exact ⟨120, _, rfl, ent120, fun w2 _ _ br bw ws b o T pre post c hr hC hne hnw _ hws => dirRead 0 3 w2 br bw b o ws T pre post c hr hC hne hnw hws⟩
  · exact ⟨121, _, rfl, ent121, fun w2 _ _ b o T pre post c hC _ => dirWrite 0 3 w2 b o T pre post c hC⟩
theorem ent100 : Ent 100 := enters_of Tryz.func100 (by kernel_rfl) rfl
end Go.Proofs.YtikmoledbiepoaaGreatDoor

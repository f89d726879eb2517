/- How the script's data lie in memory: what a world keeps, a reader's words, a call's cells. -/
import Derived.Test.YtikmoledbiepoaaGreatDoorLeaf
namespace Go.Proofs.YtikmoledbiepoaaGreatDoor
open Go.RowKit

/-- A value of type int; a string. -/
def vI (n : Int) : Value := .int .i64 n
def vS (s : List UInt8) : Value := .string ⟨s.toArray⟩

/-- Outside the blocks S, what was there is as it was. -/
structure Kept (S : Nat → Prop) (w w' : World) : Prop where
  os : w'.os = w.os
  tape : w'.tape = w.tape
  output : w'.output = w.output
  size : w.heap.size ≤ w'.heap.size
  block : ∀ k, k < w.heap.size → ¬ S k → w'.heap[k]? = w.heap[k]?

theorem Kept.refl (S : Nat → Prop) (w : World) : Kept S w w := ⟨rfl, rfl, rfl, Nat.le_refl _, fun _ _ _ => rfl⟩
theorem Kept.trans {S : Nat → Prop} {a b c : World} (h : Kept S a b) (k : Kept S b c) : Kept S a c :=
  ⟨k.os.trans h.os, k.tape.trans h.tape, k.output.trans h.output, Nat.le_trans h.size k.size,
   fun i hi hs => (k.block i (Nat.lt_of_lt_of_le hi h.size) hs).trans (h.block i hi hs)⟩
theorem Kept.mono {S T : Nat → Prop} {a b : World} (h : Kept S a b) (hs : ∀ k, k < a.heap.size → S k → T k) : Kept T a b :=
  ⟨h.os, h.tape, h.output, h.size, fun i hi ht => h.block i hi fun x => ht (hs i hi x)⟩
/-- Where the blocks that may have turned are from the first world's end on. -/
theorem Kept.trans' {S T : Nat → Prop} {a b c : World} (h : Kept S a b) (k : Kept T b c) (hs : ∀ i, i < a.heap.size → T i → S i) : Kept S a c :=
  ⟨k.os.trans h.os, k.tape.trans h.tape, k.output.trans h.output, Nat.le_trans h.size k.size,
   fun i hi hn => (k.block i (Nat.lt_of_lt_of_le hi h.size) fun x => hn (hs i hi x)).trans (h.block i hi hn)⟩
theorem Kept.of_below {S : Nat → Prop} {a b : World} (h : Below a.heap.size a b) : Kept S a b :=
  ⟨h.os, h.tape, h.output, h.size, fun i hi _ => h.block i hi⟩
theorem Kept.below {S : Nat → Prop} {a b : World} {B : Nat} (h : Kept S a b) (hB : B ≤ a.heap.size) (hs : ∀ k, k < B → ¬ S k) : Below B a b :=
  ⟨h.os, h.tape, h.output, h.size, fun i hi => h.block i (by omega) (hs i hi)⟩
theorem Kept.setCell {S : Nat → Prop} (w : World) {p : Addr} (hp : S p.block) (u : Value) : Kept S w (w.setCell p u) :=
  ⟨rfl, rfl, rfl, by simp [World.setCell], fun k _ hn => Below.heap_setCell _ _ _ _ fun e => hn (e ▸ hp)⟩
theorem Kept.alloc (S : Nat → Prop) (w : World) (o : Obj) : Kept S w (w.alloc o) :=
  ⟨rfl, rfl, rfl, by simp, fun k hk _ => Below.heap_alloc _ _ _ hk⟩
theorem Kept.drewN (S : Nat → Prop) (w : World) (n : Nat) : Kept S w (w.drewN n) := ⟨rfl, rfl, rfl, Nat.le_refl _, fun _ _ _ => rfl⟩
theorem Kept.drew (S : Nat → Prop) (w : World) : Kept S w w.drew := ⟨rfl, rfl, rfl, Nat.le_refl _, fun _ _ _ => rfl⟩
theorem Kept.cell {S : Nat → Prop} {w w' : World} (h : Kept S w w') {p : Addr} (hp : p.block < w.heap.size) (hs : ¬ S p.block) : w'.cell? p = w.cell? p :=
  World.cell?_of_block (w := w) (h.block p.block hp hs)

/-- Nothing that was there has turned. -/
def Ext (w w' : World) : Prop := Below w.heap.size w w'
theorem Ext.refl (w : World) : Ext w w := Below.refl _ _
theorem Ext.trans {a b c : World} (h : Ext a b) (k : Ext b c) : Ext a c := Below.trans h (Below.mono k h.size)

theorem lt_of_block {w : World} {k : Nat} {o : Obj} (h : w.heap[k]? = some o) : k < w.heap.size := by
  rcases Nat.lt_or_ge k w.heap.size with h' | h'
  · exact h'
  · simp [Array.getElem?_eq_none h'] at h

/-- The package-level variables that the code reads hold what they should. -/
structure Glob (w : World) : Prop where
  perr : ∃ tp p, w.cell? ⟨0, 0, none⟩ = some (.iface tp p)
  maxlen : ∃ m, w.cell? ⟨1, 0, none⟩ = some (.int .i64 m)
  tab : Lib.TabIs Tryz.prog w "internal/strconv.uint64pow10" .u64 Lib.pow10Tab
  syn : ∃ tp p, World.var? Tryz.prog w "strconv.ErrSyntax" = some #[.iface tp p]
  rng : ∃ tp p, World.var? Tryz.prog w "strconv.ErrRange" = some #[.iface tp p]
  size : 9 ≤ w.heap.size

theorem g_tab : Tryz.prog.globalNamed "internal/strconv.uint64pow10" = some 2 := by kernel_rfl
theorem g_syn : Tryz.prog.globalNamed "strconv.ErrSyntax" = some 5 := by kernel_rfl
theorem g_rng : Tryz.prog.globalNamed "strconv.ErrRange" = some 6 := by kernel_rfl

theorem Glob.mono {w w' : World} (h : Glob w) (hs : w.heap.size ≤ w'.heap.size) (hb : ∀ k, k < 9 → w'.heap[k]? = w.heap[k]?) : Glob w' := by
  obtain ⟨⟨tp, p, h0⟩, ⟨m, h1⟩, h2, ⟨t5, p5, h5⟩, ⟨t6, p6, h6⟩, h9⟩ := h
  refine ⟨⟨tp, p, ?_⟩, ⟨m, ?_⟩, ?_, ⟨t5, p5, ?_⟩, ⟨t6, p6, ?_⟩, by omega⟩
  · rw [World.cell?_of_block (w := w) (a := ⟨0, 0, none⟩) (hb 0 (by omega))]; exact h0
  · rw [World.cell?_of_block (w := w) (a := ⟨1, 0, none⟩) (hb 1 (by omega))]; exact h1
  · unfold Lib.TabIs World.var? at *; rw [g_tab] at *; simp only [Option.bind_some] at *; rw [hb 2 (by omega)]; exact h2
  · unfold World.var? at *; rw [g_syn] at *; simp only [Option.bind_some] at *; rw [hb 5 (by omega)]; exact h5
  · unfold World.var? at *; rw [g_rng] at *; simp only [Option.bind_some] at *; rw [hb 6 (by omega)]; exact h6
theorem Glob.kept {S : Nat → Prop} {w w' : World} (h : Glob w) (k : Kept S w w') (hs : ∀ i, i < 9 → ¬ S i) : Glob w' :=
  h.mono k.size fun i hi => k.block i (by have := h.size; omega) (hs i hi)
theorem Glob.ext {w w' : World} (h : Glob w) (k : Ext w w') : Glob w' := h.mono k.size fun i hi => k.block i (by have := h.size; omega)

/-- The reader at block br has the words ws still to come; they lie in block bw. -/
def Reader (w : World) (br bw : Nat) (ws : List (List UInt8)) : Prop :=
  ∃ a cap, w.heap[br]? = some (.cells #[.slice a ws.length cap] 101) ∧ ws.length ≤ cap ∧ bw ≠ br ∧ bw < w.heap.size ∧
    (ws ≠ [] → ∃ o, a = some ⟨bw, o, none⟩ ∧ ∀ j s, ws[j]? = some s → w.cell? ⟨bw, o + j, none⟩ = some (vS s))
theorem Reader.kept {S : Nat → Prop} {w w' : World} {br bw : Nat} {ws : List (List UInt8)} (h : Reader w br bw ws) (k : Kept S w w') (h1 : ¬ S br) (h2 : ¬ S bw) : Reader w' br bw ws := by
  obtain ⟨a, cap, hb, hc, hne, hlt, hh⟩ := h
  refine ⟨a, cap, by rw [k.block br (lt_of_block hb) h1]; exact hb, hc, hne, Nat.lt_of_lt_of_le hlt k.size, fun hn => ?_⟩
  obtain ⟨o, rfl, hj⟩ := hh hn
  refine ⟨o, rfl, fun j s hjs => ?_⟩
  rw [k.cell (p := ⟨bw, o + j, none⟩) hlt h2]
  exact hj j s hjs
theorem Reader.ext {w w' : World} {br bw : Nat} {ws : List (List UInt8)} (h : Reader w br bw ws) (k : Ext w w') : Reader w' br bw ws :=
  h.kept (S := fun _ => False) (Kept.of_below k) id id

/-- The sixteen cells of a call. -/
def Cal.cells (c : Cal) : List Value :=
  [vI c.kind, vI c.conn, vI c.stream, vI c.n, vS c.s, vI c.code, vI c.loc, vI c.rem, vS c.tick, vS c.sec, vI c.p0, vI c.p1, vI c.p2, vI c.p3, vI c.p4, vI c.p5]
theorem Cal.cells_length (c : Cal) : c.cells.length = 16 := rfl
/-- A call lies in block b from cell o on. -/
def CalIn (w : World) (b o : Nat) (T : TypeId) (pre post : List Value) (c : Cal) : Prop :=
  pre.length = o ∧ w.heap[b]? = some (.cells (pre ++ (c.cells ++ post)).toArray T)

def isI (k : Nat) : Bool := [0, 1, 2, 3, 5, 6, 7, 10, 11, 12, 13, 14, 15].contains k
def isS (k : Nat) : Bool := [4, 8, 9].contains k
theorem isI_cases {k : Nat} (h : isI k = true) : k = 0 ∨ k = 1 ∨ k = 2 ∨ k = 3 ∨ k = 5 ∨ k = 6 ∨ k = 7 ∨ k = 10 ∨ k = 11 ∨ k = 12 ∨ k = 13 ∨ k = 14 ∨ k = 15 := by
  simpa [isI] using h
theorem isS_cases {k : Nat} (h : isS k = true) : k = 4 ∨ k = 8 ∨ k = 9 := by simpa [isS] using h
theorem Cal.cellI (c : Cal) {k : Nat} (h : isI k = true) : c.cells[k]? = some (vI (c.getI k)) := by
  rcases isI_cases h with rfl | rfl | rfl | rfl | rfl | rfl | rfl | rfl | rfl | rfl | rfl | rfl | rfl <;> rfl
theorem Cal.cellS (c : Cal) {k : Nat} (h : isS k = true) : c.cells[k]? = some (vS (c.getS k)) := by
  rcases isS_cases h with rfl | rfl | rfl <;> rfl
theorem Cal.cells_setI (c : Cal) {k : Nat} (v : Int) (h : isI k = true) : (c.setI k v).cells = c.cells.set k (vI v) := by
  rcases isI_cases h with rfl | rfl | rfl | rfl | rfl | rfl | rfl | rfl | rfl | rfl | rfl | rfl | rfl <;> rfl
theorem Cal.cells_setS (c : Cal) {k : Nat} (v : List UInt8) (h : isS k = true) : (c.setS k v).cells = c.cells.set k (vS v) := by
  rcases isS_cases h with rfl | rfl | rfl <;> rfl

theorem CalIn.cell {w : World} {b o : Nat} {T : TypeId} {pre post : List Value} {c : Cal} (h : CalIn w b o T pre post c) {k : Nat} {v : Value} (hk : c.cells[k]? = some v) :
    w.cell? ⟨b, o + k, none⟩ = some v := by
  obtain ⟨rfl, h⟩ := h
  have hlt : k < c.cells.length := by
    rcases Nat.lt_or_ge k c.cells.length with h' | h'
    · exact h'
    · simp [List.getElem?_eq_none h'] at hk
  rw [Lib.cell_of_heap h, List.getElem?_toArray, List.getElem?_append_right (by omega), Nat.add_sub_cancel_left, List.getElem?_append_left hlt]
  exact hk
theorem CalIn.frozen {w : World} {b o : Nat} {T : TypeId} {pre post : List Value} {c : Cal} (h : CalIn w b o T pre post c) (k : Nat) : w.frozen? ⟨b, k, none⟩ = false :=
  Lib.frozen_of_heap h.2 k
theorem heap_setCell_self {w : World} {b : Nat} {cs : Array Value} {T : TypeId} (h : w.heap[b]? = some (.cells cs T)) (k : Nat) (u : Value) :
    (w.setCell ⟨b, k, none⟩ u).heap[b]? = some (.cells (cs.setIfInBounds k u) T) := by
  simp [World.setCell, Array.getElem?_modify, h]
theorem CalIn.set {w : World} {b o : Nat} {T : TypeId} {pre post : List Value} {c c' : Cal} (h : CalIn w b o T pre post c) {k : Nat} {u : Value} (hc : c'.cells = c.cells.set k u) (hk : k < 16) :
    CalIn (w.setCell ⟨b, o + k, none⟩ u) b o T pre post c' := by
  obtain ⟨rfl, h⟩ := h
  refine ⟨rfl, ?_⟩
  rw [heap_setCell_self h, hc, List.setIfInBounds_toArray, List.set_append_right _ _ (by omega), Nat.add_sub_cancel_left, List.set_append_left _ _ (by rw [Cal.cells_length]; omega)]
theorem CalIn.kept {S : Nat → Prop} {w w' : World} {b o : Nat} {T : TypeId} {pre post : List Value} {c : Cal} (h : CalIn w b o T pre post c) (k : Kept S w w') (hs : ¬ S b) : CalIn w' b o T pre post c :=
  ⟨h.1, by rw [k.block b (lt_of_block h.2) hs]; exact h.2⟩

end Go.Proofs.YtikmoledbiepoaaGreatDoor

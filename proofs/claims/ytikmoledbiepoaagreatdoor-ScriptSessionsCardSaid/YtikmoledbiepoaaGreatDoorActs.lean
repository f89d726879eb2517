/- An action, and its fates in memory. -/
import Derived.Test.YtikmoledbiepoaaGreatDoorWords
namespace Go.Proofs.YtikmoledbiepoaaGreatDoor
open Go.RowKit
/-- An action. -/
structure Ac where
  kind : Int
  side : Int
  call : Cal
  n : Int
  fates : List Int
  fr : Int
  tgt : Int
  dat : List UInt8
def Ac.cells (a : Ac) (fv : Value) : List Value := [vI a.kind, vI a.side] ++ a.call.cells ++ [vI a.n, fv, vI a.fr, vI a.tgt, vS a.dat]
def Ac.inj (a b : Ac) : Bool := (a.fr == b.fr) && ((a.tgt == b.tgt) && (a.dat == b.dat))
def Ac.eqb (a b : Ac) : Bool := (a.kind == b.kind) && (a.side == b.side) && a.call.eqb b.call && (a.n == b.n) && (a.fates == b.fates) && a.inj b
/-- A slice of ints. -/
def FatesAt (w : World) (fv : Value) (l : List Int) : Prop :=
  ∃ a cap, fv = .slice a l.length cap ∧ l.length ≤ cap ∧ l.length ≤ 9223372036854775807 ∧ (l ≠ [] → ∃ b o, a = some ⟨b, o, none⟩ ∧ ∀ j x, l[j]? = some x → w.cell? ⟨b, o + j, none⟩ = some (vI x))
theorem FatesAt.nil (w : World) : FatesAt w (.slice none 0 0) [] := ⟨none, 0, rfl, Nat.le_refl _, by decide, fun h => absurd rfl h⟩
theorem cell_lt {w : World} {p : Addr} {v : Value} (h : w.cell? p = some v) : p.block < w.heap.size := World.block_lt_of_cell? w p h
theorem FatesAt.ext {w w' : World} {fv : Value} {l : List Int} (h : FatesAt w fv l) (hx : Ext w w') : FatesAt w' fv l := by
  obtain ⟨a, cap, rfl, h1, h2, h3⟩ := h
  refine ⟨a, cap, rfl, h1, h2, fun hne => ?_⟩
  obtain ⟨b, o, rfl, hc⟩ := h3 hne
  exact ⟨b, o, rfl, fun j x hj => by rw [hx.cell (p := ⟨b, o + j, none⟩) (cell_lt (hc j x hj))]; exact hc j x hj⟩
theorem fates_equal {w : World} {fv gv : Value} {l m : List Int} (h : FatesAt w fv l) (k : FatesAt w gv m) : Calls Tryz.prog 35 #[fv, gv] w fun e w' => e = .returned (.bool (l == m)) ∧ ∃ q, w' = w.drewN q := by
  obtain ⟨a, cap, rfl, h1, h2, h3⟩ := h
  obtain ⟨b, dap, rfl, k1, k2, k3⟩ := k
  by_cases hl : l = []
  · subst hl
    refine (Tryz.slices_Equal_int_empty a b cap m.length dap w k2).mono ?_
    rintro e w' ⟨rfl, rfl⟩
    refine ⟨?_, 0, rfl⟩
    cases m <;> simp
  · by_cases hm : l.length = m.length
    · have hmn : m ≠ [] := by intro e; rw [e] at hm; exact hl (List.length_eq_zero_iff.1 hm)
      obtain ⟨b1, o1, rfl, hc1⟩ := h3 hl
      obtain ⟨b2, o2, rfl, hc2⟩ := k3 hmn
      refine (Tryz.slices_Equal_int b1 o1 l.length cap b2 o2 m.length dap l m w (Nat.le_refl _) (Nat.le_refl _) h2 k2 (fun j hj => hc1 j _ (by simp [List.getElem?_eq_getElem hj])) (fun j hj => hc2 j _ (by simp [List.getElem?_eq_getElem hj]))).mono ?_
      rintro e w' ⟨rfl, h⟩
      exact ⟨by simp, h⟩
    · refine (Tryz.slices_Equal_int_lens a b l.length cap m.length dap w hm).mono ?_
      rintro e w' ⟨rfl, rfl⟩
      refine ⟨?_, 0, rfl⟩
      have : (l == m) = false := beq_eq_false_iff_ne.2 fun e => hm (by rw [e])
      rw [this]
theorem eq31 (a b : Ac) (w : World) : (binOp .eql 31 (.agg #[vI a.fr, vI a.tgt, vS a.dat]) (.agg #[vI b.fr, vI b.tgt, vS b.dat])).run Tryz.prog w = .ok (.bool (a.inj b)) w := by
  unfold Ac.inj vS vI
  rw [run_eql_struct]
  simp [go_sem]
  repeat' split
  all_goals simp_all
end Go.Proofs.YtikmoledbiepoaaGreatDoor

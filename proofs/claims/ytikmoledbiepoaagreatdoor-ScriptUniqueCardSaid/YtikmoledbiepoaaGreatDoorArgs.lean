/- Further arguments of this seat's laws, opened: bytes, strings. -/
import Derived.Test.YtikmoledbiepoaaGreatDoorCard
namespace Go.Proofs.YtikmoledbiepoaaGreatDoor
open Go.ChangeShapes Go.WideShapes Go.ChangeAt Go.RowKit
section
variable {H : Type} {enc : TypeId × Value → H} {W : World} {base : Nat} {sp : Nat → Bool} {hd : Bool} {v : Value} {d : DataW H} {p : List MemPlace}
set_option maxRecDepth 100000 in
/-- A byte that came in. -/
theorem arg_byte (hv : Value.okWide Tryz.prog W .any base 5 v) (h : DataW.Trod enc Tryz.prog W 0 sp hd 5 v d p) : ∃ n, v = .int .u8 n := by
  obtain ⟨n, rfl, rfl, rfl, hw⟩ := open_int Tryz.underlying5 hv h
  exact ⟨n, rfl⟩
set_option maxRecDepth 100000 in
/-- A string that came in. -/
theorem arg_str (hv : Value.okWide Tryz.prog W .any base 9 v) (h : DataW.Trod enc Tryz.prog W 0 sp hd 9 v d p) : ∃ s : List UInt8, v = .string ⟨s.toArray⟩ ∧ s.length ≤ 9223372036854775807 := by
  obtain ⟨n, hn⟩ := h
  obtain ⟨s, e, hs⟩ := rd_str hn
  have hv : Cell.okWide Tryz.prog W .any base 9 v := by
    unfold Value.okWide at hv
    rw [Tryz.underlying9] at hv
    exact hv
  cases v with
  | agg cs =>
    exfalso
    unfold Cell.okWide at hv
    rw [Tryz.underlying9] at hv
    have hv : Cell.ok Tryz.prog W .any base 9 (.agg cs) := hv
    unfold Cell.ok at hv
    rw [Tryz.underlying9] at hv
    exact hv
  | string t => exact ⟨s, by simpa [Value.cells] using e, hs⟩
  | _ => simp [Value.cells] at e
end
end Go.Proofs.YtikmoledbiepoaaGreatDoor

/- Further arguments of this seat's laws, opened: bytes, strings. -/
import Derived.Test.YtikmoledbiepoaaGreatDoorCard
namespace Go.Proofs.YtikmoledbiepoaaGreatDoor
open Go.ChangeShapes Go.WideShapes Go.ChangeAt Go.RowKit
section
variable {H : Type} {enc : TypeId × Value → H} {W : World} {base : Nat} {sp : Nat → Bool} {hd : Bool} {v : Value} {d : DataW H} {p : List MemPlace}
set_option maxRecDepth 100000 in
/-- A byte that came in. -/
theorem arg_byte (hv : Value.okWide Tryz.prog W .any base 5 v) (h : DataW.Trod enc Tryz.prog W 0 sp hd 5 v d p) : ∃ n, v = .int .u8 n := by
  obtain ⟨n, rfl, rfl, rfl, hw⟩ := open_int Tryz.underlying5 hv h
  exact ⟨n, rfl⟩
set_option maxRecDepth 100000 in
/-- A string that came in. -/
theorem arg_str (hv : Value.okWide Tryz.prog W .any base 9 v) (h : DataW.Trod enc Tryz.prog W 0 sp hd 9 v d p) : ∃ s : List UInt8, v = .string ⟨s.toArray⟩ ∧ s.length ≤ 9223372036854775807 := by
  obtain ⟨n, hn⟩ := h
  obtain ⟨s, e, hs⟩ := rd_str hn
  have hv : Cell.okWide Tryz.prog W .any base 9 v := by
    unfold Value.okWide at hv
    rw [Tryz.underlying9] at hv
    exact hv
  cases v with
  | agg cs =>
    exfalso
    unfold Cell.okWide at hv
    rw [Tryz.underlying9] at hv
    have hv : Cell.ok Tryz.prog W .any base 9 (.agg cs) := hv
    unfold Cell.ok at hv
    rw [Tryz.underlying9] at hv
    exact hv
  | string t => exact ⟨s, by simpa [Value.cells] using e, hs⟩
  | _ => simp [Value.cells] at e
end
end Go.Proofs.YtikmoledbiepoaaGreatDoor
/- Further arguments of this seat's laws, opened: a list of ints; five arguments. -/
namespace Go.Proofs.YtikmoledbiepoaaGreatDoor
open Go.ChangeShapes Go.WideShapes Go.ChangeAt Go.RowKit
section
variable {H : Type} {enc : TypeId × Value → H} {W : World} {base : Nat} {sp : Nat → Bool} {hd : Bool} {v : Value} {d : DataW H} {p : List MemPlace}
set_option maxRecDepth 100000 in
/-- A list of ints that came in. -/
theorem arg_ints (hv : Value.okWide Tryz.prog W .any base 29 v) (h : DataW.Trod enc Tryz.prog W 0 sp hd 29 v d p) : ∃ l : List Int, FatesAt W v l ∧ ∀ x ∈ l, IntFit x := by
  obtain ⟨n, hn⟩ := h
  obtain ⟨l, s, m, c, e, h1, h2⟩ := rd_fates hn
  have huv : v = .slice s m c := by
    unfold Value.okWide at hv
    rw [Tryz.underlying29] at hv
    have hv : Cell.okWide Tryz.prog W .any base 29 v := hv
    cases v with
    | agg cs =>
      exfalso
      unfold Cell.okWide at hv
      rw [Tryz.underlying29] at hv
      exact hv
    | slice a b c => simpa [Value.cells] using e
    | _ => simp [Value.cells] at e
  subst huv
  exact ⟨l, h1, h2⟩
end
theorem trodAll_five {H : Type} {enc : TypeId × Value → H} {P : Program} {w : World} {base : Nat} {spare : Nat → Bool} {held : Bool} {t0 t1 t2 t3 t4 : TypeId} {args : Array Value} {ds : List (DataW H)} {ps : List MemPlace}
    (h : DataW.TrodAll enc P w base spare held [t0, t1, t2, t3, t4] args.toList ds ps) :
    ∃ v0 v1 v2 v3 v4 d0 d1 d2 d3 d4 p0 p1 p2 p3 p4, args = #[v0, v1, v2, v3, v4] ∧ ds = [d0, d1, d2, d3, d4] ∧ ps = p0 ++ p1 ++ p2 ++ p3 ++ p4 ∧ DataW.Trod enc P w base spare held t0 v0 d0 p0 ∧ DataW.Trod enc P w base spare held t1 v1 d1 p1 ∧
      DataW.Trod enc P w base spare held t2 v2 d2 p2 ∧ DataW.Trod enc P w base spare held t3 v3 d3 p3 ∧ DataW.Trod enc P w base spare held t4 v4 d4 p4 := by
  obtain ⟨v0, vs0, d0, ds0, p0, q0, hargs, rfl, rfl, h0, r0⟩ := trodAll_cons h
  obtain ⟨v1, vs1, d1, ds1, p1, q1, rfl, rfl, rfl, h1, r1⟩ := trodAll_cons r0
  obtain ⟨v2, vs2, d2, ds2, p2, q2, rfl, rfl, rfl, h2, r2⟩ := trodAll_cons r1
  obtain ⟨v3, vs3, d3, ds3, p3, q3, rfl, rfl, rfl, h3, r3⟩ := trodAll_cons r2
  obtain ⟨v4, vs4, d4, ds4, p4, q4, rfl, rfl, rfl, h4, r4⟩ := trodAll_cons r3
  obtain ⟨rfl, rfl, rfl⟩ := trodAll_nil r4
  exact ⟨v0, v1, v2, v3, v4, d0, d1, d2, d3, d4, p0, p1, p2, p3, p4, by cases args; simp_all, rfl, by simp, h0, h1, h2, h3, h4⟩
end Go.Proofs.YtikmoledbiepoaaGreatDoor

/- ScriptRoundTrip: the walk. -/
import Derived.Test.YtikmoledbiepoaaGreatDoorScript
import Derived.Test.YtikmoledbiepoaaGreatDoorFits
namespace Go.Proofs.YtikmoledbiepoaaGreatDoor
open Go.RowKit
theorem sameL_self (l : List Ac) : sameL l l = true := (sameL_iff l l).2 rfl
theorem vS_fst (x : List UInt8) (n : Int) : vS (x, n).1 = .string ⟨x.toArray⟩ := rfl
set_option maxRecDepth 100000 in
set_option maxHeartbeats 4000000 in
theorem round_any (l m : List Ap) (u v : Value) (w : World) (hg : Glob w) (hl : ApsAt w u l) (hm : ApsAt w v m) (hpl : ∀ p ∈ l, ApFit p) (hpm : ∀ p ∈ m, ApFit p) :
    Calls Tryz.prog 5 #[u, v] w fun e w' => e = .returned (.bool true) ∧ Ext w w' := by
  have h20 := scrF_len l
  have HC : Hid (scrF l = scrF m ∨ linesOf (scrF l) ≠ linesOf (scrF m) ∧ sameL (scrF l) (scrF m) = false) := by
    unfold Hid
    by_cases h : scrF l = scrF m
    · exact .inl h
    · refine .inr ⟨fun e => h (linesOf_inj (scrF_ok l) (scrF_ok m) (Nat.le_trans (scrF_len l) (by decide)) (Nat.le_trans (scrF_len m) (by decide)) e), ?_⟩
      cases hs : sameL (scrF l) (scrF m) with
      | false => rfl
      | true => exact absurd ((sameL_iff _ _).1 hs) h
  go_enter Tryz.func5, Tryz.ntmps5
  go_wp2_with fail
  refine (sane_any w hg).mono ?_
  rintro e w1 ⟨rfl, x1⟩
  go_wp2_with fail
  refine (ScriptFrom_any l u w1 (hl.ext x1) hpl).mono ?_
  rintro e w2 ⟨x2, u2, rfl, a2⟩
  have y2 := x1.trans x2
  clear x1 x2 hl
  go_wp2_with fail
  refine (ScriptFrom_any m v w2 (hm.ext y2) hpm).mono ?_
  rintro e w3 ⟨x3, v3, rfl, b3⟩
  have y3 := y2.trans x3
  have a3 := a2.ext x3
  clear a2 y2 x3 hm
  go_wp2_with fail
  refine (Print_any (scrF l) u2 w3 (hg.ext y3) a3 (scrF_fit l)).mono ?_
  rintro e w4 ⟨rfl, x4⟩
  rw [scrF_print, vS_fst]
  have y4 := y3.trans x4
  have a4 := a3.ext x4
  have b4 := b3.ext x4
  clear a3 b3 y3 x4
  go_wp2_with fail
  refine (Print_any (scrF m) v3 w4 (hg.ext y4) b4 (scrF_fit m)).mono ?_
  rintro e w5 ⟨rfl, x5⟩
  rw [scrF_print, vS_fst]
  have y5 := y4.trans x5
  have a5 := a4.ext x5
  have b5 := b4.ext x5
  clear a4 b4 y4 x5
  go_wp2_with fail
  refine (Parse_any (linesOf (scrF l)) w5 (hg.ext y5) (Nat.le_trans (scrF_short l) (by decide))).mono ?_
  rintro e w6 ⟨x6, hm6⟩
  rw [scrF_parse] at hm6
  obtain ⟨c6, rfl, d6⟩ := hm6
  have y6 := y5.trans x6
  have a6 := a5.ext x6
  have b6 := b5.ext x6
  clear a5 b5 y5 x6
  go_wp2_with fail
  refine (SameAll_any (scrF l) (scrF l) u2 c6 w6 a6 d6 (by omega)).mono ?_
  rintro e w7 ⟨rfl, x7⟩
  rw [sameL_self]
  have y7 := y6.trans x7
  have a7 := a6.ext x7
  have b7 := b6.ext x7
  clear a6 b6 d6 y6 x7
  rcases HC.out with hq | ⟨hne, hsf⟩
  · rw [← hq] at b7 ⊢
    go_wp2_with fail
    refine (SameAll_any (scrF l) (scrF l) u2 v3 w7 a7 b7 (by omega)).mono ?_
    rintro e w8 ⟨rfl, x8⟩
    rw [sameL_self]
    have y8 := y7.trans x8
    clear a7 b7 y7 x8
    go_wp2_with fail
    go_ret
    exact ⟨rfl, y8⟩
  · have HNE := Lib.hid hne
    clear hne
    go_wp2_with fail
    refine (SameAll_any (scrF l) (scrF m) u2 v3 w7 a7 b7 (by omega)).mono ?_
    rintro e w8 ⟨rfl, x8⟩
    rw [hsf]
    have y8 := y7.trans x8
    clear a7 b7 y7 x8
    go_wp2_with fail
    go_ret
    refine ⟨?_, y8⟩
    show Ending.returned (.bool (!(linesOf (scrF l) == linesOf (scrF m)))) = .returned (.bool true)
    rw [beq_eq_false_iff_ne.2 HNE.out]
    rfl
end Go.Proofs.YtikmoledbiepoaaGreatDoor

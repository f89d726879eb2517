/- ScriptMatchesReference, proved: for every input the law returns true; its arguments read as they did. The tied card. -/
import Derived.Test.YtikmoledbiepoaaGreatDoorRmat
import Derived.Test.YtikmoledbiepoaaGreatDoorArgac
import Derived.Test.YtikmoledbiepoaaGreatDoorCard
namespace Go.Proofs.YtikmoledbiepoaaGreatDoor
open Go.ChangeShapes Go.WideShapes Go.ChangeAt Go.RowKit
set_option maxRecDepth 100000 in
theorem match_lifted (os : Os) (started : os.Started) (H : Type) (enc : TypeId × Value → H) :
    ReturnsInHanded {} Tryz.checked os 3 .any (fun w args => (Rows.scriptMatchesReferenceSpec.pre enc Tryz.prog Tryz.f3 [] false w args ∧ laidMetH Tryz.prog laidAll8 w) ∧ sizedMet enc Tryz.prog Tryz.f3 (OpenSpec.ofChange Rows.scriptMatchesReferenceSpec) false w args)
      (Rows.scriptMatchesReferenceSpec.post enc Tryz.prog Tryz.f3 false true false false) := by
  refine returns_shaped (C := Tryz.checked) (X := fun w _ => laidMetH Tryz.prog laidAll8 w) (fun _ _ _ hh h => h.of_heap hh) own started (by kernel_rfl) Tryz.func3
    (ChangeSpec.witness_shaped (enc := enc) (C := Tryz.checked) (os := os) (X := fun w _ => laidMetH Tryz.prog laidAll8 w) false (World.laidAll Tryz.prog os laidAll8) #[.slice none 0 0, .agg #[.int .i64 0, .int .i64 0, .int .i64 0, .int .i64 0, .int .i64 0, .int .i64 0, .string ⟨#[]⟩, .int .i64 0, .int .i64 0, .int .i64 0, .string ⟨#[]⟩, .string ⟨#[]⟩, .int .i64 0, .int .i64 0, .int .i64 0, .int .i64 0, .int .i64 0, .int .i64 0, .int .i64 0, .slice none 0 0, .int .i64 0, .int .i64 0, .string ⟨#[]⟩], .int .i64 0, .int .i64 0] 8 (World.laidAll_os _ _ _)
      (World.shaped_of_ZipB (by kernel_rfl) (by kernel_rfl)) (by kernel_rfl) (by kernel_rfl) (by kernel_rfl)
      (by rw [MakeChecks.laidMetH_plain _ _ _ (by kernel_rfl)]; exact laidMet_laidAll _ (by kernel_rfl) (by kernel_rfl))) ?_
  intro W base args ds gs before hval0 hW hL hsh
  have hg := glob_of hL hsh
  have hW' := hW
  obtain ⟨p, q, hA0, hV, rfl, hfz, hnd⟩ := hW
  have hA : DataW.TrodAll enc Tryz.prog W 0 (fun _ => true) true Tryz.f3.params.toList args.toList ds p := hA0
  rw [Tryz.params3] at hA
  obtain ⟨v0, v1, v2, v3, d0, d1, d2, d3, p0, p1, p2, p3, rfl, rfl, rfl, h0, h1, h2, h3⟩ := trodAll_four hA
  obtain ⟨rfl, rfl⟩ := trodVars_none hV
  have hval : ∀ (j : Nat) t v, Tryz.f3.params[j]? = some t → #[v0, v1, v2, v3][j]? = some v → Value.okWide Tryz.prog W .any base t v := hval0
  rw [Tryz.params3] at hval
  obtain ⟨l, hl, fl⟩ := arg_aps (hval 0 22 v0 rfl rfl) h0
  obtain ⟨A, s, m, c, rfl, hF, fA⟩ := arg_ac (hval 1 33 v1 rfl rfl) h1
  obtain ⟨x, rfl, fx⟩ := arg_int (hval 2 3 v2 rfl rfl) h2
  obtain ⟨k, rfl, fk⟩ := arg_int (hval 3 3 v3 rfl rfl) h3
  refine (match_any l v0 A s m c x k W hg hl fl fA hF fx fk).mono ?_
  rintro e W' ⟨rfl, hx⟩
  refine ⟨_, rfl, post_of_ext rfl (by kernel_rfl) rfl ?_ hW' hx⟩
  rw [Tryz.params3]
  intro t ht
  have ht : t = 22 ∨ t = 33 ∨ t = 3 ∨ t = 3 := by simpa using ht
  rcases ht with rfl | rfl | rfl | rfl
  · exact ⟨by kernel_rfl, by rw [tsize]; decide⟩
  · exact ⟨by kernel_rfl, by rw [tsize]; decide⟩
  · exact ⟨by kernel_rfl, by rw [tsize]; decide⟩
  · exact ⟨by kernel_rfl, by rw [tsize]; decide⟩
theorem match_holds : Rows.ScriptMatchesReferenceSaid :=
  OpenClaim.holds_of_wide 3 Tryz.f3 rfl rfl rfl rfl rfl rfl rfl ⟨rfl, rfl, rfl, rfl, rfl⟩ rfl rfl rfl rfl rfl (by kernel_rfl) Tryz.func3 (by kernel_rfl)
    (of_decide_eq_true (by kernel_rfl)) (by unfold Func.isWrapper; first | (rw [if_pos (by decide +kernel)]; kernel_rfl) | (rw [if_neg (by decide +kernel)]; exact ⟨rfl, rfl⟩))
    (fun os started H enc _ => match_lifted os started H enc)
/-- THE TIED CARD. -/
theorem match_card : Rows.ScriptMatchesReferenceCardSaid :=
  Claim7.holds_tied_plain_at .later [] [.data, .data, .data, .data, .sentinel, .sentinel, .sentinel, .pinned] true (true, "361fa84ae11f9dc9def210e413cdf91aa93a53a3c1c93d942046f73d367d40e8") true
    match_holds (fun _ h => by cases h) (by kernel_rfl) (fun _ h => by cases h) scriptMatchesReference_row_tie rfl ⟨rfl, rfl⟩ (by kernel_rfl) rfl
    (fun f fn hf hfn => by
      obtain rfl : f = 3 := Option.some.inj ((show Tryz.prog.funcNamed "peregrine/peregrinelaw29.ScriptMatchesReference" = some 3 by kernel_rfl).symm.trans hf) |>.symm
      obtain rfl : fn = Tryz.f3 := (Option.some.inj (Tryz.func3.symm.trans hfn)).symm
      exact ⟨by kernel_rfl, fun j t ht => by
        rw [Tryz.params3] at ht
        have hm : t ∈ [22, 33, 3, 3] := by simpa using Array.mem_of_getElem? ht
        have hall : ([22, 33, 3, 3].all fun u => !Tryz.prog.wantsStandIn u) = true := by kernel_rfl
        exact (show Tryz.prog.wantsStandIn t = false by simpa using List.all_eq_true.1 hall t hm)⟩)
    (by kernel_rfl)
#print axioms match_card
end Go.Proofs.YtikmoledbiepoaaGreatDoor

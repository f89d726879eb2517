/- script.session. -/
import Derived.Test.YtikmoledbiepoaaGreatDoorPar
namespace Go.Proofs.YtikmoledbiepoaaGreatDoor
open Go.RowKit
set_option maxRecDepth 100000 in
set_option maxHeartbeats 1000000 in
theorem session_any (c : Cal) (w : World) (hg : Glob w) (hfit : CalFit c) : Calls Tryz.prog 68 #[.agg c.sess.toArray] w fun e w' => e = .returned (.bool c.sessOk) ∧ Ext w w' := by
  have hs1 := hfit.strs 8 rfl
  have hs2 := hfit.strs 9 rfl
  simp only [Cal.getS] at hs1 hs2
  unfold Cal.sess vS vI
  have heq := eqSess c
  by_cases hn : c.noSess = true
  · have HS : Hid (c.sessOk = true) := by simp [Hid, Cal.sessOk, hn]
    go_enter Tryz.func68, Tryz.ntmps68
    go_wp2
    go_ret
    exact ⟨by rw [HS.out]; rfl, Ext.alloc _ _⟩
  · have hn' : c.noSess = false := by simpa using hn
    clear hn
    by_cases h1 : 1 ≤ c.tick.length
    · by_cases h2 : c.tick.length ≤ 200
      · by_cases h3 : c.sec.length = 16
        · have HS : Hid (c.sessOk = c.parOk) := by simp [Hid, Cal.sessOk, hn', h1, h2, h3]
          have h3' : ((c.sec.length : Int) == 16) = true := beq_iff_eq.2 (by omega)
          clear h3
          go_enter Tryz.func68, Tryz.ntmps68
          go_wp2_with (go_at_call 27; refine (pvalid_any c _ (hg.ext (Ext.alloc _ _))).mono ?_; rintro e w' ⟨rfl, hx⟩)
          go_ret
          exact ⟨by rw [HS.out]; rfl, (Ext.alloc _ _).trans hx⟩
        · have HS : Hid (c.sessOk = false) := by simp [Hid, Cal.sessOk, hn', h3]
          have h3' : ((c.sec.length : Int) == 16) = false := beq_eq_false_iff_ne.2 (by omega)
          clear h3
          go_enter Tryz.func68, Tryz.ntmps68
          go_wp2_with fail
          go_ret
          exact ⟨by rw [HS.out]; rfl, Ext.alloc _ _⟩
      · have HS : Hid (c.sessOk = false) := by simp [Hid, Cal.sessOk, hn', h2]
        go_enter Tryz.func68, Tryz.ntmps68
        go_wp2_with fail
        go_ret
        exact ⟨by rw [HS.out]; rfl, Ext.alloc _ _⟩
    · have HS : Hid (c.sessOk = false) := by simp [Hid, Cal.sessOk, hn', h1]
      go_enter Tryz.func68, Tryz.ntmps68
      go_wp2_with fail
      go_ret
      exact ⟨by rw [HS.out]; rfl, Ext.alloc _ _⟩
end Go.Proofs.YtikmoledbiepoaaGreatDoor

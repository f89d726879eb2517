/- script.Same. -/
import Derived.Test.YtikmoledbiepoaaGreatDoorSess
import Derived.Test.YtikmoledbiepoaaGreatDoorCall
namespace Go.Proofs.YtikmoledbiepoaaGreatDoor
open Go.RowKit
theorem Ac.cells_eq (a : Ac) (fv : Value) : (a.cells fv).toArray = #[.int .i64 a.kind, .int .i64 a.side, .int .i64 a.call.kind, .int .i64 a.call.conn, .int .i64 a.call.stream, .int .i64 a.call.n, .string ⟨a.call.s.toArray⟩, .int .i64 a.call.code, .int .i64 a.call.loc, .int .i64 a.call.rem, .string ⟨a.call.tick.toArray⟩, .string ⟨a.call.sec.toArray⟩, .int .i64 a.call.p0, .int .i64 a.call.p1, .int .i64 a.call.p2, .int .i64 a.call.p3, .int .i64 a.call.p4, .int .i64 a.call.p5, .int .i64 a.n, fv, .int .i64 a.fr, .int .i64 a.tgt, .string ⟨a.dat.toArray⟩] := rfl
theorem Ext.drewNs {a b : World} (h : Ext a b) (n : Nat) : Ext a (b.drewN n) := ⟨h.os, h.tape, h.output, h.size, h.block⟩
set_option maxRecDepth 100000 in
set_option maxHeartbeats 2000000 in
theorem Same_any (a b : Ac) (fv gv : Value) (w : World) (hA : FatesAt w fv a.fates) (hB : FatesAt w gv b.fates) :
    Calls Tryz.prog 19 #[.agg (a.cells fv).toArray, .agg (b.cells gv).toArray] w fun e w' => e = .returned (.bool (a.eqb b)) ∧ Ext w w' := by
  have h28 := eq28 a.call b.call
  rw [Cal.cells_eq, Cal.cells_eq] at h28
  have h31 := eq31 a b
  unfold vI vS at h31
  obtain ⟨s1, n1, rfl, hA'⟩ := id hA
  obtain ⟨s2, n2, rfl, hB'⟩ := id hB
  clear hA' hB'
  rw [Ac.cells_eq, Ac.cells_eq]
  go_enter Tryz.func19, Tryz.ntmps19
  have hxa := (Ext.alloc w (.cells (a.cells (.slice s1 a.fates.length n1)).toArray 33)).trans (Ext.alloc _ (.cells (b.cells (.slice s2 b.fates.length n2)).toArray 33))
  have hE := fates_equal (hA.ext hxa) (hB.ext hxa)
  rw [Ac.cells_eq, Ac.cells_eq] at hE hxa
  have HV : Hid (a.eqb b = ((a.kind == b.kind) && (a.side == b.side) && a.call.eqb b.call && (a.n == b.n) && (a.fates == b.fates) && a.inj b)) := rfl
  generalize a.eqb b = v0 at HV ⊢
  by_cases h1 : a.kind = b.kind
  · have h1' : (a.kind == b.kind) = true := beq_iff_eq.2 h1; clear h1
    by_cases h2 : a.side = b.side
    · have h2' : (a.side == b.side) = true := beq_iff_eq.2 h2; clear h2
      cases h3 : a.call.eqb b.call with
      | true =>
        rw [h3] at h28
        by_cases h4 : a.n = b.n
        · have h4' : (a.n == b.n) = true := beq_iff_eq.2 h4; clear h4
          cases h5 : (a.fates == b.fates) with
          | true =>
            rw [h5] at hE
            rw [h1', h2', h3, h4', h5] at HV
            go_wp2_with fail
            refine hE.mono ?_
            rintro e w' ⟨rfl, q, rfl⟩
            go_wp2_with fail
            go_ret
            exact ⟨by rw [HV.out]; simp, hxa.drewNs q⟩
          | false =>
            rw [h5] at hE
            rw [h1', h2', h3, h4', h5] at HV
            go_wp2_with fail
            refine hE.mono ?_
            rintro e w' ⟨rfl, q, rfl⟩
            go_wp2_with fail
            go_ret
            exact ⟨by rw [HV.out]; simp, hxa.drewNs q⟩
        · have h4' : (a.n == b.n) = false := beq_eq_false_iff_ne.2 h4; clear h4
          rw [h4'] at HV
          go_wp2_with fail
          go_ret
          exact ⟨by rw [HV.out]; simp, hxa⟩
      | false =>
        rw [h3] at h28 HV
        go_wp2_with fail
        go_ret
        exact ⟨by rw [HV.out]; simp, hxa⟩
    · have h2' : (a.side == b.side) = false := beq_eq_false_iff_ne.2 h2; clear h2
      rw [h2'] at HV
      go_wp2_with fail
      go_ret
      exact ⟨by rw [HV.out]; simp, hxa⟩
  · have h1' : (a.kind == b.kind) = false := beq_eq_false_iff_ne.2 h1; clear h1
    rw [h1'] at HV
    go_wp2_with fail
    go_ret
    exact ⟨by rw [HV.out]; simp, hxa⟩
end Go.Proofs.YtikmoledbiepoaaGreatDoor

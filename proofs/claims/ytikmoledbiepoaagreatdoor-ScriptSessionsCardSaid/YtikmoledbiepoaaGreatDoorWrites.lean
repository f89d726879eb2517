/- What the fields of a call write. -/
import Derived.Test.YtikmoledbiepoaaGreatDoorReads
namespace Go.Proofs.YtikmoledbiepoaaGreatDoor
open Go.RowKit
theorem exec_call {ρ : Operand → Value} {o : Oper} {f : Operand} {xs : Array Operand} {tys : Array TypeId} {F : FuncId} {caps args : Array Value} {w : World} (ho : o.op = .call ⟨.value f, xs, tys⟩) (hf : ρ f = .func (.func F) #[] caps) (hE : Ent F)
    (ha : xs.map ρ ++ caps = args) : (execOp ρ o).run Tryz.prog w = .ok (.enter F args) w := by
  subst ha
  unfold execOp
  simp only [ho, resolve, Deferred.ofValue, hf]
  simp [invoke, hE (xs.map ρ ++ caps)]
theorem ent44 : Ent 44 := enters_of Tryz.func44 (by kernel_rfl) rfl
theorem ent45 : Ent 45 := enters_of Tryz.func45 (by kernel_rfl) rfl
theorem mixedOrd : Tryz.prog.follows .mixedOrders = true := by kernel_rfl
set_option maxHeartbeats 1000000 in
theorem intWrite (lo hi bo bm m k : Nat) (ov : Value) (w : World) (hk : isI k = true) (hc : w.cell? ⟨bo, 0, none⟩ = some ov) (hcm : w.cell? ⟨bm, 0, none⟩ = some (.int .i64 (m : Int))) (hof : Of lo hi w ov k) (hg : Glob w)
    (b o : Nat) (T : TypeId) (pre post : List Value) (c : Cal) (hC : CalIn w b o T pre post c) (hfit : CalFit c) (hbo : bo < w.heap.size) (hbm : bm < w.heap.size) :
    Calls Tryz.prog 117 #[.pointer (some ⟨b, o, none⟩), .pointer (some ⟨bo, 0, none⟩), .pointer (some ⟨bm, 0, none⟩)] w fun e w3 => e = .returned (.tuple #[vS (wr ⟨0, m, k⟩ c).1, .bool (wr ⟨0, m, k⟩ c).2]) ∧ Ext w w3 := by
  obtain ⟨F, caps, rfl, hE, hF⟩ := hof
  have hb := lt_of_block hC.2
  obtain ⟨hx1, hx2⟩ := hfit.ints k hk
  have hcell := hC.cell (c.cellI hk)
  go_enter Tryz.func117, Tryz.ntmps117
  go_wp2
  refine wp_region_vals (fun i => [Value.func (.func F) #[] caps, .pointer (some ⟨b, o, none⟩), .pointer (some ⟨b, o + k, none⟩), .pointer (some ⟨b, o + k, none⟩), vI (c.getI k), vS (Lib.itoa (c.getI k)),
    Value.func (.func F) #[] caps, .pointer (some ⟨b, o, none⟩), .pointer (some ⟨b, o + k, none⟩), .pointer (some ⟨b, o + k, none⟩), vI (c.getI k), .int .i64 (m : Int), .bool (wr ⟨0, m, k⟩ c).2, vS (Lib.itoa (c.getI k)), .bool (wr ⟨0, m, k⟩ c).2].getD i undef)
    (fun w' => Ext w w') mixedOrd (by kernel_rfl) (by kernel_rfl) (by kernel_rfl) ⟨rfl, rfl, rfl, Nat.le_refl _, fun _ _ => rfl⟩ ?_ ?_
  · refine ⟨?_, ?_, ?_, ?_, ?_, ?_, ?_, ?_, ?_, ?_, ?_, ?_, ?_, ?_, ?_, trivial⟩
    · intro a w' hs hW
      have h1 : a.tmps[1]? = some (.pointer (some ⟨bo, 0, none⟩)) := hs.old 1 rfl
      have e2 : w'.cell? ⟨bo, 0, none⟩ = some (Value.func (.func F) #[] caps) := by rw [hW.cell (p := ⟨bo, 0, none⟩) hbo]; exact hc
      exact wpOp_val rfl rfl (by simp [execOp, go_sem, h1, e2]) ⟨rfl, hW⟩
    · intro a w' hs hW
      have h1 : a.tmps[0]? = some (.pointer (some ⟨b, o, none⟩)) := hs.old 0 rfl
      exact wpOp_val rfl rfl (by simp [execOp, go_sem, h1]) ⟨rfl, hW⟩
    · intro a w' hs hW
      have h1 : a.tmps[6]? = some (Value.func (.func F) #[] caps) := hs.made 0 6 rfl rfl
      have h2 : a.tmps[7]? = some (.pointer (some ⟨b, o, none⟩)) := hs.made 1 7 rfl rfl
      refine wpOp_call (f := F) (args := #[.pointer (some ⟨b, o, none⟩)] ++ caps) rfl rfl (exec_call rfl (ev h1) hE (by simp [ev h2])) ?_
      refine (hF w' (SameIn.of_ext hW) b o).mono ?_
      rintro e w'' ⟨rfl, n, rfl⟩
      exact ⟨_, rfl, rfl, hW.trans (Ext.drewN _ _)⟩
    · intro a w' hs hW
      have h1 : a.tmps[8]? = some (.pointer (some ⟨b, o + k, none⟩)) := hs.made 2 8 rfl rfl
      exact wpOp_val rfl rfl (by simp [execOp, go_sem, h1]) ⟨rfl, hW⟩
    · intro a w' hs hW
      have h1 : a.tmps[9]? = some (.pointer (some ⟨b, o + k, none⟩)) := hs.made 3 9 rfl rfl
      have e2 : w'.cell? ⟨b, o + k, none⟩ = some (vI (c.getI k)) := by rw [hW.cell (p := ⟨b, o + k, none⟩) hb]; exact hcell
      exact wpOp_val rfl rfl (by simp [execOp, go_sem, h1, e2]) ⟨rfl, hW⟩
    · intro a w' hs hW
      have h1 : a.tmps[10]? = some (vI (c.getI k)) := hs.made 4 10 rfl rfl
      refine wpOp_call (f := 45) (args := #[vI (c.getI k)]) rfl rfl (exec_call rfl rfl ent45 (by simp [ev h1])) ?_
      refine (Itoa_any _ w' (hg.ext hW) hx1 hx2).mono ?_
      rintro e w'' ⟨rfl, hx⟩
      exact ⟨_, rfl, rfl, hW.trans hx⟩
    · intro a w' hs hW
      have h1 : a.tmps[1]? = some (.pointer (some ⟨bo, 0, none⟩)) := hs.old 1 rfl
      have e2 : w'.cell? ⟨bo, 0, none⟩ = some (Value.func (.func F) #[] caps) := by rw [hW.cell (p := ⟨bo, 0, none⟩) hbo]; exact hc
      exact wpOp_val rfl rfl (by simp [execOp, go_sem, h1, e2]) ⟨rfl, hW⟩
    · intro a w' hs hW
      have h1 : a.tmps[0]? = some (.pointer (some ⟨b, o, none⟩)) := hs.old 0 rfl
      exact wpOp_val rfl rfl (by simp [execOp, go_sem, h1]) ⟨rfl, hW⟩
    · intro a w' hs hW
      have h1 : a.tmps[12]? = some (Value.func (.func F) #[] caps) := hs.made 6 12 rfl rfl
      have h2 : a.tmps[13]? = some (.pointer (some ⟨b, o, none⟩)) := hs.made 7 13 rfl rfl
      refine wpOp_call (f := F) (args := #[.pointer (some ⟨b, o, none⟩)] ++ caps) rfl rfl (exec_call rfl (ev h1) hE (by simp [ev h2])) ?_
      refine (hF w' (SameIn.of_ext hW) b o).mono ?_
      rintro e w'' ⟨rfl, n, rfl⟩
      exact ⟨_, rfl, rfl, hW.trans (Ext.drewN _ _)⟩
    · intro a w' hs hW
      have h1 : a.tmps[14]? = some (.pointer (some ⟨b, o + k, none⟩)) := hs.made 8 14 rfl rfl
      exact wpOp_val rfl rfl (by simp [execOp, go_sem, h1]) ⟨rfl, hW⟩
    · intro a w' hs hW
      have h1 : a.tmps[15]? = some (.pointer (some ⟨b, o + k, none⟩)) := hs.made 9 15 rfl rfl
      have e2 : w'.cell? ⟨b, o + k, none⟩ = some (vI (c.getI k)) := by rw [hW.cell (p := ⟨b, o + k, none⟩) hb]; exact hcell
      exact wpOp_val rfl rfl (by simp [execOp, go_sem, h1, e2]) ⟨rfl, hW⟩
    · intro a w' hs hW
      have h1 : a.tmps[2]? = some (.pointer (some ⟨bm, 0, none⟩)) := hs.old 2 rfl
      have e2 : w'.cell? ⟨bm, 0, none⟩ = some (.int .i64 (m : Int)) := by rw [hW.cell (p := ⟨bm, 0, none⟩) hbm]; exact hcm
      exact wpOp_val rfl rfl (by simp [execOp, go_sem, h1, e2]) ⟨rfl, hW⟩
    · intro a w' hs hW
      have h1 : a.tmps[16]? = some (vI (c.getI k)) := hs.made 10 16 rfl rfl
      have h2 : a.tmps[17]? = some (.int .i64 (m : Int)) := hs.made 11 17 rfl rfl
      refine wpOp_call (f := 44) (args := #[vI (c.getI k), .int .i64 (m : Int)]) rfl rfl (exec_call rfl rfl ent44 (by simp [ev h1, ev h2])) ?_
      refine (within_any _ _ w').mono ?_
      rintro e w'' ⟨rfl, rfl⟩
      exact ⟨_, rfl, rfl, hW⟩
    · intro a w' hs hW
      have h1 : a.tmps[11]? = some (vS (Lib.itoa (c.getI k))) := hs.made 5 11 rfl rfl
      exact wpOp_val rfl rfl (by simp [execOp, go_sem, h1]) ⟨rfl, hW⟩
    · intro a w' hs hW
      have h1 : a.tmps[18]? = some (.bool (wr ⟨0, m, k⟩ c).2) := hs.made 12 18 rfl rfl
      exact wpOp_val rfl rfl (by simp [execOp, go_sem, h1]) ⟨rfl, hW⟩
  · intro a w' hs hW
    have h4 : a.tmps[4]? = some (vS (Lib.itoa (c.getI k))) := hs.made 13 4 rfl
    have h5 : a.tmps[5]? = some (.bool (wr ⟨0, m, k⟩ c).2) := hs.made 14 5 rfl
    have hd : a.defers = [] := hs.defers
    clear hs
    go_wp2
    refine bodyPost_ret (v := .tuple #[vS (wr ⟨0, m, k⟩ c).1, .bool (wr ⟨0, m, k⟩ c).2]) (by simp [results, Tryz.results117, go_sem, h4, h5, wr]) hd ⟨rfl, hW⟩

theorem ent46 : Ent 46 := enters_of Tryz.func46 (by kernel_rfl) rfl
set_option maxHeartbeats 1000000 in
theorem txtWrite (lo hi bo bm m k : Nat) (ov : Value) (w : World) (hk : isS k = true) (hc : w.cell? ⟨bo, 0, none⟩ = some ov) (hcm : w.cell? ⟨bm, 0, none⟩ = some (.int .i64 (m : Int))) (hof : Of lo hi w ov k)
    (b o : Nat) (T : TypeId) (pre post : List Value) (c : Cal) (hC : CalIn w b o T pre post c) (hfit : CalFit c) (hbo : bo < w.heap.size) (hbm : bm < w.heap.size) :
    Calls Tryz.prog 119 #[.pointer (some ⟨b, o, none⟩), .pointer (some ⟨bo, 0, none⟩), .pointer (some ⟨bm, 0, none⟩)] w fun e w3 => e = .returned (.tuple #[vS (wr ⟨1, m, k⟩ c).1, .bool (wr ⟨1, m, k⟩ c).2]) ∧ Ext w w3 := by
  obtain ⟨F, caps, rfl, hE, hF⟩ := hof
  have hb := lt_of_block hC.2
  have hx1 := hfit.strs k hk
  have hcell := hC.cell (c.cellS hk)
  go_enter Tryz.func119, Tryz.ntmps119
  go_wp2
  refine wp_region_vals (fun i => [Value.func (.func F) #[] caps, .pointer (some ⟨b, o, none⟩), .pointer (some ⟨b, o + k, none⟩), .pointer (some ⟨b, o + k, none⟩), vS (c.getS k), vS (hexB (c.getS k)),
    Value.func (.func F) #[] caps, .pointer (some ⟨b, o, none⟩), .pointer (some ⟨b, o + k, none⟩), .pointer (some ⟨b, o + k, none⟩), vS (c.getS k), .int .i64 ((c.getS k).length : Int), .int .i64 (m : Int), .bool (wr ⟨1, m, k⟩ c).2, vS (hexB (c.getS k)), .bool (wr ⟨1, m, k⟩ c).2].getD i undef)
    (fun w' => Ext w w') mixedOrd (by kernel_rfl) (by kernel_rfl) (by kernel_rfl) ⟨rfl, rfl, rfl, Nat.le_refl _, fun _ _ => rfl⟩ ?_ ?_
  · refine ⟨?_, ?_, ?_, ?_, ?_, ?_, ?_, ?_, ?_, ?_, ?_, ?_, ?_, ?_, ?_, ?_, trivial⟩
    · intro a w' hs hW
      have h1 : a.tmps[1]? = some (.pointer (some ⟨bo, 0, none⟩)) := hs.old 1 rfl
      have e2 : w'.cell? ⟨bo, 0, none⟩ = some (Value.func (.func F) #[] caps) := by rw [hW.cell (p := ⟨bo, 0, none⟩) hbo]; exact hc
      exact wpOp_val rfl rfl (by simp [execOp, go_sem, h1, e2]) ⟨rfl, hW⟩
    · intro a w' hs hW
      have h1 : a.tmps[0]? = some (.pointer (some ⟨b, o, none⟩)) := hs.old 0 rfl
      exact wpOp_val rfl rfl (by simp [execOp, go_sem, h1]) ⟨rfl, hW⟩
    · intro a w' hs hW
      have h1 : a.tmps[6]? = some (Value.func (.func F) #[] caps) := hs.made 0 6 rfl rfl
      have h2 : a.tmps[7]? = some (.pointer (some ⟨b, o, none⟩)) := hs.made 1 7 rfl rfl
      refine wpOp_call (f := F) (args := #[.pointer (some ⟨b, o, none⟩)] ++ caps) rfl rfl (exec_call rfl (ev h1) hE (by simp [ev h2])) ?_
      refine (hF w' (SameIn.of_ext hW) b o).mono ?_
      rintro e w'' ⟨rfl, n, rfl⟩
      exact ⟨_, rfl, rfl, hW.trans (Ext.drewN _ _)⟩
    · intro a w' hs hW
      have h1 : a.tmps[8]? = some (.pointer (some ⟨b, o + k, none⟩)) := hs.made 2 8 rfl rfl
      exact wpOp_val rfl rfl (by simp [execOp, go_sem, h1]) ⟨rfl, hW⟩
    · intro a w' hs hW
      have h1 : a.tmps[9]? = some (.pointer (some ⟨b, o + k, none⟩)) := hs.made 3 9 rfl rfl
      have e2 : w'.cell? ⟨b, o + k, none⟩ = some (vS (c.getS k)) := by rw [hW.cell (p := ⟨b, o + k, none⟩) hb]; exact hcell
      exact wpOp_val rfl rfl (by simp [execOp, go_sem, h1, e2]) ⟨rfl, hW⟩
    · intro a w' hs hW
      have h1 : a.tmps[10]? = some (vS (c.getS k)) := hs.made 4 10 rfl rfl
      refine wpOp_call (f := 46) (args := #[vS (c.getS k)]) rfl rfl (exec_call rfl rfl ent46 (by simp [ev h1])) ?_
      refine (hex_any _ w' (by omega)).mono ?_
      rintro e w'' ⟨rfl, hx⟩
      exact ⟨_, rfl, rfl, hW.trans hx⟩
    · intro a w' hs hW
      have h1 : a.tmps[1]? = some (.pointer (some ⟨bo, 0, none⟩)) := hs.old 1 rfl
      have e2 : w'.cell? ⟨bo, 0, none⟩ = some (Value.func (.func F) #[] caps) := by rw [hW.cell (p := ⟨bo, 0, none⟩) hbo]; exact hc
      exact wpOp_val rfl rfl (by simp [execOp, go_sem, h1, e2]) ⟨rfl, hW⟩
    · intro a w' hs hW
      have h1 : a.tmps[0]? = some (.pointer (some ⟨b, o, none⟩)) := hs.old 0 rfl
      exact wpOp_val rfl rfl (by simp [execOp, go_sem, h1]) ⟨rfl, hW⟩
    · intro a w' hs hW
      have h1 : a.tmps[12]? = some (Value.func (.func F) #[] caps) := hs.made 6 12 rfl rfl
      have h2 : a.tmps[13]? = some (.pointer (some ⟨b, o, none⟩)) := hs.made 7 13 rfl rfl
      refine wpOp_call (f := F) (args := #[.pointer (some ⟨b, o, none⟩)] ++ caps) rfl rfl (exec_call rfl (ev h1) hE (by simp [ev h2])) ?_
      refine (hF w' (SameIn.of_ext hW) b o).mono ?_
      rintro e w'' ⟨rfl, n, rfl⟩
      exact ⟨_, rfl, rfl, hW.trans (Ext.drewN _ _)⟩
    · intro a w' hs hW
      have h1 : a.tmps[14]? = some (.pointer (some ⟨b, o + k, none⟩)) := hs.made 8 14 rfl rfl
      exact wpOp_val rfl rfl (by simp [execOp, go_sem, h1]) ⟨rfl, hW⟩
    · intro a w' hs hW
      have h1 : a.tmps[15]? = some (.pointer (some ⟨b, o + k, none⟩)) := hs.made 9 15 rfl rfl
      have e2 : w'.cell? ⟨b, o + k, none⟩ = some (vS (c.getS k)) := by rw [hW.cell (p := ⟨b, o + k, none⟩) hb]; exact hcell
      exact wpOp_val rfl rfl (by simp [execOp, go_sem, h1, e2]) ⟨rfl, hW⟩
    · intro a w' hs hW
      have h1 : a.tmps[16]? = some (vS (c.getS k)) := hs.made 10 16 rfl rfl
      unfold vS at h1
      exact wpOp_val rfl rfl (by simp [execOp, go_sem, h1]) ⟨rfl, hW⟩
    · intro a w' hs hW
      have h1 : a.tmps[2]? = some (.pointer (some ⟨bm, 0, none⟩)) := hs.old 2 rfl
      have e2 : w'.cell? ⟨bm, 0, none⟩ = some (.int .i64 (m : Int)) := by rw [hW.cell (p := ⟨bm, 0, none⟩) hbm]; exact hcm
      exact wpOp_val rfl rfl (by simp [execOp, go_sem, h1, e2]) ⟨rfl, hW⟩
    · intro a w' hs hW
      have h1 : a.tmps[17]? = some (.int .i64 ((c.getS k).length : Int)) := hs.made 11 17 rfl rfl
      have h2 : a.tmps[18]? = some (.int .i64 (m : Int)) := hs.made 12 18 rfl rfl
      have h3 : (wr ⟨1, m, k⟩ c).2 = decide ((c.getS k).length ≤ m) := by simp [wr]
      exact wpOp_val rfl rfl (by simp [execOp, go_sem, h1, h2, h3]) ⟨rfl, hW⟩
    · intro a w' hs hW
      have h1 : a.tmps[11]? = some (vS (hexB (c.getS k))) := hs.made 5 11 rfl rfl
      exact wpOp_val rfl rfl (by simp [execOp, go_sem, h1]) ⟨rfl, hW⟩
    · intro a w' hs hW
      have h1 : a.tmps[19]? = some (.bool (wr ⟨1, m, k⟩ c).2) := hs.made 13 19 rfl rfl
      exact wpOp_val rfl rfl (by simp [execOp, go_sem, h1]) ⟨rfl, hW⟩
  · intro a w' hs hW
    have h4 : a.tmps[4]? = some (vS (hexB (c.getS k))) := hs.made 14 4 rfl
    have h5 : a.tmps[5]? = some (.bool (wr ⟨1, m, k⟩ c).2) := hs.made 15 5 rfl
    have hd : a.defers = [] := hs.defers
    clear hs
    go_wp2
    refine bodyPost_ret (v := .tuple #[vS (wr ⟨1, m, k⟩ c).1, .bool (wr ⟨1, m, k⟩ c).2]) (by simp [results, Tryz.results119, go_sem, h4, h5, wr]) hd ⟨rfl, hW⟩

set_option maxHeartbeats 400000 in
theorem dirWrite (m k : Nat) (w : World) (b o : Nat) (T : TypeId) (pre post : List Value) (c : Cal) (hC : CalIn w b o T pre post c) :
    Calls Tryz.prog 121 #[.pointer (some ⟨b, o, none⟩)] w fun e w3 => e = .returned (.tuple #[vS (wr ⟨2, m, k⟩ c).1, .bool (wr ⟨2, m, k⟩ c).2]) ∧ Ext w w3 := by
  have hcell : w.cell? ⟨b, o + 3, none⟩ = some (.int .i64 c.n) := hC.cell (c.cellI (k := 3) rfl)
  by_cases h : c.n = 1
  · have hw : wr ⟨2, m, k⟩ c = (wUni, true) := by simp [wr, h]
    rw [hw]
    rw [h] at hcell
    go_enter Tryz.func121, Tryz.ntmps121
    go_wp2
    go_ret2
    exact ⟨rfl, Ext.refl _⟩
  · have hw : wr ⟨2, m, k⟩ c = (wBidi, c.n == 0) := by simp [wr, h]
    rw [hw]
    have h' : (c.n == 1) = false := beq_eq_false_iff_ne.2 h
    go_enter Tryz.func121, Tryz.ntmps121
    go_wp2
    go_quiet (fail)
    go_wp2
    go_ret2
    exact ⟨rfl, Ext.drewN _ _⟩
end Go.Proofs.YtikmoledbiepoaaGreatDoor

/- pick, ParamsFrom, Stretch: what the laws make of numbers. -/
import Derived.Test.YtikmoledbiepoaaGreatDoorGen
import Derived.Test.YtikmoledbiepoaaGreatDoorRows3
import Derived.IntWalk
namespace Go.Proofs.YtikmoledbiepoaaGreatDoor
open Go.RowKit
theorem evc {a : Act} {v : Value} : a.eval (.const v) = v := rfl
/-- pick. -/
def pickN (c n : Int) : Int := (if c < 0 then -(c + 1) else c) % n
theorem pickN_lt (c : Int) {n : Int} (h : 0 < n) : 0 ≤ pickN c n ∧ pickN c n < n := ⟨Int.emod_nonneg _ (by omega), Int.emod_lt_of_pos _ h⟩
set_option maxHeartbeats 400000 in
theorem pick13 (c n : Int) (w : World) (h1 : -9223372036854775808 ≤ c) (h2 : c ≤ 9223372036854775807) (hn : 0 < n) (hn2 : n ≤ 9223372036854775807) : Calls Tryz.prog 13 #[.int .i64 c, .int .i64 n] w fun e w' => e = .returned (.int .i64 (pickN c n)) ∧ w = w' := by
  by_cases h : c < 0
  · have h3 : 0 ≤ -(c + 1) := by omega
    have HP : Hid (pickN c n = -(c + 1).tmod n) := by unfold Hid pickN; rw [if_pos h, ← Int.neg_tmod, Int.tmod_eq_emod_of_nonneg h3]
    have h4 : ¬ n = 0 := by omega
    go_enter Tryz.func13, Tryz.ntmps13
    go_wp2
    go_ret
    exact ⟨by rw [HP.out]; rfl, rfl⟩
  · have HP : Hid (pickN c n = c % n) := by unfold Hid pickN; rw [if_neg h]
    have h3 : 0 ≤ c := by omega
    have h4 : ¬ n = 0 := by omega
    go_enter Tryz.func13, Tryz.ntmps13
    go_wp2
    go_ret
    exact ⟨by rw [HP.out]; rfl, rfl⟩
set_option maxHeartbeats 400000 in
theorem pick41 (c n : Int) (w : World) (h1 : -9223372036854775808 ≤ c) (h2 : c ≤ 9223372036854775807) (hn : 0 < n) (hn2 : n ≤ 9223372036854775807) : Calls Tryz.prog 41 #[.int .i64 c, .int .i64 n] w fun e w' => e = .returned (.int .i64 (pickN c n)) ∧ w = w' := by
  by_cases h : c < 0
  · have h3 : 0 ≤ -(c + 1) := by omega
    have HP : Hid (pickN c n = -(c + 1).tmod n) := by unfold Hid pickN; rw [if_pos h, ← Int.neg_tmod, Int.tmod_eq_emod_of_nonneg h3]
    have h4 : ¬ n = 0 := by omega
    go_enter Tryz.func41, Tryz.ntmps41
    go_wp2
    go_ret
    exact ⟨by rw [HP.out]; rfl, rfl⟩
  · have HP : Hid (pickN c n = c % n) := by unfold Hid pickN; rw [if_neg h]
    have h3 : 0 ≤ c := by omega
    have h4 : ¬ n = 0 := by omega
    go_enter Tryz.func41, Tryz.ntmps41
    go_wp2
    go_ret
    exact ⟨by rw [HP.out]; rfl, rfl⟩
/-- The parameters that ParamsFrom makes. -/
def parN (n0 n1 n2 n3 n4 n5 : Int) : List Int := [pickN n0 1073741825, pickN n1 1073741825, pickN n2 65, pickN n3 65, pickN n4 21, 50 + pickN n5 99951]
theorem ent41 : Ent 41 := enters_of Tryz.func41 (by kernel_rfl) rfl
theorem und24 : ∃ fs, Tryz.prog.underlying 24 = some (.struct fs) := by
  have h : (match Tryz.prog.underlying 24 with | some (.struct _) => true | _ => false) = true := by kernel_rfl
  cases hu : Tryz.prog.underlying 24 with
  | none => rw [hu] at h; cases h
  | some d =>
    rw [hu] at h
    cases d <;> first | exact ⟨_, rfl⟩ | cases h
set_option maxRecDepth 100000 in
set_option maxHeartbeats 2000000 in
theorem ParamsFrom_any (n0 n1 n2 n3 n4 n5 : Int) (w : World) (f0 : IntFit n0) (f1 : IntFit n1) (f2 : IntFit n2) (f3 : IntFit n3) (f4 : IntFit n4) (f5 : IntFit n5) :
    Calls Tryz.prog 25 #[.agg #[.int .i64 n0, .int .i64 n1, .int .i64 n2, .int .i64 n3, .int .i64 n4, .int .i64 n5]] w fun e w' => e = .returned (.agg #[.int .i64 (pickN n0 1073741825), .int .i64 (pickN n1 1073741825), .int .i64 (pickN n2 65), .int .i64 (pickN n3 65), .int .i64 (pickN n4 21), .int .i64 (50 + pickN n5 99951)]) ∧ Ext w w' := by
  go_enter Tryz.func25, Tryz.ntmps25
  go_upto_region 1 with fail
  have hx0 : Ext w ((w.alloc (.cells #[.int .i64 n0, .int .i64 n1, .int .i64 n2, .int .i64 n3, .int .i64 n4, .int .i64 n5] 55)).alloc (.cells #[.int .i64 0, .int .i64 0, .int .i64 0, .int .i64 0, .int .i64 0, .int .i64 0] 24)) := (Ext.alloc _ _).trans (Ext.alloc _ _)
  have hr := pickN_lt n5 (n := 99951) (by decide)
  have hsum : IntKind.i64.wrap (50 + pickN n5 99951) = 50 + pickN n5 99951 := IntWalk.i64_in _ (by omega)
  refine wp_region_flags (fun i => [Value.pointer (some ⟨w.heap.size, 0, none⟩), .int .i64 n0, .int .i64 (pickN n0 1073741825), Value.pointer (some ⟨w.heap.size, 1, none⟩), .int .i64 n1, .int .i64 (pickN n1 1073741825), Value.pointer (some ⟨w.heap.size, 2, none⟩), .int .i64 n2, .int .i64 (pickN n2 65), Value.pointer (some ⟨w.heap.size, 3, none⟩), .int .i64 n3, .int .i64 (pickN n3 65), Value.pointer (some ⟨w.heap.size, 4, none⟩), .int .i64 n4, .int .i64 (pickN n4 21), Value.pointer (some ⟨w.heap.size, 5, none⟩), .int .i64 n5, .int .i64 (pickN n5 99951), .int .i64 (50 + pickN n5 99951), .agg #[.int .i64 (pickN n0 1073741825), .int .i64 (pickN n1 1073741825), .int .i64 (pickN n2 65), .int .i64 (pickN n3 65), .int .i64 (pickN n4 21), .int .i64 (50 + pickN n5 99951)], undef].getD i undef) (fun b w' => w'.heap[w.heap.size]? = some (.cells #[.int .i64 n0, .int .i64 n1, .int .i64 n2, .int .i64 n3, .int .i64 n4, .int .i64 n5] 55) ∧ w'.heap[w.heap.size + 1]? = some (.cells (if b 20 = true then #[.int .i64 (pickN n0 1073741825), .int .i64 (pickN n1 1073741825), .int .i64 (pickN n2 65), .int .i64 (pickN n3 65), .int .i64 (pickN n4 21), .int .i64 (50 + pickN n5 99951)] else #[.int .i64 0, .int .i64 0, .int .i64 0, .int .i64 0, .int .i64 0, .int .i64 0]) 24) ∧ Ext w w') mixedOrd (by kernel_rfl) (by kernel_rfl) (by kernel_rfl) ⟨two_first _ _ _, two_second _ _ _, ⟨hx0.os, hx0.tape, hx0.output, hx0.size, hx0.block⟩⟩ ?_ ?_
  · refine ⟨?_, ?_, ?_, ?_, ?_, ?_, ?_, ?_, ?_, ?_, ?_, ?_, ?_, ?_, ?_, ?_, ?_, ?_, ?_, ?_, ?_, trivial⟩
    · intro a' w' b hb hs hW
      have h0 : a'.tmps[1]? = some (Value.pointer (some ⟨w.heap.size, 0, none⟩)) := hs.old 1 rfl
      exact wpOp_val rfl rfl (by simp [execOp, go_sem, h0]) ⟨rfl, hW⟩
    · intro a' w' b hb hs hW
      have h0 : a'.tmps[3]? = some (Value.pointer (some ⟨w.heap.size, 0, none⟩)) := hs.made 0 3 rfl rfl
      have e0 : w'.cell? ⟨w.heap.size, 0, none⟩ = some (.int .i64 n0) := by rw [Lib.cell_of_heap hW.1]; rfl
      exact wpOp_val rfl rfl (by simp [execOp, go_sem, h0, e0]) ⟨rfl, hW⟩
    · intro a' w' b hb hs hW
      have h0 : a'.tmps[4]? = some (.int .i64 n0) := hs.made 1 4 rfl rfl
      refine wpOp_call (f := 41) (args := #[.int .i64 n0, .int .i64 1073741825]) rfl rfl (exec_call rfl rfl ent41 (by simp [ev h0, evc])) ?_
      refine (pick41 n0 1073741825 w' f0.1 f0.2 (by decide) (by decide)).mono ?_
      rintro e w'' ⟨rfl, rfl⟩
      exact ⟨_, rfl, rfl, hW⟩
    · intro a' w' b hb hs hW
      have h0 : a'.tmps[1]? = some (Value.pointer (some ⟨w.heap.size, 0, none⟩)) := hs.old 1 rfl
      exact wpOp_val rfl rfl (by simp [execOp, go_sem, h0]) ⟨rfl, hW⟩
    · intro a' w' b hb hs hW
      have h0 : a'.tmps[6]? = some (Value.pointer (some ⟨w.heap.size, 1, none⟩)) := hs.made 3 6 rfl rfl
      have e0 : w'.cell? ⟨w.heap.size, 1, none⟩ = some (.int .i64 n1) := by rw [Lib.cell_of_heap hW.1]; rfl
      exact wpOp_val rfl rfl (by simp [execOp, go_sem, h0, e0]) ⟨rfl, hW⟩
    · intro a' w' b hb hs hW
      have h0 : a'.tmps[7]? = some (.int .i64 n1) := hs.made 4 7 rfl rfl
      refine wpOp_call (f := 41) (args := #[.int .i64 n1, .int .i64 1073741825]) rfl rfl (exec_call rfl rfl ent41 (by simp [ev h0, evc])) ?_
      refine (pick41 n1 1073741825 w' f1.1 f1.2 (by decide) (by decide)).mono ?_
      rintro e w'' ⟨rfl, rfl⟩
      exact ⟨_, rfl, rfl, hW⟩
    · intro a' w' b hb hs hW
      have h0 : a'.tmps[1]? = some (Value.pointer (some ⟨w.heap.size, 0, none⟩)) := hs.old 1 rfl
      exact wpOp_val rfl rfl (by simp [execOp, go_sem, h0]) ⟨rfl, hW⟩
    · intro a' w' b hb hs hW
      have h0 : a'.tmps[9]? = some (Value.pointer (some ⟨w.heap.size, 2, none⟩)) := hs.made 6 9 rfl rfl
      have e0 : w'.cell? ⟨w.heap.size, 2, none⟩ = some (.int .i64 n2) := by rw [Lib.cell_of_heap hW.1]; rfl
      exact wpOp_val rfl rfl (by simp [execOp, go_sem, h0, e0]) ⟨rfl, hW⟩
    · intro a' w' b hb hs hW
      have h0 : a'.tmps[10]? = some (.int .i64 n2) := hs.made 7 10 rfl rfl
      refine wpOp_call (f := 41) (args := #[.int .i64 n2, .int .i64 65]) rfl rfl (exec_call rfl rfl ent41 (by simp [ev h0, evc])) ?_
      refine (pick41 n2 65 w' f2.1 f2.2 (by decide) (by decide)).mono ?_
      rintro e w'' ⟨rfl, rfl⟩
      exact ⟨_, rfl, rfl, hW⟩
    · intro a' w' b hb hs hW
      have h0 : a'.tmps[1]? = some (Value.pointer (some ⟨w.heap.size, 0, none⟩)) := hs.old 1 rfl
      exact wpOp_val rfl rfl (by simp [execOp, go_sem, h0]) ⟨rfl, hW⟩
    · intro a' w' b hb hs hW
      have h0 : a'.tmps[12]? = some (Value.pointer (some ⟨w.heap.size, 3, none⟩)) := hs.made 9 12 rfl rfl
      have e0 : w'.cell? ⟨w.heap.size, 3, none⟩ = some (.int .i64 n3) := by rw [Lib.cell_of_heap hW.1]; rfl
      exact wpOp_val rfl rfl (by simp [execOp, go_sem, h0, e0]) ⟨rfl, hW⟩
    · intro a' w' b hb hs hW
      have h0 : a'.tmps[13]? = some (.int .i64 n3) := hs.made 10 13 rfl rfl
      refine wpOp_call (f := 41) (args := #[.int .i64 n3, .int .i64 65]) rfl rfl (exec_call rfl rfl ent41 (by simp [ev h0, evc])) ?_
      refine (pick41 n3 65 w' f3.1 f3.2 (by decide) (by decide)).mono ?_
      rintro e w'' ⟨rfl, rfl⟩
      exact ⟨_, rfl, rfl, hW⟩
    · intro a' w' b hb hs hW
      have h0 : a'.tmps[1]? = some (Value.pointer (some ⟨w.heap.size, 0, none⟩)) := hs.old 1 rfl
      exact wpOp_val rfl rfl (by simp [execOp, go_sem, h0]) ⟨rfl, hW⟩
    · intro a' w' b hb hs hW
      have h0 : a'.tmps[15]? = some (Value.pointer (some ⟨w.heap.size, 4, none⟩)) := hs.made 12 15 rfl rfl
      have e0 : w'.cell? ⟨w.heap.size, 4, none⟩ = some (.int .i64 n4) := by rw [Lib.cell_of_heap hW.1]; rfl
      exact wpOp_val rfl rfl (by simp [execOp, go_sem, h0, e0]) ⟨rfl, hW⟩
    · intro a' w' b hb hs hW
      have h0 : a'.tmps[16]? = some (.int .i64 n4) := hs.made 13 16 rfl rfl
      refine wpOp_call (f := 41) (args := #[.int .i64 n4, .int .i64 21]) rfl rfl (exec_call rfl rfl ent41 (by simp [ev h0, evc])) ?_
      refine (pick41 n4 21 w' f4.1 f4.2 (by decide) (by decide)).mono ?_
      rintro e w'' ⟨rfl, rfl⟩
      exact ⟨_, rfl, rfl, hW⟩
    · intro a' w' b hb hs hW
      have h0 : a'.tmps[1]? = some (Value.pointer (some ⟨w.heap.size, 0, none⟩)) := hs.old 1 rfl
      exact wpOp_val rfl rfl (by simp [execOp, go_sem, h0]) ⟨rfl, hW⟩
    · intro a' w' b hb hs hW
      have h0 : a'.tmps[18]? = some (Value.pointer (some ⟨w.heap.size, 5, none⟩)) := hs.made 15 18 rfl rfl
      have e0 : w'.cell? ⟨w.heap.size, 5, none⟩ = some (.int .i64 n5) := by rw [Lib.cell_of_heap hW.1]; rfl
      exact wpOp_val rfl rfl (by simp [execOp, go_sem, h0, e0]) ⟨rfl, hW⟩
    · intro a' w' b hb hs hW
      have h0 : a'.tmps[19]? = some (.int .i64 n5) := hs.made 16 19 rfl rfl
      refine wpOp_call (f := 41) (args := #[.int .i64 n5, .int .i64 99951]) rfl rfl (exec_call rfl rfl ent41 (by simp [ev h0, evc])) ?_
      refine (pick41 n5 99951 w' f5.1 f5.2 (by decide) (by decide)).mono ?_
      rintro e w'' ⟨rfl, rfl⟩
      exact ⟨_, rfl, rfl, hW⟩
    · intro a' w' b hb hs hW
      have h0 : a'.tmps[20]? = some (.int .i64 (pickN n5 99951)) := hs.made 17 20 rfl rfl
      exact wpOp_val rfl rfl (by simp [execOp, go_sem, h0, hsum]) ⟨rfl, hW⟩
    · intro a' w' b hb hs hW
      have h0 : a'.tmps[5]? = some (.int .i64 (pickN n0 1073741825)) := hs.made 2 5 rfl rfl
      have h1 : a'.tmps[8]? = some (.int .i64 (pickN n1 1073741825)) := hs.made 5 8 rfl rfl
      have h2 : a'.tmps[11]? = some (.int .i64 (pickN n2 65)) := hs.made 8 11 rfl rfl
      have h3 : a'.tmps[14]? = some (.int .i64 (pickN n3 65)) := hs.made 11 14 rfl rfl
      have h4 : a'.tmps[17]? = some (.int .i64 (pickN n4 21)) := hs.made 14 17 rfl rfl
      have h5 : a'.tmps[21]? = some (.int .i64 (50 + pickN n5 99951)) := hs.made 18 21 rfl rfl
      exact wpOp_val rfl rfl (by simp [execOp, go_sem, h0, h1, h2, h3, h4, h5]) ⟨rfl, hW⟩
    · intro a' w' b hb hs hW
      have h0 : a'.tmps[2]? = some (Value.pointer (some ⟨w.heap.size + 1, 0, none⟩)) := hs.old 2 rfl
      have h1 : a'.tmps[22]? = some (.agg #[.int .i64 (pickN n0 1073741825), .int .i64 (pickN n1 1073741825), .int .i64 (pickN n2 65), .int .i64 (pickN n3 65), .int .i64 (pickN n4 21), .int .i64 (50 + pickN n5 99951)]) := hs.made 19 22 rfl rfl
      have hst : (Instr.storeAt 24 (.pointer (some ⟨w.heap.size + 1, 0, none⟩)) (.agg #[.int .i64 (pickN n0 1073741825), .int .i64 (pickN n1 1073741825), .int .i64 (pickN n2 65), .int .i64 (pickN n3 65), .int .i64 (pickN n4 21), .int .i64 (50 + pickN n5 99951)])).run Tryz.prog w' = .ok () (w'.setRow (w.heap.size + 1) #[.int .i64 (pickN n0 1073741825), .int .i64 (pickN n1 1073741825), .int .i64 (pickN n2 65), .int .i64 (pickN n3 65), .int .i64 (pickN n4 21), .int .i64 (50 + pickN n5 99951)]) := by
        simp only [Instr.storeAt, Instr.sureAddr, Sem.run_bind, Sem.run_pure, Result.andThen_ok, run_storeVar_row (P := Tryz.prog) w' (w.heap.size + 1) 24 24 _ #[.int .i64 (pickN n0 1073741825), .int .i64 (pickN n1 1073741825), .int .i64 (pickN n2 65), .int .i64 (pickN n3 65), .int .i64 (pickN n4 21), .int .i64 (50 + pickN n5 99951)] hW.2.1 (by kernel_rfl) (by split <;> rfl) (by simp [Value.oneCell'])]
      refine wpOp_skip (w' := w'.setRow (w.heap.size + 1) #[.int .i64 (pickN n0 1073741825), .int .i64 (pickN n1 1073741825), .int .i64 (pickN n2 65), .int .i64 (pickN n3 65), .int .i64 (pickN n4 21), .int .i64 (50 + pickN n5 99951)]) rfl rfl (by simp [execOp, ev h0, ev h1, hst]) ⟨rfl, ?_, ?_, hW.2.2.setRow _ _ (by omega)⟩
      · rw [setRow_other _ _ _ _ (by omega)]; exact hW.1
      · exact setRow_heap _ _ _ _ _ _ hW.2.1
  · intro a' w' b hb hs hW
    have h2 : a'.tmps[2]? = some (.pointer (some ⟨w.heap.size + 1, 0, none⟩)) := hs.old 2 rfl
    have hd : a'.defers = [] := hs.defers
    have hres := hW.2.1
    rw [hb 20 (by decide)] at hres
    have hx := hW.2.2
    clear hs hW hb
    obtain ⟨fs, hu⟩ := und24
    go_wp2_with fail
    refine bodyPost_ret (results_cell_row (p := 2) (ty := 24) rfl _ _ (w.heap.size + 1) 24 #[.int .i64 (pickN n0 1073741825), .int .i64 (pickN n1 1073741825), .int .i64 (pickN n2 65), .int .i64 (pickN n3 65), .int .i64 (pickN n4 21), .int .i64 (50 + pickN n5 99951)] (0, 0) _ (by simp [h2]) hres hu rfl (by kernel_rfl)) hd ⟨rfl, hx⟩
end Go.Proofs.YtikmoledbiepoaaGreatDoor

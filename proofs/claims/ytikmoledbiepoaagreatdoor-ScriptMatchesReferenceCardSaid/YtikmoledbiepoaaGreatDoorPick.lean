/- pick, ParamsFrom, Stretch: what the laws make of numbers. -/
import Derived.Test.YtikmoledbiepoaaGreatDoorFlags
import Derived.Test.YtikmoledbiepoaaGreatDoorRows3
import Derived.IntWalk
import Derived.Deep.OwnRows
import Derived.RegionTactic
import Derived.BigRegion
import Derived.ChangeAlike
import Derived.Laws.BytesString
namespace Go.Proofs.YtikmoledbiepoaaGreatDoor
open Go.RowKit
theorem evc {a : Act} {v : Value} : a.eval (.const v) = v := rfl
/-- pick. -/
def pickN (c n : Int) : Int := (if c < 0 then -(c + 1) else c) % n
theorem pickN_lt (c : Int) {n : Int} (h : 0 < n) : 0 ≤ pickN c n ∧ pickN c n < n := ⟨Int.emod_nonneg _ (by omega), Int.emod_lt_of_pos _ h⟩
set_option maxHeartbeats 400000 in
theorem pick13 (c n : Int) (w : World) (h1 : -9223372036854775808 ≤ c) (h2 : c ≤ 9223372036854775807) (hn : 0 < n) (hn2 : n ≤ 9223372036854775807) : Calls Tryz.prog 13 #[.int .i64 c, .int .i64 n] w fun e w' => e = .returned (.int .i64 (pickN c n)) ∧ w = w' := by
  by_cases h : c < 0
  · have h3 : 0 ≤ -(c + 1) := by omega
    have HP : Hid (pickN c n = -(c + 1).tmod n) := by unfold Hid pickN; rw [if_pos h, ← Int.neg_tmod, Int.tmod_eq_emod_of_nonneg h3]
    have h4 : ¬ n = 0 := by omega
    go_enter Tryz.func13, Tryz.ntmps13
    go_wp2
    go_ret
    exact ⟨by rw [HP.out]; rfl, rfl⟩
  · have HP : Hid (pickN c n = c % n) := by unfold Hid pickN; rw [if_neg h]
    have h3 : 0 ≤ c := by omega
    have h4 : ¬ n = 0 := by omega
    go_enter Tryz.func13, Tryz.ntmps13
    go_wp2
    go_ret
    exact ⟨by rw [HP.out]; rfl, rfl⟩
set_option maxHeartbeats 400000 in
theorem pick41 (c n : Int) (w : World) (h1 : -9223372036854775808 ≤ c) (h2 : c ≤ 9223372036854775807) (hn : 0 < n) (hn2 : n ≤ 9223372036854775807) : Calls Tryz.prog 41 #[.int .i64 c, .int .i64 n] w fun e w' => e = .returned (.int .i64 (pickN c n)) ∧ w = w' := by
  by_cases h : c < 0
  · have h3 : 0 ≤ -(c + 1) := by omega
    have HP : Hid (pickN c n = -(c + 1).tmod n) := by unfold Hid pickN; rw [if_pos h, ← Int.neg_tmod, Int.tmod_eq_emod_of_nonneg h3]
    have h4 : ¬ n = 0 := by omega
    go_enter Tryz.func41, Tryz.ntmps41
    go_wp2
    go_ret
    exact ⟨by rw [HP.out]; rfl, rfl⟩
  · have HP : Hid (pickN c n = c % n) := by unfold Hid pickN; rw [if_neg h]
    have h3 : 0 ≤ c := by omega
    have h4 : ¬ n = 0 := by omega
    go_enter Tryz.func41, Tryz.ntmps41
    go_wp2
    go_ret
    exact ⟨by rw [HP.out]; rfl, rfl⟩
/-- The parameters that ParamsFrom makes. -/
def parN (n0 n1 n2 n3 n4 n5 : Int) : List Int := [pickN n0 1073741825, pickN n1 1073741825, pickN n2 65, pickN n3 65, pickN n4 21, 50 + pickN n5 99951]
theorem ent41 : Ent 41 := enters_of Tryz.func41 (by kernel_rfl) rfl
theorem und24 : ∃ fs, Tryz.prog.underlying 24 = some (.struct fs) := by
  have h : (match Tryz.prog.underlying 24 with | some (.struct _) => true | _ => false) = true := by kernel_rfl
  cases hu : Tryz.prog.underlying 24 with
  | none => rw [hu] at h; cases h
  | some d =>
    rw [hu] at h
    cases d <;> first | exact ⟨_, rfl⟩ | cases h
set_option maxRecDepth 100000 in
set_option maxHeartbeats 2000000 in
theorem ParamsFrom_any (n0 n1 n2 n3 n4 n5 : Int) (w : World) (f0 : IntFit n0) (f1 : IntFit n1) (f2 : IntFit n2) (f3 : IntFit n3) (f4 : IntFit n4) (f5 : IntFit n5) :
    Calls Tryz.prog 25 #[.agg #[.int .i64 n0, .int .i64 n1, .int .i64 n2, .int .i64 n3, .int .i64 n4, .int .i64 n5]] w fun e w' => e = .returned (.agg #[.int .i64 (pickN n0 1073741825), .int .i64 (pickN n1 1073741825), .int .i64 (pickN n2 65), .int .i64 (pickN n3 65), .int .i64 (pickN n4 21), .int .i64 (50 + pickN n5 99951)]) ∧ Ext w w' := by
  go_enter Tryz.func25, Tryz.ntmps25
  go_upto_region 1 with fail
  have hx0 : Ext w ((w.alloc (.cells #[.int .i64 n0, .int .i64 n1, .int .i64 n2, .int .i64 n3, .int .i64 n4, .int .i64 n5] 55)).alloc (.cells #[.int .i64 0, .int .i64 0, .int .i64 0, .int .i64 0, .int .i64 0, .int .i64 0] 24)) := (Ext.alloc _ _).trans (Ext.alloc _ _)
  have hr := pickN_lt n5 (n := 99951) (by decide)
  have hsum : IntKind.i64.wrap (50 + pickN n5 99951) = 50 + pickN n5 99951 := IntWalk.i64_in _ (by omega)
  refine wp_region_flags (fun i => [Value.pointer (some ⟨w.heap.size, 0, none⟩), .int .i64 n0, .int .i64 (pickN n0 1073741825), Value.pointer (some ⟨w.heap.size, 1, none⟩), .int .i64 n1, .int .i64 (pickN n1 1073741825), Value.pointer (some ⟨w.heap.size, 2, none⟩), .int .i64 n2, .int .i64 (pickN n2 65), Value.pointer (some ⟨w.heap.size, 3, none⟩), .int .i64 n3, .int .i64 (pickN n3 65), Value.pointer (some ⟨w.heap.size, 4, none⟩), .int .i64 n4, .int .i64 (pickN n4 21), Value.pointer (some ⟨w.heap.size, 5, none⟩), .int .i64 n5, .int .i64 (pickN n5 99951), .int .i64 (50 + pickN n5 99951), .agg #[.int .i64 (pickN n0 1073741825), .int .i64 (pickN n1 1073741825), .int .i64 (pickN n2 65), .int .i64 (pickN n3 65), .int .i64 (pickN n4 21), .int .i64 (50 + pickN n5 99951)], undef].getD i undef) (fun b w' => w'.heap[w.heap.size]? = some (.cells #[.int .i64 n0, .int .i64 n1, .int .i64 n2, .int .i64 n3, .int .i64 n4, .int .i64 n5] 55) ∧ w'.heap[w.heap.size + 1]? = some (.cells (if b 20 = true then #[.int .i64 (pickN n0 1073741825), .int .i64 (pickN n1 1073741825), .int .i64 (pickN n2 65), .int .i64 (pickN n3 65), .int .i64 (pickN n4 21), .int .i64 (50 + pickN n5 99951)] else #[.int .i64 0, .int .i64 0, .int .i64 0, .int .i64 0, .int .i64 0, .int .i64 0]) 24) ∧ Ext w w') mixedOrd (by kernel_rfl) (by kernel_rfl) (by kernel_rfl) ⟨two_first _ _ _, two_second _ _ _, ⟨hx0.os, hx0.tape, hx0.output, hx0.size, hx0.block⟩⟩ ?_ ?_
  · refine ⟨?_, ?_, ?_, ?_, ?_, ?_, ?_, ?_, ?_, ?_, ?_, ?_, ?_, ?_, ?_, ?_, ?_, ?_, ?_, ?_, ?_, trivial⟩
    · intro a' w' b hb hs hW
      have h0 : a'.tmps[1]? = some (Value.pointer (some ⟨w.heap.size, 0, none⟩)) := hs.old 1 rfl
      exact wpOp_val rfl rfl (by simp [execOp, go_sem, h0]) ⟨rfl, hW⟩
    · intro a' w' b hb hs hW
      have h0 : a'.tmps[3]? = some (Value.pointer (some ⟨w.heap.size, 0, none⟩)) := hs.made 0 3 rfl rfl
      have e0 : w'.cell? ⟨w.heap.size, 0, none⟩ = some (.int .i64 n0) := by rw [Lib.cell_of_heap hW.1]; rfl
      exact wpOp_val rfl rfl (by simp [execOp, go_sem, h0, e0]) ⟨rfl, hW⟩
    · intro a' w' b hb hs hW
      have h0 : a'.tmps[4]? = some (.int .i64 n0) := hs.made 1 4 rfl rfl
      refine wpOp_call (f := 41) (args := #[.int .i64 n0, .int .i64 1073741825]) rfl rfl (exec_call rfl rfl ent41 (by simp [ev h0, evc])) ?_
      refine (pick41 n0 1073741825 w' f0.1 f0.2 (by decide) (by decide)).mono ?_
      rintro e w'' ⟨rfl, rfl⟩
      exact ⟨_, rfl, rfl, hW⟩
    · intro a' w' b hb hs hW
      have h0 : a'.tmps[1]? = some (Value.pointer (some ⟨w.heap.size, 0, none⟩)) := hs.old 1 rfl
      exact wpOp_val rfl rfl (by simp [execOp, go_sem, h0]) ⟨rfl, hW⟩
    · intro a' w' b hb hs hW
      have h0 : a'.tmps[6]? = some (Value.pointer (some ⟨w.heap.size, 1, none⟩)) := hs.made 3 6 rfl rfl
      have e0 : w'.cell? ⟨w.heap.size, 1, none⟩ = some (.int .i64 n1) := by rw [Lib.cell_of_heap hW.1]; rfl
      exact wpOp_val rfl rfl (by simp [execOp, go_sem, h0, e0]) ⟨rfl, hW⟩
    · intro a' w' b hb hs hW
      have h0 : a'.tmps[7]? = some (.int .i64 n1) := hs.made 4 7 rfl rfl
      refine wpOp_call (f := 41) (args := #[.int .i64 n1, .int .i64 1073741825]) rfl rfl (exec_call rfl rfl ent41 (by simp [ev h0, evc])) ?_
      refine (pick41 n1 1073741825 w' f1.1 f1.2 (by decide) (by decide)).mono ?_
      rintro e w'' ⟨rfl, rfl⟩
      exact ⟨_, rfl, rfl, hW⟩
    · intro a' w' b hb hs hW
      have h0 : a'.tmps[1]? = some (Value.pointer (some ⟨w.heap.size, 0, none⟩)) := hs.old 1 rfl
      exact wpOp_val rfl rfl (by simp [execOp, go_sem, h0]) ⟨rfl, hW⟩
    · intro a' w' b hb hs hW
      have h0 : a'.tmps[9]? = some (Value.pointer (some ⟨w.heap.size, 2, none⟩)) := hs.made 6 9 rfl rfl
      have e0 : w'.cell? ⟨w.heap.size, 2, none⟩ = some (.int .i64 n2) := by rw [Lib.cell_of_heap hW.1]; rfl
      exact wpOp_val rfl rfl (by simp [execOp, go_sem, h0, e0]) ⟨rfl, hW⟩
    · intro a' w' b hb hs hW
      have h0 : a'.tmps[10]? = some (.int .i64 n2) := hs.made 7 10 rfl rfl
      refine wpOp_call (f := 41) (args := #[.int .i64 n2, .int .i64 65]) rfl rfl (exec_call rfl rfl ent41 (by simp [ev h0, evc])) ?_
      refine (pick41 n2 65 w' f2.1 f2.2 (by decide) (by decide)).mono ?_
      rintro e w'' ⟨rfl, rfl⟩
      exact ⟨_, rfl, rfl, hW⟩
    · intro a' w' b hb hs hW
      have h0 : a'.tmps[1]? = some (Value.pointer (some ⟨w.heap.size, 0, none⟩)) := hs.old 1 rfl
      exact wpOp_val rfl rfl (by simp [execOp, go_sem, h0]) ⟨rfl, hW⟩
    · intro a' w' b hb hs hW
      have h0 : a'.tmps[12]? = some (Value.pointer (some ⟨w.heap.size, 3, none⟩)) := hs.made 9 12 rfl rfl
      have e0 : w'.cell? ⟨w.heap.size, 3, none⟩ = some (.int .i64 n3) := by rw [Lib.cell_of_heap hW.1]; rfl
      exact wpOp_val rfl rfl (by simp [execOp, go_sem, h0, e0]) ⟨rfl, hW⟩
    · intro a' w' b hb hs hW
      have h0 : a'.tmps[13]? = some (.int .i64 n3) := hs.made 10 13 rfl rfl
      refine wpOp_call (f := 41) (args := #[.int .i64 n3, .int .i64 65]) rfl rfl (exec_call rfl rfl ent41 (by simp [ev h0, evc])) ?_
      refine (pick41 n3 65 w' f3.1 f3.2 (by decide) (by decide)).mono ?_
      rintro e w'' ⟨rfl, rfl⟩
      exact ⟨_, rfl, rfl, hW⟩
    · intro a' w' b hb hs hW
      have h0 : a'.tmps[1]? = some (Value.pointer (some ⟨w.heap.size, 0, none⟩)) := hs.old 1 rfl
      exact wpOp_val rfl rfl (by simp [execOp, go_sem, h0]) ⟨rfl, hW⟩
    · intro a' w' b hb hs hW
      have h0 : a'.tmps[15]? = some (Value.pointer (some ⟨w.heap.size, 4, none⟩)) := hs.made 12 15 rfl rfl
      have e0 : w'.cell? ⟨w.heap.size, 4, none⟩ = some (.int .i64 n4) := by rw [Lib.cell_of_heap hW.1]; rfl
      exact wpOp_val rfl rfl (by simp [execOp, go_sem, h0, e0]) ⟨rfl, hW⟩
    · intro a' w' b hb hs hW
      have h0 : a'.tmps[16]? = some (.int .i64 n4) := hs.made 13 16 rfl rfl
      refine wpOp_call (f := 41) (args := #[.int .i64 n4, .int .i64 21]) rfl rfl (exec_call rfl rfl ent41 (by simp [ev h0, evc])) ?_
      refine (pick41 n4 21 w' f4.1 f4.2 (by decide) (by decide)).mono ?_
      rintro e w'' ⟨rfl, rfl⟩
      exact ⟨_, rfl, rfl, hW⟩
    · intro a' w' b hb hs hW
      have h0 : a'.tmps[1]? = some (Value.pointer (some ⟨w.heap.size, 0, none⟩)) := hs.old 1 rfl
      exact wpOp_val rfl rfl (by simp [execOp, go_sem, h0]) ⟨rfl, hW⟩
    · intro a' w' b hb hs hW
      have h0 : a'.tmps[18]? = some (Value.pointer (some ⟨w.heap.size, 5, none⟩)) := hs.made 15 18 rfl rfl
      have e0 : w'.cell? ⟨w.heap.size, 5, none⟩ = some (.int .i64 n5) := by rw [Lib.cell_of_heap hW.1]; rfl
      exact wpOp_val rfl rfl (by simp [execOp, go_sem, h0, e0]) ⟨rfl, hW⟩
    · intro a' w' b hb hs hW
      have h0 : a'.tmps[19]? = some (.int .i64 n5) := hs.made 16 19 rfl rfl
      refine wpOp_call (f := 41) (args := #[.int .i64 n5, .int .i64 99951]) rfl rfl (exec_call rfl rfl ent41 (by simp [ev h0, evc])) ?_
      refine (pick41 n5 99951 w' f5.1 f5.2 (by decide) (by decide)).mono ?_
      rintro e w'' ⟨rfl, rfl⟩
      exact ⟨_, rfl, rfl, hW⟩
    · intro a' w' b hb hs hW
      have h0 : a'.tmps[20]? = some (.int .i64 (pickN n5 99951)) := hs.made 17 20 rfl rfl
      exact wpOp_val rfl rfl (by simp [execOp, go_sem, h0, hsum]) ⟨rfl, hW⟩
    · intro a' w' b hb hs hW
      have h0 : a'.tmps[5]? = some (.int .i64 (pickN n0 1073741825)) := hs.made 2 5 rfl rfl
      have h1 : a'.tmps[8]? = some (.int .i64 (pickN n1 1073741825)) := hs.made 5 8 rfl rfl
      have h2 : a'.tmps[11]? = some (.int .i64 (pickN n2 65)) := hs.made 8 11 rfl rfl
      have h3 : a'.tmps[14]? = some (.int .i64 (pickN n3 65)) := hs.made 11 14 rfl rfl
      have h4 : a'.tmps[17]? = some (.int .i64 (pickN n4 21)) := hs.made 14 17 rfl rfl
      have h5 : a'.tmps[21]? = some (.int .i64 (50 + pickN n5 99951)) := hs.made 18 21 rfl rfl
      exact wpOp_val rfl rfl (by simp [execOp, go_sem, h0, h1, h2, h3, h4, h5]) ⟨rfl, hW⟩
    · intro a' w' b hb hs hW
      have h0 : a'.tmps[2]? = some (Value.pointer (some ⟨w.heap.size + 1, 0, none⟩)) := hs.old 2 rfl
      have h1 : a'.tmps[22]? = some (.agg #[.int .i64 (pickN n0 1073741825), .int .i64 (pickN n1 1073741825), .int .i64 (pickN n2 65), .int .i64 (pickN n3 65), .int .i64 (pickN n4 21), .int .i64 (50 + pickN n5 99951)]) := hs.made 19 22 rfl rfl
      have hst : (Instr.storeAt 24 (.pointer (some ⟨w.heap.size + 1, 0, none⟩)) (.agg #[.int .i64 (pickN n0 1073741825), .int .i64 (pickN n1 1073741825), .int .i64 (pickN n2 65), .int .i64 (pickN n3 65), .int .i64 (pickN n4 21), .int .i64 (50 + pickN n5 99951)])).run Tryz.prog w' = .ok () (w'.setRow (w.heap.size + 1) #[.int .i64 (pickN n0 1073741825), .int .i64 (pickN n1 1073741825), .int .i64 (pickN n2 65), .int .i64 (pickN n3 65), .int .i64 (pickN n4 21), .int .i64 (50 + pickN n5 99951)]) := by
        simp only [Instr.storeAt, Instr.sureAddr, Sem.run_bind, Sem.run_pure, Result.andThen_ok, run_storeVar_row (P := Tryz.prog) w' (w.heap.size + 1) 24 24 _ #[.int .i64 (pickN n0 1073741825), .int .i64 (pickN n1 1073741825), .int .i64 (pickN n2 65), .int .i64 (pickN n3 65), .int .i64 (pickN n4 21), .int .i64 (50 + pickN n5 99951)] hW.2.1 (by kernel_rfl) (by split <;> rfl) (by simp [Value.oneCell'])]
      refine wpOp_skip (w' := w'.setRow (w.heap.size + 1) #[.int .i64 (pickN n0 1073741825), .int .i64 (pickN n1 1073741825), .int .i64 (pickN n2 65), .int .i64 (pickN n3 65), .int .i64 (pickN n4 21), .int .i64 (50 + pickN n5 99951)]) rfl rfl (by simp [execOp, ev h0, ev h1, hst]) ⟨rfl, ?_, ?_, hW.2.2.setRow _ _ (by omega)⟩
      · rw [setRow_other _ _ _ _ (by omega)]; exact hW.1
      · exact setRow_heap _ _ _ _ _ _ hW.2.1
  · intro a' w' b hb hs hW
    have h2 : a'.tmps[2]? = some (.pointer (some ⟨w.heap.size + 1, 0, none⟩)) := hs.old 2 rfl
    have hd : a'.defers = [] := hs.defers
    have hres := hW.2.1
    rw [hb 20 (by decide)] at hres
    have hx := hW.2.2
    clear hs hW hb
    obtain ⟨fs, hu⟩ := und24
    go_wp2_with fail
    refine bodyPost_ret (results_cell_row (p := 2) (ty := 24) rfl _ _ (w.heap.size + 1) 24 #[.int .i64 (pickN n0 1073741825), .int .i64 (pickN n1 1073741825), .int .i64 (pickN n2 65), .int .i64 (pickN n3 65), .int .i64 (pickN n4 21), .int .i64 (50 + pickN n5 99951)] (0, 0) _ (by simp [h2]) hres hu rfl (by kernel_rfl)) hd ⟨rfl, hx⟩
end Go.Proofs.YtikmoledbiepoaaGreatDoor
/- Stretch. -/
namespace Go.Proofs.YtikmoledbiepoaaGreatDoor
open Go.RowKit
def strI (s : List UInt8) (k : Nat) : Int :=
  if s.length = 0 then (k : Int) * 37 % 256 else (((⟨s.toArray⟩ : ByteArray).get! (k % s.length)).toNat + (k : Int) / s.length) % 256
def strC (s : List UInt8) (j k : Nat) : Value := if k < j then .int .u8 (strI s k) else .int .u8 0
def strF (s : List UInt8) (n : Nat) : List UInt8 := (List.range n).map fun k => UInt8.ofNat (strI s k).toNat
/-- Its length. -/
theorem strF_len (s : List UInt8) (n : Nat) : (strF s n).length = n := by simp [strF]
theorem strC_step {s : List UInt8} {j : Nat} {v : Value} {f : Nat → Value} (hv : v = .int .u8 (strI s j)) (k : Nat) (hf : ∀ k, k ≠ j → f k = strC s j k) :
    (if k = j then v else f k) = strC s (j + 1) k := by
  by_cases h : k = j
  · subst h
    rw [if_pos rfl, hv, strC, if_pos (Nat.lt_succ_self _)]
  · rw [if_neg h, hf k h, strC, strC]
    by_cases h2 : k < j
    · rw [if_pos h2, if_pos (by omega)]
    · rw [if_neg h2, if_neg (by omega)]
theorem pushes (ns : List Int) (l : List UInt8) : ns.foldl (fun r n => r.push (UInt8.ofNat n.toNat)) (⟨l.toArray⟩ : ByteArray) = ⟨(l ++ ns.map fun n => UInt8.ofNat n.toNat).toArray⟩ := by
  induction ns generalizing l with
  | nil => simp
  | cons n ns ih =>
    rw [List.foldl_cons]
    have : (⟨l.toArray⟩ : ByteArray).push (UInt8.ofNat n.toNat) = ⟨(l ++ [UInt8.ofNat n.toNat]).toArray⟩ := by simp [ByteArray.push]
    rw [this, ih]
    simp
theorem byteGet (s : List UInt8) (i : Nat) (h : i < s.length) : (⟨s.toArray⟩ : ByteArray).get! i = (⟨s.toArray⟩ : ByteArray)[i]'h := by
  show s.toArray[i]! = s.toArray[i]
  simp [h]
theorem conv_row (s : List UInt8) (n N : Nat) (w : World) (h : w.rowIs N 5 n (strC s n)) :
    (convert 46 9 (.slice (some ⟨N, 0, none⟩) n n)).run Tryz.prog w = .ok (.string ⟨(strF s n).toArray⟩) w := by
  rw [run_convert_bytes_string w 46 9 5 _ _ _ Tryz.und46 (by kernel_rfl) (by kernel_rfl)]
  rw [run_bytesToString w ⟨N, 0, none⟩ n n ((List.range n).map (strI s))]
  · have := pushes ((List.range n).map (strI s)) []
    simp only [List.nil_append, List.map_map] at this
    rw [show ByteArray.empty = ⟨([] : List UInt8).toArray⟩ from rfl, this]
    rfl
  · rw [run_loadCells w ⟨N, 0, none⟩ n (strC s n) (fun j hj => by
    have : (⟨N, 0, none⟩ : Addr).add j = ⟨N, j, none⟩ := by cases j <;> simp [Addr.add]
    rw [this]; exact h.cell hj)]
    congr 1
    apply Array.ext
    · simp
    · intro i h1 h2
      have : i < n := by simpa using h1
      simp [strC, this]
set_option maxRecDepth 100000 in
set_option maxHeartbeats 2000000 in
theorem Stretch_any (s : List UInt8) (n : Nat) (w : World) (hl : s.length ≤ 1000000) (hn : n ≤ 100000) :
    Calls Tryz.prog 26 #[.string ⟨s.toArray⟩, .int .i64 (n : Int)] w fun e w' => e = .returned (.string ⟨(strF s n).toArray⟩) ∧ Ext w w' := by
  have hmk := run_make_row' (P := Tryz.prog) 46 5 (.int .u8 0) 1 Tryz.und46 Tryz.info5 rfl .i64 .i64 n (by omega) (by omega)
  go_enter Tryz.func26, Tryz.ntmps26
  go_wp2_with fail
  go_loopw [6] (fun i wq => ∃ (j : Nat), j ≤ n ∧ i = .int .i64 j ∧ wq.rowIs w.heap.size 5 n (strC s j) ∧ Below w.heap.size w wq) (fun i _ => n - (intOf i).toNat)
  case atStart => exact ⟨0, Nat.zero_le _, rfl, (World.rowIs_made _ _ _ _).congr (fun _ _ => rfl), Ext.alloc _ _⟩
  case round =>
    obtain ⟨j, hj, rfl, hrow, hbq⟩ := hrel
    by_cases hlt : j < n
    · have c1 := hrow.cell hlt
      have c2 := hrow.frozen j
      have i1 : (0 : Int) ≤ (j : Int) := by omega
      have i2 : (j : Int) < (n : Int) := by omega
      by_cases hs : s.length = 0
      · go_wp2_with fail
        refine ⟨⟨j + 1, hlt, by simp, (hrow.set j _).congr (fun k _ => strC_step (s := s) ?_ k (fun _ _ => rfl)), Ext.setCell hbq (Nat.le_refl _) _⟩, by simp only [intOf]; omega⟩
        rw [strI, if_pos hs]
      · have hs1 : 0 < s.length := by omega
        have hs2 : (0 : Int) < (s.length : Int) := by omega
        have hs3 : ¬ (s.length : Int) = 0 := by omega
        have hm1 : j % s.length < s.length := Nat.mod_lt _ hs1
        have hm2 : (0 : Int) ≤ (j : Int) % (s.length : Int) := by omega
        have hm3 : (j : Int) % (s.length : Int) < (s.length : Int) := by omega
        have hm4 : (0 : Int) ≤ (j : Int) / (s.length : Int) := Int.ediv_nonneg (by omega) (by omega)
        have hm5 : (j : Int) / (s.length : Int) ≤ 100000 := Int.le_trans (Int.ediv_le_self _ (by omega)) (by omega)
        have hm6 : wrap64 ((j : Int) / (s.length : Int)) = (j : Int) / (s.length : Int) := by unfold wrap64; omega
        go_wp2_with fail
        obtain ⟨W, hW⟩ : ∃ W, W = wr.setCell ⟨w.heap.size, j, none⟩ (.int .u8 ((j : Int) * 37 % 256)) := ⟨_, rfl⟩
        rw [← hW]
        have hrow2 : W.rowIs w.heap.size 5 n (fun k => if k = j then .int .u8 ((j : Int) * 37 % 256) else strC s j k) := by rw [hW]; exact hrow.set j _
        have d1 := hrow2.cell hlt
        simp only [if_true] at d1
        have d2 := hrow2.frozen j
        have hb2 : Below w.heap.size w W := by rw [hW]; exact Ext.setCell hbq (Nat.le_refl _) _
        clear c1 c2 hrow hW
        go_region
        have hv : Value.int .u8 ((((⟨s.toArray⟩ : ByteArray)[j % s.length]'hm1).toNat + (j : Int) / (s.length : Int)) % 256) = .int .u8 (strI s j) := by
          rw [strI, if_neg hs]
          congr 4
          exact congrArg UInt8.toNat (byteGet s _ hm1).symm
        obtain ⟨W3, hW3⟩ : ∃ W3, W3 = (W.setCell ⟨w.heap.size, j, none⟩ (.int .u8 ((((⟨s.toArray⟩ : ByteArray)[j % s.length]'hm1).toNat + (j : Int) / (s.length : Int)) % 256))).drew := ⟨_, rfl⟩
        rw [← hW3]
        have hrow3 : W3.rowIs w.heap.size 5 n (strC s (j + 1)) := by
          rw [hW3]
          exact ((hrow2.set j _).congr (fun k _ => strC_step (f := fun k => if k = j then .int .u8 ((j : Int) * 37 % 256) else strC s j k) hv k (fun k h => if_neg h))).drew
        have hb3 : Below w.heap.size w W3 := by
          rw [hW3]
          exact Ext.drewed (Ext.setCell hb2 (Nat.le_refl _) _)
        clear hW3
        go_wp2_with fail
        exact ⟨⟨j + 1, hlt, by simp, hrow3, hb3⟩, by simp only [intOf]; omega⟩
    · have hjn : j = n := by omega
      subst hjn
      have hcv := conv_row s j w.heap.size wr hrow
      go_wp2_with fail
      exact bodyPost_ret (v := .string ⟨(strF s j).toArray⟩) (by simp [results, Tryz.f26, go_sem]) rfl ⟨rfl, hbq⟩
end Go.Proofs.YtikmoledbiepoaaGreatDoor

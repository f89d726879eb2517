/- Stretch. -/
import Derived.Test.YtikmoledbiepoaaGreatDoorPick
import Derived.Deep.OwnRows
import Derived.RegionTactic
import Derived.BigRegion
import Derived.ChangeAlike
import Derived.Laws.BytesString
namespace Go.Proofs.YtikmoledbiepoaaGreatDoor
open Go.RowKit
def strI (s : List UInt8) (k : Nat) : Int :=
  if s.length = 0 then (k : Int) * 37 % 256 else (((⟨s.toArray⟩ : ByteArray).get! (k % s.length)).toNat + (k : Int) / s.length) % 256
def strC (s : List UInt8) (j k : Nat) : Value := if k < j then .int .u8 (strI s k) else .int .u8 0
def strF (s : List UInt8) (n : Nat) : List UInt8 := (List.range n).map fun k => UInt8.ofNat (strI s k).toNat
/-- Its length. -/
theorem strF_len (s : List UInt8) (n : Nat) : (strF s n).length = n := by simp [strF]
theorem strC_step {s : List UInt8} {j : Nat} {v : Value} {f : Nat → Value} (hv : v = .int .u8 (strI s j)) (k : Nat) (hf : ∀ k, k ≠ j → f k = strC s j k) :
    (if k = j then v else f k) = strC s (j + 1) k := by
  by_cases h : k = j
  · subst h
    rw [if_pos rfl, hv, strC, if_pos (Nat.lt_succ_self _)]
  · rw [if_neg h, hf k h, strC, strC]
    by_cases h2 : k < j
    · rw [if_pos h2, if_pos (by omega)]
    · rw [if_neg h2, if_neg (by omega)]
theorem pushes (ns : List Int) (l : List UInt8) : ns.foldl (fun r n => r.push (UInt8.ofNat n.toNat)) (⟨l.toArray⟩ : ByteArray) = ⟨(l ++ ns.map fun n => UInt8.ofNat n.toNat).toArray⟩ := by
  induction ns generalizing l with
  | nil => simp
  | cons n ns ih =>
    rw [List.foldl_cons]
    have : (⟨l.toArray⟩ : ByteArray).push (UInt8.ofNat n.toNat) = ⟨(l ++ [UInt8.ofNat n.toNat]).toArray⟩ := by simp [ByteArray.push]
    rw [this, ih]
    simp
theorem byteGet (s : List UInt8) (i : Nat) (h : i < s.length) : (⟨s.toArray⟩ : ByteArray).get! i = (⟨s.toArray⟩ : ByteArray)[i]'h := by
  show s.toArray[i]! = s.toArray[i]
  simp [h]
theorem conv_row (s : List UInt8) (n N : Nat) (w : World) (h : w.rowIs N 5 n (strC s n)) :
    (convert 46 9 (.slice (some ⟨N, 0, none⟩) n n)).run Tryz.prog w = .ok (.string ⟨(strF s n).toArray⟩) w := by
  rw [run_convert_bytes_string w 46 9 5 _ _ _ Tryz.und46 (by kernel_rfl) (by kernel_rfl)]
  rw [run_bytesToString w ⟨N, 0, none⟩ n n ((List.range n).map (strI s))]
  · have := pushes ((List.range n).map (strI s)) []
    simp only [List.nil_append, List.map_map] at this
    rw [show ByteArray.empty = ⟨([] : List UInt8).toArray⟩ from rfl, this]
    rfl
  · rw [run_loadCells w ⟨N, 0, none⟩ n (strC s n) (fun j hj => by
    have : (⟨N, 0, none⟩ : Addr).add j = ⟨N, j, none⟩ := by cases j <;> simp [Addr.add]
    rw [this]; exact h.cell hj)]
    congr 1
    apply Array.ext
    · simp
    · intro i h1 h2
      have : i < n := by simpa using h1
      simp [strC, this]
set_option maxRecDepth 100000 in
set_option maxHeartbeats 2000000 in
theorem Stretch_any (s : List UInt8) (n : Nat) (w : World) (hl : s.length ≤ 1000000) (hn : n ≤ 100000) :
    Calls Tryz.prog 26 #[.string ⟨s.toArray⟩, .int .i64 (n : Int)] w fun e w' => e = .returned (.string ⟨(strF s n).toArray⟩) ∧ Ext w w' := by
  have hmk := run_make_row' (P := Tryz.prog) 46 5 (.int .u8 0) 1 Tryz.und46 Tryz.info5 rfl .i64 .i64 n (by omega) (by omega)
  go_enter Tryz.func26, Tryz.ntmps26
  go_wp2_with fail
  go_loopw [6] (fun i wq => ∃ (j : Nat), j ≤ n ∧ i = .int .i64 j ∧ wq.rowIs w.heap.size 5 n (strC s j) ∧ Below w.heap.size w wq) (fun i _ => n - (intOf i).toNat)
  case atStart => exact ⟨0, Nat.zero_le _, rfl, (World.rowIs_made _ _ _ _).congr (fun _ _ => rfl), Ext.alloc _ _⟩
  case round =>
    obtain ⟨j, hj, rfl, hrow, hbq⟩ := hrel
    by_cases hlt : j < n
    · have c1 := hrow.cell hlt
      have c2 := hrow.frozen j
      have i1 : (0 : Int) ≤ (j : Int) := by omega
      have i2 : (j : Int) < (n : Int) := by omega
      by_cases hs : s.length = 0
      · go_wp2_with fail
        refine ⟨⟨j + 1, hlt, by simp, (hrow.set j _).congr (fun k _ => strC_step (s := s) ?_ k (fun _ _ => rfl)), Ext.setCell hbq (Nat.le_refl _) _⟩, by simp only [intOf]; omega⟩
        rw [strI, if_pos hs]
      · have hs1 : 0 < s.length := by omega
        have hs2 : (0 : Int) < (s.length : Int) := by omega
        have hs3 : ¬ (s.length : Int) = 0 := by omega
        have hm1 : j % s.length < s.length := Nat.mod_lt _ hs1
        have hm2 : (0 : Int) ≤ (j : Int) % (s.length : Int) := by omega
        have hm3 : (j : Int) % (s.length : Int) < (s.length : Int) := by omega
        have hm4 : (0 : Int) ≤ (j : Int) / (s.length : Int) := Int.ediv_nonneg (by omega) (by omega)
        have hm5 : (j : Int) / (s.length : Int) ≤ 100000 := Int.le_trans (Int.ediv_le_self _ (by omega)) (by omega)
        have hm6 : wrap64 ((j : Int) / (s.length : Int)) = (j : Int) / (s.length : Int) := by unfold wrap64; omega
        go_wp2_with fail
        obtain ⟨W, hW⟩ : ∃ W, W = wr.setCell ⟨w.heap.size, j, none⟩ (.int .u8 ((j : Int) * 37 % 256)) := ⟨_, rfl⟩
        rw [← hW]
        have hrow2 : W.rowIs w.heap.size 5 n (fun k => if k = j then .int .u8 ((j : Int) * 37 % 256) else strC s j k) := by rw [hW]; exact hrow.set j _
        have d1 := hrow2.cell hlt
        simp only [if_true] at d1
        have d2 := hrow2.frozen j
        have hb2 : Below w.heap.size w W := by rw [hW]; exact Ext.setCell hbq (Nat.le_refl _) _
        clear c1 c2 hrow hW
        go_region
        have hv : Value.int .u8 ((((⟨s.toArray⟩ : ByteArray)[j % s.length]'hm1).toNat + (j : Int) / (s.length : Int)) % 256) = .int .u8 (strI s j) := by
          rw [strI, if_neg hs]
          congr 4
          exact congrArg UInt8.toNat (byteGet s _ hm1).symm
        obtain ⟨W3, hW3⟩ : ∃ W3, W3 = (W.setCell ⟨w.heap.size, j, none⟩ (.int .u8 ((((⟨s.toArray⟩ : ByteArray)[j % s.length]'hm1).toNat + (j : Int) / (s.length : Int)) % 256))).drew := ⟨_, rfl⟩
        rw [← hW3]
        have hrow3 : W3.rowIs w.heap.size 5 n (strC s (j + 1)) := by
          rw [hW3]
          exact ((hrow2.set j _).congr (fun k _ => strC_step (f := fun k => if k = j then .int .u8 ((j : Int) * 37 % 256) else strC s j k) hv k (fun k h => if_neg h))).drew
        have hb3 : Below w.heap.size w W3 := by
          rw [hW3]
          exact Ext.drewed (Ext.setCell hb2 (Nat.le_refl _) _)
        clear hW3
        go_wp2_with fail
        exact ⟨⟨j + 1, hlt, by simp, hrow3, hb3⟩, by simp only [intOf]; omega⟩
    · have hjn : j = n := by omega
      subst hjn
      have hcv := conv_row s j w.heap.size wr hrow
      go_wp2_with fail
      exact bodyPost_ret (v := .string ⟨(strF s j).toArray⟩) (by simp [results, Tryz.f26, go_sem]) rfl ⟨rfl, hbq⟩
end Go.Proofs.YtikmoledbiepoaaGreatDoor

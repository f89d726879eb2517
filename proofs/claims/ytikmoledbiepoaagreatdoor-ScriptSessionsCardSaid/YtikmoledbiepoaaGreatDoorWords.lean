/- The words of a call: their lengths, and what is read back step by step. -/
import Derived.Test.YtikmoledbiepoaaGreatDoorLook
import Derived.Lib.ItoaLen
import Derived.Lib.Join
namespace Go.Proofs.YtikmoledbiepoaaGreatDoor
open Go.RowKit
theorem getI_other {c : Cal} {k : Nat} (h : isI k = false) : c.getI k = 0 := by
  unfold Cal.getI
  split <;> first | rfl | (exfalso; revert h; decide)
theorem getS_other {c : Cal} {k : Nat} (h : isS k = false) : c.getS k = [] := by
  unfold Cal.getS
  split <;> first | rfl | (exfalso; revert h; decide)
theorem wr_len {c : Cal} (hf : CalFit c) (f : Fld) : (wr f c).1.length ≤ 4294967296 := by
  unfold wr
  by_cases h0 : f.tag = 0
  · rw [if_pos h0]
    show (Lib.itoa (c.getI f.off)).length ≤ _
    have : (Lib.itoa (c.getI f.off)).length ≤ 21 := by
      cases hi : isI f.off with
      | true => exact Lib.itoa_length_le _ (hf.ints _ hi).1 (hf.ints _ hi).2
      | false => rw [getI_other hi]; exact Lib.itoa_length_le 0 (by decide) (by decide)
    omega
  · rw [if_neg h0]
    by_cases h1 : f.tag = 1
    · rw [if_pos h1]
      show (hexB (c.getS f.off)).length ≤ _
      cases hi : isS f.off with
      | true =>
        have := hf.strs _ hi
        unfold hexB
        split
        · decide
        · rw [hexAll_length]; omega
      | false => rw [getS_other hi]; decide
    · rw [if_neg h1]
      split
      · show wUni.length ≤ _; decide
      · show wBidi.length ≤ _; decide
theorem form_len (k : Nat) : (formOf k).2.length ≤ 10 ∧ (formOf k).1.length ≤ 100 := by
  have h : ∀ a : Fin 14, (formOf a.1).2.length ≤ 10 ∧ (formOf a.1).1.length ≤ 100 := by decide
  by_cases hk : k < 14
  · exact h ⟨k, hk⟩
  · have : formOf k = ([], []) := by
      unfold formOf
      split <;> first | omega | rfl
    rw [this]; decide
theorem joinTail_len (r : List (List UInt8)) (M : Nat) (h : ∀ s, s ∈ r → s.length ≤ M) : (Lib.joinTail [32] r).length ≤ r.length * (M + 1) := by
  induction r with
  | nil => simp [Lib.joinTail]
  | cons x r ih =>
    have h1 := ih fun s hs => h s (by simp [hs])
    have h2 := h x (by simp)
    have : (Lib.joinTail [32] (x :: r)).length = x.length + 1 + (Lib.joinTail [32] r).length := by simp [Lib.joinTail]; omega
    rw [this, List.length_cons, Nat.add_mul]
    omega
theorem words_fit {c : Cal} (hf : CalFit c) (k : Nat) : WsFit ((formOf k).2.map fun f => (wr f c).1) := by
  refine ⟨by have := (form_len k).1; simp; omega, ?_⟩
  intro s hs
  obtain ⟨f, _, rfl⟩ := List.mem_map.1 hs
  exact wr_len hf f
theorem WsFit.drop {ws : List (List UInt8)} (h : WsFit ws) (j : Nat) : WsFit (ws.drop j) :=
  ⟨by have := h.1; simp; omega, fun s hs => h.2 s (List.mem_of_mem_drop hs)⟩
theorem line_len {c : Cal} (hf : CalFit c) (k : Nat) : (Lib.join ((formOf k).1 :: (formOf k).2.map fun f => (wr f c).1) [32]).length ≤ 140737488355328 := by
  rw [Lib.join_cons, List.length_append]
  have h1 := (form_len k).2
  have h2 := joinTail_len _ _ (words_fit hf k).2
  have h3 := (form_len k).1
  rw [List.length_map] at h2
  have h4 := Nat.mul_le_mul_right (4294967296 + 1) h3
  omega
theorem copyAll_snoc {fs : List Fld} {j : Nat} {f : Fld} (h : fs[j]? = some f) (c c0 : Cal) : copyAll (fs.take (j + 1)) c c0 = copyF f c (copyAll (fs.take j) c c0) := by
  unfold copyAll
  rw [List.take_add_one, h]
  simp
theorem all_snoc {fs : List Fld} {j : Nat} {f : Fld} (h : fs[j]? = some f) (p : Fld → Bool) : (fs.take (j + 1)).all p = ((fs.take j).all p && p f) := by
  rw [List.take_add_one, h]
  simp
theorem map_snoc {α : Type} {fs : List Fld} {j : Nat} {f : Fld} (h : fs[j]? = some f) (p : Fld → α) : (fs.take (j + 1)).map p = (fs.take j).map p ++ [p f] := by
  rw [List.take_add_one, h]
  simp
end Go.Proofs.YtikmoledbiepoaaGreatDoor

/- A text split at one byte, in plain terms. -/
import Derived.Lib.SplitLaws
import Derived.Lib.Join
namespace Go.Proofs.YtikmoledbiepoaaGreatDoor
/-- The pieces of a text between the bytes c. -/
def spl (c : UInt8) : List UInt8 → List (List UInt8)
  | [] => [[]]
  | b :: r => if b = c then [] :: spl c r else match spl c r with
    | [] => [[b]]
    | x :: xs => (b :: x) :: xs
theorem spl_ne (c : UInt8) (s : List UInt8) : spl c s ≠ [] := by
  cases s with
  | nil => simp [spl]
  | cons b r =>
    unfold spl
    split
    · simp
    · split <;> simp
theorem splitK_spl (c : UInt8) : ∀ s : List UInt8, Lib.splitK [c] 0 (Lib.count s [c]) s = spl c s
  | [] => by rw [Lib.count_miss (by simp [Lib.index])]; rfl
  | b :: r => by
    have ih := splitK_spl c r
    by_cases h : b = c
    · subst h
      have hix : Lib.index (b :: r) [b] = ((0 : Nat) : Int) := by rw [Lib.index]; simp [List.isPrefixOf]
      rw [Lib.count_cons_eq, Nat.add_comm 1, Lib.splitK, hix]
      simp [spl, ih]
    · have hp : ([c] : List UInt8).isPrefixOf (b :: r) = false := by simp [List.isPrefixOf, Ne.symm h]
      have hix : Lib.index (b :: r) [c] = if Lib.index r [c] == -1 then -1 else Lib.index r [c] + 1 := by rw [Lib.index, hp]; simp
      rw [Lib.count_cons_ne b c r h]
      by_cases hm : Lib.index r [c] = -1
      · rw [Lib.count_miss hm] at ih ⊢
        simp only [Lib.splitK] at ih ⊢
        simp only [spl, if_neg h]
        rw [← ih]
      · have hge := Lib.index_ge r [c]
        obtain ⟨j, hj⟩ : ∃ j : Nat, Lib.index r [c] = j := ⟨(Lib.index r [c]).toNat, by omega⟩
        have hix' : Lib.index (b :: r) [c] = ((j + 1 : Nat) : Int) := by rw [hix, if_neg (fun e => hm (beq_iff_eq.1 e)), hj]; omega
        rw [Lib.count_hit (by simp) hj, Nat.add_comm 1] at ih ⊢
        rw [Lib.splitK, hj, if_neg (by simp)] at ih
        rw [Lib.splitK, hix', if_neg (by simp; omega)]
        simp only [spl, if_neg h]
        rw [← ih]
        simp
theorem spl_none {c : UInt8} : ∀ {x : List UInt8}, c ∉ x → spl c x = [x]
  | [], _ => rfl
  | b :: r, h => by
    have hb : b ≠ c := fun e => h (by simp [e])
    have := spl_none (c := c) (x := r) (fun e => h (by simp [e]))
    simp only [spl, if_neg hb, this]
theorem spl_cut {c : UInt8} (r : List UInt8) : ∀ {x : List UInt8}, c ∉ x → spl c (x ++ c :: r) = x :: spl c r
  | [], _ => by simp [spl]
  | b :: t, h => by
    have hb : b ≠ c := fun e => h (by simp [e])
    have := spl_cut (c := c) r (x := t) (fun e => h (by simp [e]))
    simp only [List.cons_append, spl, if_neg hb, this]
theorem spl_join {c : UInt8} : ∀ (x : List UInt8) (ws : List (List UInt8)), (∀ s ∈ x :: ws, c ∉ s) → spl c (Lib.join (x :: ws) [c]) = x :: ws
  | x, [], h => by rw [Lib.join_one]; exact spl_none (h x (by simp))
  | x, y :: r, h => by
    have e : Lib.join (x :: y :: r) [c] = x ++ c :: Lib.join (y :: r) [c] := by
      rw [Lib.join_cons, Lib.join_cons]; simp [Lib.joinTail]
    rw [e, spl_cut _ (h x (by simp)), spl_join y r fun s hs => h s (by simp at hs ⊢; exact .inr hs)]
/-- No piece is longer than the text; there are no more of them than its bytes and one. -/
theorem spl_len (c : UInt8) : ∀ s : List UInt8, (spl c s).length ≤ s.length + 1 ∧ ∀ x ∈ spl c s, x.length ≤ s.length
  | [] => by simp [spl]
  | b :: r => by
    obtain ⟨h1, h2⟩ := spl_len c r
    unfold spl
    split
    · refine ⟨by simp; omega, fun x hx => ?_⟩
      rcases List.mem_cons.1 hx with rfl | hx
      · simp
      · have := h2 x hx; simp; omega
    · split
      · exact ⟨by simp, by simp⟩
      · rename_i y ys he
        rw [he] at h1 h2
        refine ⟨by simp at h1 ⊢; omega, fun x hx => ?_⟩
        rcases List.mem_cons.1 hx with rfl | hx
        · have := h2 y (by simp); simp; omega
        · have := h2 x (by simp [hx]); simp; omega
/-- The text is its pieces, joined. -/
theorem join_spl (c : UInt8) : ∀ s : List UInt8, Lib.join (spl c s) [c] = s
  | [] => by simp [spl, Lib.join_one]
  | b :: r => by
    have ih := join_spl c r
    unfold spl
    split
    · rename_i h
      subst h
      cases hs : spl b r with
      | nil => exact absurd hs (spl_ne _ _)
      | cons x xs =>
        rw [hs] at ih
        rw [Lib.join_cons] at ih ⊢
        simp [Lib.joinTail] at ih ⊢
        exact ih
    · cases hs : spl c r with
      | nil => exact absurd hs (spl_ne _ _)
      | cons x xs =>
        rw [hs] at ih
        rw [Lib.join_cons] at ih ⊢
        simp at ih ⊢
        exact ih
theorem spl_mem (c : UInt8) : ∀ s : List UInt8, ∀ x ∈ spl c s, c ∉ x
  | [] => by simp [spl]
  | b :: r => by
    have ih := spl_mem c r
    unfold spl
    split
    · intro x hx
      rcases List.mem_cons.1 hx with rfl | hx
      · simp
      · exact ih x hx
    · rename_i hb
      split
      · simp; exact fun e => hb e.symm
      · rename_i y ys he
        rw [he] at ih
        intro x hx
        rcases List.mem_cons.1 hx with rfl | hx
        · have := ih y (by simp)
          simp only [List.mem_cons, not_or]
          exact ⟨fun e => hb e.symm, this⟩
        · exact ih x (by simp [hx])
end Go.Proofs.YtikmoledbiepoaaGreatDoor

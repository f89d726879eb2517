/- The plain laws of scripts: what is printed is read back, what is read is printed. -/
import Derived.Test.YtikmoledbiepoaaGreatDoorRsame
import Derived.Test.YtikmoledbiepoaaGreatDoorSane
namespace Go.Proofs.YtikmoledbiepoaaGreatDoor
open Go.RowKit
theorem join_noNl {x : List UInt8} {ws : List (List UInt8)} (h : ∀ s ∈ x :: ws, (10 : UInt8) ∉ s) : (10 : UInt8) ∉ Lib.join (x :: ws) [32] := by
  rw [Lib.join_cons]
  intro hm
  rcases List.mem_append.1 hm with hm | hm
  · exact h x (by simp) hm
  · unfold Lib.joinTail at hm
    obtain ⟨l, hl, hb⟩ := List.mem_flatten.1 hm
    obtain ⟨s, hs, rfl⟩ := List.mem_map.1 hl
    rcases List.mem_append.1 hb with hb | hb
    · revert hb; decide
    · exact h s (by simp [hs]) hb
theorem fateW_noNl (l : List Int) : (10 : UInt8) ∉ fateW l := by
  intro hm
  obtain ⟨x, _, hx⟩ := List.mem_flatMap.1 hm
  rcases List.mem_cons.1 hx with hx | hx
  · revert hx; decide
  · exact (plain_itoa x).no.2 hx
/-- No line's end within a line. -/
theorem line_noNl (a : Ac) (h : a.line.2 = true) : (10 : UInt8) ∉ a.line.1 := by
  unfold Ac.line at h ⊢
  by_cases hk : a.kind = 1 ∧ inR a.side 1 = false
  · rw [if_pos hk] at h; cases h
  rw [if_neg hk] at h ⊢
  simp only [Bool.and_eq_true] at h
  obtain ⟨hok, _⟩ := h
  unfold Ac.ok at hok
  show (10 : UInt8) ∉ a.text
  unfold Ac.text
  have hi := fun n => (plain_itoa n).no.2
  split
  · rename_i h1
    rw [if_pos h1] at hok
    obtain ⟨k, hk14, hl, _⟩ := call_back a.call hok
    rw [hl]
    intro hm
    rcases List.mem_append.1 hm with hm | hm
    · rcases List.mem_append.1 hm with hm | hm
      · revert hm; decide
      · unfold sideW at hm; split at hm <;> (revert hm; decide)
    · refine join_noNl ?_ hm
      intro s hs
      rcases List.mem_cons.1 hs with rfl | hs
      · exact (plain_form k hk14).no.2
      · obtain ⟨f, _, rfl⟩ := List.mem_map.1 hs
        exact (plain_wr f a.call).no.2
  · split
    · intro hm
      rcases List.mem_append.1 hm with hm | hm
      · revert hm; decide
      · exact hi _ hm
    · split
      · intro hm
        rcases List.mem_append.1 hm with hm | hm
        · revert hm; decide
        · exact fateW_noNl _ hm
      · split
        · simp only [List.mem_append, not_or]
          exact ⟨⟨⟨⟨⟨by decide, hi _⟩, by decide⟩, hi _⟩, by decide⟩, (plain_hexB _).no.2⟩
        · simp
/-- A script each of whose actions has a line. -/
def okL (l : List Ac) : Bool := l.all fun a => a.line.2
theorem okL_cons (a : Ac) (l : List Ac) : okL (a :: l) = true ↔ a.line.2 = true ∧ okL l = true := by simp [okL]
theorem spl_lines : ∀ (l : List Ac) (r : List UInt8), okL l = true → spl 10 (linesOf l ++ r) = l.map (·.line.1) ++ spl 10 r
  | [], r, _ => rfl
  | a :: l, r, h => by
    rw [okL_cons] at h
    have e : linesOf (a :: l) ++ r = a.line.1 ++ 10 :: (linesOf l ++ r) := by simp [linesOf]
    rw [e, spl_cut _ (line_noNl a h.1), spl_lines l r h.2]
    rfl
theorem goLines_cons (i : Nat) (a : Ac) (h : a.line.2 = true) (r : List (List UInt8)) : goLines i (a.line.1 :: r) = if 100 ≤ i then .error i else exMap (a :: ·) (goLines (i + 1) r) := by
  simp only [goLines, parse_line a h]
theorem goLines_ok : ∀ (l : List Ac) (i : Nat) (r : List (List UInt8)), okL l = true → i + l.length ≤ 100 → goLines i (l.map (·.line.1) ++ r) = exMap (l ++ ·) (goLines (i + l.length) r)
  | [], i, r, _, _ => by
    simp only [List.map_nil, List.nil_append, List.length_nil, Nat.add_zero]
    cases goLines i r <;> rfl
  | a :: l, i, r, h, hl => by
    rw [okL_cons] at h
    simp only [List.length_cons] at hl
    rw [List.map_cons, List.cons_append, goLines_cons i a h.1, if_neg (by omega), goLines_ok l (i + 1) r h.2 (by omega), exMap_exMap, List.length_cons, show i + 1 + l.length = i + (l.length + 1) by omega]
    rfl
theorem goLines_many : ∀ (l : List Ac) (i : Nat), okL l = true → i ≤ 100 → 100 < i + l.length → goLines i (l.map (·.line.1)) = .error 100
  | [], i, _, h1, h2 => by simp at h2; omega
  | a :: l, i, h, h1, h2 => by
    rw [okL_cons] at h
    simp only [List.length_cons] at h2
    rw [List.map_cons, goLines_cons i a h.1]
    split
    · rw [show i = 100 by omega]
    · rw [goLines_many l (i + 1) h.2 (by omega) (by omega)]
      rfl
theorem ParseR_cat (l : List Ac) (r : List UInt8) (h : okL l = true) (hl : l.length ≤ 100) : ParseR (linesOf l ++ r) = match goLines l.length (spl 10 r).dropLast with
    | .error k => .error k
    | .ok m => if (spl 10 r).getLast? = some [] then .ok (l ++ m) else .error (l.length + ((spl 10 r).length - 1)) := by
  have hne := spl_ne 10 r
  have hpos : 0 < (spl 10 r).length := List.length_pos_iff.2 hne
  have hgl : (l.map (·.line.1) ++ spl 10 r).getLast? = (spl 10 r).getLast? := by rw [List.getLast?_append, List.getLast?_eq_some_getLast hne]; rfl
  unfold ParseR
  rw [spl_lines l r h, List.dropLast_append_of_ne_nil hne, goLines_ok l 0 _ h (by omega), Nat.zero_add, hgl, List.length_append, List.length_map]
  cases goLines l.length (spl 10 r).dropLast with
  | error k => rfl
  | ok m =>
    show (if _ then _ else _) = _
    rw [show l.length + (spl 10 r).length - 1 = l.length + ((spl 10 r).length - 1) by omega]
/-- What was printed is read. -/
theorem ParseR_lines (l : List Ac) (h : okL l = true) (hl : l.length ≤ 100) : ParseR (linesOf l) = .ok l := by
  have := ParseR_cat l [] h hl
  rw [List.append_nil] at this
  rw [this]
  simp [spl, goLines]
theorem ParseR_many (l : List Ac) (h : okL l = true) (hl : 100 < l.length) : ParseR (linesOf l) = .error 100 := by
  have e := spl_lines l [] h
  rw [List.append_nil] at e
  unfold ParseR
  rw [e]
  have : (l.map (·.line.1) ++ spl 10 []).dropLast = l.map (·.line.1) := by simp [spl]
  rw [this, goLines_many l 0 h (by omega) (by omega)]
/-- A wrong line. -/
theorem ParseR_wrong (l : List Ac) (x t : List UInt8) (h : okL l = true) (hl : l.length ≤ 100) (hx : (10 : UInt8) ∉ x) (hp : parseL x = none) : ParseR (linesOf l ++ (x ++ 10 :: t)) = .error l.length := by
  rw [ParseR_cat l _ h hl, spl_cut _ hx]
  have hd : (x :: spl 10 t).dropLast = x :: (spl 10 t).dropLast := by
    cases hs : spl 10 t with
    | nil => exact absurd hs (spl_ne 10 t)
    | cons y ys => rfl
  rw [hd]
  simp only [goLines, hp]
theorem ParseR_unended (l : List Ac) (x : List UInt8) (h : okL l = true) (hl : l.length ≤ 100) (hx : (10 : UInt8) ∉ x) (hn : x ≠ []) : ParseR (linesOf l ++ x) = .error l.length := by
  rw [ParseR_cat l _ h hl, spl_none hx]
  simp [goLines, hn]
theorem printL_ok (l : List Ac) (h : okL l = true) (hl : l.length ≤ 100) : printL l = (linesOf l, 0) := by
  unfold printL
  exact if_pos ⟨hl, h⟩
theorem linesOf_inj {l m : List Ac} (h1 : okL l = true) (h2 : okL m = true) (hl : l.length ≤ 100) (hm : m.length ≤ 100) (e : linesOf l = linesOf m) : l = m := by
  have a := ParseR_lines l h1 hl
  rw [e, ParseR_lines m h2 hm] at a
  cases a
  rfl
theorem sameL_iff : ∀ l m : List Ac, sameL l m = true ↔ l = m
  | [], [] => by simp [sameL]
  | [], b :: m => by simp [sameL]
  | a :: l, [] => by simp [sameL]
  | a :: l, b :: m => by
    have := sameL_iff l m
    simp only [sameL, Bool.and_eq_true, decide_eq_true_eq, List.zip_cons_cons, List.all_cons, List.length_cons, Ac.eqb_iff, List.cons.injEq] at this ⊢
    rw [← this]
    constructor
    · rintro ⟨h1, h2, h3⟩
      exact ⟨h2, by omega, h3⟩
    · rintro ⟨h1, h2, h3⟩
      exact ⟨by omega, h1, h3⟩
theorem linesOf_append (l m : List Ac) : linesOf (l ++ m) = linesOf l ++ linesOf m := by simp [linesOf]
theorem goLines_inv : ∀ (ls : List (List UInt8)) (i : Nat) (l : List Ac), goLines i ls = .ok l → l.map (·.line.1) = ls ∧ okL l = true ∧ (l = [] ∨ i + l.length ≤ 100)
  | [], i, l, h => by
    cases h
    exact ⟨rfl, rfl, .inl rfl⟩
  | x :: r, i, l, h => by
    cases hp : parseL x with
    | none => simp [goLines, hp] at h
    | some a =>
      simp only [goLines, hp] at h
      split at h
      · cases h
      · rename_i hi
        cases hg : goLines (i + 1) r with
        | error k => rw [hg] at h; cases h
        | ok m =>
          rw [hg] at h
          have hl : a :: m = l := by cases h; rfl
          subst hl
          obtain ⟨h1, h2, h3⟩ := goLines_inv r (i + 1) m hg
          have ha := parse_some hp
          refine ⟨?_, ?_, .inr ?_⟩
          · rw [List.map_cons, h1, ha]
          · rw [okL_cons, ha]; exact ⟨rfl, h2⟩
          · rw [List.length_cons]
            rcases h3 with rfl | h3
            · simp; omega
            · omega
theorem join_lines : ∀ l : List Ac, Lib.join (l.map (·.line.1) ++ [[]]) [10] = linesOf l
  | [] => by simp [linesOf, Lib.join_one]
  | a :: l => by
    have ih := join_lines l
    have : ∃ y ys, l.map (·.line.1) ++ [[]] = y :: ys := by cases l <;> exact ⟨_, _, rfl⟩
    obtain ⟨y, ys, e⟩ := this
    rw [List.map_cons, List.cons_append, e, Lib.join_cons]
    rw [e, Lib.join_cons] at ih
    have e2 : linesOf (a :: l) = a.line.1 ++ 10 :: linesOf l := by simp [linesOf]
    rw [e2, ← ih]
    simp [Lib.joinTail]
/-- What is read is what is printed. -/
theorem ParseR_inv {u : List UInt8} {l : List Ac} (h : ParseR u = .ok l) : okL l = true ∧ l.length ≤ 100 ∧ linesOf l = u := by
  unfold ParseR at h
  cases hg : goLines 0 (spl 10 u).dropLast with
  | error k => rw [hg] at h; cases h
  | ok m =>
    rw [hg] at h
    simp only at h
    split at h
    · rename_i hlast
      have hm : m = l := by cases h; rfl
      subst hm
      obtain ⟨h1, h2, h3⟩ := goLines_inv _ _ _ hg
      refine ⟨h2, ?_, ?_⟩
      · rcases h3 with rfl | h3
        · simp
        · omega
      · rw [← join_lines, h1]
        have : (spl 10 u).dropLast ++ [[]] = spl 10 u := by
          have e := List.dropLast_concat_getLast (spl_ne 10 u)
          have e2 : (spl 10 u).getLast (spl_ne 10 u) = [] := by
            rw [List.getLast?_eq_some_getLast (spl_ne 10 u)] at hlast
            exact Option.some.inj hlast
          rw [e2] at e
          exact e
        rw [this, join_spl]
    · cases h
theorem ParseR_print {u : List UInt8} {l : List Ac} (h : ParseR u = .ok l) : printL l = (u, 0) := by
  obtain ⟨h1, h2, h3⟩ := ParseR_inv h
  rw [printL_ok l h1 h2, h3]
end Go.Proofs.YtikmoledbiepoaaGreatDoor
/- How long a line is, tightly; one action alone. -/
namespace Go.Proofs.YtikmoledbiepoaaGreatDoor
open Go.RowKit
theorem wr_short {c : Cal} (hf : CalFit c) {M : Nat} (hs : ∀ k, isS k = true → (c.getS k).length ≤ M) (f : Fld) : (wr f c).1.length ≤ 2 * M + 21 := by
  unfold wr
  by_cases h0 : f.tag = 0
  · rw [if_pos h0]
    show (Lib.itoa (c.getI f.off)).length ≤ _
    have : (Lib.itoa (c.getI f.off)).length ≤ 21 := by
      cases hi : isI f.off with
      | true => exact Lib.itoa_length_le _ (hf.ints _ hi).1 (hf.ints _ hi).2
      | false => rw [getI_other hi]; exact Lib.itoa_length_le 0 (by decide) (by decide)
    omega
  · rw [if_neg h0]
    by_cases h1 : f.tag = 1
    · rw [if_pos h1]
      show (hexB (c.getS f.off)).length ≤ _
      have h2 := hexB_length (c.getS f.off)
      cases hi : isS f.off with
      | true => have := hs _ hi; omega
      | false => rw [getS_other hi] at h2 ⊢; simp at h2; omega
    · rw [if_neg h1]
      split
      · show wUni.length ≤ _; have : wUni.length = 3 := rfl; omega
      · show wBidi.length ≤ _; have : wBidi.length = 4 := rfl; omega
theorem call_short {c : Cal} (hf : CalFit c) {M : Nat} (hs : ∀ k, isS k = true → (c.getS k).length ≤ M) : c.line.1.length ≤ 20 * M + 400 := by
  unfold Cal.line
  split
  · show (Lib.join _ [32]).length ≤ _
    rw [Lib.join_cons, List.length_append]
    have h1 := (form_len c.key.toNat).2
    have h2 := joinTail_len ((formOf c.key.toNat).2.map fun f => (wr f c).1) (2 * M + 21) (fun s hm => by
      obtain ⟨f, _, rfl⟩ := List.mem_map.1 hm
      exact wr_short hf hs f)
    have h3 := (form_len c.key.toNat).1
    rw [List.length_map] at h2
    have h4 := Nat.mul_le_mul_right (2 * M + 21 + 1) h3
    omega
  · simp
/-- How long a line is. -/
theorem line_short {a : Ac} (h : AcFit a) {M : Nat} (hs : ∀ k, isS k = true → (a.call.getS k).length ≤ M) (hd : a.dat.length ≤ M) (hf : a.fates.length ≤ M) : a.line.1.length ≤ 30 * M + 500 := by
  unfold Ac.line
  split
  · simp
  · unfold Ac.text
    have l0 := call_short h.call hs
    have l1 := Lib.itoa_length_le a.n h.n.1 h.n.2
    have l2 := Lib.itoa_length_le a.fr h.fr.1 h.fr.2
    have l3 := Lib.itoa_length_le a.tgt h.tgt.1 h.tgt.2
    have l4 := hexB_length a.dat
    have l6 := fate_len a.fates h.fates
    have l8 : (sideW a.side).length ≤ 7 := by unfold sideW; split <;> decide
    have l9 : wCall.length = 5 := rfl
    have l10 : wTick.length = 5 := rfl
    have l11 : wFates.length = 5 := rfl
    have l12 : wInject.length = 7 := rfl
    simp only
    split
    · simp only [List.length_append]; omega
    · split
      · simp only [List.length_append]; omega
      · split
        · simp only [List.length_append]; omega
        · split
          · simp only [List.length_append, List.length_cons, List.length_nil]; omega
          · simp
theorem linesOf_short {l : List Ac} {M : Nat} (h : ∀ a ∈ l, a.line.1.length ≤ M) : (linesOf l).length ≤ l.length * (M + 1) := by
  induction l with
  | nil => simp [linesOf]
  | cons x r ih =>
    have h1 := ih fun y hy => h y (by simp [hy])
    have h2 := h x (by simp)
    unfold linesOf at h1 ⊢
    rw [List.flatMap_cons, List.length_append, List.length_append, List.length_cons, List.length_cons, List.length_nil, Nat.add_mul]
    omega
/-- A slice of one action. -/
theorem acts_one {w : World} {g : Nat} {A : Ac} {s : Option Addr} {n c : Nat} {T : TypeId} (h : w.heap[g]? = some (.cells (A.cells (.slice s n c)).toArray T)) (hf : FatesAt w (.slice s n c) A.fates) : ActsAt w (.slice (some ⟨g, 0, none⟩) 1 1) [A] := by
  refine ⟨_, 1, rfl, Nat.le_refl _, fun _ => ⟨g, 0, rfl, fun j x hj => ?_⟩⟩
  match j, hj with
  | 0, hj =>
    cases hj
    exact ⟨s, n, c, fun i v hv => by rw [Lib.cell_of_heap h]; simp only [Nat.zero_mul, Nat.zero_add, List.getElem?_toArray]; exact hv, hf⟩
section
variable {ops : Array Oper} {rest : List Oper} {o : Oper} {f : Act} {w : World} {Q : Exit → Act → World → Prop}
theorem wpList_bs35g (hw : Region.wanted o (yielded ops f.tmps) = true) (x : Operand) (ho : o.op = .buildSlice 35 1 #[(0, x)]) (a : Ac) (s : Option Addr) (n c : Nat)
    (hx : f.eval x = .agg (a.cells (.slice s n c)).toArray) (h : ∀ W g, Ext w W → W.heap[g]? = some (.cells (a.cells (.slice s n c)).toArray 33) → wpList Tryz.prog ops Q rest (f.put o.dst (.slice (some ⟨g, 0, none⟩) 1 1)) W) : wpList Tryz.prog ops Q (o :: rest) f w :=
  wpList_step fun K hK => by
    rw [if_pos hw]
    have h2 := hK _ _ (h (w.alloc (.cells (a.cells (.slice s n c)).toArray 33)) w.heap.size (Ext.alloc _ _) (alloc_new _ _))
    unfold Oper.wp execOp
    simp only [ho, List.map_toArray, List.map_cons, List.map_nil, hx, Sem.run_bind, run_bs35]
    exact h2
end
end Go.Proofs.YtikmoledbiepoaaGreatDoor

/- What a field writes is read back; the plain line of a call. -/
import Derived.Test.YtikmoledbiepoaaGreatDoorPlain
import Derived.Lib.Join
namespace Go.Proofs.YtikmoledbiepoaaGreatDoor

theorem dd_lt {u : Nat} (h : u < 10) : Lib.decDigits u = [UInt8.ofNat (48 + u)] := by
  rw [Lib.decDigits]; simp [h]
theorem dd_ge {u : Nat} (h : ¬ u < 10) : Lib.decDigits u = Lib.decDigits (u / 10) ++ [UInt8.ofNat (48 + u % 10)] := by
  rw [Lib.decDigits]; simp [h]
theorem dd_ne (u : Nat) : Lib.decDigits u ≠ [] := by
  by_cases h : u < 10
  · rw [dd_lt h]; simp
  · rw [dd_ge h]; simp
theorem digit_toNat {d : Nat} (h : d < 10) : (UInt8.ofNat (48 + d)).toNat = 48 + d := by
  simp [UInt8.toNat_ofNat']; omega
theorem dd_digits (u : Nat) : ∀ c ∈ Lib.decDigits u, 48 ≤ c.toNat ∧ c.toNat ≤ 57 := by
  induction u using Nat.strongRecOn with
  | ind u ih =>
    intro c hc
    by_cases h : u < 10
    · rw [dd_lt h] at hc; rw [List.mem_singleton.1 hc, digit_toNat h]; omega
    · rw [dd_ge h] at hc
      rcases List.mem_append.1 hc with hc | hc
      · exact ih (u / 10) (by omega) c hc
      · rw [List.mem_singleton.1 hc, digit_toNat (by omega)]; omega
/-- Reading digits on. -/
theorem parse_append : ∀ (l m : List UInt8) (acc : Nat), Lib.parseUint10 acc (l ++ m) = match Lib.parseUint10 acc l with | .ok v => Lib.parseUint10 v m | .syntax => .syntax | .range => .range
  | [], m, acc => rfl
  | c :: r, m, acc => by
    simp only [List.cons_append, Lib.parseUint10]
    split
    · split
      · rfl
      · split
        · rfl
        · exact parse_append r m _
    · rfl
theorem parse_dd (u : Nat) (h : u < 9223372036854775808) : Lib.parseUint10 0 (Lib.decDigits u) = .ok u := by
  induction u using Nat.strongRecOn with
  | ind u ih =>
    by_cases h10 : u < 10
    · rw [dd_lt h10]
      simp only [Lib.parseUint10, digit_toNat h10]
      rw [if_pos (by omega), if_neg (by omega), if_neg (by omega)]
      congr 1; omega
    · rw [dd_ge h10, parse_append, ih (u / 10) (by omega) (by omega)]
      have hd : u % 10 < 10 := by omega
      simp only [Lib.parseUint10, digit_toNat hd]
      rw [if_pos (by omega), if_neg (by omega), if_neg (by omega)]
      congr 1; omega
theorem numOf_itoa {v : Int} (h0 : 0 ≤ v) (h1 : v < 9223372036854775808) : numOf (Lib.itoa v) = some v := by
  have hi : Lib.itoa v = Lib.decDigits v.toNat := by unfold Lib.itoa; rw [if_neg (by omega)]
  have hp := parse_dd v.toNat (by omega)
  have hne := dd_ne v.toNat
  have hdg := dd_digits v.toNat
  unfold numOf
  rw [hi]
  cases hl : Lib.decDigits v.toNat with
  | nil => exact absurd hl hne
  | cons c r =>
    rw [hl] at hp hdg
    have hc := hdg c (by simp)
    have : Lib.atoiAll (c :: r) = .ok v := by
      unfold Lib.atoiAll
      simp only
      rw [if_neg (by omega)]
      unfold Lib.parseMag
      rw [if_neg (by simp), hp]
      simp only
      rw [if_neg (by omega), if_neg (by omega), if_neg (by omega)]
      congr 1; omega
    rw [this]
    simp only
    rw [if_neg (by omega)]

theorem hexVal_dig {d : Nat} (h : d < 16) : hexVal (dig d) = some d := by
  have : ∀ m : Fin 16, hexVal (dig m.1) = some m.1 := by decide
  exact this ⟨d, h⟩
theorem pairs_hexAll (s : List UInt8) : pairs (hexAll s) = some s := by
  induction s with
  | nil => rfl
  | cons c r ih =>
    have e : hexAll (c :: r) = dig (c.toNat / 16) :: dig (c.toNat % 16) :: hexAll r := by simp [hexAll]
    have hc := c.toNat_lt
    rw [e, pairs, hexVal_dig (by omega), hexVal_dig (by omega), ih]
    simp only
    have : 16 * (c.toNat / 16) + c.toNat % 16 = c.toNat := by omega
    rw [this]
    simp
theorem txtOf_hexB (s : List UInt8) : txtOf (hexB s) = some s := by
  by_cases h : s = []
  · subst h; rfl
  · have hb : hexB s = hexAll s := by rw [hexB, if_neg h]
    have hne : hexAll s ≠ [45] := by
      intro e
      have := congrArg List.length e
      rw [hexAll_length] at this
      simp at this
      omega
    unfold txtOf
    rw [hb, if_neg hne, pairs_hexAll]
    simp only
    rw [hb, if_pos rfl]

/-- The call c0 with the field f of c. -/
def copyF (f : Fld) (c c0 : Cal) : Cal :=
  if f.tag = 0 then c0.setI f.off (c.getI f.off) else if f.tag = 1 then c0.setS f.off (c.getS f.off) else if c.n = 1 then { c0 with n := 1 } else c0
def copyAll (fs : List Fld) (c c0 : Cal) : Cal := fs.foldl (fun x f => copyF f c x) c0
theorem rd_wr (f : Fld) (c c0 : Cal) (r : List (List UInt8)) (hm : f.most < 9223372036854775808) (hok : (wr f c).2 = true) : rd f ((wr f c).1 :: r) c0 = some (r, copyF f c c0) := by
  unfold wr at hok ⊢
  unfold rd copyF
  by_cases h0 : f.tag = 0
  · simp only [h0, if_true] at hok ⊢
    simp only [Bool.and_eq_true, decide_eq_true_eq] at hok
    rw [numOf_itoa hok.1 (by omega)]
    rfl
  · by_cases h1 : f.tag = 1
    · rw [if_neg h0, if_pos h1] at hok ⊢
      simp only [h1, if_true]
      rw [txtOf_hexB]
      rfl
    · simp only [h0, h1, if_false] at hok ⊢
      by_cases hn : c.n = 1
      · simp only [hn, if_true]; rw [if_neg (by decide)]
      · simp only [hn, if_false]; simp
theorem rdAll_wr (c : Cal) : ∀ (fs : List Fld) (c0 : Cal), (∀ f ∈ fs, f.most < 9223372036854775808 ∧ (wr f c).2 = true) → rdAll fs (fs.map fun f => (wr f c).1) c0 = some ([], copyAll fs c c0)
  | [], c0, _ => rfl
  | f :: fs, c0, h => by
    have h1 := h f (by simp)
    simp only [List.map_cons, rdAll, rd_wr f c c0 _ h1.1 h1.2]
    exact rdAll_wr c fs (copyF f c c0) fun g hg => h g (by simp [hg])
theorem form_most (k : Nat) : ∀ f ∈ (formOf k).2, f.most < 9223372036854775808 := by
  have h : ∀ a : Fin 14, ∀ f ∈ (formOf a.1).2, f.most < 9223372036854775808 := by decide
  by_cases hk : k < 14
  · exact h ⟨k, hk⟩
  · intro f hf
    have : (formOf k).2 = [] := by
      unfold formOf
      split <;> first | omega | rfl
    rw [this] at hf; cases hf

/-- params.Valid. -/
def Cal.parOk (c : Cal) : Bool :=
  decide (0 ≤ c.p0 ∧ c.p0 ≤ 1073741824) && decide (0 ≤ c.p1 ∧ c.p1 ≤ 1073741824) && decide (0 ≤ c.p2 ∧ c.p2 ≤ 64) && decide (0 ≤ c.p3 ∧ c.p3 ≤ 64) && decide (0 ≤ c.p4 ∧ c.p4 ≤ 20) && decide (50 ≤ c.p5 ∧ c.p5 ≤ 100000)
/-- script.session. -/
def Cal.sessOk (c : Cal) : Bool := c.noSess || (decide (1 ≤ c.tick.length) && decide (c.tick.length ≤ 200) && (c.sec.length == 16) && c.parOk)
/-- The key of the form of a call. -/
def Cal.key (c : Cal) : Int := if c.kind = 1 ∧ c.noSess = false then 0 else c.kind
/-- Has the call a line: its form is there, and all its fields are valid? -/
def Cal.lineOk (c : Cal) : Bool := decide (0 ≤ c.key ∧ c.key < 14) && !(c.kind == 0) && c.sessOk && (formOf c.key.toNat).2.all fun f => (wr f c).2
/-- callLine. -/
def Cal.line (c : Cal) : List UInt8 × Bool :=
  if c.lineOk = true then (Lib.join ((formOf c.key.toNat).1 :: (formOf c.key.toNat).2.map fun f => (wr f c).1) [32], (copyAll (formOf c.key.toNat).2 c (Cal.ofKind c.kind)).eqb c)
  else ([], false)
end Go.Proofs.YtikmoledbiepoaaGreatDoor

/- Reading a line, in plain terms; what was written is read back. -/
import Derived.Test.YtikmoledbiepoaaGreatDoorTake
import Derived.Test.YtikmoledbiepoaaGreatDoorPlain
namespace Go.Proofs.YtikmoledbiepoaaGreatDoor
open Go.RowKit
def kCall : List UInt8 := [99, 97, 108, 108]
def kTick : List UInt8 := [116, 105, 99, 107]
def kInject : List UInt8 := [105, 110, 106, 101, 99, 116]
def kClient : List UInt8 := [99, 108, 105, 101, 110, 116]
def kServer : List UInt8 := [115, 101, 114, 118, 101, 114]
def numAll : List (List UInt8) → Option (List Int)
  | [] => some []
  | s :: r => match numOf s with
    | none => none
    | some v => match numAll r with
      | none => none
      | some l => some (v :: l)
/-- reader.fates. -/
def rdFates (ws : List (List UInt8)) : Option Ac := (numAll ws).map fun l => { Ac.none 3 with fates := l }
def sideOf (s : List UInt8) : Option Int := if s = kClient then some 0 else if s = kServer then some 1 else none
def keyOf (s : List UInt8) : Option Nat := (List.range 14).find? fun k => (formOf k).1 == s
/-- reader.call. -/
def rdCall (ws : List (List UInt8)) : Option Ac :=
  match ws with
  | [] => none
  | s :: r => match sideOf s with
    | none => none
    | some sd => match r with
      | [] => none
      | x :: r2 => match keyOf x with
        | none => none
        | some k => (rdAll (formOf k).2 r2 (Cal.ofKind (max (k : Int) 1))).map fun y => { Ac.none 1 with side := sd, call := y.2 }
def rdLine (ws : List (List UInt8)) : Option Ac :=
  match ws with
  | [] => none
  | s :: r => if s = kCall then rdCall r else if s = kTick then rdTick r else if s = wFates then rdFates r else if s = kInject then rdInject r else none
theorem rdLine_cons (s : List UInt8) (r : List (List UInt8)) : rdLine (s :: r) = if s = kCall then rdCall r else if s = kTick then rdTick r else if s = wFates then rdFates r else if s = kInject then rdInject r else none := rfl
/-- script.parse. -/
def parseL (s : List UInt8) : Option Ac :=
  match rdLine (spl 32 s) with
  | none => none
  | some a => if a.line.1 = s ∧ a.line.2 = true then some a else none

theorem Ac.eqb_iff (a b : Ac) : a.eqb b = true ↔ a = b := by
  cases a; cases b
  simp [Ac.eqb, Ac.inj, Cal.eqb_iff, and_assoc]
/-- Bytes above the blank alone. -/
def plainB (l : List UInt8) : Prop := ∀ b ∈ l, 33 ≤ b.toNat
theorem plainB.no {l : List UInt8} (h : plainB l) : (32 : UInt8) ∉ l ∧ (10 : UInt8) ∉ l :=
  ⟨fun e => by have := h _ e; revert this; decide, fun e => by have := h _ e; revert this; decide⟩
theorem plain_dd (u : Nat) : plainB (Lib.decDigits u) := fun b hb => by have := dd_digits u b hb; omega
theorem plain_itoa (n : Int) : plainB (Lib.itoa n) := by
  unfold Lib.itoa
  split
  · intro b hb
    rcases List.mem_cons.1 hb with rfl | hb
    · decide
    · exact plain_dd _ b hb
  · exact plain_dd _
theorem plain_dig (n : Nat) : n < 16 → 33 ≤ (dig n).toNat := by
  have : ∀ m : Fin 16, 33 ≤ (dig m.1).toNat := by decide
  exact fun h => this ⟨n, h⟩
theorem plain_hexB (s : List UInt8) : plainB (hexB s) := by
  unfold hexB
  split
  · intro b hb; rw [List.mem_singleton.1 hb]; decide
  · intro b hb
    unfold hexAll at hb
    obtain ⟨c, _, hc⟩ := List.mem_flatMap.1 hb
    have hlt := c.toNat_lt
    simp only [List.mem_cons, List.not_mem_nil, or_false] at hc
    rcases hc with rfl | rfl
    · exact plain_dig _ (by omega)
    · exact plain_dig _ (by omega)
theorem plain_wr (f : Fld) (c : Cal) : plainB (wr f c).1 := by
  unfold wr
  split
  · exact plain_itoa _
  · split
    · exact plain_hexB _
    · split
      · show plainB wUni; unfold plainB; decide
      · show plainB wBidi; unfold plainB; decide
theorem plain_form (k : Nat) (h : k < 14) : plainB (formOf k).1 := by
  have : ∀ m : Fin 14, ∀ b ∈ (formOf m.1).1, 33 ≤ b.toNat := by decide
  exact this ⟨k, h⟩
theorem keyOf_form (k : Nat) (h : k < 14) : keyOf (formOf k).1 = some k := by
  have : ∀ m : Fin 14, keyOf (formOf m.1).1 = some m.1 := by decide
  exact this ⟨k, h⟩
/-- The words of a call that has a line. -/
theorem call_back (c : Cal) (h : c.line.2 = true) : ∃ k, k < 14 ∧ c.line.1 = Lib.join ((formOf k).1 :: (formOf k).2.map fun f => (wr f c).1) [32] ∧
    rdAll (formOf k).2 ((formOf k).2.map fun f => (wr f c).1) (Cal.ofKind (max (k : Int) 1)) = some ([], c) := by
  unfold Cal.line at h ⊢
  by_cases ho : c.lineOk = true
  · rw [if_pos ho] at h ⊢
    have he : copyAll (formOf c.key.toNat).2 c (Cal.ofKind c.kind) = c := (Cal.eqb_iff _ _).1 h
    unfold Cal.lineOk at ho
    simp only [Bool.and_eq_true, decide_eq_true_eq, Bool.not_eq_true', beq_eq_false_iff_ne, List.all_eq_true] at ho
    obtain ⟨⟨⟨⟨h0, h14⟩, hk⟩, _⟩, hall⟩ := ho
    refine ⟨c.key.toNat, by omega, rfl, ?_⟩
    have hm : max ((c.key.toNat : Nat) : Int) 1 = c.kind := by
      unfold Cal.key at h0 h14 ⊢
      split
      · rename_i hh; rw [hh.1]; rfl
      · rename_i hh
        rw [if_neg hh] at h0
        omega
    rw [hm, rdAll_wr c _ _ (fun f hf => ⟨form_most _ f hf, hall f hf⟩), he]
  · rw [if_neg ho] at h
    cases h
theorem numAll_itoa : ∀ l : List Int, (l.all fun x => inR x 25) = true → numAll (l.map Lib.itoa) = some l
  | [], _ => rfl
  | x :: r, h => by
    simp only [List.all_cons, Bool.and_eq_true] at h
    have hx : 0 ≤ x ∧ x ≤ 25 := by simpa [inR] using h.1
    simp only [List.map_cons, numAll, numOf_itoa hx.1 (by omega), numAll_itoa r h.2]
theorem join_call (x : List UInt8) (a : List UInt8) (y : List UInt8) (ws : List (List UInt8)) : Lib.join (x :: a :: y :: ws) [32] = (x ++ [32]) ++ (a ++ [32]) ++ Lib.join (y :: ws) [32] := by
  rw [Lib.join_cons, Lib.join_cons]
  simp [Lib.joinTail]
theorem join_fates : ∀ l : List Int, Lib.joinTail [32] (l.map Lib.itoa) = fateW l
  | [] => rfl
  | x :: r => by
    have := join_fates r
    unfold Lib.joinTail fateW at this ⊢
    rw [List.map_cons, List.map_cons, List.flatten_cons, this, List.flatMap_cons]
    rfl
/-- What was written is read back. -/
theorem read_back (a : Ac) (h : a.line.2 = true) : rdLine (spl 32 a.line.1) = some a := by
  unfold Ac.line at h ⊢
  by_cases hk : a.kind = 1 ∧ inR a.side 1 = false
  · rw [if_pos hk] at h; cases h
  rw [if_neg hk] at h ⊢
  simp only [Bool.and_eq_true] at h
  obtain ⟨hok, hw⟩ := h
  have hw := (Ac.eqb_iff _ _).1 hw
  unfold Ac.ok at hok
  unfold Ac.want at hw
  show rdLine (spl 32 a.text) = some a
  unfold Ac.text
  by_cases h1 : a.kind = 1
  · rw [if_pos h1] at hok hw ⊢
    have hs : inR a.side 1 = true := by
      cases hh : inR a.side 1 with
      | true => rfl
      | false => exact absurd ⟨h1, hh⟩ hk
    obtain ⟨k, hk14, hl, hr⟩ := call_back a.call hok
    have hside : ∃ sd, sideW a.side = sd ++ [32] ∧ sideOf sd = some a.side ∧ plainB sd := by
      have : a.side = 0 ∨ a.side = 1 := by
        simp [inR] at hs; omega
      rcases this with e | e <;> rw [e]
      · exact ⟨kClient, rfl, rfl, by unfold plainB; decide⟩
      · exact ⟨kServer, rfl, rfl, by unfold plainB; decide⟩
    obtain ⟨sd, e1, e2, e3⟩ := hside
    have e4 : wCall = kCall ++ [32] := rfl
    rw [hl, e1, e4, ← join_call, spl_join]
    · rw [rdLine_cons, if_pos rfl]
      unfold rdCall
      simp only [e2, keyOf_form k hk14, hr, Option.map]
      rw [h1] at hw
      rw [← hw]
    · intro s hs
      simp only [List.mem_cons, List.mem_map] at hs
      rcases hs with rfl | rfl | rfl | ⟨f, _, rfl⟩
      · decide
      · exact e3.no.1
      · exact (plain_form k hk14).no.1
      · exact (plain_wr f a.call).no.1
  rw [if_neg h1] at hok hw ⊢
  by_cases h2 : a.kind = 2
  · rw [if_pos h2] at hok hw ⊢
    have e4 : wTick ++ Lib.itoa a.n = Lib.join [kTick, Lib.itoa a.n] [32] := by rw [Lib.join_cons]; simp [Lib.joinTail, wTick, kTick]
    simp only [Bool.and_eq_true, decide_eq_true_eq] at hok
    rw [e4, spl_join]
    · rw [rdLine_cons, if_neg (by decide)]
      simp only [if_true, rdTick, nextNum, numOf_itoa (show 0 ≤ a.n by omega) (by omega), Option.map]
      rw [h2] at hw
      rw [← hw]
    · intro s hs
      simp only [List.mem_cons, List.not_mem_nil, or_false] at hs
      rcases hs with rfl | rfl
      · decide
      · exact (plain_itoa _).no.1
  rw [if_neg h2] at hok hw ⊢
  by_cases h3 : a.kind = 3
  · rw [if_pos h3] at hok hw ⊢
    simp only [Bool.and_eq_true] at hok
    have e4 : wFates ++ fateW a.fates = Lib.join (wFates :: a.fates.map Lib.itoa) [32] := by rw [Lib.join_cons, join_fates]
    rw [e4, spl_join]
    · rw [rdLine_cons, if_neg (by decide), if_neg (by decide)]
      simp only [if_true, rdFates, numAll_itoa a.fates hok.2, Option.map]
      rw [h3] at hw
      rw [← hw]
    · intro s hs
      simp only [List.mem_cons, List.mem_map] at hs
      rcases hs with rfl | ⟨f, _, rfl⟩
      · decide
      · exact (plain_itoa _).no.1
  rw [if_neg h3] at hok hw ⊢
  by_cases h4 : a.kind = 4
  · rw [if_pos h4] at hok hw ⊢
    simp only [Bool.and_eq_true, decide_eq_true_eq, inR] at hok
    have e4 : wInject ++ Lib.itoa a.fr ++ [32] ++ Lib.itoa a.tgt ++ [32] ++ hexB a.dat = Lib.join [kInject, Lib.itoa a.fr, Lib.itoa a.tgt, hexB a.dat] [32] := by
      rw [Lib.join_cons]; simp [Lib.joinTail, wInject, kInject]
    rw [e4, spl_join]
    · rw [rdLine_cons, if_neg (by decide), if_neg (by decide), if_neg (by decide)]
      simp only [if_true, rdInject, nextNum, nextTxt, numOf_itoa (show 0 ≤ a.fr by omega) (by omega), numOf_itoa (show 0 ≤ a.tgt by omega) (by omega), txtOf_hexB, Option.map]
      rw [h4] at hw
      rw [← hw]
    · intro s hs
      simp only [List.mem_cons, List.not_mem_nil, or_false] at hs
      rcases hs with rfl | rfl | rfl | rfl
      · decide
      · exact (plain_itoa _).no.1
      · exact (plain_itoa _).no.1
      · exact (plain_hexB _).no.1
  rw [if_neg h4] at hok
  cases hok
theorem parse_line (a : Ac) (h : a.line.2 = true) : parseL a.line.1 = some a := by
  unfold parseL
  rw [read_back a h]
  show (if a.line.1 = a.line.1 ∧ a.line.2 = true then some a else none) = some a
  rw [if_pos ⟨rfl, h⟩]
theorem parse_some {s : List UInt8} {a : Ac} (h : parseL s = some a) : a.line = (s, true) := by
  unfold parseL at h
  cases hr : rdLine (spl 32 s) with
  | none => rw [hr] at h; cases h
  | some b =>
    rw [hr] at h
    simp only at h
    split at h
    · rename_i hh
      cases h
      exact Prod.ext hh.1 hh.2
    · cases h
end Go.Proofs.YtikmoledbiepoaaGreatDoor

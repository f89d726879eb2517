/- The plain Lean functions that the walks of package script are held against: a call, an action, the fields of a call, how they are written and read. No program in sight. -/
import Derived.Lib.AtoiAll
import Derived.Lib.ItoaNum
import Derived.Lib.SplitLaws
import Derived.Lib.Join
namespace Go.Proofs.YtikmoledbiepoaaGreatDoor

def dig (n : Nat) : UInt8 := [48, 49, 50, 51, 52, 53, 54, 55, 56, 57, 97, 98, 99, 100, 101, 102].getD n 0
def hexAll (s : List UInt8) : List UInt8 := s.flatMap fun c => [dig (c.toNat / 16), dig (c.toNat % 16)]
def hexB (s : List UInt8) : List UInt8 := if s = [] then [45] else hexAll s
theorem hexAll_length (s : List UInt8) : (hexAll s).length = 2 * s.length := by
  induction s with
  | nil => rfl
  | cons c r ih => simp [hexAll] at ih ⊢; omega
theorem hexAll_snoc (s : List UInt8) (k : Nat) (h : k < s.length) : hexAll (s.take (k + 1)) = hexAll (s.take k) ++ [dig (s[k].toNat / 16), dig (s[k].toNat % 16)] := by
  unfold hexAll; rw [List.take_succ_eq_append_getElem h, List.flatMap_append]; rfl
theorem hexB_length (s : List UInt8) : (hexB s).length ≤ 2 * s.length + 1 := by
  unfold hexB; split
  · simp
  · rw [hexAll_length]; omega

/-- A call: the sixteen cells of api.Call. -/
structure Cal where
  kind : Int
  conn : Int
  stream : Int
  n : Int
  s : List UInt8
  code : Int
  loc : Int
  rem : Int
  tick : List UInt8
  sec : List UInt8
  p0 : Int
  p1 : Int
  p2 : Int
  p3 : Int
  p4 : Int
  p5 : Int

def Cal.zero : Cal := ⟨0, 0, 0, 0, [], 0, 0, 0, [], [], 0, 0, 0, 0, 0, 0⟩
def Cal.ofKind (k : Int) : Cal := ⟨k, 0, 0, 0, [], 0, 0, 0, [], [], 0, 0, 0, 0, 0, 0⟩
def Cal.eqb (a b : Cal) : Bool :=
  a.kind == b.kind && (a.conn == b.conn && (a.stream == b.stream && (a.n == b.n && (a.s == b.s && (a.code == b.code && (a.loc == b.loc && (a.rem == b.rem &&
  (a.tick == b.tick && (a.sec == b.sec && (a.p0 == b.p0 && (a.p1 == b.p1 && (a.p2 == b.p2 && (a.p3 == b.p3 && (a.p4 == b.p4 && a.p5 == b.p5))))))))))))))
theorem Cal.eqb_iff (a b : Cal) : a.eqb b = true ↔ a = b := by
  cases a; cases b; simp [Cal.eqb]
theorem Cal.eqb_self (a : Cal) : a.eqb a = true := (Cal.eqb_iff a a).2 rfl

/-- Is the session empty? -/
def Cal.noSess (c : Cal) : Bool :=
  c.tick == [] && (c.sec == [] && (c.p0 == 0 && (c.p1 == 0 && (c.p2 == 0 && (c.p3 == 0 && (c.p4 == 0 && c.p5 == 0))))))

def Cal.getI (c : Cal) : Nat → Int
  | 0 => c.kind | 1 => c.conn | 2 => c.stream | 3 => c.n | 5 => c.code | 6 => c.loc | 7 => c.rem
  | 10 => c.p0 | 11 => c.p1 | 12 => c.p2 | 13 => c.p3 | 14 => c.p4 | 15 => c.p5 | _ => 0
def Cal.setI (c : Cal) (k : Nat) (v : Int) : Cal :=
  match k with
  | 0 => { c with kind := v } | 1 => { c with conn := v } | 2 => { c with stream := v } | 3 => { c with n := v } | 5 => { c with code := v } | 6 => { c with loc := v } | 7 => { c with rem := v }
  | 10 => { c with p0 := v } | 11 => { c with p1 := v } | 12 => { c with p2 := v } | 13 => { c with p3 := v } | 14 => { c with p4 := v } | 15 => { c with p5 := v } | _ => c
def Cal.getS (c : Cal) : Nat → List UInt8
  | 4 => c.s | 8 => c.tick | 9 => c.sec | _ => []
def Cal.setS (c : Cal) (k : Nat) (v : List UInt8) : Cal :=
  match k with
  | 4 => { c with s := v } | 8 => { c with tick := v } | 9 => { c with sec := v } | _ => c

/-- The field of a call: tag 0: an integer up to 'most' at cell 'off'; tag 1: a byte string of at most 'most' bytes at cell 'off'; tag 2: the direction. -/
structure Fld where
  tag : Nat
  most : Nat
  off : Nat

/-- The words of a line. -/
def wBidi : List UInt8 := [98, 105, 100, 105]
def wUni : List UInt8 := [117, 110, 105]

/-- What a field writes, and whether its value is valid. -/
def wr (f : Fld) (c : Cal) : List UInt8 × Bool :=
  if f.tag = 0 then (Lib.itoa (c.getI f.off), decide (0 ≤ c.getI f.off) && decide (c.getI f.off ≤ (f.most : Int)))
  else if f.tag = 1 then (hexB (c.getS f.off), decide ((c.getS f.off).length ≤ f.most))
  else if c.n = 1 then (wUni, true) else (wBidi, c.n == 0)

/-- reader.number's word. -/
def numOf (w : List UInt8) : Option Int :=
  match Lib.atoiAll w with
  | .ok v => if v < 0 then none else some v
  | _ => none

/-- A hexadecimal digit's value, as strconv.ParseUint reads it (both cases). -/
def hexVal (c : UInt8) : Option Nat :=
  if 48 ≤ c.toNat ∧ c.toNat ≤ 57 then some (c.toNat - 48)
  else if 97 ≤ c.toNat ∧ c.toNat ≤ 102 then some (c.toNat - 87)
  else if 65 ≤ c.toNat ∧ c.toNat ≤ 70 then some (c.toNat - 55)
  else none

/-- The bytes that pairs of digits spell; a last single digit is passed over. -/
def pairs : List UInt8 → Option (List UInt8)
  | a :: b :: r =>
    match hexVal a, hexVal b, pairs r with
    | some x, some y, some l => some (UInt8.ofNat (16 * x + y) :: l)
    | _, _, _ => none
  | _ => some []

/-- reader.text's word. -/
def txtOf (w : List UInt8) : Option (List UInt8) :=
  if w = [45] then some []
  else match pairs w with
    | none => none
    | some l => if hexB l = w then some l else none

/-- What a field reads: none: the panic. -/
def rd (f : Fld) (ws : List (List UInt8)) (c : Cal) : Option (List (List UInt8) × Cal) :=
  match ws with
  | [] => none
  | w :: r =>
    if f.tag = 0 then (numOf w).map fun v => (r, c.setI f.off v)
    else if f.tag = 1 then (txtOf w).map fun v => (r, c.setS f.off v)
    else if w = wBidi then some (r, c) else if w = wUni then some (r, { c with n := 1 }) else none

def rdAll : List Fld → List (List UInt8) → Cal → Option (List (List UInt8) × Cal)
  | [], ws, c => some (ws, c)
  | f :: fs, ws, c =>
    match rd f ws c with
    | none => none
    | some (r, c') => rdAll fs r c'

def fConn : Fld := ⟨0, 1073741823, 1⟩
def fStream : Fld := ⟨0, 1073741823, 2⟩
def fCode : Fld := ⟨0, 1073741823, 5⟩
def fN : Fld := ⟨0, 1073741823, 3⟩
def fLocal : Fld := ⟨0, 65535, 6⟩
def fRemote : Fld := ⟨0, 65535, 7⟩
def fS : Fld := ⟨1, 2000, 4⟩
def fTicket : Fld := ⟨1, 200, 8⟩
def fSecret : Fld := ⟨1, 16, 9⟩
def fPar (k : Nat) : Fld := ⟨0, 4611686018427387903, 10 + k⟩
def fDir : Fld := ⟨2, 0, 3⟩

/-- The word and the fields of the form with a key. -/
def formOf (k : Nat) : List UInt8 × List Fld :=
  match k with
  | 0 => ([114, 101, 115, 117, 109, 101], [fLocal, fRemote, fTicket, fSecret, fPar 0, fPar 1, fPar 2, fPar 3, fPar 4, fPar 5])
  | 1 => ([100, 105, 97, 108], [fLocal, fRemote])
  | 2 => ([97, 99, 99, 101, 112, 116], [])
  | 3 => ([111, 112, 101, 110], [fConn, fDir])
  | 4 => ([105, 110, 99, 111, 109, 105, 110, 103], [fConn])
  | 5 => ([119, 114, 105, 116, 101], [fConn, fStream, fS])
  | 6 => ([102, 105, 110, 105, 115, 104], [fConn, fStream])
  | 7 => ([114, 101, 115, 101, 116], [fConn, fStream, fCode])
  | 8 => ([115, 116, 111, 112], [fConn, fStream, fCode])
  | 9 => ([114, 101, 97, 100], [fConn, fStream, fN])
  | 10 => ([99, 108, 111, 115, 101], [fConn, fCode])
  | 11 => ([117, 112, 100, 97, 116, 101], [fConn])
  | 12 => ([109, 105, 103, 114, 97, 116, 101], [fConn, fLocal])
  | 13 => ([115, 101, 115, 115, 105, 111, 110], [fConn])
  | _ => ([], [])

end Go.Proofs.YtikmoledbiepoaaGreatDoor
/- A text split at one byte, in plain terms. -/
namespace Go.Proofs.YtikmoledbiepoaaGreatDoor
/-- The pieces of a text between the bytes c. -/
def spl (c : UInt8) : List UInt8 → List (List UInt8)
  | [] => [[]]
  | b :: r => if b = c then [] :: spl c r else match spl c r with
    | [] => [[b]]
    | x :: xs => (b :: x) :: xs
theorem spl_ne (c : UInt8) (s : List UInt8) : spl c s ≠ [] := by
  cases s with
  | nil => simp [spl]
  | cons b r =>
    unfold spl
    split
    · simp
    · split <;> simp
theorem splitK_spl (c : UInt8) : ∀ s : List UInt8, Lib.splitK [c] 0 (Lib.count s [c]) s = spl c s
  | [] => by rw [Lib.count_miss (by simp [Lib.index])]; rfl
  | b :: r => by
    have ih := splitK_spl c r
    by_cases h : b = c
    · subst h
      have hix : Lib.index (b :: r) [b] = ((0 : Nat) : Int) := by rw [Lib.index]; simp [List.isPrefixOf]
      rw [Lib.count_cons_eq, Nat.add_comm 1, Lib.splitK, hix]
      simp [spl, ih]
    · have hp : ([c] : List UInt8).isPrefixOf (b :: r) = false := by simp [List.isPrefixOf, Ne.symm h]
      have hix : Lib.index (b :: r) [c] = if Lib.index r [c] == -1 then -1 else Lib.index r [c] + 1 := by rw [Lib.index, hp]; simp
      rw [Lib.count_cons_ne b c r h]
      by_cases hm : Lib.index r [c] = -1
      · rw [Lib.count_miss hm] at ih ⊢
        simp only [Lib.splitK] at ih ⊢
        simp only [spl, if_neg h]
        rw [← ih]
      · have hge := Lib.index_ge r [c]
        obtain ⟨j, hj⟩ : ∃ j : Nat, Lib.index r [c] = j := ⟨(Lib.index r [c]).toNat, by omega⟩
        have hix' : Lib.index (b :: r) [c] = ((j + 1 : Nat) : Int) := by rw [hix, if_neg (fun e => hm (beq_iff_eq.1 e)), hj]; omega
        rw [Lib.count_hit (by simp) hj, Nat.add_comm 1] at ih ⊢
        rw [Lib.splitK, hj, if_neg (by simp)] at ih
        rw [Lib.splitK, hix', if_neg (by simp; omega)]
        simp only [spl, if_neg h]
        rw [← ih]
        simp
theorem spl_none {c : UInt8} : ∀ {x : List UInt8}, c ∉ x → spl c x = [x]
  | [], _ => rfl
  | b :: r, h => by
    have hb : b ≠ c := fun e => h (by simp [e])
    have := spl_none (c := c) (x := r) (fun e => h (by simp [e]))
    simp only [spl, if_neg hb, this]
theorem spl_cut {c : UInt8} (r : List UInt8) : ∀ {x : List UInt8}, c ∉ x → spl c (x ++ c :: r) = x :: spl c r
  | [], _ => by simp [spl]
  | b :: t, h => by
    have hb : b ≠ c := fun e => h (by simp [e])
    have := spl_cut (c := c) r (x := t) (fun e => h (by simp [e]))
    simp only [List.cons_append, spl, if_neg hb, this]
theorem spl_join {c : UInt8} : ∀ (x : List UInt8) (ws : List (List UInt8)), (∀ s ∈ x :: ws, c ∉ s) → spl c (Lib.join (x :: ws) [c]) = x :: ws
  | x, [], h => by rw [Lib.join_one]; exact spl_none (h x (by simp))
  | x, y :: r, h => by
    have e : Lib.join (x :: y :: r) [c] = x ++ c :: Lib.join (y :: r) [c] := by
      rw [Lib.join_cons, Lib.join_cons]; simp [Lib.joinTail]
    rw [e, spl_cut _ (h x (by simp)), spl_join y r fun s hs => h s (by simp at hs ⊢; exact .inr hs)]
/-- No piece is longer than the text; there are no more of them than its bytes and one. -/
theorem spl_len (c : UInt8) : ∀ s : List UInt8, (spl c s).length ≤ s.length + 1 ∧ ∀ x ∈ spl c s, x.length ≤ s.length
  | [] => by simp [spl]
  | b :: r => by
    obtain ⟨h1, h2⟩ := spl_len c r
    unfold spl
    split
    · refine ⟨by simp; omega, fun x hx => ?_⟩
      rcases List.mem_cons.1 hx with rfl | hx
      · simp
      · have := h2 x hx; simp; omega
    · split
      · exact ⟨by simp, by simp⟩
      · rename_i y ys he
        rw [he] at h1 h2
        refine ⟨by simp at h1 ⊢; omega, fun x hx => ?_⟩
        rcases List.mem_cons.1 hx with rfl | hx
        · have := h2 y (by simp); simp; omega
        · have := h2 x (by simp [hx]); simp; omega
/-- The text is its pieces, joined. -/
theorem join_spl (c : UInt8) : ∀ s : List UInt8, Lib.join (spl c s) [c] = s
  | [] => by simp [spl, Lib.join_one]
  | b :: r => by
    have ih := join_spl c r
    unfold spl
    split
    · rename_i h
      subst h
      cases hs : spl b r with
      | nil => exact absurd hs (spl_ne _ _)
      | cons x xs =>
        rw [hs] at ih
        rw [Lib.join_cons] at ih ⊢
        simp [Lib.joinTail] at ih ⊢
        exact ih
    · cases hs : spl c r with
      | nil => exact absurd hs (spl_ne _ _)
      | cons x xs =>
        rw [hs] at ih
        rw [Lib.join_cons] at ih ⊢
        simp at ih ⊢
        exact ih
theorem spl_mem (c : UInt8) : ∀ s : List UInt8, ∀ x ∈ spl c s, c ∉ x
  | [] => by simp [spl]
  | b :: r => by
    have ih := spl_mem c r
    unfold spl
    split
    · intro x hx
      rcases List.mem_cons.1 hx with rfl | hx
      · simp
      · exact ih x hx
    · rename_i hb
      split
      · simp; exact fun e => hb e.symm
      · rename_i y ys he
        rw [he] at ih
        intro x hx
        rcases List.mem_cons.1 hx with rfl | hx
        · have := ih y (by simp)
          simp only [List.mem_cons, not_or]
          exact ⟨fun e => hb e.symm, this⟩
        · exact ih x (by simp [hx])
end Go.Proofs.YtikmoledbiepoaaGreatDoor
/- What a field writes is read back; the plain line of a call. -/
namespace Go.Proofs.YtikmoledbiepoaaGreatDoor

theorem dd_lt {u : Nat} (h : u < 10) : Lib.decDigits u = [UInt8.ofNat (48 + u)] := by
  rw [Lib.decDigits]; simp [h]
theorem dd_ge {u : Nat} (h : ¬ u < 10) : Lib.decDigits u = Lib.decDigits (u / 10) ++ [UInt8.ofNat (48 + u % 10)] := by
  rw [Lib.decDigits]; simp [h]
theorem dd_ne (u : Nat) : Lib.decDigits u ≠ [] := by
  by_cases h : u < 10
  · rw [dd_lt h]; simp
  · rw [dd_ge h]; simp
theorem digit_toNat {d : Nat} (h : d < 10) : (UInt8.ofNat (48 + d)).toNat = 48 + d := by
  simp [UInt8.toNat_ofNat']; omega
theorem dd_digits (u : Nat) : ∀ c ∈ Lib.decDigits u, 48 ≤ c.toNat ∧ c.toNat ≤ 57 := by
  induction u using Nat.strongRecOn with
  | ind u ih =>
    intro c hc
    by_cases h : u < 10
    · rw [dd_lt h] at hc; rw [List.mem_singleton.1 hc, digit_toNat h]; omega
    · rw [dd_ge h] at hc
      rcases List.mem_append.1 hc with hc | hc
      · exact ih (u / 10) (by omega) c hc
      · rw [List.mem_singleton.1 hc, digit_toNat (by omega)]; omega
/-- Reading digits on. -/
theorem parse_append : ∀ (l m : List UInt8) (acc : Nat), Lib.parseUint10 acc (l ++ m) = match Lib.parseUint10 acc l with | .ok v => Lib.parseUint10 v m | x => x
  | [], m, acc => rfl
  | c :: r, m, acc => by
    simp only [List.cons_append, Lib.parseUint10]
    split
    · split
      · rfl
      · split
        · rfl
        · exact parse_append r m _
    · rfl
theorem parse_dd (u : Nat) (h : u < 9223372036854775808) : Lib.parseUint10 0 (Lib.decDigits u) = .ok u := by
  induction u using Nat.strongRecOn with
  | ind u ih =>
    by_cases h10 : u < 10
    · rw [dd_lt h10]
      simp only [Lib.parseUint10, digit_toNat h10]
      rw [if_pos (by omega), if_neg (by omega), if_neg (by omega)]
      congr 1; omega
    · rw [dd_ge h10, parse_append, ih (u / 10) (by omega) (by omega)]
      have hd : u % 10 < 10 := by omega
      simp only [Lib.parseUint10, digit_toNat hd]
      rw [if_pos (by omega), if_neg (by omega), if_neg (by omega)]
      congr 1; omega
theorem numOf_itoa {v : Int} (h0 : 0 ≤ v) (h1 : v < 9223372036854775808) : numOf (Lib.itoa v) = some v := by
  have hi : Lib.itoa v = Lib.decDigits v.toNat := by unfold Lib.itoa; rw [if_neg (by omega)]
  have hp := parse_dd v.toNat (by omega)
  have hne := dd_ne v.toNat
  have hdg := dd_digits v.toNat
  unfold numOf
  rw [hi]
  cases hl : Lib.decDigits v.toNat with
  | nil => exact absurd hl hne
  | cons c r =>
    rw [hl] at hp hdg
    have hc := hdg c (by simp)
    have : Lib.atoiAll (c :: r) = .ok v := by
      unfold Lib.atoiAll
      simp only
      rw [if_neg (by omega)]
      unfold Lib.parseMag
      rw [if_neg (by simp), hp]
      simp only
      rw [if_neg (by omega), if_neg (by omega), if_neg (by omega)]
      congr 1; omega
    rw [this]
    simp only
    rw [if_neg (by omega)]

theorem hexVal_dig {d : Nat} (h : d < 16) : hexVal (dig d) = some d := by
  have : ∀ m : Fin 16, hexVal (dig m.1) = some m.1 := by decide
  exact this ⟨d, h⟩
theorem pairs_hexAll (s : List UInt8) : pairs (hexAll s) = some s := by
  induction s with
  | nil => rfl
  | cons c r ih =>
    have e : hexAll (c :: r) = dig (c.toNat / 16) :: dig (c.toNat % 16) :: hexAll r := by simp [hexAll]
    have hc := c.toNat_lt
    rw [e, pairs, hexVal_dig (by omega), hexVal_dig (by omega), ih]
    simp only
    have : 16 * (c.toNat / 16) + c.toNat % 16 = c.toNat := by omega
    rw [this]
    simp
theorem txtOf_hexB (s : List UInt8) : txtOf (hexB s) = some s := by
  by_cases h : s = []
  · subst h; rfl
  · have hb : hexB s = hexAll s := by rw [hexB, if_neg h]
    have hne : hexAll s ≠ [45] := by
      intro e
      have := congrArg List.length e
      rw [hexAll_length] at this
      simp at this
      omega
    unfold txtOf
    rw [hb, if_neg hne, pairs_hexAll]
    simp only
    rw [hb, if_pos rfl]

/-- The call c0 with the field f of c. -/
def copyF (f : Fld) (c c0 : Cal) : Cal :=
  if f.tag = 0 then c0.setI f.off (c.getI f.off) else if f.tag = 1 then c0.setS f.off (c.getS f.off) else if c.n = 1 then { c0 with n := 1 } else c0
def copyAll (fs : List Fld) (c c0 : Cal) : Cal := fs.foldl (fun x f => copyF f c x) c0
theorem rd_wr (f : Fld) (c c0 : Cal) (r : List (List UInt8)) (hm : f.most < 9223372036854775808) (hok : (wr f c).2 = true) : rd f ((wr f c).1 :: r) c0 = some (r, copyF f c c0) := by
  unfold wr at hok ⊢
  unfold rd copyF
  by_cases h0 : f.tag = 0
  · simp only [h0, if_true] at hok ⊢
    simp only [Bool.and_eq_true, decide_eq_true_eq] at hok
    rw [numOf_itoa hok.1 (by omega)]
    rfl
  · by_cases h1 : f.tag = 1
    · rw [if_neg h0, if_pos h1] at hok ⊢
      simp only [h1, if_true]
      rw [txtOf_hexB]
      rfl
    · simp only [h0, h1, if_false] at hok ⊢
      by_cases hn : c.n = 1
      · simp only [hn, if_true]; rw [if_neg (by decide)]
      · simp only [hn, if_false]; simp
theorem rdAll_wr (c : Cal) : ∀ (fs : List Fld) (c0 : Cal), (∀ f ∈ fs, f.most < 9223372036854775808 ∧ (wr f c).2 = true) → rdAll fs (fs.map fun f => (wr f c).1) c0 = some ([], copyAll fs c c0)
  | [], c0, _ => rfl
  | f :: fs, c0, h => by
    have h1 := h f (by simp)
    simp only [List.map_cons, rdAll, rd_wr f c c0 _ h1.1 h1.2]
    exact rdAll_wr c fs (copyF f c c0) fun g hg => h g (by simp [hg])
theorem form_most (k : Nat) : ∀ f ∈ (formOf k).2, f.most < 9223372036854775808 := by
  have h : ∀ a : Fin 14, ∀ f ∈ (formOf a.1).2, f.most < 9223372036854775808 := by decide
  by_cases hk : k < 14
  · exact h ⟨k, hk⟩
  · intro f hf
    have : (formOf k).2 = [] := by
      unfold formOf
      split <;> first | omega | rfl
    rw [this] at hf; cases hf

/-- params.Valid. -/
def Cal.parOk (c : Cal) : Bool :=
  decide (0 ≤ c.p0 ∧ c.p0 ≤ 1073741824) && decide (0 ≤ c.p1 ∧ c.p1 ≤ 1073741824) && decide (0 ≤ c.p2 ∧ c.p2 ≤ 64) && decide (0 ≤ c.p3 ∧ c.p3 ≤ 64) && decide (0 ≤ c.p4 ∧ c.p4 ≤ 20) && decide (50 ≤ c.p5 ∧ c.p5 ≤ 100000)
/-- script.session. -/
def Cal.sessOk (c : Cal) : Bool := c.noSess || (decide (1 ≤ c.tick.length) && decide (c.tick.length ≤ 200) && (c.sec.length == 16) && c.parOk)
/-- The key of the form of a call. -/
def Cal.key (c : Cal) : Int := if c.kind = 1 ∧ c.noSess = false then 0 else c.kind
/-- Has the call a line: its form is there, and all its fields are valid? -/
def Cal.lineOk (c : Cal) : Bool := decide (0 ≤ c.key ∧ c.key < 14) && !(c.kind == 0) && c.sessOk && (formOf c.key.toNat).2.all fun f => (wr f c).2
/-- callLine. -/
def Cal.line (c : Cal) : List UInt8 × Bool :=
  if c.lineOk = true then (Lib.join ((formOf c.key.toNat).1 :: (formOf c.key.toNat).2.map fun f => (wr f c).1) [32], (copyAll (formOf c.key.toNat).2 c (Cal.ofKind c.kind)).eqb c)
  else ([], false)
end Go.Proofs.YtikmoledbiepoaaGreatDoor

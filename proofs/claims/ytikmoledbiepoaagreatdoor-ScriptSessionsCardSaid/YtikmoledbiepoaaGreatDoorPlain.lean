/- The plain Lean functions that the walks of package script are held against: a call, an action, the fields of a call, how they are written and read. No program in sight. -/
import Derived.Lib.AtoiAll
import Derived.Lib.ItoaNum
namespace Go.Proofs.YtikmoledbiepoaaGreatDoor

def dig (n : Nat) : UInt8 := [48, 49, 50, 51, 52, 53, 54, 55, 56, 57, 97, 98, 99, 100, 101, 102].getD n 0
def hexAll (s : List UInt8) : List UInt8 := s.flatMap fun c => [dig (c.toNat / 16), dig (c.toNat % 16)]
def hexB (s : List UInt8) : List UInt8 := if s = [] then [45] else hexAll s
theorem hexAll_length (s : List UInt8) : (hexAll s).length = 2 * s.length := by
  induction s with
  | nil => rfl
  | cons c r ih => simp [hexAll] at ih ⊢; omega
theorem hexAll_snoc (s : List UInt8) (k : Nat) (h : k < s.length) : hexAll (s.take (k + 1)) = hexAll (s.take k) ++ [dig (s[k].toNat / 16), dig (s[k].toNat % 16)] := by
  unfold hexAll; rw [List.take_succ_eq_append_getElem h, List.flatMap_append]; rfl
theorem hexB_length (s : List UInt8) : (hexB s).length ≤ 2 * s.length + 1 := by
  unfold hexB; split
  · simp
  · rw [hexAll_length]; omega

/-- A call: the sixteen cells of api.Call. -/
structure Cal where
  kind : Int
  conn : Int
  stream : Int
  n : Int
  s : List UInt8
  code : Int
  loc : Int
  rem : Int
  tick : List UInt8
  sec : List UInt8
  p0 : Int
  p1 : Int
  p2 : Int
  p3 : Int
  p4 : Int
  p5 : Int

def Cal.zero : Cal := ⟨0, 0, 0, 0, [], 0, 0, 0, [], [], 0, 0, 0, 0, 0, 0⟩
def Cal.ofKind (k : Int) : Cal := ⟨k, 0, 0, 0, [], 0, 0, 0, [], [], 0, 0, 0, 0, 0, 0⟩
def Cal.eqb (a b : Cal) : Bool :=
  a.kind == b.kind && (a.conn == b.conn && (a.stream == b.stream && (a.n == b.n && (a.s == b.s && (a.code == b.code && (a.loc == b.loc && (a.rem == b.rem &&
  (a.tick == b.tick && (a.sec == b.sec && (a.p0 == b.p0 && (a.p1 == b.p1 && (a.p2 == b.p2 && (a.p3 == b.p3 && (a.p4 == b.p4 && a.p5 == b.p5))))))))))))))
theorem Cal.eqb_iff (a b : Cal) : a.eqb b = true ↔ a = b := by
  cases a; cases b; simp [Cal.eqb]
theorem Cal.eqb_self (a : Cal) : a.eqb a = true := (Cal.eqb_iff a a).2 rfl

/-- Is the session empty? -/
def Cal.noSess (c : Cal) : Bool :=
  c.tick == [] && (c.sec == [] && (c.p0 == 0 && (c.p1 == 0 && (c.p2 == 0 && (c.p3 == 0 && (c.p4 == 0 && c.p5 == 0))))))

def Cal.getI (c : Cal) : Nat → Int
  | 0 => c.kind | 1 => c.conn | 2 => c.stream | 3 => c.n | 5 => c.code | 6 => c.loc | 7 => c.rem
  | 10 => c.p0 | 11 => c.p1 | 12 => c.p2 | 13 => c.p3 | 14 => c.p4 | 15 => c.p5 | _ => 0
def Cal.setI (c : Cal) (k : Nat) (v : Int) : Cal :=
  match k with
  | 0 => { c with kind := v } | 1 => { c with conn := v } | 2 => { c with stream := v } | 3 => { c with n := v } | 5 => { c with code := v } | 6 => { c with loc := v } | 7 => { c with rem := v }
  | 10 => { c with p0 := v } | 11 => { c with p1 := v } | 12 => { c with p2 := v } | 13 => { c with p3 := v } | 14 => { c with p4 := v } | 15 => { c with p5 := v } | _ => c
def Cal.getS (c : Cal) : Nat → List UInt8
  | 4 => c.s | 8 => c.tick | 9 => c.sec | _ => []
def Cal.setS (c : Cal) (k : Nat) (v : List UInt8) : Cal :=
  match k with
  | 4 => { c with s := v } | 8 => { c with tick := v } | 9 => { c with sec := v } | _ => c

/-- The field of a call: tag 0: an integer up to 'most' at cell 'off'; tag 1: a byte string of at most 'most' bytes at cell 'off'; tag 2: the direction. -/
structure Fld where
  tag : Nat
  most : Nat
  off : Nat

/-- The words of the syntax. -/
def wBidi : List UInt8 := [98, 105, 100, 105]
def wUni : List UInt8 := [117, 110, 105]

/-- What a field writes, and whether its value is valid. -/
def wr (f : Fld) (c : Cal) : List UInt8 × Bool :=
  if f.tag = 0 then (Lib.itoa (c.getI f.off), decide (0 ≤ c.getI f.off) && decide (c.getI f.off ≤ (f.most : Int)))
  else if f.tag = 1 then (hexB (c.getS f.off), decide ((c.getS f.off).length ≤ f.most))
  else if c.n = 1 then (wUni, true) else (wBidi, c.n == 0)

/-- reader.number's word. -/
def numOf (w : List UInt8) : Option Int :=
  match Lib.atoiAll w with
  | .ok v => if v < 0 then none else some v
  | _ => none

/-- A hexadecimal digit's value, as strconv.ParseUint reads it (both cases). -/
def hexVal (c : UInt8) : Option Nat :=
  if 48 ≤ c.toNat ∧ c.toNat ≤ 57 then some (c.toNat - 48)
  else if 97 ≤ c.toNat ∧ c.toNat ≤ 102 then some (c.toNat - 87)
  else if 65 ≤ c.toNat ∧ c.toNat ≤ 70 then some (c.toNat - 55)
  else none

/-- The bytes that pairs of digits spell; a last single digit is passed over. -/
def pairs : List UInt8 → Option (List UInt8)
  | a :: b :: r =>
    match hexVal a, hexVal b, pairs r with
    | some x, some y, some l => some (UInt8.ofNat (16 * x + y) :: l)
    | _, _, _ => none
  | _ => some []

/-- reader.text's word. -/
def txtOf (w : List UInt8) : Option (List UInt8) :=
  if w = [45] then some []
  else match pairs w with
    | none => none
    | some l => if hexB l = w then some l else none

/-- What a field reads: none: the panic. -/
def rd (f : Fld) (ws : List (List UInt8)) (c : Cal) : Option (List (List UInt8) × Cal) :=
  match ws with
  | [] => none
  | w :: r =>
    if f.tag = 0 then (numOf w).map fun v => (r, c.setI f.off v)
    else if f.tag = 1 then (txtOf w).map fun v => (r, c.setS f.off v)
    else if w = wBidi then some (r, c) else if w = wUni then some (r, { c with n := 1 }) else none

def rdAll : List Fld → List (List UInt8) → Cal → Option (List (List UInt8) × Cal)
  | [], ws, c => some (ws, c)
  | f :: fs, ws, c =>
    match rd f ws c with
    | none => none
    | some (r, c') => rdAll fs r c'

def fConn : Fld := ⟨0, 1073741823, 1⟩
def fStream : Fld := ⟨0, 1073741823, 2⟩
def fCode : Fld := ⟨0, 1073741823, 5⟩
def fN : Fld := ⟨0, 1073741823, 3⟩
def fLocal : Fld := ⟨0, 65535, 6⟩
def fRemote : Fld := ⟨0, 65535, 7⟩
def fS : Fld := ⟨1, 2000, 4⟩
def fTicket : Fld := ⟨1, 200, 8⟩
def fSecret : Fld := ⟨1, 16, 9⟩
def fPar (k : Nat) : Fld := ⟨0, 4611686018427387903, 10 + k⟩
def fDir : Fld := ⟨2, 0, 3⟩

/-- The word and the fields of the form with a key. -/
def formOf (k : Nat) : List UInt8 × List Fld :=
  match k with
  | 0 => ([114, 101, 115, 117, 109, 101], [fLocal, fRemote, fTicket, fSecret, fPar 0, fPar 1, fPar 2, fPar 3, fPar 4, fPar 5])
  | 1 => ([100, 105, 97, 108], [fLocal, fRemote])
  | 2 => ([97, 99, 99, 101, 112, 116], [])
  | 3 => ([111, 112, 101, 110], [fConn, fDir])
  | 4 => ([105, 110, 99, 111, 109, 105, 110, 103], [fConn])
  | 5 => ([119, 114, 105, 116, 101], [fConn, fStream, fS])
  | 6 => ([102, 105, 110, 105, 115, 104], [fConn, fStream])
  | 7 => ([114, 101, 115, 101, 116], [fConn, fStream, fCode])
  | 8 => ([115, 116, 111, 112], [fConn, fStream, fCode])
  | 9 => ([114, 101, 97, 100], [fConn, fStream, fN])
  | 10 => ([99, 108, 111, 115, 101], [fConn, fCode])
  | 11 => ([117, 112, 100, 97, 116, 101], [fConn])
  | 12 => ([109, 105, 103, 114, 97, 116, 101], [fConn, fLocal])
  | 13 => ([115, 101, 115, 115, 105, 111, 110], [fConn])
  | _ => ([], [])

end Go.Proofs.YtikmoledbiepoaaGreatDoor

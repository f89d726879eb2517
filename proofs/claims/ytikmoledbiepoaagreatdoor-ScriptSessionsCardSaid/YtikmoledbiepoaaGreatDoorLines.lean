/- The line of an action, in plain terms. -/
import Derived.Test.YtikmoledbiepoaaGreatDoorSame
namespace Go.Proofs.YtikmoledbiepoaaGreatDoor
open Go.RowKit
def wCall : List UInt8 := [99, 97, 108, 108, 32]
def wTick : List UInt8 := [116, 105, 99, 107, 32]
def wFates : List UInt8 := [102, 97, 116, 101, 115]
def wInject : List UInt8 := [105, 110, 106, 101, 99, 116, 32]
def sideW (n : Int) : List UInt8 := if n = 0 then [99, 108, 105, 101, 110, 116, 32] else [115, 101, 114, 118, 101, 114, 32]
def inR (a b : Int) : Bool := decide (0 ≤ a) && decide (a ≤ b)
def fateW (l : List Int) : List UInt8 := l.flatMap fun x => 32 :: Lib.itoa x
def Ac.none (k : Int) : Ac := ⟨k, 0, Cal.ofKind 0, 0, [], 0, 0, []⟩
/-- The action with what its kind names. -/
def Ac.want (a : Ac) : Ac :=
  if a.kind = 1 then { Ac.none a.kind with side := a.side, call := a.call }
  else if a.kind = 2 then { Ac.none a.kind with n := a.n }
  else if a.kind = 3 then { Ac.none a.kind with fates := a.fates }
  else if a.kind = 4 then { Ac.none a.kind with fr := a.fr, tgt := a.tgt, dat := a.dat }
  else Ac.none a.kind
def Ac.text (a : Ac) : List UInt8 :=
  if a.kind = 1 then wCall ++ sideW a.side ++ a.call.line.1
  else if a.kind = 2 then wTick ++ Lib.itoa a.n
  else if a.kind = 3 then wFates ++ fateW a.fates
  else if a.kind = 4 then wInject ++ Lib.itoa a.fr ++ [32] ++ Lib.itoa a.tgt ++ [32] ++ hexB a.dat
  else []
def Ac.ok (a : Ac) : Bool :=
  if a.kind = 1 then a.call.line.2
  else if a.kind = 2 then decide (1 ≤ a.n) && decide (a.n ≤ 2000)
  else if a.kind = 3 then decide (a.fates.length ≤ 64) && a.fates.all fun x => inR x 25
  else if a.kind = 4 then inR a.fr 65535 && inR a.tgt 65535 && decide (a.dat.length ≤ 1024)
  else false
/-- script.line. -/
def Ac.line (a : Ac) : List UInt8 × Bool := if a.kind = 1 ∧ inR a.side 1 = false then ([], false) else (a.text, a.ok && a.eqb a.want)
def IntFit (n : Int) : Prop := -9223372036854775808 ≤ n ∧ n ≤ 9223372036854775807
structure AcFit (a : Ac) : Prop where
  call : CalFit a.call
  n : IntFit a.n
  fr : IntFit a.fr
  tgt : IntFit a.tgt
  fates : ∀ x ∈ a.fates, IntFit x
  few : a.fates.length ≤ 4294967296
  dat : a.dat.length ≤ 2147483648
end Go.Proofs.YtikmoledbiepoaaGreatDoor

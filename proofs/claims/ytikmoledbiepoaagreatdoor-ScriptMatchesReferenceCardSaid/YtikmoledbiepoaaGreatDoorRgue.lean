/- A region that draws its order, all of whose operations read, or call what only makes memory: one walk, in the order of the text. -/
import Derived.Test.YtikmoledbiepoaaGreatDoorLeaf
import Derived.Deep.QuietTactic
import Derived.BigQuiet
import Derived.Test.YtikmoledbiepoaaGreatDoorLaws
namespace Go.Proofs.YtikmoledbiepoaaGreatDoor
open Go.RowKit
/-- A world that goes on from w. -/
structure XW (w : World) where
  val : World
  ext : Ext w val
instance (w : World) : Nonempty (XW w) := ⟨⟨w, Ext.refl w⟩⟩
theorem XW.cell {w : World} (k : XW w) {p : Addr} {v : Value} (h : w.cell? p = some v) : k.val.cell? p = some v := by
  rw [Below.cell k.ext (World.block_lt_of_cell? w p h)]
  exact h
theorem wp_region_xw {P : Program} {id : Nat} {Q : Exit → Act → World → Prop} {a : Act} {w : World} {l : List Oper} (hm : P.follows .mixedOrders = true) (hB : Region.lexB .any l.toArray = true)
    (h : wpQuiet P l.toArray (fun w' => ∃ k : XW w, w' = k.val) (fun a' => ∀ w', (∃ k : XW w, w' = k.val) → Q .normal a' w') l a) : (Code.region id l.toArray true).wp P Q a w :=
  wp_region_quiet (C := fun w' => ∃ k : XW w, w' = k.val) hm hB ⟨⟨{ w with drawn := w.drawn + 1 }, (⟨rfl, rfl, rfl, Nat.le_refl _, fun _ _ => rfl⟩ : Below w.heap.size w { w with drawn := w.drawn + 1 })⟩, rfl⟩ (by simpa using h)
theorem Calls.xw {P : Program} {f : FuncId} {args : Array Value} {w : World} {k : XW w} {v : Value} (h : Calls P f args k.val fun e w' => e = .returned v ∧ Ext k.val w') :
    Calls P f args k.val fun e w'' => e = .returned v ∧ ∃ m : XW w, w'' = m.val :=
  h.mono fun _ w'' ⟨he, hx⟩ => ⟨he, ⟨w'', k.ext.trans hx⟩, rfl⟩
theorem Calls.xw_same {P : Program} {f : FuncId} {args : Array Value} {w : World} {k : XW w} {v : Value} (h : Calls P f args k.val fun e w' => e = .returned v ∧ k.val = w') :
    Calls P f args k.val fun e w'' => e = .returned v ∧ ∃ m : XW w, w'' = m.val :=
  h.mono fun _ _ ⟨he, hx⟩ => ⟨he, k, hx.symm⟩
theorem wpQuiet_xw {P : Program} {ops : Array Oper} {w : World} {Q : Act → Prop} {rest : List Oper} {o : Oper} {a : Act} {v : Value} (hw : Region.wanted o (yielded ops a.tmps) = true) (hr : ∀ k : XW w, (execOp a.eval o).run P k.val = .ok (.value v) k.val)
    (h : wpQuiet P ops (fun w' => ∃ k : XW w, w' = k.val) Q rest (a.put o.dst v)) : wpQuiet P ops (fun w' => ∃ k : XW w, w' = k.val) Q (o :: rest) a :=
  BigFrame.wpQuiet_want hw fun K hK => ⟨v, fun w' ⟨k, hk⟩ => by unfold Oper.quietAt; rw [hk, hr k]; exact ⟨rfl, rfl⟩, hK _ h⟩
theorem exec_ld {P : Program} {ρ : Operand → Value} {o : Oper} {x : Operand} {w : World} {t : TypeId} {p v : Value} (ho : o.op = .load t x) (hx : ρ x = p) (h : (Instr.loadAt t p).run P w = .ok v w) :
    (execOp ρ o).run P w = .ok (.value v) w := by
  unfold execOp
  simp only [ho, hx, Sem.run_bind, h]
  rfl
theorem exec_bd1 {P : Program} {ρ : Operand → Value} {o : Oper} {x : Operand} {w : World} {t : TypeId} {i : Nat} {u v : Value} (ho : o.op = .build t #[(i, x)]) (hx : ρ x = u) (h : (Instr.build t #[(i, u)]).run P w = .ok v w) :
    (execOp ρ o).run P w = .ok (.value v) w := by
  unfold execOp
  simp only [ho, List.map_toArray, List.map_cons, List.map_nil, hx, Sem.run_bind, h]
  rfl
end Go.Proofs.YtikmoledbiepoaaGreatDoor
/- What the reference reads out of a line, in plain terms: where the line is one, it is what the strict reader reads. -/
namespace Go.Proofs.YtikmoledbiepoaaGreatDoor
open Go.RowKit
def rnumL (l : List UInt8) : Nat := l.foldl (fun n c => 10 * n + (c - 48).toNat) 0
/-- number. -/
def rnum (s : List UInt8) : Nat := rnumL (s.take 11)
theorem rnumL_snoc (l : List UInt8) (c : UInt8) : rnumL (l ++ [c]) = 10 * rnumL l + (c - 48).toNat := by
  unfold rnumL; rw [List.foldl_append]; rfl
theorem rdig {d : Nat} (h : d < 10) : (UInt8.ofNat (48 + d) - 48).toNat = d := by
  have : ∀ m : Fin 10, (UInt8.ofNat (48 + m.1) - 48).toNat = m.1 := by decide
  exact this ⟨d, h⟩
theorem rnumL_dd (u : Nat) : rnumL (Lib.decDigits u) = u := by
  induction u using Nat.strongRecOn with
  | ind u ih =>
    by_cases h : u < 10
    · have := rnumL_snoc [] (UInt8.ofNat (48 + u))
      rw [List.nil_append] at this
      rw [dd_lt h, this, rdig h]
      simp [rnumL]
    · rw [dd_ge h, rnumL_snoc, ih (u / 10) (by omega), rdig (by omega)]
      omega
theorem dd_short (k : Nat) : ∀ u, u < 10 ^ (k + 1) → (Lib.decDigits u).length ≤ k + 1 := by
  induction k with
  | zero => intro u h; rw [dd_lt (by simpa using h)]; simp
  | succ k ih =>
    intro u h
    by_cases h10 : u < 10
    · rw [dd_lt h10]; simp
    · rw [dd_ge h10, List.length_append]
      have := ih (u / 10) (Nat.div_lt_of_lt_mul (by rw [Nat.mul_comm, ← Nat.pow_succ]; exact h))
      simp only [List.length_cons, List.length_nil]
      omega
theorem rnum_itoa {v : Int} (h0 : 0 ≤ v) (h1 : v < 100000000000) : ((rnum (Lib.itoa v) : Nat) : Int) = v := by
  have hi : Lib.itoa v = Lib.decDigits v.toNat := by unfold Lib.itoa; rw [if_neg (by omega)]
  have h2 : (10 : Nat) ^ (10 + 1) = 100000000000 := by decide
  have := dd_short 10 v.toNat (by omega)
  unfold rnum
  rw [hi, List.take_of_length_le this, rnumL_dd]
  omega
theorem rnumL_le : ∀ (k : Nat) (l : List UInt8), l.length ≤ k → rnumL l + 29 ≤ 29 * 10 ^ k
  | 0, l, h => by
    have : l = [] := List.length_eq_zero_iff.1 (by omega)
    subst this
    simp [rnumL]
  | k + 1, l, h => by
    by_cases hl : l = []
    · subst hl
      have := Nat.pow_pos (n := k + 1) (show 0 < 10 by decide)
      simp only [rnumL, List.foldl_nil]
      omega
    · have e := List.dropLast_concat_getLast hl
      have h1 := rnumL_le k l.dropLast (by rw [List.length_dropLast]; omega)
      rw [← e, rnumL_snoc, Nat.pow_succ]
      have h2 := (l.getLast hl - 48).toNat_lt
      omega
/-- nibble. -/
def rnib (c : UInt8) : UInt8 := if 48 ≤ c.toNat ∧ c.toNat ≤ 57 then c - 48 else if 97 ≤ c.toNat ∧ c.toNat ≤ 102 then c - 97 + 10 else 0
/-- raw. -/
def rraw : List UInt8 → List UInt8
  | a :: b :: r => (16 * rnib a + rnib b) :: rraw r
  | _ => []
theorem rnib_dig {n : Nat} (h : n < 16) : rnib (dig n) = UInt8.ofNat n := by
  have : ∀ m : Fin 16, rnib (dig m.1) = UInt8.ofNat m.1 := by decide
  exact this ⟨n, h⟩
theorem rraw_hexAll (s : List UInt8) : rraw (hexAll s) = s := by
  induction s with
  | nil => rfl
  | cons c r ih =>
    have hlt := c.toNat_lt
    show rraw (dig (c.toNat / 16) :: dig (c.toNat % 16) :: hexAll r) = _
    rw [rraw, rnib_dig (by omega), rnib_dig (by omega), ih]
    congr 1
    apply UInt8.toNat_inj.1
    simp [UInt8.toNat_add, UInt8.toNat_mul, UInt8.toNat_ofNat']
    omega
theorem rraw_hexB (s : List UInt8) : rraw (hexB s) = s := by
  unfold hexB
  split
  · rename_i h; subst h; rfl
  · exact rraw_hexAll s
theorem rraw_len : ∀ s : List UInt8, (rraw s).length ≤ s.length
  | [] => by simp [rraw]
  | [_] => by simp [rraw]
  | a :: b :: r => by
    have := rraw_len r
    simp only [rraw, List.length_cons]
    omega
/-- at. -/
def rat (l : List (List UInt8)) (i : Nat) : List UInt8 := l.getD i []
def rn (l : List (List UInt8)) (i : Nat) : Int := ((rnum (rat l i) : Nat) : Int)
/-- guessCall, by the word's form. -/
def rgk (k : Nat) (l : List (List UInt8)) : Cal :=
  match k with
  | 0 => ⟨1, 0, 0, 0, [], 0, rn l 1, rn l 2, rraw (rat l 3), rraw (rat l 4), rn l 5, rn l 6, rn l 7, rn l 8, rn l 9, rn l 10⟩
  | 1 => { Cal.ofKind 1 with loc := rn l 1, rem := rn l 2 }
  | 2 => Cal.ofKind 2
  | 3 => { Cal.ofKind 3 with conn := rn l 1, n := if rat l 2 = wUni then 1 else 0 }
  | 4 => { Cal.ofKind 4 with conn := rn l 1 }
  | 5 => { Cal.ofKind 5 with conn := rn l 1, stream := rn l 2, s := rraw (rat l 3) }
  | 6 => { Cal.ofKind 6 with conn := rn l 1, stream := rn l 2 }
  | 7 => { Cal.ofKind 7 with conn := rn l 1, stream := rn l 2, code := rn l 3 }
  | 8 => { Cal.ofKind 8 with conn := rn l 1, stream := rn l 2, code := rn l 3 }
  | 9 => { Cal.ofKind 9 with conn := rn l 1, stream := rn l 2, n := rn l 3 }
  | 10 => { Cal.ofKind 10 with conn := rn l 1, code := rn l 2 }
  | 11 => { Cal.ofKind 11 with conn := rn l 1 }
  | 12 => { Cal.ofKind 12 with conn := rn l 1, loc := rn l 2 }
  | 13 => { Cal.ofKind 13 with conn := rn l 1 }
  | _ => Cal.ofKind 0
/-- guessCall. -/
def rgc (l : List (List UInt8)) : Cal := match keyOf (rat l 0) with
  | some k => rgk k l
  | none => Cal.ofKind 0
/-- guess. -/
def rgl (l : List (List UInt8)) : Ac :=
  if rat l 0 = kCall then { Ac.none 1 with side := if rat l 1 = kServer then 1 else 0, call := rgc (l.drop 2) }
  else if rat l 0 = kTick then { Ac.none 2 with n := rn l 1 }
  else if rat l 0 = wFates then { Ac.none 3 with fates := (l.drop 1).map fun x => ((rnum x : Nat) : Int) }
  else if rat l 0 = kInject then { Ac.none 4 with fr := rn l 1, tgt := rn l 2, dat := rraw (rat l 3) }
  else Ac.none 0
def rguess (s : List UInt8) : Ac := rgl (spl 32 s)
/-- What is known of a call that has a line. -/
theorem call_parts (c : Cal) (h : c.line.2 = true) : ∃ k, k < 14 ∧ c.line.1 = Lib.join ((formOf k).1 :: (formOf k).2.map fun f => (wr f c).1) [32] ∧ (k = 0 → c.parOk = true) ∧ (∀ f ∈ (formOf k).2, (wr f c).2 = true) ∧
    c.kind = max (k : Int) 1 ∧ copyAll (formOf k).2 c (Cal.ofKind (max (k : Int) 1)) = c ∧ (k = 0 ↔ c.kind = 1 ∧ c.noSess = false) := by
  unfold Cal.line at h ⊢
  by_cases ho : c.lineOk = true
  · rw [if_pos ho] at h ⊢
    have he : copyAll (formOf c.key.toNat).2 c (Cal.ofKind c.kind) = c := (Cal.eqb_iff _ _).1 h
    unfold Cal.lineOk at ho
    simp only [Bool.and_eq_true, decide_eq_true_eq, Bool.not_eq_true', beq_eq_false_iff_ne, List.all_eq_true] at ho
    obtain ⟨⟨⟨⟨h0, h14⟩, hk⟩, hs⟩, hall⟩ := ho
    have hm : max ((c.key.toNat : Nat) : Int) 1 = c.kind := by
      unfold Cal.key at h0 h14 ⊢
      split
      · rename_i hh; rw [hh.1]; rfl
      · rename_i hh
        rw [if_neg hh] at h0
        omega
    have hz : c.key.toNat = 0 ↔ c.kind = 1 ∧ c.noSess = false := by
      unfold Cal.key at h0 ⊢
      split
      · rename_i hh; simp [hh]
      · rename_i hh
        rw [if_neg hh] at h0
        constructor
        · intro e; omega
        · intro e; exact absurd e hh
    refine ⟨c.key.toNat, by omega, rfl, ?_, hall, hm.symm, by rw [hm]; exact he, hz⟩
    intro e
    obtain ⟨_, hn⟩ := hz.1 e
    unfold Cal.sessOk at hs
    rw [hn] at hs
    simp only [Bool.false_or, Bool.and_eq_true] at hs
    exact hs.2
  · rw [if_neg ho] at h
    cases h
theorem rw_int (f : Fld) {c : Cal} (h0 : f.tag = 0) (hok : (wr f c).2 = true) (hm : f.most < 100000000000) : ((rnum (wr f c).1 : Nat) : Int) = c.getI f.off := by
  unfold wr at hok ⊢
  rw [if_pos h0] at hok ⊢
  simp only [Bool.and_eq_true, decide_eq_true_eq] at hok
  exact rnum_itoa hok.1 (by omega)
theorem rw_str (f : Fld) {c : Cal} (h1 : f.tag = 1) : rraw (wr f c).1 = c.getS f.off := by
  unfold wr
  rw [if_neg (by omega), if_pos h1]
  exact rraw_hexB _
theorem rw_par (k : Nat) {c : Cal} {v : Int} (h : c.getI (10 + k) = v) (h0 : 0 ≤ v) (h1 : v < 100000000000) : ((rnum (wr (fPar k) c).1 : Nat) : Int) = v := by
  unfold wr
  rw [if_pos (show (fPar k).tag = 0 from rfl)]
  show ((rnum (Lib.itoa (c.getI (10 + k))) : Nat) : Int) = v
  rw [h]
  exact rnum_itoa h0 h1
/-- The call is read back. -/
theorem rgk_wr (c : Cal) (k : Nat) (hk : k < 14) (hp : k = 0 → c.parOk = true) (hall : ∀ f ∈ (formOf k).2, (wr f c).2 = true) :
    rgk k ((formOf k).1 :: (formOf k).2.map fun f => (wr f c).1) = copyAll (formOf k).2 c (Cal.ofKind (max (k : Int) 1)) := by
  match k, hk with
  | 0, _ =>
    have hp := hp rfl
    unfold Cal.parOk at hp
    simp only [Bool.and_eq_true, decide_eq_true_eq] at hp
    have e1 : ((rnum (wr fLocal c).1 : Nat) : Int) = c.loc := rw_int fLocal rfl (hall _ (by simp [formOf])) (by decide)
    have e2 : ((rnum (wr fRemote c).1 : Nat) : Int) = c.rem := rw_int fRemote rfl (hall _ (by simp [formOf])) (by decide)
    have e3 : rraw (wr fTicket c).1 = c.tick := rw_str fTicket rfl
    have e4 : rraw (wr fSecret c).1 = c.sec := rw_str fSecret rfl
    have g0 := rw_par 0 (c := c) rfl hp.1.1.1.1.1.1 (by have := hp.1.1.1.1.1.2; show c.p0 < _; omega)
    have g1 := rw_par 1 (c := c) rfl hp.1.1.1.1.2.1 (by have := hp.1.1.1.1.2.2; show c.p1 < _; omega)
    have g2 := rw_par 2 (c := c) rfl hp.1.1.1.2.1 (by have := hp.1.1.1.2.2; show c.p2 < _; omega)
    have g3 := rw_par 3 (c := c) rfl hp.1.1.2.1 (by have := hp.1.1.2.2; show c.p3 < _; omega)
    have g4 := rw_par 4 (c := c) rfl hp.1.2.1 (by have := hp.1.2.2; show c.p4 < _; omega)
    have g5 := rw_par 5 (c := c) rfl (by have := hp.2.1; show 0 ≤ c.p5; omega) (by have := hp.2.2; show c.p5 < _; omega)
    show (⟨1, 0, 0, 0, [], 0, ((rnum (wr fLocal c).1 : Nat) : Int), ((rnum (wr fRemote c).1 : Nat) : Int), rraw (wr fTicket c).1, rraw (wr fSecret c).1, ((rnum (wr (fPar 0) c).1 : Nat) : Int), ((rnum (wr (fPar 1) c).1 : Nat) : Int), ((rnum (wr (fPar 2) c).1 : Nat) : Int), ((rnum (wr (fPar 3) c).1 : Nat) : Int), ((rnum (wr (fPar 4) c).1 : Nat) : Int), ((rnum (wr (fPar 5) c).1 : Nat) : Int)⟩ : Cal) = _
    rw [e1, e2, e3, e4, g0, g1, g2, g3, g4, g5]
    rfl
  | 1, _ =>
    have e1 : ((rnum (wr fLocal c).1 : Nat) : Int) = c.loc := rw_int fLocal rfl (hall _ (by simp [formOf])) (by decide)
    have e2 : ((rnum (wr fRemote c).1 : Nat) : Int) = c.rem := rw_int fRemote rfl (hall _ (by simp [formOf])) (by decide)
    show ({ Cal.ofKind 1 with loc := ((rnum (wr fLocal c).1 : Nat) : Int), rem := ((rnum (wr fRemote c).1 : Nat) : Int) } : Cal) = _
    rw [e1, e2]
    rfl
  | 2, _ => rfl
  | 3, _ =>
    have e1 : ((rnum (wr fConn c).1 : Nat) : Int) = c.conn := rw_int fConn rfl (hall _ (by simp [formOf])) (by decide)
    have e2 : (wr fDir c).2 = true := hall _ (by simp [formOf])
    show ({ Cal.ofKind 3 with conn := ((rnum (wr fConn c).1 : Nat) : Int), n := if (wr fDir c).1 = wUni then 1 else 0 } : Cal) = copyF fDir c (copyF fConn c (Cal.ofKind 3))
    rw [e1]
    have e3 : wr fDir c = if c.n = 1 then (wUni, true) else (wBidi, c.n == 0) := rfl
    have e4 : copyF fDir c (copyF fConn c (Cal.ofKind 3)) = if c.n = 1 then { copyF fConn c (Cal.ofKind 3) with n := 1 } else copyF fConn c (Cal.ofKind 3) := rfl
    rw [e3, e4]
    by_cases h : c.n = 1
    · rw [if_pos h, if_pos h, if_pos rfl]
      rfl
    · rw [if_neg h, if_neg h, if_neg (show ¬ wBidi = wUni by decide)]
      rfl
  | 4, _ =>
    have e1 : ((rnum (wr fConn c).1 : Nat) : Int) = c.conn := rw_int fConn rfl (hall _ (by simp [formOf])) (by decide)
    show ({ Cal.ofKind 4 with conn := ((rnum (wr fConn c).1 : Nat) : Int) } : Cal) = _
    rw [e1]
    rfl
  | 5, _ =>
    have e1 : ((rnum (wr fConn c).1 : Nat) : Int) = c.conn := rw_int fConn rfl (hall _ (by simp [formOf])) (by decide)
    have e2 : ((rnum (wr fStream c).1 : Nat) : Int) = c.stream := rw_int fStream rfl (hall _ (by simp [formOf])) (by decide)
    have e3 : rraw (wr fS c).1 = c.s := rw_str fS rfl
    show ({ Cal.ofKind 5 with conn := ((rnum (wr fConn c).1 : Nat) : Int), stream := ((rnum (wr fStream c).1 : Nat) : Int), s := rraw (wr fS c).1 } : Cal) = _
    rw [e1, e2, e3]
    rfl
  | 6, _ =>
    have e1 : ((rnum (wr fConn c).1 : Nat) : Int) = c.conn := rw_int fConn rfl (hall _ (by simp [formOf])) (by decide)
    have e2 : ((rnum (wr fStream c).1 : Nat) : Int) = c.stream := rw_int fStream rfl (hall _ (by simp [formOf])) (by decide)
    show ({ Cal.ofKind 6 with conn := ((rnum (wr fConn c).1 : Nat) : Int), stream := ((rnum (wr fStream c).1 : Nat) : Int) } : Cal) = _
    rw [e1, e2]
    rfl
  | 7, _ =>
    have e1 : ((rnum (wr fConn c).1 : Nat) : Int) = c.conn := rw_int fConn rfl (hall _ (by simp [formOf])) (by decide)
    have e2 : ((rnum (wr fStream c).1 : Nat) : Int) = c.stream := rw_int fStream rfl (hall _ (by simp [formOf])) (by decide)
    have e3 : ((rnum (wr fCode c).1 : Nat) : Int) = c.code := rw_int fCode rfl (hall _ (by simp [formOf])) (by decide)
    show ({ Cal.ofKind 7 with conn := ((rnum (wr fConn c).1 : Nat) : Int), stream := ((rnum (wr fStream c).1 : Nat) : Int), code := ((rnum (wr fCode c).1 : Nat) : Int) } : Cal) = _
    rw [e1, e2, e3]
    rfl
  | 8, _ =>
    have e1 : ((rnum (wr fConn c).1 : Nat) : Int) = c.conn := rw_int fConn rfl (hall _ (by simp [formOf])) (by decide)
    have e2 : ((rnum (wr fStream c).1 : Nat) : Int) = c.stream := rw_int fStream rfl (hall _ (by simp [formOf])) (by decide)
    have e3 : ((rnum (wr fCode c).1 : Nat) : Int) = c.code := rw_int fCode rfl (hall _ (by simp [formOf])) (by decide)
    show ({ Cal.ofKind 8 with conn := ((rnum (wr fConn c).1 : Nat) : Int), stream := ((rnum (wr fStream c).1 : Nat) : Int), code := ((rnum (wr fCode c).1 : Nat) : Int) } : Cal) = _
    rw [e1, e2, e3]
    rfl
  | 9, _ =>
    have e1 : ((rnum (wr fConn c).1 : Nat) : Int) = c.conn := rw_int fConn rfl (hall _ (by simp [formOf])) (by decide)
    have e2 : ((rnum (wr fStream c).1 : Nat) : Int) = c.stream := rw_int fStream rfl (hall _ (by simp [formOf])) (by decide)
    have e3 : ((rnum (wr fN c).1 : Nat) : Int) = c.n := rw_int fN rfl (hall _ (by simp [formOf])) (by decide)
    show ({ Cal.ofKind 9 with conn := ((rnum (wr fConn c).1 : Nat) : Int), stream := ((rnum (wr fStream c).1 : Nat) : Int), n := ((rnum (wr fN c).1 : Nat) : Int) } : Cal) = _
    rw [e1, e2, e3]
    rfl
  | 10, _ =>
    have e1 : ((rnum (wr fConn c).1 : Nat) : Int) = c.conn := rw_int fConn rfl (hall _ (by simp [formOf])) (by decide)
    have e3 : ((rnum (wr fCode c).1 : Nat) : Int) = c.code := rw_int fCode rfl (hall _ (by simp [formOf])) (by decide)
    show ({ Cal.ofKind 10 with conn := ((rnum (wr fConn c).1 : Nat) : Int), code := ((rnum (wr fCode c).1 : Nat) : Int) } : Cal) = _
    rw [e1, e3]
    rfl
  | 11, _ =>
    have e1 : ((rnum (wr fConn c).1 : Nat) : Int) = c.conn := rw_int fConn rfl (hall _ (by simp [formOf])) (by decide)
    show ({ Cal.ofKind 11 with conn := ((rnum (wr fConn c).1 : Nat) : Int) } : Cal) = _
    rw [e1]
    rfl
  | 12, _ =>
    have e1 : ((rnum (wr fConn c).1 : Nat) : Int) = c.conn := rw_int fConn rfl (hall _ (by simp [formOf])) (by decide)
    have e2 : ((rnum (wr fLocal c).1 : Nat) : Int) = c.loc := rw_int fLocal rfl (hall _ (by simp [formOf])) (by decide)
    show ({ Cal.ofKind 12 with conn := ((rnum (wr fConn c).1 : Nat) : Int), loc := ((rnum (wr fLocal c).1 : Nat) : Int) } : Cal) = _
    rw [e1, e2]
    rfl
  | 13, _ =>
    have e1 : ((rnum (wr fConn c).1 : Nat) : Int) = c.conn := rw_int fConn rfl (hall _ (by simp [formOf])) (by decide)
    show ({ Cal.ofKind 13 with conn := ((rnum (wr fConn c).1 : Nat) : Int) } : Cal) = _
    rw [e1]
    rfl
  | n + 14, h => omega
theorem rgc_back (c : Cal) (h : c.line.2 = true) : ∃ y ws, c.line.1 = Lib.join (y :: ws) [32] ∧ (∀ s ∈ y :: ws, (32 : UInt8) ∉ s) ∧ rgc (y :: ws) = c := by
  obtain ⟨k, hk, hl, hp, hall, _, hc, _⟩ := call_parts c h
  refine ⟨_, _, hl, ?_, ?_⟩
  · intro s hs
    rcases List.mem_cons.1 hs with rfl | hs
    · exact (plain_form k hk).no.1
    · obtain ⟨f, _, rfl⟩ := List.mem_map.1 hs
      exact (plain_wr f c).no.1
  · unfold rgc
    have : rat ((formOf k).1 :: (formOf k).2.map fun f => (wr f c).1) 0 = (formOf k).1 := rfl
    rw [this, keyOf_form k hk]
    show rgk k _ = c
    rw [rgk_wr c k hk hp hall, hc]
/-- What was written is read back. -/
theorem rguess_line (a : Ac) (h : a.line.2 = true) : rguess a.line.1 = a := by
  unfold Ac.line at h ⊢
  by_cases hk : a.kind = 1 ∧ inR a.side 1 = false
  · rw [if_pos hk] at h; cases h
  rw [if_neg hk] at h ⊢
  simp only [Bool.and_eq_true] at h
  obtain ⟨hok, hw⟩ := h
  have hw := (Ac.eqb_iff _ _).1 hw
  unfold Ac.ok at hok
  unfold Ac.want at hw
  show rgl (spl 32 a.text) = a
  unfold Ac.text
  by_cases h1 : a.kind = 1
  · rw [if_pos h1] at hok hw ⊢
    have hs : inR a.side 1 = true := by
      cases hh : inR a.side 1 with
      | true => rfl
      | false => exact absurd ⟨h1, hh⟩ hk
    obtain ⟨y, ws, hl, hno, hr⟩ := rgc_back a.call hok
    have hside : ∃ sd, sideW a.side = sd ++ [32] ∧ (if sd = kServer then (1 : Int) else 0) = a.side ∧ plainB sd := by
      have : a.side = 0 ∨ a.side = 1 := by
        simp [inR] at hs; omega
      rcases this with e | e <;> rw [e]
      · exact ⟨kClient, rfl, rfl, by unfold plainB; decide⟩
      · exact ⟨kServer, rfl, rfl, by unfold plainB; decide⟩
    obtain ⟨sd, e1, e2, e3⟩ := hside
    have e4 : wCall = kCall ++ [32] := rfl
    rw [hl, e1, e4, ← join_call, spl_join]
    · unfold rgl
      show (if kCall = kCall then _ else _) = a
      rw [if_pos rfl]
      show ({ Ac.none 1 with side := if sd = kServer then 1 else 0, call := rgc (y :: ws) } : Ac) = a
      rw [e2, hr]
      rw [h1] at hw
      exact hw.symm
    · intro s hs
      rcases List.mem_cons.1 hs with rfl | hs
      · decide
      rcases List.mem_cons.1 hs with rfl | hs
      · exact e3.no.1
      · exact hno s hs
  rw [if_neg h1] at hok hw ⊢
  by_cases h2 : a.kind = 2
  · rw [if_pos h2] at hok hw ⊢
    have e4 : wTick ++ Lib.itoa a.n = Lib.join [kTick, Lib.itoa a.n] [32] := by rw [Lib.join_cons]; simp [Lib.joinTail, wTick, kTick]
    simp only [Bool.and_eq_true, decide_eq_true_eq] at hok
    rw [e4, spl_join]
    · unfold rgl
      show (if kTick = kCall then _ else if kTick = kTick then ({ Ac.none 2 with n := ((rnum (Lib.itoa a.n) : Nat) : Int) } : Ac) else _) = a
      rw [if_neg (by decide), if_pos rfl, rnum_itoa (show 0 ≤ a.n by omega) (by omega)]
      rw [h2] at hw
      exact hw.symm
    · intro s hs
      simp only [List.mem_cons, List.not_mem_nil, or_false] at hs
      rcases hs with rfl | rfl
      · decide
      · exact (plain_itoa _).no.1
  rw [if_neg h2] at hok hw ⊢
  by_cases h3 : a.kind = 3
  · rw [if_pos h3] at hok hw ⊢
    simp only [Bool.and_eq_true] at hok
    have e4 : wFates ++ fateW a.fates = Lib.join (wFates :: a.fates.map Lib.itoa) [32] := by rw [Lib.join_cons, join_fates]
    rw [e4, spl_join]
    · unfold rgl
      show (if wFates = kCall then _ else if wFates = kTick then _ else if wFates = wFates then ({ Ac.none 3 with fates := (a.fates.map Lib.itoa).map fun x => ((rnum x : Nat) : Int) } : Ac) else _) = a
      have e5 : ((a.fates.map Lib.itoa).map fun x => ((rnum x : Nat) : Int)) = a.fates := by
        rw [List.map_map]
        have : ∀ x ∈ a.fates, ((fun x => ((rnum x : Nat) : Int)) ∘ Lib.itoa) x = x := by
          intro x hx
          have hx := List.all_eq_true.1 hok.2 x hx
          simp only [inR, Bool.and_eq_true, decide_eq_true_eq] at hx
          exact rnum_itoa hx.1 (by omega)
        rw [List.map_congr_left this, List.map_id']
      rw [if_neg (by decide), if_neg (by decide), if_pos rfl, e5]
      rw [h3] at hw
      exact hw.symm
    · intro s hs
      simp only [List.mem_cons, List.mem_map] at hs
      rcases hs with rfl | ⟨f, _, rfl⟩
      · decide
      · exact (plain_itoa _).no.1
  rw [if_neg h3] at hok hw ⊢
  by_cases h4 : a.kind = 4
  · rw [if_pos h4] at hok hw ⊢
    simp only [Bool.and_eq_true, decide_eq_true_eq, inR] at hok
    have e4 : wInject ++ Lib.itoa a.fr ++ [32] ++ Lib.itoa a.tgt ++ [32] ++ hexB a.dat = Lib.join [kInject, Lib.itoa a.fr, Lib.itoa a.tgt, hexB a.dat] [32] := by
      rw [Lib.join_cons]; simp [Lib.joinTail, wInject, kInject]
    rw [e4, spl_join]
    · unfold rgl
      show (if kInject = kCall then _ else if kInject = kTick then _ else if kInject = wFates then _ else if kInject = kInject then
        ({ Ac.none 4 with fr := ((rnum (Lib.itoa a.fr) : Nat) : Int), tgt := ((rnum (Lib.itoa a.tgt) : Nat) : Int), dat := rraw (hexB a.dat) } : Ac) else _) = a
      rw [if_neg (by decide), if_neg (by decide), if_neg (by decide), if_pos rfl, rnum_itoa (show 0 ≤ a.fr by omega) (by omega), rnum_itoa (show 0 ≤ a.tgt by omega) (by omega), rraw_hexB]
      rw [h4] at hw
      exact hw.symm
    · intro s hs
      simp only [List.mem_cons, List.not_mem_nil, or_false] at hs
      rcases hs with rfl | rfl | rfl | rfl
      · decide
      · exact (plain_itoa _).no.1
      · exact (plain_itoa _).no.1
      · exact (plain_hexB _).no.1
  rw [if_neg h4] at hok
  cases hok
/-- The reference's reading of a line. -/
def rparseL (s : List UInt8) : Option Ac := if (rguess s).line.2 = true ∧ (rguess s).line.1 = s then some (rguess s) else none
theorem rparse_eq (s : List UInt8) : rparseL s = parseL s := by
  unfold rparseL
  split
  · rename_i h
    have := parse_line (rguess s) h.1
    rw [h.2] at this
    exact this.symm
  · rename_i h
    cases hp : parseL s with
    | none => rfl
    | some a =>
      exfalso
      have ha := parse_some hp
      have h2 : a.line.2 = true := by rw [ha]
      have h1 : a.line.1 = s := by rw [ha]
      have hg := rguess_line a h2
      rw [h1] at hg
      exact h (by rw [hg]; exact ⟨h2, h1⟩)
end Go.Proofs.YtikmoledbiepoaaGreatDoor

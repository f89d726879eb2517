/- The actions that the laws build, in plain terms: each has a line, and fits. -/
import Derived.Test.YtikmoledbiepoaaGreatDoorOpen
import Derived.Test.YtikmoledbiepoaaGreatDoorLaws
import Derived.Test.YtikmoledbiepoaaGreatDoorSane
namespace Go.Proofs.YtikmoledbiepoaaGreatDoor
open Go.RowKit
/-- CallFrom, by the kind. -/
def callK (p : Ap) (k : Int) : Cal :=
  if k = 1 then
    if pickN p.n 2 = 1 then ⟨1, 0, 0, 0, [], 0, pickN p.conn 65536, pickN p.stream 65536, p.s.take 100 ++ [116], strF (p.s.take 100) 16, pickN p.q0 1073741825, pickN p.q1 1073741825, pickN p.q2 65, pickN p.q3 65, pickN p.q4 21, 50 + pickN p.q5 99951⟩
    else { Cal.ofKind 1 with loc := pickN p.conn 65536, rem := pickN p.stream 65536 }
  else if k = 2 then Cal.ofKind 2
  else if k = 3 then { Cal.ofKind 3 with n := pickN p.n 2, conn := pickN p.conn 1073741824 }
  else if k = 5 then { Cal.ofKind 5 with stream := pickN p.stream 1073741824, s := p.s.take 100, conn := pickN p.conn 1073741824 }
  else if k = 6 then { Cal.ofKind 6 with stream := pickN p.stream 1073741824, conn := pickN p.conn 1073741824 }
  else if k = 7 then { Cal.ofKind 7 with stream := pickN p.stream 1073741824, code := pickN p.code 1073741824, conn := pickN p.conn 1073741824 }
  else if k = 8 then { Cal.ofKind 8 with stream := pickN p.stream 1073741824, code := pickN p.code 1073741824, conn := pickN p.conn 1073741824 }
  else if k = 9 then { Cal.ofKind 9 with stream := pickN p.stream 1073741824, n := pickN p.n 1073741824, conn := pickN p.conn 1073741824 }
  else if k = 10 then { Cal.ofKind 10 with code := pickN p.code 1073741824, conn := pickN p.conn 1073741824 }
  else if k = 12 then { Cal.ofKind 12 with loc := pickN p.n 65536, conn := pickN p.conn 1073741824 }
  else { Cal.ofKind k with conn := pickN p.conn 1073741824 }
/-- CallFrom. -/
def callF (p : Ap) : Cal := callK p (1 + pickN p.call 13)
/-- ActionFrom. -/
def actF (p : Ap) : Ac :=
  if pickN p.kind 6 = 0 then { Ac.none 2 with n := 1 + pickN p.n 2000 }
  else if pickN p.kind 6 = 1 then { Ac.none 3 with fates := (p.fates.take 64).map fun x => pickN x 26 }
  else if pickN p.kind 6 = 2 then { Ac.none 4 with fr := pickN p.conn 65536, tgt := pickN p.stream 65536, dat := p.s.take 300 }
  else { Ac.none 1 with side := pickN p.side 2, call := callF p }
/-- ScriptFrom. -/
def scrF (l : List Ap) : List Ac := (l.take 20).map actF
/-- A call that has a line. -/
theorem cal_ok {c : Cal} (k : Nat) (hk : k < 14) (hkey : c.key = (k : Int)) (hk0 : c.kind ≠ 0) (hs : c.sessOk = true) (hf : ((formOf k).2.all fun f => (wr f c).2) = true) (hc : copyAll (formOf k).2 c (Cal.ofKind c.kind) = c) : c.line.2 = true := by
  have ho : c.lineOk = true := by
    unfold Cal.lineOk
    rw [hkey, Int.toNat_natCast, hs, hf]
    simp only [Bool.and_true, Bool.and_eq_true, decide_eq_true_eq, Bool.not_eq_true', beq_eq_false_iff_ne]
    exact ⟨⟨by omega, by omega⟩, hk0⟩
  unfold Cal.line
  rw [if_pos ho, hkey, Int.toNat_natCast]
  exact (Cal.eqb_iff _ _).2 hc
theorem pick_in (c : Int) {n : Int} (h : 0 < n) {m : Int} (hm : n ≤ m + 1) : (decide (0 ≤ pickN c n) && decide (pickN c n ≤ m)) = true := by
  have := pickN_lt c h
  simp only [Bool.and_eq_true, decide_eq_true_eq]
  omega
theorem take_short (s : List UInt8) (k : Nat) {m : Nat} (h : k ≤ m) : decide ((s.take k).length ≤ m) = true := by
  rw [List.length_take]
  simp only [decide_eq_true_eq]
  omega
section
variable (p : Ap)
theorem noSess_of (k : Int) (hk : k ≠ 1) : (callK p k).noSess = true := by
  unfold callK
  rw [if_neg hk]
  repeat' split
  all_goals rfl
theorem callK_kind (k : Int) : (callK p k).kind = k := by
  unfold callK
  simp only [apply_ite Cal.kind, Cal.ofKind, ite_self]
  repeat' split
  all_goals first | rfl | omega
theorem callK_key (k : Int) (hk : k ≠ 1) : (callK p k).key = k := by
  unfold Cal.key
  rw [noSess_of p k hk, if_neg (by simp)]
  exact callK_kind p k
theorem callK_sess (k : Int) (hk : k ≠ 1) : (callK p k).sessOk = true := by
  unfold Cal.sessOk
  rw [noSess_of p k hk]
  rfl
theorem in30 (c : Int) : (decide (0 ≤ pickN c 1073741824) && decide (pickN c 1073741824 ≤ ((1073741823 : Nat) : Int))) = true := pick_in c (by decide) (by decide)
theorem in16 (c : Int) : (decide (0 ≤ pickN c 65536) && decide (pickN c 65536 ≤ ((65535 : Nat) : Int))) = true := pick_in c (by decide) (by decide)
theorem wr_ints {f : Fld} {c : Cal} (h0 : f.tag = 0) (h : (decide (0 ≤ c.getI f.off) && decide (c.getI f.off ≤ (f.most : Int))) = true) : (wr f c).2 = true := by
  unfold wr
  rw [if_pos h0]
  exact h
theorem wr_strs {f : Fld} {c : Cal} (h0 : f.tag = 1) (h : decide ((c.getS f.off).length ≤ f.most) = true) : (wr f c).2 = true := by
  unfold wr
  rw [if_neg (by omega), if_pos h0]
  exact h
theorem all_of {l : List Fld} {c : Cal} (h : ∀ f ∈ l, (wr f c).2 = true) : (l.all fun f => (wr f c).2) = true := List.all_eq_true.2 h
theorem call_ok_2 : (callK p 2).line.2 = true := by
  refine cal_ok 2 (by decide) (callK_key p 2 (by decide)) (by rw [callK_kind]; decide) (callK_sess p 2 (by decide)) rfl rfl
theorem call_ok_3 : (callK p 3).line.2 = true := by
  have h := pickN_lt p.n (n := 2) (by decide)
  have h01 : pickN p.n 2 = 0 ∨ pickN p.n 2 = 1 := by omega
  refine cal_ok 3 (by decide) (callK_key p 3 (by decide)) (by rw [callK_kind]; decide) (callK_sess p 3 (by decide)) (all_of ?_) ?_
  · intro f hf
    have hf : f = fConn ∨ f = fDir := by simpa [formOf] using hf
    rcases hf with rfl | rfl
    · exact wr_ints rfl (in30 p.conn)
    · show (if pickN p.n 2 = 1 then (wUni, true) else (wBidi, pickN p.n 2 == 0)).2 = true
      rcases h01 with e | e <;> rw [e] <;> rfl
  · have e1 : callK p 3 = { Cal.ofKind 3 with n := pickN p.n 2, conn := pickN p.conn 1073741824 } := rfl
    rw [e1]
    rcases h01 with e | e <;> rw [e] <;> rfl
theorem call_ok_5 : (callK p 5).line.2 = true := by
  refine cal_ok 5 (by decide) (callK_key p 5 (by decide)) (by rw [callK_kind]; decide) (callK_sess p 5 (by decide)) (all_of ?_) rfl
  intro f hf
  have hf : f = fConn ∨ f = fStream ∨ f = fS := by simpa [formOf] using hf
  rcases hf with rfl | rfl | rfl
  · exact wr_ints rfl (in30 p.conn)
  · exact wr_ints rfl (in30 p.stream)
  · exact wr_strs rfl (take_short p.s 100 (by decide))
theorem call_ok_6 : (callK p 6).line.2 = true := by
  refine cal_ok 6 (by decide) (callK_key p 6 (by decide)) (by rw [callK_kind]; decide) (callK_sess p 6 (by decide)) (all_of ?_) rfl
  intro f hf
  have hf : f = fConn ∨ f = fStream := by simpa [formOf] using hf
  rcases hf with rfl | rfl
  · exact wr_ints rfl (in30 p.conn)
  · exact wr_ints rfl (in30 p.stream)
theorem call_ok_7 : (callK p 7).line.2 = true := by
  refine cal_ok 7 (by decide) (callK_key p 7 (by decide)) (by rw [callK_kind]; decide) (callK_sess p 7 (by decide)) (all_of ?_) rfl
  intro f hf
  have hf : f = fConn ∨ f = fStream ∨ f = fCode := by simpa [formOf] using hf
  rcases hf with rfl | rfl | rfl
  · exact wr_ints rfl (in30 p.conn)
  · exact wr_ints rfl (in30 p.stream)
  · exact wr_ints rfl (in30 p.code)
theorem call_ok_8 : (callK p 8).line.2 = true := by
  refine cal_ok 8 (by decide) (callK_key p 8 (by decide)) (by rw [callK_kind]; decide) (callK_sess p 8 (by decide)) (all_of ?_) rfl
  intro f hf
  have hf : f = fConn ∨ f = fStream ∨ f = fCode := by simpa [formOf] using hf
  rcases hf with rfl | rfl | rfl
  · exact wr_ints rfl (in30 p.conn)
  · exact wr_ints rfl (in30 p.stream)
  · exact wr_ints rfl (in30 p.code)
theorem call_ok_9 : (callK p 9).line.2 = true := by
  refine cal_ok 9 (by decide) (callK_key p 9 (by decide)) (by rw [callK_kind]; decide) (callK_sess p 9 (by decide)) (all_of ?_) rfl
  intro f hf
  have hf : f = fConn ∨ f = fStream ∨ f = fN := by simpa [formOf] using hf
  rcases hf with rfl | rfl | rfl
  · exact wr_ints rfl (in30 p.conn)
  · exact wr_ints rfl (in30 p.stream)
  · exact wr_ints rfl (in30 p.n)
theorem call_ok_10 : (callK p 10).line.2 = true := by
  refine cal_ok 10 (by decide) (callK_key p 10 (by decide)) (by rw [callK_kind]; decide) (callK_sess p 10 (by decide)) (all_of ?_) rfl
  intro f hf
  have hf : f = fConn ∨ f = fCode := by simpa [formOf] using hf
  rcases hf with rfl | rfl
  · exact wr_ints rfl (in30 p.conn)
  · exact wr_ints rfl (in30 p.code)
theorem call_ok_12 : (callK p 12).line.2 = true := by
  refine cal_ok 12 (by decide) (callK_key p 12 (by decide)) (by rw [callK_kind]; decide) (callK_sess p 12 (by decide)) (all_of ?_) rfl
  intro f hf
  have hf : f = fConn ∨ f = fLocal := by simpa [formOf] using hf
  rcases hf with rfl | rfl
  · exact wr_ints rfl (in30 p.conn)
  · exact wr_ints rfl (in16 p.n)
theorem call_ok_4 : (callK p 4).line.2 = true := by
  refine cal_ok 4 (by decide) (callK_key p 4 (by decide)) (by rw [callK_kind]; decide) (callK_sess p 4 (by decide)) (all_of ?_) rfl
  intro f hf
  have hf : f = fConn := by simpa [formOf] using hf
  rcases hf with rfl
  exact wr_ints rfl (in30 p.conn)
theorem call_ok_11 : (callK p 11).line.2 = true := by
  refine cal_ok 11 (by decide) (callK_key p 11 (by decide)) (by rw [callK_kind]; decide) (callK_sess p 11 (by decide)) (all_of ?_) rfl
  intro f hf
  have hf : f = fConn := by simpa [formOf] using hf
  rcases hf with rfl
  exact wr_ints rfl (in30 p.conn)
theorem call_ok_13 : (callK p 13).line.2 = true := by
  refine cal_ok 13 (by decide) (callK_key p 13 (by decide)) (by rw [callK_kind]; decide) (callK_sess p 13 (by decide)) (all_of ?_) rfl
  intro f hf
  have hf : f = fConn := by simpa [formOf] using hf
  rcases hf with rfl
  exact wr_ints rfl (in30 p.conn)
theorem call_ok_1 : (callK p 1).line.2 = true := by
  by_cases h : pickN p.n 2 = 1
  · have e : callK p 1 = ⟨1, 0, 0, 0, [], 0, pickN p.conn 65536, pickN p.stream 65536, p.s.take 100 ++ [116], strF (p.s.take 100) 16, pickN p.q0 1073741825, pickN p.q1 1073741825, pickN p.q2 65, pickN p.q3 65, pickN p.q4 21, 50 + pickN p.q5 99951⟩ := by
      unfold callK
      rw [if_pos rfl, if_pos h]
    rw [e]
    clear e
    have hl := strF_len (p.s.take 100) 16
    have g0 := pickN_lt p.q0 (n := 1073741825) (by decide)
    have g1 := pickN_lt p.q1 (n := 1073741825) (by decide)
    have g2 := pickN_lt p.q2 (n := 65) (by decide)
    have g3 := pickN_lt p.q3 (n := 65) (by decide)
    have g4 := pickN_lt p.q4 (n := 21) (by decide)
    have g5 := pickN_lt p.q5 (n := 99951) (by decide)
    have i1 := in16 p.conn
    have i2 := in16 p.stream
    have hT : (p.s.take 100).length ≤ 100 := by rw [List.length_take]; omega
    generalize p.s.take 100 = T at *
    generalize strF T 16 = S at *
    generalize pickN p.conn 65536 = a1 at *
    generalize pickN p.stream 65536 = a2 at *
    generalize pickN p.q0 1073741825 = b0 at *
    generalize pickN p.q1 1073741825 = b1 at *
    generalize pickN p.q2 65 = b2 at *
    generalize pickN p.q3 65 = b3 at *
    generalize pickN p.q4 21 = b4 at *
    generalize pickN p.q5 99951 = b5 at *
    have hns : Cal.noSess ⟨1, 0, 0, 0, [], 0, a1, a2, T ++ [116], S, b0, b1, b2, b3, b4, 50 + b5⟩ = false := by
      have : (T ++ [116] == []) = false := by cases T <;> rfl
      unfold Cal.noSess
      simp only [this, Bool.false_and]
    refine cal_ok 0 (by decide) ?_ (by decide : (1 : Int) ≠ 0) ?_ (all_of ?_) rfl
    · unfold Cal.key
      rw [if_pos ⟨rfl, hns⟩]
      rfl
    · unfold Cal.sessOk
      rw [hns]
      unfold Cal.parOk
      simp [hl]
      omega
    · intro f hf
      have hf : f = fLocal ∨ f = fRemote ∨ f = fTicket ∨ f = fSecret ∨ f = fPar 0 ∨ f = fPar 1 ∨ f = fPar 2 ∨ f = fPar 3 ∨ f = fPar 4 ∨ f = fPar 5 := by simpa [formOf] using hf
      rcases hf with rfl | rfl | rfl | rfl | rfl | rfl | rfl | rfl | rfl | rfl
      · exact wr_ints rfl i1
      · exact wr_ints rfl i2
      · refine wr_strs rfl ?_
        show decide ((T ++ [116]).length ≤ 200) = true
        simp only [List.length_append, List.length_cons, List.length_nil, decide_eq_true_eq]
        omega
      · refine wr_strs rfl ?_
        show decide (S.length ≤ 16) = true
        simp only [hl, decide_eq_true_eq]
        omega
      · refine wr_ints rfl ?_
        show (decide (0 ≤ b0) && decide (b0 ≤ ((4611686018427387903 : Nat) : Int))) = true
        simp only [Bool.and_eq_true, decide_eq_true_eq]; omega
      · refine wr_ints rfl ?_
        show (decide (0 ≤ b1) && decide (b1 ≤ ((4611686018427387903 : Nat) : Int))) = true
        simp only [Bool.and_eq_true, decide_eq_true_eq]; omega
      · refine wr_ints rfl ?_
        show (decide (0 ≤ b2) && decide (b2 ≤ ((4611686018427387903 : Nat) : Int))) = true
        simp only [Bool.and_eq_true, decide_eq_true_eq]; omega
      · refine wr_ints rfl ?_
        show (decide (0 ≤ b3) && decide (b3 ≤ ((4611686018427387903 : Nat) : Int))) = true
        simp only [Bool.and_eq_true, decide_eq_true_eq]; omega
      · refine wr_ints rfl ?_
        show (decide (0 ≤ b4) && decide (b4 ≤ ((4611686018427387903 : Nat) : Int))) = true
        simp only [Bool.and_eq_true, decide_eq_true_eq]; omega
      · refine wr_ints rfl ?_
        show (decide (0 ≤ 50 + b5) && decide (50 + b5 ≤ ((4611686018427387903 : Nat) : Int))) = true
        simp only [Bool.and_eq_true, decide_eq_true_eq]; omega
  · have e : callK p 1 = { Cal.ofKind 1 with loc := pickN p.conn 65536, rem := pickN p.stream 65536 } := by
      unfold callK
      rw [if_pos rfl, if_neg h]
    rw [e]
    refine cal_ok 1 (by decide) rfl (by decide : (1 : Int) ≠ 0) rfl (all_of ?_) rfl
    intro f hf
    have hf : f = fLocal ∨ f = fRemote := by simpa [formOf] using hf
    rcases hf with rfl | rfl
    · exact wr_ints rfl (in16 p.conn)
    · exact wr_ints rfl (in16 p.stream)
/-- A built call has a line. -/
theorem callF_ok : (callF p).line.2 = true := by
  have h := pickN_lt p.call (n := 13) (by decide)
  unfold callF
  have h13 : pickN p.call 13 = 0 ∨ pickN p.call 13 = 1 ∨ pickN p.call 13 = 2 ∨ pickN p.call 13 = 3 ∨ pickN p.call 13 = 4 ∨ pickN p.call 13 = 5 ∨ pickN p.call 13 = 6 ∨ pickN p.call 13 = 7 ∨ pickN p.call 13 = 8 ∨ pickN p.call 13 = 9 ∨ pickN p.call 13 = 10 ∨ pickN p.call 13 = 11 ∨ pickN p.call 13 = 12 := by omega
  rcases h13 with e | e | e | e | e | e | e | e | e | e | e | e | e <;> rw [e]
  · exact call_ok_1 p
  · exact call_ok_2 p
  · exact call_ok_3 p
  · exact call_ok_4 p
  · exact call_ok_5 p
  · exact call_ok_6 p
  · exact call_ok_7 p
  · exact call_ok_8 p
  · exact call_ok_9 p
  · exact call_ok_10 p
  · exact call_ok_11 p
  · exact call_ok_12 p
  · exact call_ok_13 p
/-- A built action has a line. -/
theorem actF_ok : (actF p).line.2 = true := by
  unfold actF
  split
  · have := pickN_lt p.n (n := 2000) (by decide)
    unfold Ac.line
    rw [if_neg (by intro h; exact absurd h.1 (show ¬ ((2 : Int) = 1) by decide))]
    show (((decide (1 ≤ 1 + pickN p.n 2000) && decide (1 + pickN p.n 2000 ≤ 2000)) && _) = true)
    simp only [Bool.and_eq_true, decide_eq_true_eq]
    exact ⟨by omega, (Ac.eqb_iff _ _).2 rfl⟩
  · split
    · unfold Ac.line
      rw [if_neg (by intro h; exact absurd h.1 (show ¬ ((3 : Int) = 1) by decide))]
      show ((decide (((p.fates.take 64).map fun x => pickN x 26).length ≤ 64) && (((p.fates.take 64).map fun x => pickN x 26).all fun x => inR x 25)) && _) = true
      simp only [Bool.and_eq_true, decide_eq_true_eq]
      refine ⟨⟨by rw [List.length_map, List.length_take]; omega, ?_⟩, (Ac.eqb_iff _ _).2 rfl⟩
      rw [List.all_map]
      refine List.all_eq_true.2 fun x _ => ?_
      have := pickN_lt x (n := 26) (by decide)
      simp only [Function.comp, inR, Bool.and_eq_true, decide_eq_true_eq]
      omega
    · split
      · unfold Ac.line
        rw [if_neg (by intro h; exact absurd h.1 (show ¬ ((4 : Int) = 1) by decide))]
        show ((inR (pickN p.conn 65536) 65535 && inR (pickN p.stream 65536) 65535 && decide ((p.s.take 300).length ≤ 1024)) && _) = true
        have h1 := pickN_lt p.conn (n := 65536) (by decide)
        have h2 := pickN_lt p.stream (n := 65536) (by decide)
        simp only [inR, Bool.and_eq_true, decide_eq_true_eq, List.length_take]
        exact ⟨by omega, (Ac.eqb_iff _ _).2 rfl⟩
      · have h1 := pickN_lt p.side (n := 2) (by decide)
        unfold Ac.line
        rw [if_neg (by
          intro h
          have h2 : inR (pickN p.side 2) 1 = false := h.2
          simp only [inR, Bool.and_eq_false_iff, decide_eq_false_iff_not] at h2
          omega)]
        show ((callF p).line.2 && _) = true
        rw [callF_ok p, Bool.true_and]
        exact (Ac.eqb_iff _ _).2 rfl
end
theorem scrF_ok (l : List Ap) : okL (scrF l) = true := by
  unfold okL scrF
  rw [List.all_map]
  exact List.all_eq_true.2 fun p _ => actF_ok p
theorem scrF_len (l : List Ap) : (scrF l).length ≤ 20 := by
  unfold scrF
  rw [List.length_map, List.length_take]
  omega
end Go.Proofs.YtikmoledbiepoaaGreatDoor

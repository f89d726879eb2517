/- The reference's small tests: within, id, params' in and Valid, session. -/
import Derived.Test.YtikmoledbiepoaaGreatDoorSess
import Derived.Test.YtikmoledbiepoaaGreatDoorDial
namespace Go.Proofs.YtikmoledbiepoaaGreatDoor
open Go.RowKit
set_option maxHeartbeats 400000 in
theorem Rwithin_any (a b : Int) (r : Bool) (hr : (decide (0 ≤ a) && decide (a ≤ b)) = r) (w : World) :
    Calls Tryz.prog 34 #[.int .i64 a, .int .i64 b] w fun e w' => e = .returned (.bool r) ∧ w = w' := by
  have HR := Lib.hid hr
  clear hr
  by_cases h : 0 ≤ a
  · go_enter Tryz.func34, Tryz.ntmps34
    go_wp2
    go_ret
    exact ⟨by rw [← HR.out]; simp [h], rfl⟩
  · go_enter Tryz.func34, Tryz.ntmps34
    go_wp2
    go_ret
    exact ⟨by rw [← HR.out]; simp; omega, rfl⟩
set_option maxHeartbeats 400000 in
theorem Rin_any (n a b : Int) (r : Bool) (hr : (decide (a ≤ n) && decide (n ≤ b)) = r) (w : World) :
    Calls Tryz.prog 103 #[.int .i64 n, .int .i64 a, .int .i64 b] w fun e w' => e = .returned (.bool r) ∧ w = w' := by
  have HR := Lib.hid hr
  clear hr
  by_cases h : a ≤ n
  · go_enter Tryz.func103, Tryz.ntmps103
    go_wp2
    go_ret
    exact ⟨by rw [← HR.out]; simp [h], rfl⟩
  · go_enter Tryz.func103, Tryz.ntmps103
    go_wp2
    go_ret
    exact ⟨by rw [← HR.out]; simp; omega, rfl⟩
set_option maxHeartbeats 400000 in
theorem Rid_any (a : Int) (r : Bool) (hr : (decide (0 ≤ a) && decide (a ≤ 1073741823)) = r) (w : World) :
    Calls Tryz.prog 53 #[.int .i64 a] w fun e w' => e = .returned (.bool r) ∧ w = w' := by
  have HR := Lib.hid hr
  clear hr
  go_enter Tryz.func53, Tryz.ntmps53
  go_wp2_with (go_at_call 34; refine (Rwithin_any _ _ r HR.out _).mono ?_; rintro e w' ⟨rfl, rfl⟩)
  go_ret
  exact ⟨rfl, rfl⟩
end Go.Proofs.YtikmoledbiepoaaGreatDoor
/- The reference's params.Valid. -/
namespace Go.Proofs.YtikmoledbiepoaaGreatDoor
open Go.RowKit
section
variable {p0 p1 p2 p3 p4 p5 : Int} {w : World}
set_option maxRecDepth 100000 in
set_option maxHeartbeats 1000000 in
theorem RparOk_0 (h0 : Hid ((decide (0 ≤ p0) && decide (p0 ≤ 1073741824)) = false)) : Calls Tryz.prog 73 #[.agg #[.int .i64 p0, .int .i64 p1, .int .i64 p2, .int .i64 p3, .int .i64 p4, .int .i64 p5]] w fun e w' => e = .returned (.bool false) ∧ Ext w w' := by
  go_enter Tryz.func73, Tryz.ntmps73
  go_wp2_with (go_at_call 103; refine (Rin_any _ _ _ _ (by with_reducible first | exact h0.out) _).mono ?_; rintro e w' ⟨rfl, rfl⟩)
  go_ret
  exact ⟨rfl, Ext.alloc _ _⟩
set_option maxRecDepth 100000 in
set_option maxHeartbeats 1000000 in
theorem RparOk_1 (h0 : Hid ((decide (0 ≤ p0) && decide (p0 ≤ 1073741824)) = true)) (h1 : Hid ((decide (0 ≤ p1) && decide (p1 ≤ 1073741824)) = false)) : Calls Tryz.prog 73 #[.agg #[.int .i64 p0, .int .i64 p1, .int .i64 p2, .int .i64 p3, .int .i64 p4, .int .i64 p5]] w fun e w' => e = .returned (.bool false) ∧ Ext w w' := by
  go_enter Tryz.func73, Tryz.ntmps73
  go_wp2_with (go_at_call 103; refine (Rin_any _ _ _ _ (by with_reducible first | exact h0.out | exact h1.out) _).mono ?_; rintro e w' ⟨rfl, rfl⟩)
  go_ret
  exact ⟨rfl, Ext.alloc _ _⟩
set_option maxRecDepth 100000 in
set_option maxHeartbeats 1000000 in
theorem RparOk_2 (h0 : Hid ((decide (0 ≤ p0) && decide (p0 ≤ 1073741824)) = true)) (h1 : Hid ((decide (0 ≤ p1) && decide (p1 ≤ 1073741824)) = true)) (h2 : Hid ((decide (0 ≤ p2) && decide (p2 ≤ 64)) = false)) : Calls Tryz.prog 73 #[.agg #[.int .i64 p0, .int .i64 p1, .int .i64 p2, .int .i64 p3, .int .i64 p4, .int .i64 p5]] w fun e w' => e = .returned (.bool false) ∧ Ext w w' := by
  go_enter Tryz.func73, Tryz.ntmps73
  go_wp2_with (go_at_call 103; refine (Rin_any _ _ _ _ (by with_reducible first | exact h0.out | exact h1.out | exact h2.out) _).mono ?_; rintro e w' ⟨rfl, rfl⟩)
  go_ret
  exact ⟨rfl, Ext.alloc _ _⟩
set_option maxRecDepth 100000 in
set_option maxHeartbeats 1000000 in
theorem RparOk_3 (h0 : Hid ((decide (0 ≤ p0) && decide (p0 ≤ 1073741824)) = true)) (h1 : Hid ((decide (0 ≤ p1) && decide (p1 ≤ 1073741824)) = true)) (h2 : Hid ((decide (0 ≤ p2) && decide (p2 ≤ 64)) = true)) (h3 : Hid ((decide (0 ≤ p3) && decide (p3 ≤ 64)) = false)) : Calls Tryz.prog 73 #[.agg #[.int .i64 p0, .int .i64 p1, .int .i64 p2, .int .i64 p3, .int .i64 p4, .int .i64 p5]] w fun e w' => e = .returned (.bool false) ∧ Ext w w' := by
  go_enter Tryz.func73, Tryz.ntmps73
  go_wp2_with (go_at_call 103; refine (Rin_any _ _ _ _ (by with_reducible first | exact h0.out | exact h1.out | exact h2.out | exact h3.out) _).mono ?_; rintro e w' ⟨rfl, rfl⟩)
  go_ret
  exact ⟨rfl, Ext.alloc _ _⟩
set_option maxRecDepth 100000 in
set_option maxHeartbeats 1000000 in
theorem RparOk_4 (h0 : Hid ((decide (0 ≤ p0) && decide (p0 ≤ 1073741824)) = true)) (h1 : Hid ((decide (0 ≤ p1) && decide (p1 ≤ 1073741824)) = true)) (h2 : Hid ((decide (0 ≤ p2) && decide (p2 ≤ 64)) = true)) (h3 : Hid ((decide (0 ≤ p3) && decide (p3 ≤ 64)) = true)) (h4 : Hid ((decide (0 ≤ p4) && decide (p4 ≤ 20)) = false)) : Calls Tryz.prog 73 #[.agg #[.int .i64 p0, .int .i64 p1, .int .i64 p2, .int .i64 p3, .int .i64 p4, .int .i64 p5]] w fun e w' => e = .returned (.bool false) ∧ Ext w w' := by
  go_enter Tryz.func73, Tryz.ntmps73
  go_wp2_with (go_at_call 103; refine (Rin_any _ _ _ _ (by with_reducible first | exact h0.out | exact h1.out | exact h2.out | exact h3.out | exact h4.out) _).mono ?_; rintro e w' ⟨rfl, rfl⟩)
  go_ret
  exact ⟨rfl, Ext.alloc _ _⟩
set_option maxRecDepth 100000 in
set_option maxHeartbeats 1000000 in
theorem RparOk_5 (h0 : Hid ((decide (0 ≤ p0) && decide (p0 ≤ 1073741824)) = true)) (h1 : Hid ((decide (0 ≤ p1) && decide (p1 ≤ 1073741824)) = true)) (h2 : Hid ((decide (0 ≤ p2) && decide (p2 ≤ 64)) = true)) (h3 : Hid ((decide (0 ≤ p3) && decide (p3 ≤ 64)) = true)) (h4 : Hid ((decide (0 ≤ p4) && decide (p4 ≤ 20)) = true)) (h5 : Hid ((decide (50 ≤ p5) && decide (p5 ≤ 100000)) = false)) : Calls Tryz.prog 73 #[.agg #[.int .i64 p0, .int .i64 p1, .int .i64 p2, .int .i64 p3, .int .i64 p4, .int .i64 p5]] w fun e w' => e = .returned (.bool false) ∧ Ext w w' := by
  go_enter Tryz.func73, Tryz.ntmps73
  go_wp2_with (go_at_call 103; refine (Rin_any _ _ _ _ (by with_reducible first | exact h0.out | exact h1.out | exact h2.out | exact h3.out | exact h4.out | exact h5.out) _).mono ?_; rintro e w' ⟨rfl, rfl⟩)
  go_ret
  exact ⟨rfl, Ext.alloc _ _⟩
set_option maxRecDepth 100000 in
set_option maxHeartbeats 1000000 in
theorem RparOk_6 (h0 : Hid ((decide (0 ≤ p0) && decide (p0 ≤ 1073741824)) = true)) (h1 : Hid ((decide (0 ≤ p1) && decide (p1 ≤ 1073741824)) = true)) (h2 : Hid ((decide (0 ≤ p2) && decide (p2 ≤ 64)) = true)) (h3 : Hid ((decide (0 ≤ p3) && decide (p3 ≤ 64)) = true)) (h4 : Hid ((decide (0 ≤ p4) && decide (p4 ≤ 20)) = true)) (h5 : Hid ((decide (50 ≤ p5) && decide (p5 ≤ 100000)) = true)) : Calls Tryz.prog 73 #[.agg #[.int .i64 p0, .int .i64 p1, .int .i64 p2, .int .i64 p3, .int .i64 p4, .int .i64 p5]] w fun e w' => e = .returned (.bool true) ∧ Ext w w' := by
  go_enter Tryz.func73, Tryz.ntmps73
  go_wp2_with (go_at_call 103; refine (Rin_any _ _ _ _ (by with_reducible first | exact h0.out | exact h1.out | exact h2.out | exact h3.out | exact h4.out | exact h5.out) _).mono ?_; rintro e w' ⟨rfl, rfl⟩)
  go_ret
  exact ⟨rfl, Ext.alloc _ _⟩
end
theorem RparOk_any (c : Cal) (w : World) : Calls Tryz.prog 73 #[.agg #[.int .i64 c.p0, .int .i64 c.p1, .int .i64 c.p2, .int .i64 c.p3, .int .i64 c.p4, .int .i64 c.p5]] w fun e w' => e = .returned (.bool c.parOk) ∧ Ext w w' := by
  obtain ⟨b0, e0⟩ : ∃ b, (decide (0 ≤ c.p0) && decide (c.p0 ≤ 1073741824)) = b := ⟨_, rfl⟩
  obtain ⟨b1, e1⟩ : ∃ b, (decide (0 ≤ c.p1) && decide (c.p1 ≤ 1073741824)) = b := ⟨_, rfl⟩
  obtain ⟨b2, e2⟩ : ∃ b, (decide (0 ≤ c.p2) && decide (c.p2 ≤ 64)) = b := ⟨_, rfl⟩
  obtain ⟨b3, e3⟩ : ∃ b, (decide (0 ≤ c.p3) && decide (c.p3 ≤ 64)) = b := ⟨_, rfl⟩
  obtain ⟨b4, e4⟩ : ∃ b, (decide (0 ≤ c.p4) && decide (c.p4 ≤ 20)) = b := ⟨_, rfl⟩
  obtain ⟨b5, e5⟩ : ∃ b, (decide (50 ≤ c.p5) && decide (c.p5 ≤ 100000)) = b := ⟨_, rfl⟩
  have HP : c.parOk = (b0 && b1 && b2 && b3 && b4 && b5) := by
    rw [← e0, ← e1, ← e2, ← e3, ← e4, ← e5]
    rw [Bool.eq_iff_iff]
    simp only [Cal.parOk, Bool.and_eq_true, decide_eq_true_eq]
  rw [HP]
  cases b0 with
  | false => exact RparOk_0 (Lib.hid e0)
  | true =>
  cases b1 with
  | false => exact RparOk_1 (Lib.hid e0) (Lib.hid e1)
  | true =>
  cases b2 with
  | false => exact RparOk_2 (Lib.hid e0) (Lib.hid e1) (Lib.hid e2)
  | true =>
  cases b3 with
  | false => exact RparOk_3 (Lib.hid e0) (Lib.hid e1) (Lib.hid e2) (Lib.hid e3)
  | true =>
  cases b4 with
  | false => exact RparOk_4 (Lib.hid e0) (Lib.hid e1) (Lib.hid e2) (Lib.hid e3) (Lib.hid e4)
  | true =>
  cases b5 with
  | false => exact RparOk_5 (Lib.hid e0) (Lib.hid e1) (Lib.hid e2) (Lib.hid e3) (Lib.hid e4) (Lib.hid e5)
  | true =>
  exact RparOk_6 (Lib.hid e0) (Lib.hid e1) (Lib.hid e2) (Lib.hid e3) (Lib.hid e4) (Lib.hid e5)
end Go.Proofs.YtikmoledbiepoaaGreatDoor
/- The reference's session. -/
namespace Go.Proofs.YtikmoledbiepoaaGreatDoor
open Go.RowKit
theorem boxed1 {w w' : World} {o : Array Value} {T : TypeId} (hx : Ext (w.alloc (.cells o T)) w') (k : Nat) (v : Value) (hv : o[k]? = some v) : w'.cell? ⟨w.heap.size, k, none⟩ = some v := by
  have h := hx.block w.heap.size (by simp)
  rw [alloc_new] at h
  rw [Lib.cell_of_heap h]
  exact hv
set_option maxRecDepth 100000 in
set_option maxHeartbeats 2000000 in
theorem Rsession_any (c : Cal) (w : World) (hfit : CalFit c) : Calls Tryz.prog 52 #[.agg c.sess.toArray] w fun e w' => e = .returned (.bool c.sessOk) ∧ Ext w w' := by
  have hs1 := hfit.strs 8 rfl
  have hs2 := hfit.strs 9 rfl
  simp only [Cal.getS] at hs1 hs2
  clear hfit
  unfold Cal.sess vS vI
  have heq := eqSess c
  have HG := fun v : World => Lib.hid (RparOk_any c v)
  by_cases hn : c.noSess = true
  · have HS : Hid (c.sessOk = true) := by simp [Hid, Cal.sessOk, hn]
    go_enter Tryz.func52, Tryz.ntmps52
    go_wp2
    go_ret
    exact ⟨by rw [HS.out]; rfl, Ext.alloc _ _⟩
  · have hn' : c.noSess = false := by simpa using hn
    clear hn
    cases hp : c.parOk with
    | false =>
      have HS : Hid (c.sessOk = false) := by simp [Hid, Cal.sessOk, hn', hp]
      rw [hp] at HG
      clear hp
      go_enter Tryz.func52, Tryz.ntmps52
      go_wp2_with (go_at_call 73; refine (HG _).out.mono ?_; rintro e w' ⟨rfl, hx⟩)
      go_ret
      exact ⟨by rw [HS.out]; rfl, (Ext.alloc _ _).trans hx⟩
    | true =>
    have hsp : c.sessOk = (decide (1 ≤ c.tick.length) && decide (c.tick.length ≤ 200) && (c.sec.length == 16)) := by simp [Cal.sessOk, hn', hp]
    rw [hp] at HG
    clear hp
    have hs3 : c.sess.toArray.size = 8 := rfl
    clear hs3
    by_cases h1 : 1 ≤ c.tick.length
    · by_cases h2 : c.tick.length ≤ 200
      · by_cases h3 : c.sec.length = 16
        · have HS : Hid (c.sessOk = true) := by simp [Hid, hsp, h1, h2, h3]
          have h3' : ((c.sec.length : Int) == 16) = true := beq_iff_eq.2 (by omega)
          clear h3 hsp
          go_enter Tryz.func52, Tryz.ntmps52
          go_wp2_with (go_at_call 73; refine (HG _).out.mono ?_; rintro e w' ⟨rfl, hx⟩; have hc0 := boxed1 hx 0 _ rfl; have hc1 := boxed1 hx 1 _ rfl)
          go_ret
          exact ⟨by rw [HS.out]; rfl, (Ext.alloc _ _).trans hx⟩
        · have HS : Hid (c.sessOk = false) := by simp [Hid, hsp, h3]
          have h3' : ((c.sec.length : Int) == 16) = false := beq_eq_false_iff_ne.2 (by omega)
          clear h3 hsp
          go_enter Tryz.func52, Tryz.ntmps52
          go_wp2_with (go_at_call 73; refine (HG _).out.mono ?_; rintro e w' ⟨rfl, hx⟩; have hc0 := boxed1 hx 0 _ rfl; have hc1 := boxed1 hx 1 _ rfl)
          go_ret
          exact ⟨by rw [HS.out]; rfl, (Ext.alloc _ _).trans hx⟩
      · have HS : Hid (c.sessOk = false) := by simp [Hid, hsp, h2]
        clear hsp
        go_enter Tryz.func52, Tryz.ntmps52
        go_wp2_with (go_at_call 73; refine (HG _).out.mono ?_; rintro e w' ⟨rfl, hx⟩; have hc0 := boxed1 hx 0 _ rfl; have hc1 := boxed1 hx 1 _ rfl)
        go_ret
        exact ⟨by rw [HS.out]; rfl, (Ext.alloc _ _).trans hx⟩
    · have HS : Hid (c.sessOk = false) := by simp [Hid, hsp, h1]
      clear hsp
      go_enter Tryz.func52, Tryz.ntmps52
      go_wp2_with (go_at_call 73; refine (HG _).out.mono ?_; rintro e w' ⟨rfl, hx⟩; have hc0 := boxed1 hx 0 _ rfl; have hc1 := boxed1 hx 1 _ rfl)
      go_ret
      exact ⟨by rw [HS.out]; rfl, (Ext.alloc _ _).trans hx⟩
end Go.Proofs.YtikmoledbiepoaaGreatDoor
/- The reference's usedCall (printed by wip/gen_rused.py). -/
namespace Go.Proofs.YtikmoledbiepoaaGreatDoor
open Go.RowKit
/-- The world while usedCall goes on: the call at block C, the result at block R. -/
structure UC (w0 : World) (C R : Nat) (c : Cal) (W : World) : Prop where
  cal : CalIn W C 0 28 [] [] c
  res : W.heap[R]? = some (.cells (Cal.ofKind 0).cells.toArray 28)
  ext : Ext w0 W
  rc : R ≠ C
  lo : w0.heap.size ≤ C
  lr : w0.heap.size ≤ R
section
variable {w0 W W' : World} {C R : Nat} {c c' : Cal}
theorem UC.kept (h : UC w0 C R c W) (hk : Kept (· = C) W W') (hc : CalIn W' C 0 28 [] [] c') : UC w0 C R c' W' :=
  ⟨hc, (hk.block _ (lt_of_block h.res) h.rc).trans h.res, h.ext.kept hk (fun k hl e => by have := h.lo; omega), h.rc, h.lo, h.lr⟩
theorem UC.block (h : UC w0 C R c W) : W.heap[C]? = some (.cells c.cells.toArray 28) := by have := h.cal.2; simpa using this
theorem UC.ses (h : UC w0 C R c W) (U S : List UInt8) (a b d e f g : Int) :
    UC w0 C R { c with tick := U, sec := S, p0 := a, p1 := b, p2 := d, p3 := e, p4 := f, p5 := g } (W.setCells C 8 (ses U S a b d e f g)) := by
  refine h.kept (Kept.setCells _ _ _) ⟨rfl, ?_⟩
  rw [heap_setCells_self _ _ _ _ h.block, put_ses]
  simp
end
section
variable {ops : Array Oper} {rest : List Oper} {o : Oper} {f : Act} {w w0 : World} {Q : Exit → Act → World → Prop} {C R : Nat} {c : Cal}
theorem wpList_UsetI (hgd : o.guard = none) (x y : Operand) (ho : o.op = .store 3 x y) (i : Nat) (hx : f.eval x = .pointer (some ⟨C, i, none⟩)) (v : Int) (hy : f.eval y = .int .i64 v) (h0 : UC w0 C R c w) (hi : isI i = true)
    (h : ∀ W, UC w0 C R (c.setI i v) W → wpList Tryz.prog ops Q rest (f.put o.dst undef) W) : wpList Tryz.prog ops Q (o :: rest) f w := by
  refine wpList_plain hgd fun K hK => ?_
  have e0 := h0.cal.cell (c.cellI hi)
  rw [Nat.zero_add] at e0
  have e1 := h0.cal.frozen i
  have hlt : i < 16 := by rcases isI_cases hi with rfl | rfl | rfl | rfl | rfl | rfl | rfl | rfl | rfl | rfl | rfl | rfl | rfl <;> decide
  have hs := h0.cal.set (c.cells_setI v hi) hlt
  rw [Nat.zero_add] at hs
  have h2 := hK _ _ (h _ (h0.kept (Kept.setCell (S := (· = C)) w (p := ⟨C, i, none⟩) rfl (vI v)) hs))
  unfold Oper.wp execOp
  simp only [ho, hx, hy]
  unfold vI at h2 e0
  simp [go_sem, e0, e1]
  exact h2
theorem wpList_UsetS (hgd : o.guard = none) (x y : Operand) (ho : o.op = .store 9 x y) (i : Nat) (hx : f.eval x = .pointer (some ⟨C, i, none⟩)) (v : List UInt8) (hy : f.eval y = .string ⟨v.toArray⟩) (h0 : UC w0 C R c w) (hi : isS i = true)
    (h : ∀ W, UC w0 C R (c.setS i v) W → wpList Tryz.prog ops Q rest (f.put o.dst undef) W) : wpList Tryz.prog ops Q (o :: rest) f w := by
  refine wpList_plain hgd fun K hK => ?_
  have e0 := h0.cal.cell (c.cellS hi)
  rw [Nat.zero_add] at e0
  have e1 := h0.cal.frozen i
  have hlt : i < 16 := by rcases isS_cases hi with rfl | rfl | rfl <;> decide
  have hs := h0.cal.set (c.cells_setS v hi) hlt
  rw [Nat.zero_add] at hs
  have h2 := hK _ _ (h _ (h0.kept (Kept.setCell (S := (· = C)) w (p := ⟨C, i, none⟩) rfl (vS v)) hs))
  unfold Oper.wp execOp
  simp only [ho, hx, hy]
  unfold vS at h2 e0
  simp [go_sem, e0, e1]
  exact h2
theorem wpList_Uses (hgd : o.guard = none) (x y : Operand) (ho : o.op = .store 26 x y) (hx : f.eval x = .pointer (some ⟨C, 8, none⟩)) (hy : f.eval y = .agg (ses [] [] 0 0 0 0 0 0).toArray) (h0 : UC w0 C R c w)
    (h : ∀ W, UC w0 C R { c with tick := [], sec := [], p0 := 0, p1 := 0, p2 := 0, p3 := 0, p4 := 0, p5 := 0 } W → wpList Tryz.prog ops Q rest (f.put o.dst undef) W) : wpList Tryz.prog ops Q (o :: rest) f w := by
  exact wpList_store_mid hgd 26 x y ho C 8 (ses [] [] 0 0 0 0 0 0).toArray hx hy (there_of_block h0.block 8 8 (by simp [Cal.cells_length])) inf26 (by simp [ses, p6, Value.oneCell']) (h _ (h0.ses [] [] 0 0 0 0 0 0))
end
/-- What usedCall leaves of a call. -/
def Cal.used (c : Cal) : Cal :=
  if c.kind = 1 then { ((c.setI 6 0).setI 7 0) with tick := [], sec := [], p0 := 0, p1 := 0, p2 := 0, p3 := 0, p4 := 0, p5 := 0 } else
  if c.kind = 3 then ((c.setI 1 0).setI 3 0) else
  if c.kind = 4 then (c.setI 1 0) else
  if c.kind = 5 then (((c.setI 1 0).setI 2 0).setS 4 []) else
  if c.kind = 6 then ((c.setI 1 0).setI 2 0) else
  if c.kind = 7 then (((c.setI 1 0).setI 2 0).setI 5 0) else
  if c.kind = 8 then (((c.setI 1 0).setI 2 0).setI 5 0) else
  if c.kind = 9 then (((c.setI 1 0).setI 2 0).setI 3 0) else
  if c.kind = 10 then ((c.setI 1 0).setI 5 0) else
  if c.kind = 11 then (c.setI 1 0) else
  if c.kind = 12 then ((c.setI 1 0).setI 6 0) else
  if c.kind = 13 then (c.setI 1 0) else
  c
set_option maxRecDepth 100000 in
set_option maxHeartbeats 2000000 in
theorem RusedCall_1 (c : Cal) (w : World) (hk : c.kind = 1) : Calls Tryz.prog 51 #[.agg c.cells.toArray] w fun e w' => e = .returned (.agg c.used.cells.toArray) ∧ Ext w w' := by
  have HF : Hid (c.used = { ((c.setI 6 0).setI 7 0) with tick := [], sec := [], p0 := 0, p1 := 0, p2 := 0, p3 := 0, p4 := 0, p5 := 0 }) := by
    unfold Hid Cal.used
    simp [hk]
  have HK := Lib.hid hk
  clear hk
  obtain ⟨W0, hW0⟩ : ∃ W0, W0 = (w.alloc (.cells c.cells.toArray 28)).alloc (.cells (Cal.ofKind 0).cells.toArray 28) := ⟨_, rfl⟩
  have hC : UC w w.heap.size (w.heap.size + 1) c W0 := by
    subst hW0
    exact ⟨⟨rfl, by rw [two_first]; simp⟩, two_second _ _ _, (Ext.alloc _ _).trans (Ext.alloc _ _), by omega, by omega, by omega⟩
  have hcc : c.cells.toArray = #[.int .i64 c.kind, .int .i64 c.conn, .int .i64 c.stream, .int .i64 c.n, .string ⟨c.s.toArray⟩, .int .i64 c.code, .int .i64 c.loc, .int .i64 c.rem, .string ⟨c.tick.toArray⟩, .string ⟨c.sec.toArray⟩, .int .i64 c.p0, .int .i64 c.p1, .int .i64 c.p2, .int .i64 c.p3, .int .i64 c.p4, .int .i64 c.p5] := rfl
  rw [hcc, Cal.ofKind_eq] at hW0
  rw [hcc]
  clear hcc
  have HW := Lib.hid hW0
  clear hW0
  go_enter Tryz.func51, Tryz.ntmps51
  go_upto_region 1 with fail
  rw [← HW.out]
  clear HW
  have e9 : W0.cell? ⟨w.heap.size, 0, none⟩ = some (.int .i64 1) := by
    have := hC.cal.cell (k := 0) (v := .int .i64 c.kind) rfl
    rw [HK.out] at this
    simpa using this
  go_wp2_with (first
    | (refine wpList_UsetI rfl _ _ rfl _ rfl _ rfl hC rfl ?_; clear e9 hC; intro W1 hC; have e9 := True.intro)
    | (refine wpList_UsetS rfl _ _ rfl _ rfl [] rfl hC rfl ?_; clear e9 hC; intro W1 hC; have e9 := True.intro)
    | (refine wpList_Uses rfl _ _ rfl rfl rfl hC ?_; clear e9 hC; intro W1 hC; have e9 := True.intro)
    | refine wpList_ld28 rfl _ rfl _ _ rfl _ (fun j v hv => by have := hC.cal.cell hv; simpa using this) ?_
    | refine wpList_store28 rfl _ _ rfl _ _ rfl rfl _ hC.res rfl rfl (cal_one _) ?_)
  refine bodyPost_ret (res28 rfl _ _ (w.heap.size + 1) _ rfl (setRow_heap _ _ _ _ _ _ hC.res) rfl) rfl ⟨?_, hC.ext.setRow _ _ hC.lr⟩
  rw [HF.out]
set_option maxRecDepth 100000 in
set_option maxHeartbeats 2000000 in
theorem RusedCall_3 (c : Cal) (w : World) (hk : c.kind = 3) : Calls Tryz.prog 51 #[.agg c.cells.toArray] w fun e w' => e = .returned (.agg c.used.cells.toArray) ∧ Ext w w' := by
  have HF : Hid (c.used = ((c.setI 1 0).setI 3 0)) := by
    unfold Hid Cal.used
    simp [hk]
  have HK := Lib.hid hk
  clear hk
  obtain ⟨W0, hW0⟩ : ∃ W0, W0 = (w.alloc (.cells c.cells.toArray 28)).alloc (.cells (Cal.ofKind 0).cells.toArray 28) := ⟨_, rfl⟩
  have hC : UC w w.heap.size (w.heap.size + 1) c W0 := by
    subst hW0
    exact ⟨⟨rfl, by rw [two_first]; simp⟩, two_second _ _ _, (Ext.alloc _ _).trans (Ext.alloc _ _), by omega, by omega, by omega⟩
  have hcc : c.cells.toArray = #[.int .i64 c.kind, .int .i64 c.conn, .int .i64 c.stream, .int .i64 c.n, .string ⟨c.s.toArray⟩, .int .i64 c.code, .int .i64 c.loc, .int .i64 c.rem, .string ⟨c.tick.toArray⟩, .string ⟨c.sec.toArray⟩, .int .i64 c.p0, .int .i64 c.p1, .int .i64 c.p2, .int .i64 c.p3, .int .i64 c.p4, .int .i64 c.p5] := rfl
  rw [hcc, Cal.ofKind_eq] at hW0
  rw [hcc]
  clear hcc
  have HW := Lib.hid hW0
  clear hW0
  go_enter Tryz.func51, Tryz.ntmps51
  go_upto_region 1 with fail
  rw [← HW.out]
  clear HW
  have e9 : W0.cell? ⟨w.heap.size, 0, none⟩ = some (.int .i64 3) := by
    have := hC.cal.cell (k := 0) (v := .int .i64 c.kind) rfl
    rw [HK.out] at this
    simpa using this
  go_wp2_with (first
    | (refine wpList_UsetI rfl _ _ rfl _ rfl _ rfl hC rfl ?_; clear e9 hC; intro W1 hC; have e9 := True.intro)
    | (refine wpList_UsetS rfl _ _ rfl _ rfl [] rfl hC rfl ?_; clear e9 hC; intro W1 hC; have e9 := True.intro)
    | (refine wpList_Uses rfl _ _ rfl rfl rfl hC ?_; clear e9 hC; intro W1 hC; have e9 := True.intro)
    | refine wpList_ld28 rfl _ rfl _ _ rfl _ (fun j v hv => by have := hC.cal.cell hv; simpa using this) ?_
    | refine wpList_store28 rfl _ _ rfl _ _ rfl rfl _ hC.res rfl rfl (cal_one _) ?_)
  refine bodyPost_ret (res28 rfl _ _ (w.heap.size + 1) _ rfl (setRow_heap _ _ _ _ _ _ hC.res) rfl) rfl ⟨?_, hC.ext.setRow _ _ hC.lr⟩
  rw [HF.out]
set_option maxRecDepth 100000 in
set_option maxHeartbeats 2000000 in
theorem RusedCall_4 (c : Cal) (w : World) (hk : c.kind = 4) : Calls Tryz.prog 51 #[.agg c.cells.toArray] w fun e w' => e = .returned (.agg c.used.cells.toArray) ∧ Ext w w' := by
  have HF : Hid (c.used = (c.setI 1 0)) := by
    unfold Hid Cal.used
    simp [hk]
  have HK := Lib.hid hk
  clear hk
  obtain ⟨W0, hW0⟩ : ∃ W0, W0 = (w.alloc (.cells c.cells.toArray 28)).alloc (.cells (Cal.ofKind 0).cells.toArray 28) := ⟨_, rfl⟩
  have hC : UC w w.heap.size (w.heap.size + 1) c W0 := by
    subst hW0
    exact ⟨⟨rfl, by rw [two_first]; simp⟩, two_second _ _ _, (Ext.alloc _ _).trans (Ext.alloc _ _), by omega, by omega, by omega⟩
  have hcc : c.cells.toArray = #[.int .i64 c.kind, .int .i64 c.conn, .int .i64 c.stream, .int .i64 c.n, .string ⟨c.s.toArray⟩, .int .i64 c.code, .int .i64 c.loc, .int .i64 c.rem, .string ⟨c.tick.toArray⟩, .string ⟨c.sec.toArray⟩, .int .i64 c.p0, .int .i64 c.p1, .int .i64 c.p2, .int .i64 c.p3, .int .i64 c.p4, .int .i64 c.p5] := rfl
  rw [hcc, Cal.ofKind_eq] at hW0
  rw [hcc]
  clear hcc
  have HW := Lib.hid hW0
  clear hW0
  go_enter Tryz.func51, Tryz.ntmps51
  go_upto_region 1 with fail
  rw [← HW.out]
  clear HW
  have e9 : W0.cell? ⟨w.heap.size, 0, none⟩ = some (.int .i64 4) := by
    have := hC.cal.cell (k := 0) (v := .int .i64 c.kind) rfl
    rw [HK.out] at this
    simpa using this
  go_wp2_with (first
    | (refine wpList_UsetI rfl _ _ rfl _ rfl _ rfl hC rfl ?_; clear e9 hC; intro W1 hC; have e9 := True.intro)
    | (refine wpList_UsetS rfl _ _ rfl _ rfl [] rfl hC rfl ?_; clear e9 hC; intro W1 hC; have e9 := True.intro)
    | (refine wpList_Uses rfl _ _ rfl rfl rfl hC ?_; clear e9 hC; intro W1 hC; have e9 := True.intro)
    | refine wpList_ld28 rfl _ rfl _ _ rfl _ (fun j v hv => by have := hC.cal.cell hv; simpa using this) ?_
    | refine wpList_store28 rfl _ _ rfl _ _ rfl rfl _ hC.res rfl rfl (cal_one _) ?_)
  refine bodyPost_ret (res28 rfl _ _ (w.heap.size + 1) _ rfl (setRow_heap _ _ _ _ _ _ hC.res) rfl) rfl ⟨?_, hC.ext.setRow _ _ hC.lr⟩
  rw [HF.out]
set_option maxRecDepth 100000 in
set_option maxHeartbeats 2000000 in
theorem RusedCall_5 (c : Cal) (w : World) (hk : c.kind = 5) : Calls Tryz.prog 51 #[.agg c.cells.toArray] w fun e w' => e = .returned (.agg c.used.cells.toArray) ∧ Ext w w' := by
  have HF : Hid (c.used = (((c.setI 1 0).setI 2 0).setS 4 [])) := by
    unfold Hid Cal.used
    simp [hk]
  have HK := Lib.hid hk
  clear hk
  obtain ⟨W0, hW0⟩ : ∃ W0, W0 = (w.alloc (.cells c.cells.toArray 28)).alloc (.cells (Cal.ofKind 0).cells.toArray 28) := ⟨_, rfl⟩
  have hC : UC w w.heap.size (w.heap.size + 1) c W0 := by
    subst hW0
    exact ⟨⟨rfl, by rw [two_first]; simp⟩, two_second _ _ _, (Ext.alloc _ _).trans (Ext.alloc _ _), by omega, by omega, by omega⟩
  have hcc : c.cells.toArray = #[.int .i64 c.kind, .int .i64 c.conn, .int .i64 c.stream, .int .i64 c.n, .string ⟨c.s.toArray⟩, .int .i64 c.code, .int .i64 c.loc, .int .i64 c.rem, .string ⟨c.tick.toArray⟩, .string ⟨c.sec.toArray⟩, .int .i64 c.p0, .int .i64 c.p1, .int .i64 c.p2, .int .i64 c.p3, .int .i64 c.p4, .int .i64 c.p5] := rfl
  rw [hcc, Cal.ofKind_eq] at hW0
  rw [hcc]
  clear hcc
  have HW := Lib.hid hW0
  clear hW0
  go_enter Tryz.func51, Tryz.ntmps51
  go_upto_region 1 with fail
  rw [← HW.out]
  clear HW
  have e9 : W0.cell? ⟨w.heap.size, 0, none⟩ = some (.int .i64 5) := by
    have := hC.cal.cell (k := 0) (v := .int .i64 c.kind) rfl
    rw [HK.out] at this
    simpa using this
  go_wp2_with (first
    | (refine wpList_UsetI rfl _ _ rfl _ rfl _ rfl hC rfl ?_; clear e9 hC; intro W1 hC; have e9 := True.intro)
    | (refine wpList_UsetS rfl _ _ rfl _ rfl [] rfl hC rfl ?_; clear e9 hC; intro W1 hC; have e9 := True.intro)
    | (refine wpList_Uses rfl _ _ rfl rfl rfl hC ?_; clear e9 hC; intro W1 hC; have e9 := True.intro)
    | refine wpList_ld28 rfl _ rfl _ _ rfl _ (fun j v hv => by have := hC.cal.cell hv; simpa using this) ?_
    | refine wpList_store28 rfl _ _ rfl _ _ rfl rfl _ hC.res rfl rfl (cal_one _) ?_)
  refine bodyPost_ret (res28 rfl _ _ (w.heap.size + 1) _ rfl (setRow_heap _ _ _ _ _ _ hC.res) rfl) rfl ⟨?_, hC.ext.setRow _ _ hC.lr⟩
  rw [HF.out]
set_option maxRecDepth 100000 in
set_option maxHeartbeats 2000000 in
theorem RusedCall_6 (c : Cal) (w : World) (hk : c.kind = 6) : Calls Tryz.prog 51 #[.agg c.cells.toArray] w fun e w' => e = .returned (.agg c.used.cells.toArray) ∧ Ext w w' := by
  have HF : Hid (c.used = ((c.setI 1 0).setI 2 0)) := by
    unfold Hid Cal.used
    simp [hk]
  have HK := Lib.hid hk
  clear hk
  obtain ⟨W0, hW0⟩ : ∃ W0, W0 = (w.alloc (.cells c.cells.toArray 28)).alloc (.cells (Cal.ofKind 0).cells.toArray 28) := ⟨_, rfl⟩
  have hC : UC w w.heap.size (w.heap.size + 1) c W0 := by
    subst hW0
    exact ⟨⟨rfl, by rw [two_first]; simp⟩, two_second _ _ _, (Ext.alloc _ _).trans (Ext.alloc _ _), by omega, by omega, by omega⟩
  have hcc : c.cells.toArray = #[.int .i64 c.kind, .int .i64 c.conn, .int .i64 c.stream, .int .i64 c.n, .string ⟨c.s.toArray⟩, .int .i64 c.code, .int .i64 c.loc, .int .i64 c.rem, .string ⟨c.tick.toArray⟩, .string ⟨c.sec.toArray⟩, .int .i64 c.p0, .int .i64 c.p1, .int .i64 c.p2, .int .i64 c.p3, .int .i64 c.p4, .int .i64 c.p5] := rfl
  rw [hcc, Cal.ofKind_eq] at hW0
  rw [hcc]
  clear hcc
  have HW := Lib.hid hW0
  clear hW0
  go_enter Tryz.func51, Tryz.ntmps51
  go_upto_region 1 with fail
  rw [← HW.out]
  clear HW
  have e9 : W0.cell? ⟨w.heap.size, 0, none⟩ = some (.int .i64 6) := by
    have := hC.cal.cell (k := 0) (v := .int .i64 c.kind) rfl
    rw [HK.out] at this
    simpa using this
  go_wp2_with (first
    | (refine wpList_UsetI rfl _ _ rfl _ rfl _ rfl hC rfl ?_; clear e9 hC; intro W1 hC; have e9 := True.intro)
    | (refine wpList_UsetS rfl _ _ rfl _ rfl [] rfl hC rfl ?_; clear e9 hC; intro W1 hC; have e9 := True.intro)
    | (refine wpList_Uses rfl _ _ rfl rfl rfl hC ?_; clear e9 hC; intro W1 hC; have e9 := True.intro)
    | refine wpList_ld28 rfl _ rfl _ _ rfl _ (fun j v hv => by have := hC.cal.cell hv; simpa using this) ?_
    | refine wpList_store28 rfl _ _ rfl _ _ rfl rfl _ hC.res rfl rfl (cal_one _) ?_)
  refine bodyPost_ret (res28 rfl _ _ (w.heap.size + 1) _ rfl (setRow_heap _ _ _ _ _ _ hC.res) rfl) rfl ⟨?_, hC.ext.setRow _ _ hC.lr⟩
  rw [HF.out]
set_option maxRecDepth 100000 in
set_option maxHeartbeats 2000000 in
theorem RusedCall_7 (c : Cal) (w : World) (hk : c.kind = 7) : Calls Tryz.prog 51 #[.agg c.cells.toArray] w fun e w' => e = .returned (.agg c.used.cells.toArray) ∧ Ext w w' := by
  have HF : Hid (c.used = (((c.setI 1 0).setI 2 0).setI 5 0)) := by
    unfold Hid Cal.used
    simp [hk]
  have HK := Lib.hid hk
  clear hk
  obtain ⟨W0, hW0⟩ : ∃ W0, W0 = (w.alloc (.cells c.cells.toArray 28)).alloc (.cells (Cal.ofKind 0).cells.toArray 28) := ⟨_, rfl⟩
  have hC : UC w w.heap.size (w.heap.size + 1) c W0 := by
    subst hW0
    exact ⟨⟨rfl, by rw [two_first]; simp⟩, two_second _ _ _, (Ext.alloc _ _).trans (Ext.alloc _ _), by omega, by omega, by omega⟩
  have hcc : c.cells.toArray = #[.int .i64 c.kind, .int .i64 c.conn, .int .i64 c.stream, .int .i64 c.n, .string ⟨c.s.toArray⟩, .int .i64 c.code, .int .i64 c.loc, .int .i64 c.rem, .string ⟨c.tick.toArray⟩, .string ⟨c.sec.toArray⟩, .int .i64 c.p0, .int .i64 c.p1, .int .i64 c.p2, .int .i64 c.p3, .int .i64 c.p4, .int .i64 c.p5] := rfl
  rw [hcc, Cal.ofKind_eq] at hW0
  rw [hcc]
  clear hcc
  have HW := Lib.hid hW0
  clear hW0
  go_enter Tryz.func51, Tryz.ntmps51
  go_upto_region 1 with fail
  rw [← HW.out]
  clear HW
  have e9 : W0.cell? ⟨w.heap.size, 0, none⟩ = some (.int .i64 7) := by
    have := hC.cal.cell (k := 0) (v := .int .i64 c.kind) rfl
    rw [HK.out] at this
    simpa using this
  go_wp2_with (first
    | (refine wpList_UsetI rfl _ _ rfl _ rfl _ rfl hC rfl ?_; clear e9 hC; intro W1 hC; have e9 := True.intro)
    | (refine wpList_UsetS rfl _ _ rfl _ rfl [] rfl hC rfl ?_; clear e9 hC; intro W1 hC; have e9 := True.intro)
    | (refine wpList_Uses rfl _ _ rfl rfl rfl hC ?_; clear e9 hC; intro W1 hC; have e9 := True.intro)
    | refine wpList_ld28 rfl _ rfl _ _ rfl _ (fun j v hv => by have := hC.cal.cell hv; simpa using this) ?_
    | refine wpList_store28 rfl _ _ rfl _ _ rfl rfl _ hC.res rfl rfl (cal_one _) ?_)
  refine bodyPost_ret (res28 rfl _ _ (w.heap.size + 1) _ rfl (setRow_heap _ _ _ _ _ _ hC.res) rfl) rfl ⟨?_, hC.ext.setRow _ _ hC.lr⟩
  rw [HF.out]
set_option maxRecDepth 100000 in
set_option maxHeartbeats 2000000 in
theorem RusedCall_8 (c : Cal) (w : World) (hk : c.kind = 8) : Calls Tryz.prog 51 #[.agg c.cells.toArray] w fun e w' => e = .returned (.agg c.used.cells.toArray) ∧ Ext w w' := by
  have HF : Hid (c.used = (((c.setI 1 0).setI 2 0).setI 5 0)) := by
    unfold Hid Cal.used
    simp [hk]
  have HK := Lib.hid hk
  clear hk
  obtain ⟨W0, hW0⟩ : ∃ W0, W0 = (w.alloc (.cells c.cells.toArray 28)).alloc (.cells (Cal.ofKind 0).cells.toArray 28) := ⟨_, rfl⟩
  have hC : UC w w.heap.size (w.heap.size + 1) c W0 := by
    subst hW0
    exact ⟨⟨rfl, by rw [two_first]; simp⟩, two_second _ _ _, (Ext.alloc _ _).trans (Ext.alloc _ _), by omega, by omega, by omega⟩
  have hcc : c.cells.toArray = #[.int .i64 c.kind, .int .i64 c.conn, .int .i64 c.stream, .int .i64 c.n, .string ⟨c.s.toArray⟩, .int .i64 c.code, .int .i64 c.loc, .int .i64 c.rem, .string ⟨c.tick.toArray⟩, .string ⟨c.sec.toArray⟩, .int .i64 c.p0, .int .i64 c.p1, .int .i64 c.p2, .int .i64 c.p3, .int .i64 c.p4, .int .i64 c.p5] := rfl
  rw [hcc, Cal.ofKind_eq] at hW0
  rw [hcc]
  clear hcc
  have HW := Lib.hid hW0
  clear hW0
  go_enter Tryz.func51, Tryz.ntmps51
  go_upto_region 1 with fail
  rw [← HW.out]
  clear HW
  have e9 : W0.cell? ⟨w.heap.size, 0, none⟩ = some (.int .i64 8) := by
    have := hC.cal.cell (k := 0) (v := .int .i64 c.kind) rfl
    rw [HK.out] at this
    simpa using this
  go_wp2_with (first
    | (refine wpList_UsetI rfl _ _ rfl _ rfl _ rfl hC rfl ?_; clear e9 hC; intro W1 hC; have e9 := True.intro)
    | (refine wpList_UsetS rfl _ _ rfl _ rfl [] rfl hC rfl ?_; clear e9 hC; intro W1 hC; have e9 := True.intro)
    | (refine wpList_Uses rfl _ _ rfl rfl rfl hC ?_; clear e9 hC; intro W1 hC; have e9 := True.intro)
    | refine wpList_ld28 rfl _ rfl _ _ rfl _ (fun j v hv => by have := hC.cal.cell hv; simpa using this) ?_
    | refine wpList_store28 rfl _ _ rfl _ _ rfl rfl _ hC.res rfl rfl (cal_one _) ?_)
  refine bodyPost_ret (res28 rfl _ _ (w.heap.size + 1) _ rfl (setRow_heap _ _ _ _ _ _ hC.res) rfl) rfl ⟨?_, hC.ext.setRow _ _ hC.lr⟩
  rw [HF.out]
set_option maxRecDepth 100000 in
set_option maxHeartbeats 2000000 in
theorem RusedCall_9 (c : Cal) (w : World) (hk : c.kind = 9) : Calls Tryz.prog 51 #[.agg c.cells.toArray] w fun e w' => e = .returned (.agg c.used.cells.toArray) ∧ Ext w w' := by
  have HF : Hid (c.used = (((c.setI 1 0).setI 2 0).setI 3 0)) := by
    unfold Hid Cal.used
    simp [hk]
  have HK := Lib.hid hk
  clear hk
  obtain ⟨W0, hW0⟩ : ∃ W0, W0 = (w.alloc (.cells c.cells.toArray 28)).alloc (.cells (Cal.ofKind 0).cells.toArray 28) := ⟨_, rfl⟩
  have hC : UC w w.heap.size (w.heap.size + 1) c W0 := by
    subst hW0
    exact ⟨⟨rfl, by rw [two_first]; simp⟩, two_second _ _ _, (Ext.alloc _ _).trans (Ext.alloc _ _), by omega, by omega, by omega⟩
  have hcc : c.cells.toArray = #[.int .i64 c.kind, .int .i64 c.conn, .int .i64 c.stream, .int .i64 c.n, .string ⟨c.s.toArray⟩, .int .i64 c.code, .int .i64 c.loc, .int .i64 c.rem, .string ⟨c.tick.toArray⟩, .string ⟨c.sec.toArray⟩, .int .i64 c.p0, .int .i64 c.p1, .int .i64 c.p2, .int .i64 c.p3, .int .i64 c.p4, .int .i64 c.p5] := rfl
  rw [hcc, Cal.ofKind_eq] at hW0
  rw [hcc]
  clear hcc
  have HW := Lib.hid hW0
  clear hW0
  go_enter Tryz.func51, Tryz.ntmps51
  go_upto_region 1 with fail
  rw [← HW.out]
  clear HW
  have e9 : W0.cell? ⟨w.heap.size, 0, none⟩ = some (.int .i64 9) := by
    have := hC.cal.cell (k := 0) (v := .int .i64 c.kind) rfl
    rw [HK.out] at this
    simpa using this
  go_wp2_with (first
    | (refine wpList_UsetI rfl _ _ rfl _ rfl _ rfl hC rfl ?_; clear e9 hC; intro W1 hC; have e9 := True.intro)
    | (refine wpList_UsetS rfl _ _ rfl _ rfl [] rfl hC rfl ?_; clear e9 hC; intro W1 hC; have e9 := True.intro)
    | (refine wpList_Uses rfl _ _ rfl rfl rfl hC ?_; clear e9 hC; intro W1 hC; have e9 := True.intro)
    | refine wpList_ld28 rfl _ rfl _ _ rfl _ (fun j v hv => by have := hC.cal.cell hv; simpa using this) ?_
    | refine wpList_store28 rfl _ _ rfl _ _ rfl rfl _ hC.res rfl rfl (cal_one _) ?_)
  refine bodyPost_ret (res28 rfl _ _ (w.heap.size + 1) _ rfl (setRow_heap _ _ _ _ _ _ hC.res) rfl) rfl ⟨?_, hC.ext.setRow _ _ hC.lr⟩
  rw [HF.out]
set_option maxRecDepth 100000 in
set_option maxHeartbeats 2000000 in
theorem RusedCall_10 (c : Cal) (w : World) (hk : c.kind = 10) : Calls Tryz.prog 51 #[.agg c.cells.toArray] w fun e w' => e = .returned (.agg c.used.cells.toArray) ∧ Ext w w' := by
  have HF : Hid (c.used = ((c.setI 1 0).setI 5 0)) := by
    unfold Hid Cal.used
    simp [hk]
  have HK := Lib.hid hk
  clear hk
  obtain ⟨W0, hW0⟩ : ∃ W0, W0 = (w.alloc (.cells c.cells.toArray 28)).alloc (.cells (Cal.ofKind 0).cells.toArray 28) := ⟨_, rfl⟩
  have hC : UC w w.heap.size (w.heap.size + 1) c W0 := by
    subst hW0
    exact ⟨⟨rfl, by rw [two_first]; simp⟩, two_second _ _ _, (Ext.alloc _ _).trans (Ext.alloc _ _), by omega, by omega, by omega⟩
  have hcc : c.cells.toArray = #[.int .i64 c.kind, .int .i64 c.conn, .int .i64 c.stream, .int .i64 c.n, .string ⟨c.s.toArray⟩, .int .i64 c.code, .int .i64 c.loc, .int .i64 c.rem, .string ⟨c.tick.toArray⟩, .string ⟨c.sec.toArray⟩, .int .i64 c.p0, .int .i64 c.p1, .int .i64 c.p2, .int .i64 c.p3, .int .i64 c.p4, .int .i64 c.p5] := rfl
  rw [hcc, Cal.ofKind_eq] at hW0
  rw [hcc]
  clear hcc
  have HW := Lib.hid hW0
  clear hW0
  go_enter Tryz.func51, Tryz.ntmps51
  go_upto_region 1 with fail
  rw [← HW.out]
  clear HW
  have e9 : W0.cell? ⟨w.heap.size, 0, none⟩ = some (.int .i64 10) := by
    have := hC.cal.cell (k := 0) (v := .int .i64 c.kind) rfl
    rw [HK.out] at this
    simpa using this
  go_wp2_with (first
    | (refine wpList_UsetI rfl _ _ rfl _ rfl _ rfl hC rfl ?_; clear e9 hC; intro W1 hC; have e9 := True.intro)
    | (refine wpList_UsetS rfl _ _ rfl _ rfl [] rfl hC rfl ?_; clear e9 hC; intro W1 hC; have e9 := True.intro)
    | (refine wpList_Uses rfl _ _ rfl rfl rfl hC ?_; clear e9 hC; intro W1 hC; have e9 := True.intro)
    | refine wpList_ld28 rfl _ rfl _ _ rfl _ (fun j v hv => by have := hC.cal.cell hv; simpa using this) ?_
    | refine wpList_store28 rfl _ _ rfl _ _ rfl rfl _ hC.res rfl rfl (cal_one _) ?_)
  refine bodyPost_ret (res28 rfl _ _ (w.heap.size + 1) _ rfl (setRow_heap _ _ _ _ _ _ hC.res) rfl) rfl ⟨?_, hC.ext.setRow _ _ hC.lr⟩
  rw [HF.out]
set_option maxRecDepth 100000 in
set_option maxHeartbeats 2000000 in
theorem RusedCall_11 (c : Cal) (w : World) (hk : c.kind = 11) : Calls Tryz.prog 51 #[.agg c.cells.toArray] w fun e w' => e = .returned (.agg c.used.cells.toArray) ∧ Ext w w' := by
  have HF : Hid (c.used = (c.setI 1 0)) := by
    unfold Hid Cal.used
    simp [hk]
  have HK := Lib.hid hk
  clear hk
  obtain ⟨W0, hW0⟩ : ∃ W0, W0 = (w.alloc (.cells c.cells.toArray 28)).alloc (.cells (Cal.ofKind 0).cells.toArray 28) := ⟨_, rfl⟩
  have hC : UC w w.heap.size (w.heap.size + 1) c W0 := by
    subst hW0
    exact ⟨⟨rfl, by rw [two_first]; simp⟩, two_second _ _ _, (Ext.alloc _ _).trans (Ext.alloc _ _), by omega, by omega, by omega⟩
  have hcc : c.cells.toArray = #[.int .i64 c.kind, .int .i64 c.conn, .int .i64 c.stream, .int .i64 c.n, .string ⟨c.s.toArray⟩, .int .i64 c.code, .int .i64 c.loc, .int .i64 c.rem, .string ⟨c.tick.toArray⟩, .string ⟨c.sec.toArray⟩, .int .i64 c.p0, .int .i64 c.p1, .int .i64 c.p2, .int .i64 c.p3, .int .i64 c.p4, .int .i64 c.p5] := rfl
  rw [hcc, Cal.ofKind_eq] at hW0
  rw [hcc]
  clear hcc
  have HW := Lib.hid hW0
  clear hW0
  go_enter Tryz.func51, Tryz.ntmps51
  go_upto_region 1 with fail
  rw [← HW.out]
  clear HW
  have e9 : W0.cell? ⟨w.heap.size, 0, none⟩ = some (.int .i64 11) := by
    have := hC.cal.cell (k := 0) (v := .int .i64 c.kind) rfl
    rw [HK.out] at this
    simpa using this
  go_wp2_with (first
    | (refine wpList_UsetI rfl _ _ rfl _ rfl _ rfl hC rfl ?_; clear e9 hC; intro W1 hC; have e9 := True.intro)
    | (refine wpList_UsetS rfl _ _ rfl _ rfl [] rfl hC rfl ?_; clear e9 hC; intro W1 hC; have e9 := True.intro)
    | (refine wpList_Uses rfl _ _ rfl rfl rfl hC ?_; clear e9 hC; intro W1 hC; have e9 := True.intro)
    | refine wpList_ld28 rfl _ rfl _ _ rfl _ (fun j v hv => by have := hC.cal.cell hv; simpa using this) ?_
    | refine wpList_store28 rfl _ _ rfl _ _ rfl rfl _ hC.res rfl rfl (cal_one _) ?_)
  refine bodyPost_ret (res28 rfl _ _ (w.heap.size + 1) _ rfl (setRow_heap _ _ _ _ _ _ hC.res) rfl) rfl ⟨?_, hC.ext.setRow _ _ hC.lr⟩
  rw [HF.out]
set_option maxRecDepth 100000 in
set_option maxHeartbeats 2000000 in
theorem RusedCall_12 (c : Cal) (w : World) (hk : c.kind = 12) : Calls Tryz.prog 51 #[.agg c.cells.toArray] w fun e w' => e = .returned (.agg c.used.cells.toArray) ∧ Ext w w' := by
  have HF : Hid (c.used = ((c.setI 1 0).setI 6 0)) := by
    unfold Hid Cal.used
    simp [hk]
  have HK := Lib.hid hk
  clear hk
  obtain ⟨W0, hW0⟩ : ∃ W0, W0 = (w.alloc (.cells c.cells.toArray 28)).alloc (.cells (Cal.ofKind 0).cells.toArray 28) := ⟨_, rfl⟩
  have hC : UC w w.heap.size (w.heap.size + 1) c W0 := by
    subst hW0
    exact ⟨⟨rfl, by rw [two_first]; simp⟩, two_second _ _ _, (Ext.alloc _ _).trans (Ext.alloc _ _), by omega, by omega, by omega⟩
  have hcc : c.cells.toArray = #[.int .i64 c.kind, .int .i64 c.conn, .int .i64 c.stream, .int .i64 c.n, .string ⟨c.s.toArray⟩, .int .i64 c.code, .int .i64 c.loc, .int .i64 c.rem, .string ⟨c.tick.toArray⟩, .string ⟨c.sec.toArray⟩, .int .i64 c.p0, .int .i64 c.p1, .int .i64 c.p2, .int .i64 c.p3, .int .i64 c.p4, .int .i64 c.p5] := rfl
  rw [hcc, Cal.ofKind_eq] at hW0
  rw [hcc]
  clear hcc
  have HW := Lib.hid hW0
  clear hW0
  go_enter Tryz.func51, Tryz.ntmps51
  go_upto_region 1 with fail
  rw [← HW.out]
  clear HW
  have e9 : W0.cell? ⟨w.heap.size, 0, none⟩ = some (.int .i64 12) := by
    have := hC.cal.cell (k := 0) (v := .int .i64 c.kind) rfl
    rw [HK.out] at this
    simpa using this
  go_wp2_with (first
    | (refine wpList_UsetI rfl _ _ rfl _ rfl _ rfl hC rfl ?_; clear e9 hC; intro W1 hC; have e9 := True.intro)
    | (refine wpList_UsetS rfl _ _ rfl _ rfl [] rfl hC rfl ?_; clear e9 hC; intro W1 hC; have e9 := True.intro)
    | (refine wpList_Uses rfl _ _ rfl rfl rfl hC ?_; clear e9 hC; intro W1 hC; have e9 := True.intro)
    | refine wpList_ld28 rfl _ rfl _ _ rfl _ (fun j v hv => by have := hC.cal.cell hv; simpa using this) ?_
    | refine wpList_store28 rfl _ _ rfl _ _ rfl rfl _ hC.res rfl rfl (cal_one _) ?_)
  refine bodyPost_ret (res28 rfl _ _ (w.heap.size + 1) _ rfl (setRow_heap _ _ _ _ _ _ hC.res) rfl) rfl ⟨?_, hC.ext.setRow _ _ hC.lr⟩
  rw [HF.out]
set_option maxRecDepth 100000 in
set_option maxHeartbeats 2000000 in
theorem RusedCall_13 (c : Cal) (w : World) (hk : c.kind = 13) : Calls Tryz.prog 51 #[.agg c.cells.toArray] w fun e w' => e = .returned (.agg c.used.cells.toArray) ∧ Ext w w' := by
  have HF : Hid (c.used = (c.setI 1 0)) := by
    unfold Hid Cal.used
    simp [hk]
  have HK := Lib.hid hk
  clear hk
  obtain ⟨W0, hW0⟩ : ∃ W0, W0 = (w.alloc (.cells c.cells.toArray 28)).alloc (.cells (Cal.ofKind 0).cells.toArray 28) := ⟨_, rfl⟩
  have hC : UC w w.heap.size (w.heap.size + 1) c W0 := by
    subst hW0
    exact ⟨⟨rfl, by rw [two_first]; simp⟩, two_second _ _ _, (Ext.alloc _ _).trans (Ext.alloc _ _), by omega, by omega, by omega⟩
  have hcc : c.cells.toArray = #[.int .i64 c.kind, .int .i64 c.conn, .int .i64 c.stream, .int .i64 c.n, .string ⟨c.s.toArray⟩, .int .i64 c.code, .int .i64 c.loc, .int .i64 c.rem, .string ⟨c.tick.toArray⟩, .string ⟨c.sec.toArray⟩, .int .i64 c.p0, .int .i64 c.p1, .int .i64 c.p2, .int .i64 c.p3, .int .i64 c.p4, .int .i64 c.p5] := rfl
  rw [hcc, Cal.ofKind_eq] at hW0
  rw [hcc]
  clear hcc
  have HW := Lib.hid hW0
  clear hW0
  go_enter Tryz.func51, Tryz.ntmps51
  go_upto_region 1 with fail
  rw [← HW.out]
  clear HW
  have e9 : W0.cell? ⟨w.heap.size, 0, none⟩ = some (.int .i64 13) := by
    have := hC.cal.cell (k := 0) (v := .int .i64 c.kind) rfl
    rw [HK.out] at this
    simpa using this
  go_wp2_with (first
    | (refine wpList_UsetI rfl _ _ rfl _ rfl _ rfl hC rfl ?_; clear e9 hC; intro W1 hC; have e9 := True.intro)
    | (refine wpList_UsetS rfl _ _ rfl _ rfl [] rfl hC rfl ?_; clear e9 hC; intro W1 hC; have e9 := True.intro)
    | (refine wpList_Uses rfl _ _ rfl rfl rfl hC ?_; clear e9 hC; intro W1 hC; have e9 := True.intro)
    | refine wpList_ld28 rfl _ rfl _ _ rfl _ (fun j v hv => by have := hC.cal.cell hv; simpa using this) ?_
    | refine wpList_store28 rfl _ _ rfl _ _ rfl rfl _ hC.res rfl rfl (cal_one _) ?_)
  refine bodyPost_ret (res28 rfl _ _ (w.heap.size + 1) _ rfl (setRow_heap _ _ _ _ _ _ hC.res) rfl) rfl ⟨?_, hC.ext.setRow _ _ hC.lr⟩
  rw [HF.out]
set_option maxRecDepth 100000 in
set_option maxHeartbeats 2000000 in
theorem RusedCall_0 (c : Cal) (w : World) (h1 : c.kind ≠ 1) (h3 : c.kind ≠ 3) (h4 : c.kind ≠ 4) (h5 : c.kind ≠ 5) (h6 : c.kind ≠ 6) (h7 : c.kind ≠ 7) (h8 : c.kind ≠ 8) (h9 : c.kind ≠ 9) (h10 : c.kind ≠ 10) (h11 : c.kind ≠ 11) (h12 : c.kind ≠ 12) (h13 : c.kind ≠ 13) : Calls Tryz.prog 51 #[.agg c.cells.toArray] w fun e w' => e = .returned (.agg c.used.cells.toArray) ∧ Ext w w' := by
  have HF : Hid (c.used = c) := by
    unfold Hid Cal.used
    simp [h1, h3, h4, h5, h6, h7, h8, h9, h10, h11, h12, h13]
  have g1 : (c.kind == 1) = false := beq_eq_false_iff_ne.2 h1
  have g3 : (c.kind == 3) = false := beq_eq_false_iff_ne.2 h3
  have g4 : (c.kind == 4) = false := beq_eq_false_iff_ne.2 h4
  have g5 : (c.kind == 5) = false := beq_eq_false_iff_ne.2 h5
  have g6 : (c.kind == 6) = false := beq_eq_false_iff_ne.2 h6
  have g7 : (c.kind == 7) = false := beq_eq_false_iff_ne.2 h7
  have g8 : (c.kind == 8) = false := beq_eq_false_iff_ne.2 h8
  have g9 : (c.kind == 9) = false := beq_eq_false_iff_ne.2 h9
  have g10 : (c.kind == 10) = false := beq_eq_false_iff_ne.2 h10
  have g11 : (c.kind == 11) = false := beq_eq_false_iff_ne.2 h11
  have g12 : (c.kind == 12) = false := beq_eq_false_iff_ne.2 h12
  have g13 : (c.kind == 13) = false := beq_eq_false_iff_ne.2 h13
  clear h1 h3 h4 h5 h6 h7 h8 h9 h10 h11 h12 h13
  obtain ⟨W0, hW0⟩ : ∃ W0, W0 = (w.alloc (.cells c.cells.toArray 28)).alloc (.cells (Cal.ofKind 0).cells.toArray 28) := ⟨_, rfl⟩
  have hC : UC w w.heap.size (w.heap.size + 1) c W0 := by
    subst hW0
    exact ⟨⟨rfl, by rw [two_first]; simp⟩, two_second _ _ _, (Ext.alloc _ _).trans (Ext.alloc _ _), by omega, by omega, by omega⟩
  have hcc : c.cells.toArray = #[.int .i64 c.kind, .int .i64 c.conn, .int .i64 c.stream, .int .i64 c.n, .string ⟨c.s.toArray⟩, .int .i64 c.code, .int .i64 c.loc, .int .i64 c.rem, .string ⟨c.tick.toArray⟩, .string ⟨c.sec.toArray⟩, .int .i64 c.p0, .int .i64 c.p1, .int .i64 c.p2, .int .i64 c.p3, .int .i64 c.p4, .int .i64 c.p5] := rfl
  rw [hcc, Cal.ofKind_eq] at hW0
  rw [hcc]
  clear hcc
  have HW := Lib.hid hW0
  clear hW0
  go_enter Tryz.func51, Tryz.ntmps51
  go_upto_region 1 with fail
  rw [← HW.out]
  clear HW
  have e9 : W0.cell? ⟨w.heap.size, 0, none⟩ = some (.int .i64 c.kind) := by
    have := hC.cal.cell (k := 0) (v := .int .i64 c.kind) rfl
    simpa using this
  go_wp2_with (first
    | (refine wpList_UsetI rfl _ _ rfl _ rfl _ rfl hC rfl ?_; clear e9 hC; intro W1 hC; have e9 := True.intro)
    | (refine wpList_UsetS rfl _ _ rfl _ rfl [] rfl hC rfl ?_; clear e9 hC; intro W1 hC; have e9 := True.intro)
    | (refine wpList_Uses rfl _ _ rfl rfl rfl hC ?_; clear e9 hC; intro W1 hC; have e9 := True.intro)
    | refine wpList_ld28 rfl _ rfl _ _ rfl _ (fun j v hv => by have := hC.cal.cell hv; simpa using this) ?_
    | refine wpList_store28 rfl _ _ rfl _ _ rfl rfl _ hC.res rfl rfl (cal_one _) ?_)
  refine bodyPost_ret (res28 rfl _ _ (w.heap.size + 1) _ rfl (setRow_heap _ _ _ _ _ _ hC.res) rfl) rfl ⟨?_, hC.ext.setRow _ _ hC.lr⟩
  rw [HF.out]
theorem RusedCall_any (c : Cal) (w : World) : Calls Tryz.prog 51 #[.agg c.cells.toArray] w fun e w' => e = .returned (.agg c.used.cells.toArray) ∧ Ext w w' := by
  by_cases h1 : c.kind = 1
  · exact RusedCall_1 c w h1
  by_cases h3 : c.kind = 3
  · exact RusedCall_3 c w h3
  by_cases h4 : c.kind = 4
  · exact RusedCall_4 c w h4
  by_cases h5 : c.kind = 5
  · exact RusedCall_5 c w h5
  by_cases h6 : c.kind = 6
  · exact RusedCall_6 c w h6
  by_cases h7 : c.kind = 7
  · exact RusedCall_7 c w h7
  by_cases h8 : c.kind = 8
  · exact RusedCall_8 c w h8
  by_cases h9 : c.kind = 9
  · exact RusedCall_9 c w h9
  by_cases h10 : c.kind = 10
  · exact RusedCall_10 c w h10
  by_cases h11 : c.kind = 11
  · exact RusedCall_11 c w h11
  by_cases h12 : c.kind = 12
  · exact RusedCall_12 c w h12
  by_cases h13 : c.kind = 13
  · exact RusedCall_13 c w h13
  exact RusedCall_0 c w h1 h3 h4 h5 h6 h7 h8 h9 h10 h11 h12 h13
end Go.Proofs.YtikmoledbiepoaaGreatDoor
/- The reference's validCall: the plain law (printed by wip/gen_rok.py). -/
namespace Go.Proofs.YtikmoledbiepoaaGreatDoor
open Go.RowKit
set_option linter.unusedSimpArgs false
def inW (n m : Int) : Bool := decide (0 ≤ n) && decide (n ≤ m)
/-- The reference's validCall. -/
def Cal.rok (c : Cal) : Bool :=
  !(decide (c.kind < 1) || decide (13 < c.kind) || !(c.used.eqb (Cal.ofKind c.kind))) && (c.sessOk && (inW c.loc 65535 && (inW c.rem 65535 && (inW c.conn 1073741823 && (inW c.stream 1073741823 && (inW c.code 1073741823 && (inW c.n (if c.kind = 3 then 1 else 1073741823) && decide (c.s.length ≤ 2000))))))))
theorem line2 (c : Cal) : c.line.2 = (c.lineOk && (copyAll (formOf c.key.toNat).2 c (Cal.ofKind c.kind)).eqb c) := by
  unfold Cal.line
  cases c.lineOk <;> rfl
theorem rok_2 (c : Cal) (hk : c.kind = 2) : c.rok = c.line.2 := by
  rw [line2]
  rcases c with ⟨k, conn, stream, n, s, code, loc, rem, tick, sec, p0, p1, p2, p3, p4, p5⟩
  cases hk
  rw [Bool.eq_iff_iff]
  simp [Cal.rok, inW, Cal.lineOk, Cal.key, formOf, wr, fConn, fStream, fS, fN, fCode, fLocal, fRemote, fDir, fTicket, fSecret, fPar, Cal.used, Cal.eqb, Cal.ofKind, copyAll, copyF, Cal.setI, Cal.setS, Cal.getI, Cal.getS, Cal.sessOk, Cal.noSess]
  constructor
  · intro h
    simp_all
  · intro h
    simp_all
    try omega
theorem rok_4 (c : Cal) (hk : c.kind = 4) : c.rok = c.line.2 := by
  rw [line2]
  rcases c with ⟨k, conn, stream, n, s, code, loc, rem, tick, sec, p0, p1, p2, p3, p4, p5⟩
  cases hk
  rw [Bool.eq_iff_iff]
  simp [Cal.rok, inW, Cal.lineOk, Cal.key, formOf, wr, fConn, fStream, fS, fN, fCode, fLocal, fRemote, fDir, fTicket, fSecret, fPar, Cal.used, Cal.eqb, Cal.ofKind, copyAll, copyF, Cal.setI, Cal.setS, Cal.getI, Cal.getS, Cal.sessOk, Cal.noSess]
  constructor
  · intro h
    simp_all
  · intro h
    simp_all
    try omega
theorem rok_5 (c : Cal) (hk : c.kind = 5) : c.rok = c.line.2 := by
  rw [line2]
  rcases c with ⟨k, conn, stream, n, s, code, loc, rem, tick, sec, p0, p1, p2, p3, p4, p5⟩
  cases hk
  rw [Bool.eq_iff_iff]
  simp [Cal.rok, inW, Cal.lineOk, Cal.key, formOf, wr, fConn, fStream, fS, fN, fCode, fLocal, fRemote, fDir, fTicket, fSecret, fPar, Cal.used, Cal.eqb, Cal.ofKind, copyAll, copyF, Cal.setI, Cal.setS, Cal.getI, Cal.getS, Cal.sessOk, Cal.noSess]
  constructor
  · intro h
    simp_all
  · intro h
    simp_all
    try omega
theorem rok_6 (c : Cal) (hk : c.kind = 6) : c.rok = c.line.2 := by
  rw [line2]
  rcases c with ⟨k, conn, stream, n, s, code, loc, rem, tick, sec, p0, p1, p2, p3, p4, p5⟩
  cases hk
  rw [Bool.eq_iff_iff]
  simp [Cal.rok, inW, Cal.lineOk, Cal.key, formOf, wr, fConn, fStream, fS, fN, fCode, fLocal, fRemote, fDir, fTicket, fSecret, fPar, Cal.used, Cal.eqb, Cal.ofKind, copyAll, copyF, Cal.setI, Cal.setS, Cal.getI, Cal.getS, Cal.sessOk, Cal.noSess]
  constructor
  · intro h
    simp_all
  · intro h
    simp_all
    try omega
theorem rok_7 (c : Cal) (hk : c.kind = 7) : c.rok = c.line.2 := by
  rw [line2]
  rcases c with ⟨k, conn, stream, n, s, code, loc, rem, tick, sec, p0, p1, p2, p3, p4, p5⟩
  cases hk
  rw [Bool.eq_iff_iff]
  simp [Cal.rok, inW, Cal.lineOk, Cal.key, formOf, wr, fConn, fStream, fS, fN, fCode, fLocal, fRemote, fDir, fTicket, fSecret, fPar, Cal.used, Cal.eqb, Cal.ofKind, copyAll, copyF, Cal.setI, Cal.setS, Cal.getI, Cal.getS, Cal.sessOk, Cal.noSess]
  constructor
  · intro h
    simp_all
  · intro h
    simp_all
    try omega
theorem rok_8 (c : Cal) (hk : c.kind = 8) : c.rok = c.line.2 := by
  rw [line2]
  rcases c with ⟨k, conn, stream, n, s, code, loc, rem, tick, sec, p0, p1, p2, p3, p4, p5⟩
  cases hk
  rw [Bool.eq_iff_iff]
  simp [Cal.rok, inW, Cal.lineOk, Cal.key, formOf, wr, fConn, fStream, fS, fN, fCode, fLocal, fRemote, fDir, fTicket, fSecret, fPar, Cal.used, Cal.eqb, Cal.ofKind, copyAll, copyF, Cal.setI, Cal.setS, Cal.getI, Cal.getS, Cal.sessOk, Cal.noSess]
  constructor
  · intro h
    simp_all
  · intro h
    simp_all
    try omega
theorem rok_9 (c : Cal) (hk : c.kind = 9) : c.rok = c.line.2 := by
  rw [line2]
  rcases c with ⟨k, conn, stream, n, s, code, loc, rem, tick, sec, p0, p1, p2, p3, p4, p5⟩
  cases hk
  rw [Bool.eq_iff_iff]
  simp [Cal.rok, inW, Cal.lineOk, Cal.key, formOf, wr, fConn, fStream, fS, fN, fCode, fLocal, fRemote, fDir, fTicket, fSecret, fPar, Cal.used, Cal.eqb, Cal.ofKind, copyAll, copyF, Cal.setI, Cal.setS, Cal.getI, Cal.getS, Cal.sessOk, Cal.noSess]
  constructor
  · intro h
    simp_all
  · intro h
    simp_all
    try omega
theorem rok_10 (c : Cal) (hk : c.kind = 10) : c.rok = c.line.2 := by
  rw [line2]
  rcases c with ⟨k, conn, stream, n, s, code, loc, rem, tick, sec, p0, p1, p2, p3, p4, p5⟩
  cases hk
  rw [Bool.eq_iff_iff]
  simp [Cal.rok, inW, Cal.lineOk, Cal.key, formOf, wr, fConn, fStream, fS, fN, fCode, fLocal, fRemote, fDir, fTicket, fSecret, fPar, Cal.used, Cal.eqb, Cal.ofKind, copyAll, copyF, Cal.setI, Cal.setS, Cal.getI, Cal.getS, Cal.sessOk, Cal.noSess]
  constructor
  · intro h
    simp_all
  · intro h
    simp_all
    try omega
theorem rok_11 (c : Cal) (hk : c.kind = 11) : c.rok = c.line.2 := by
  rw [line2]
  rcases c with ⟨k, conn, stream, n, s, code, loc, rem, tick, sec, p0, p1, p2, p3, p4, p5⟩
  cases hk
  rw [Bool.eq_iff_iff]
  simp [Cal.rok, inW, Cal.lineOk, Cal.key, formOf, wr, fConn, fStream, fS, fN, fCode, fLocal, fRemote, fDir, fTicket, fSecret, fPar, Cal.used, Cal.eqb, Cal.ofKind, copyAll, copyF, Cal.setI, Cal.setS, Cal.getI, Cal.getS, Cal.sessOk, Cal.noSess]
  constructor
  · intro h
    simp_all
  · intro h
    simp_all
    try omega
theorem rok_12 (c : Cal) (hk : c.kind = 12) : c.rok = c.line.2 := by
  rw [line2]
  rcases c with ⟨k, conn, stream, n, s, code, loc, rem, tick, sec, p0, p1, p2, p3, p4, p5⟩
  cases hk
  rw [Bool.eq_iff_iff]
  simp [Cal.rok, inW, Cal.lineOk, Cal.key, formOf, wr, fConn, fStream, fS, fN, fCode, fLocal, fRemote, fDir, fTicket, fSecret, fPar, Cal.used, Cal.eqb, Cal.ofKind, copyAll, copyF, Cal.setI, Cal.setS, Cal.getI, Cal.getS, Cal.sessOk, Cal.noSess]
  constructor
  · intro h
    simp_all
  · intro h
    simp_all
    try omega
theorem rok_13 (c : Cal) (hk : c.kind = 13) : c.rok = c.line.2 := by
  rw [line2]
  rcases c with ⟨k, conn, stream, n, s, code, loc, rem, tick, sec, p0, p1, p2, p3, p4, p5⟩
  cases hk
  rw [Bool.eq_iff_iff]
  simp [Cal.rok, inW, Cal.lineOk, Cal.key, formOf, wr, fConn, fStream, fS, fN, fCode, fLocal, fRemote, fDir, fTicket, fSecret, fPar, Cal.used, Cal.eqb, Cal.ofKind, copyAll, copyF, Cal.setI, Cal.setS, Cal.getI, Cal.getS, Cal.sessOk, Cal.noSess]
  constructor
  · intro h
    simp_all
  · intro h
    simp_all
    try omega
theorem rok_3 (c : Cal) (hk : c.kind = 3) : c.rok = c.line.2 := by
  rw [line2]
  rcases c with ⟨k, conn, stream, n, s, code, loc, rem, tick, sec, p0, p1, p2, p3, p4, p5⟩
  cases hk
  rw [Bool.eq_iff_iff]
  by_cases h1 : n = 1
  · subst h1
    simp [Cal.rok, inW, Cal.lineOk, Cal.key, formOf, wr, fConn, fStream, fS, fN, fCode, fLocal, fRemote, fDir, fTicket, fSecret, fPar, Cal.used, Cal.eqb, Cal.ofKind, copyAll, copyF, Cal.setI, Cal.setS, Cal.getI, Cal.getS, Cal.sessOk, Cal.noSess]
    constructor
    · intro h
      simp_all
    · intro h
      simp_all
      omega
  · by_cases h0 : n = 0
    · subst h0
      simp [Cal.rok, inW, Cal.lineOk, Cal.key, formOf, wr, fConn, fStream, fS, fN, fCode, fLocal, fRemote, fDir, fTicket, fSecret, fPar, Cal.used, Cal.eqb, Cal.ofKind, copyAll, copyF, Cal.setI, Cal.setS, Cal.getI, Cal.getS, Cal.sessOk, Cal.noSess]
      constructor
      · intro h
        simp_all
      · intro h
        simp_all
        omega
    · simp [Cal.rok, inW, Cal.lineOk, Cal.key, formOf, wr, fConn, fStream, fS, fN, fCode, fLocal, fRemote, fDir, fTicket, fSecret, fPar, Cal.used, Cal.eqb, Cal.ofKind, copyAll, copyF, Cal.setI, Cal.setS, Cal.getI, Cal.getS, Cal.sessOk, Cal.noSess, h1, h0]
      intro h
      omega
end Go.Proofs.YtikmoledbiepoaaGreatDoor
/- The reference's validCall: the plain law, all kinds. -/
namespace Go.Proofs.YtikmoledbiepoaaGreatDoor
open Go.RowKit
set_option linter.unusedSimpArgs false
theorem rok_out (c : Cal) (h : c.kind < 1 ∨ 13 < c.kind) : c.rok = c.line.2 := by
  have h1 : c.rok = false := by
    unfold Cal.rok
    rcases h with h | h <;> simp [h]
  have h2 : c.lineOk = false := by
    unfold Cal.lineOk Cal.key
    have hk : ¬ c.kind = 1 := by omega
    simp only [hk, false_and, if_false]
    by_cases h0 : c.kind = 0
    · simp [h0]
    · have : ¬ (0 ≤ c.kind ∧ c.kind < 14) := by omega
      simp [this]
  rw [line2, h1, h2]
  rfl
theorem rok_1a (c : Cal) (hk : c.kind = 1) (hn : c.noSess = true) : c.rok = c.line.2 := by
  rw [line2]
  rcases c with ⟨k, conn, stream, n, s, code, loc, rem, tick, sec, p0, p1, p2, p3, p4, p5⟩
  cases hk
  rw [Bool.eq_iff_iff]
  simp [Cal.noSess] at hn
  obtain ⟨rfl, rfl, rfl, rfl, rfl, rfl, rfl, rfl⟩ := hn
  simp [Cal.rok, inW, Cal.lineOk, Cal.key, formOf, wr, fConn, fStream, fS, fN, fCode, fLocal, fRemote, fDir, fTicket, fSecret, fPar, Cal.used, Cal.eqb, Cal.ofKind, copyAll, copyF, Cal.setI, Cal.setS, Cal.getI, Cal.getS, Cal.sessOk, Cal.noSess]
  constructor
  · intro h
    simp_all
  · intro h
    simp_all
    try omega
theorem rok_1b (c : Cal) (hk : c.kind = 1) (hn : c.noSess = false) : c.rok = c.line.2 := by
  rw [line2]
  have hkey : c.key = 0 := by unfold Cal.key; rw [if_pos ⟨hk, hn⟩]
  unfold Cal.lineOk Cal.rok
  rw [hkey]
  have hso : c.sessOk = (decide (1 ≤ c.tick.length) && decide (c.tick.length ≤ 200) && (c.sec.length == 16) && c.parOk) := by unfold Cal.sessOk; rw [hn]; rfl
  rw [hso]
  clear hso hkey hn
  rcases c with ⟨k, conn, stream, n, s, code, loc, rem, tick, sec, p0, p1, p2, p3, p4, p5⟩
  cases hk
  rw [Bool.eq_iff_iff]
  simp [inW, formOf, wr, fConn, fStream, fS, fN, fCode, fLocal, fRemote, fDir, fTicket, fSecret, fPar, Cal.used, Cal.eqb, Cal.ofKind, copyAll, copyF, Cal.setI, Cal.setS, Cal.getI, Cal.getS, Cal.parOk]
  constructor
  · intro h
    simp_all
    try omega
  · intro h
    simp_all
    try omega
theorem rok_line (c : Cal) : c.rok = c.line.2 := by
  by_cases h : c.kind < 1 ∨ 13 < c.kind
  · exact rok_out c h
  · have h13 : c.kind = 1 ∨ c.kind = 2 ∨ c.kind = 3 ∨ c.kind = 4 ∨ c.kind = 5 ∨ c.kind = 6 ∨ c.kind = 7 ∨ c.kind = 8 ∨ c.kind = 9 ∨ c.kind = 10 ∨ c.kind = 11 ∨ c.kind = 12 ∨ c.kind = 13 := by omega
    rcases h13 with e | e | e | e | e | e | e | e | e | e | e | e | e
    · cases hn : c.noSess with
      | true => exact rok_1a c e hn
      | false => exact rok_1b c e hn
    · exact rok_2 c e
    · exact rok_3 c e
    · exact rok_4 c e
    · exact rok_5 c e
    · exact rok_6 c e
    · exact rok_7 c e
    · exact rok_8 c e
    · exact rok_9 c e
    · exact rok_10 c e
    · exact rok_11 c e
    · exact rok_12 c e
    · exact rok_13 c e
end Go.Proofs.YtikmoledbiepoaaGreatDoor

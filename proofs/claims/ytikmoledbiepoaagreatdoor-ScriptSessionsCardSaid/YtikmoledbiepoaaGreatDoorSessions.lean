/- The plain law of ScriptSessions. -/
import Derived.Test.YtikmoledbiepoaaGreatDoorLaws
import Derived.Test.YtikmoledbiepoaaGreatDoorBuilt
import Derived.Test.YtikmoledbiepoaaGreatDoorOpen
namespace Go.Proofs.YtikmoledbiepoaaGreatDoor
open Go.RowKit
/-- The dialling action with its session. -/
def sAc (T S : List UInt8) (p q r s t u : Int) : Ac := { Ac.none 1 with call := ⟨1, 0, 0, 0, [], 0, 1, 100, T, S, p, q, r, s, t, u⟩ }
section
variable {T S : List UInt8} {p q r s t u : Int}
theorem sAc_noSess (hS : S ≠ []) : (sAc T S p q r s t u).call.noSess = false := by
  simp [Cal.noSess, sAc, Ac.none, hS]
theorem sAc_key (hS : S ≠ []) : (sAc T S p q r s t u).call.key = 0 := by
  unfold Cal.key
  rw [if_pos ⟨rfl, sAc_noSess hS⟩]
theorem sAc_copy : copyAll (formOf 0).2 (sAc T S p q r s t u).call (Cal.ofKind 1) = (sAc T S p q r s t u).call := rfl
theorem sAc_lineOk (hS : S ≠ []) : (sAc T S p q r s t u).call.lineOk = ((sAc T S p q r s t u).call.parOk && (decide (1 ≤ T.length) && decide (T.length ≤ 200) && (S.length == 16))) := by
  unfold Cal.lineOk
  rw [sAc_key hS]
  unfold Cal.sessOk
  rw [sAc_noSess hS, Bool.false_or]
  show ((true && (decide (1 ≤ T.length) && decide (T.length ≤ 200) && (S.length == 16) && (sAc T S p q r s t u).call.parOk)) && _) = _
  rw [Bool.true_and, Bool.and_comm _ (Cal.parOk _)]
  cases hR : ((sAc T S p q r s t u).call.parOk && (decide (1 ≤ T.length) && decide (T.length ≤ 200) && (S.length == 16))) with
  | false => rfl
  | true =>
    rw [Bool.true_and]
    simp only [Bool.and_eq_true, decide_eq_true_eq, beq_iff_eq, Cal.parOk] at hR
    obtain ⟨⟨⟨⟨⟨⟨b0, b1⟩, b2⟩, b3⟩, b4⟩, b5⟩, ⟨l1, l2⟩, l3⟩ := hR
    have b0 : 0 ≤ p ∧ p ≤ 1073741824 := b0
    have b1 : 0 ≤ q ∧ q ≤ 1073741824 := b1
    have b2 : 0 ≤ r ∧ r ≤ 64 := b2
    have b3 : 0 ≤ s ∧ s ≤ 64 := b3
    have b4 : 0 ≤ t ∧ t ≤ 20 := b4
    have b5 : 50 ≤ u ∧ u ≤ 100000 := b5
    refine all_of fun f hf => ?_
    have hf : f = fLocal ∨ f = fRemote ∨ f = fTicket ∨ f = fSecret ∨ f = fPar 0 ∨ f = fPar 1 ∨ f = fPar 2 ∨ f = fPar 3 ∨ f = fPar 4 ∨ f = fPar 5 := by simpa [formOf] using hf
    rcases hf with rfl | rfl | rfl | rfl | rfl | rfl | rfl | rfl | rfl | rfl
    · exact wr_ints rfl rfl
    · exact wr_ints rfl rfl
    · refine wr_strs rfl ?_
      show decide (T.length ≤ 200) = true
      simp only [decide_eq_true_eq]; omega
    · refine wr_strs rfl ?_
      show decide (S.length ≤ 16) = true
      simp only [decide_eq_true_eq]; omega
    · refine wr_ints rfl ?_
      show (decide (0 ≤ p) && decide (p ≤ ((4611686018427387903 : Nat) : Int))) = true
      simp only [Bool.and_eq_true, decide_eq_true_eq]; omega
    · refine wr_ints rfl ?_
      show (decide (0 ≤ q) && decide (q ≤ ((4611686018427387903 : Nat) : Int))) = true
      simp only [Bool.and_eq_true, decide_eq_true_eq]; omega
    · refine wr_ints rfl ?_
      show (decide (0 ≤ r) && decide (r ≤ ((4611686018427387903 : Nat) : Int))) = true
      simp only [Bool.and_eq_true, decide_eq_true_eq]; omega
    · refine wr_ints rfl ?_
      show (decide (0 ≤ s) && decide (s ≤ ((4611686018427387903 : Nat) : Int))) = true
      simp only [Bool.and_eq_true, decide_eq_true_eq]; omega
    · refine wr_ints rfl ?_
      show (decide (0 ≤ t) && decide (t ≤ ((4611686018427387903 : Nat) : Int))) = true
      simp only [Bool.and_eq_true, decide_eq_true_eq]; omega
    · refine wr_ints rfl ?_
      show (decide (0 ≤ u) && decide (u ≤ ((4611686018427387903 : Nat) : Int))) = true
      simp only [Bool.and_eq_true, decide_eq_true_eq]; omega
theorem sAc_ok (hS : S ≠ []) : (sAc T S p q r s t u).line.2 = ((sAc T S p q r s t u).call.parOk && (decide (1 ≤ T.length) && decide (T.length ≤ 200) && (S.length == 16))) := by
  rw [← sAc_lineOk hS]
  have h1 : (sAc T S p q r s t u).eqb (sAc T S p q r s t u).want = true := (Ac.eqb_iff _ _).2 rfl
  have h2 : (sAc T S p q r s t u).call.line.2 = (sAc T S p q r s t u).call.lineOk := by
    unfold Cal.line
    cases h : (sAc T S p q r s t u).call.lineOk with
    | false => rfl
    | true =>
      rw [if_pos rfl, sAc_key hS]
      exact (Cal.eqb_iff _ _).2 sAc_copy
  unfold Ac.line
  rw [if_neg (by intro h; exact absurd h.2 (by show ¬ (inR 0 1 = false); decide))]
  show ((sAc T S p q r s t u).ok && _) = _
  rw [h1, Bool.and_true, ← h2]
  rfl
end
/-- One action, printed and read. -/
theorem lines1 (a : Ac) : linesOf [a] = a.line.1 ++ [10] := by simp [linesOf]
theorem print1 (a : Ac) (h : a.line.2 = true) : printL [a] = (a.line.1 ++ [10], 0) := by
  rw [printL_ok [a] (by simp [okL, h]) (by simp), lines1]
theorem print0 (a : Ac) (h : a.line.2 = false) : printL [a] = ([], 290) := by
  unfold printL
  rw [if_neg]
  simp [h]
theorem parse1 (a : Ac) (h : a.line.2 = true) : ParseR (a.line.1 ++ [10]) = .ok [a] := by
  rw [← lines1]
  exact ParseR_lines [a] (by simp [okL, h]) (by simp)
theorem parse0 : ParseR [] = .ok [] := by kernel_rfl
theorem same1 (a : Ac) : sameL [a] [a] = true := (sameL_iff _ _).2 rfl
theorem sAc_fit {T S : List UInt8} {p q r s t u : Int} (hT : T.length ≤ 2147483648) (hS : S.length ≤ 2147483648) (k0 : IntFit p) (k1 : IntFit q) (k2 : IntFit r) (k3 : IntFit s) (k4 : IntFit t) (k5 : IntFit u) : AcFit (sAc T S p q r s t u) := by
  have z0 : IntFit 0 := by constructor <;> decide
  have z1 : IntFit 1 := by constructor <;> decide
  have z2 : IntFit 100 := by constructor <;> decide
  refine fit_of _ ?_ ?_ z0 z0 z0 (fun x hx => by cases hx) (Nat.zero_le _) (Nat.zero_le _)
  · intro k hk
    simp only [List.mem_cons, List.not_mem_nil, or_false] at hk
    rcases hk with rfl | rfl | rfl | rfl | rfl | rfl | rfl | rfl | rfl | rfl | rfl | rfl | rfl
    · exact z1
    · exact z0
    · exact z0
    · exact z0
    · exact z0
    · exact z1
    · exact z2
    · exact k0
    · exact k1
    · exact k2
    · exact k3
    · exact k4
    · exact k5
  · intro k hk
    simp only [List.mem_cons, List.not_mem_nil, or_false] at hk
    rcases hk with rfl | rfl | rfl
    · exact Nat.zero_le _
    · exact hT
    · exact hS
theorem sAc_len {T S : List UInt8} {p q r s t u : Int} (hT : T.length ≤ 1000) (hS : S.length ≤ 1000) (k0 : IntFit p) (k1 : IntFit q) (k2 : IntFit r) (k3 : IntFit s) (k4 : IntFit t) (k5 : IntFit u) : ((sAc T S p q r s t u).line.1 ++ [10]).length ≤ 4000000000 := by
  have := line_short (sAc_fit (T := T) (S := S) (by omega) (by omega) k0 k1 k2 k3 k4 k5) (M := 1000) (fun k hk => by
    have hk := isS_in hk
    simp only [List.mem_cons, List.not_mem_nil, or_false] at hk
    rcases hk with rfl | rfl | rfl
    · exact Nat.zero_le _
    · exact hT
    · exact hS) (Nat.zero_le _) (Nat.zero_le _)
  rw [List.length_append]
  simp only [List.length_cons, List.length_nil]
  omega
end Go.Proofs.YtikmoledbiepoaaGreatDoor
/- ScriptSessions. -/
namespace Go.Proofs.YtikmoledbiepoaaGreatDoor
open Go.RowKit
theorem run_bs61 (p q r s t u p' q' r' s' t' u' : Int) (w : World) : (Instr.buildSlice 61 2 #[(0, .agg (p6 p q r s t u).toArray), (1, .agg (p6 p' q' r' s' t' u').toArray)]).run Tryz.prog w =
    .ok (.slice (some ⟨w.heap.size, 0, none⟩) 2 2) (w.alloc (.cells (p6 p q r s t u ++ p6 p' q' r' s' t' u').toArray 24)) := by kernel_rfl
theorem exec_bs61 {ρ : Operand → Value} {o : Oper} {x y : Operand} {w : World} {p q r s t u p' q' r' s' t' u' : Int} (ho : o.op = .buildSlice 61 2 #[(0, x), (1, y)]) (hx : ρ x = .agg (p6 p q r s t u).toArray) (hy : ρ y = .agg (p6 p' q' r' s' t' u').toArray) :
    (execOp ρ o).run Tryz.prog w = .ok (.value (.slice (some ⟨w.heap.size, 0, none⟩) 2 2)) (w.alloc (.cells (p6 p q r s t u ++ p6 p' q' r' s' t' u').toArray 24)) := by
  unfold execOp
  simp only [ho, List.map_toArray, List.map_cons, List.map_nil, hx, hy, Sem.run_bind, run_bs61]
  rfl
def SG (n p : List Value) : Nat → Value → World → Prop
  | 0, v, _ => v = .agg n.toArray
  | 1, v, _ => v = .agg n.toArray
  | 2, v, _ => v = .agg p.toArray
  | 3, v, w => ∃ g, v = .slice (some ⟨g, 0, none⟩) 2 2 ∧ w.heap[g]? = some (.cells (n ++ p).toArray 24)
  | 4, v, _ => v = .int .i64 2
  | _, v, _ => v = .int .i64 0
theorem SG.ext {n p : List Value} (j : Nat) (u : Value) (w w' : World) (hx : Ext w w') (h : SG n p j u w) : SG n p j u w' := by
  match j, h with
  | 0, h => exact h
  | 1, h => exact h
  | 2, h => exact h
  | 3, h =>
    obtain ⟨g, h1, h2⟩ := h
    exact ⟨g, h1, by rw [hx.block _ (lt_of_block h2)]; exact h2⟩
  | 4, h => exact h
  | n + 5, h => exact h
section
variable (T S : List UInt8) (p q r s t u : Int) (w : World)
theorem run_b28 : (Instr.build 28 #[(0, .int .i64 1), (6, .int .i64 1), (7, .int .i64 100), (8, .agg (ses T S p q r s t u).toArray)]).run Tryz.prog w = .ok (.agg (sAc T S p q r s t u).call.cells.toArray) w := by kernel_rfl
theorem run_b33s : (Instr.build 33 #[(0, .int .i64 1), (2, .agg (sAc T S p q r s t u).call.cells.toArray)]).run Tryz.prog w = .ok (.agg ((sAc T S p q r s t u).cells nilV).toArray) w := by kernel_rfl
end
section
variable {T S : List UInt8} {p q r s t u : Int} {w : World} {ρ : Operand → Value} {o : Oper} {x y z : Operand}
theorem exec_b28 {a b c : Operand} (ho : o.op = .build 28 #[(0, a), (6, b), (7, c), (8, x)]) (ha : ρ a = .int .i64 1) (hb : ρ b = .int .i64 1) (hc : ρ c = .int .i64 100) (hx : ρ x = .agg (ses T S p q r s t u).toArray) : (execOp ρ o).run Tryz.prog w = .ok (.value (.agg (sAc T S p q r s t u).call.cells.toArray)) w := by
  unfold execOp
  simp only [ho, List.map_toArray, List.map_cons, List.map_nil, ha, hb, hc, hx, Sem.run_bind, run_b28]
  rfl
theorem exec_b33s {a : Operand} (ho : o.op = .build 33 #[(0, a), (2, x)]) (ha : ρ a = .int .i64 1) (hx : ρ x = .agg (sAc T S p q r s t u).call.cells.toArray) : (execOp ρ o).run Tryz.prog w = .ok (.value (.agg ((sAc T S p q r s t u).cells nilV).toArray)) w := by
  unfold execOp
  simp only [ho, List.map_toArray, List.map_cons, List.map_nil, ha, hx, Sem.run_bind, run_b33s]
  rfl
end
/-- What region 8's operations yield. -/
def SB (lo : Nat) (ln m : Nat) (T S : List UInt8) (p q r s t u : Int) (b : Nat → Bool) : Nat → Value → World → Prop
  | 0, v, _ => v = .int .i64 (ln : Int)
  | 1, v, _ => v = .string ⟨T.toArray⟩
  | 2, v, _ => v = .int .i64 (m : Int)
  | 3, v, _ => v = .string ⟨S.toArray⟩
  | 4, v, _ => v = .agg (p6 p q r s t u).toArray
  | 5, v, _ => v = .agg (ses T S p q r s t u).toArray
  | 6, v, _ => v = .agg (sAc T S p q r s t u).call.cells.toArray
  | 7, v, _ => v = .agg ((sAc T S p q r s t u).cells nilV).toArray
  | 8, v, w => ∃ g, v = .pointer (some ⟨g, 0, none⟩) ∧ lo ≤ g ∧ w.heap[g]? = some (.cells (if b 9 then (sAc T S p q r s t u).cells nilV else (Ac.none 0).cells nilV).toArray 33)
  | _, _, _ => True
theorem SB.keep {lo ln m : Nat} {T S : List UInt8} {p q r s t u : Int} {b b' : Nat → Bool} {w w' : World} (hx : Ext w w') (hb : b' 9 = b 9) (j : Nat) (v : Value) (h : SB lo ln m T S p q r s t u b j v w) : SB lo ln m T S p q r s t u b' j v w' := by
  match j, h with
  | 0, h => exact h
  | 1, h => exact h
  | 2, h => exact h
  | 3, h => exact h
  | 4, h => exact h
  | 5, h => exact h
  | 6, h => exact h
  | 7, h => exact h
  | 8, h =>
    obtain ⟨g, h1, h2, h3⟩ := h
    exact ⟨g, h1, h2, by rw [hb, hx.block _ (lt_of_block h3)]; exact h3⟩
  | n + 9, _ => trivial
theorem ent26 : Ent 26 := enters_of Tryz.func26 (by kernel_rfl) rfl
theorem ent25 : Ent 25 := enters_of Tryz.func25 (by kernel_rfl) rfl
set_option maxRecDepth 100000 in
set_option maxHeartbeats 20000000 in
theorem sessions_any (n0 n1 n2 n3 n4 n5 x y : Int) (w : World) (hg0 : Glob w) (f0 : IntFit n0) (f1 : IntFit n1) (f2 : IntFit n2) (f3 : IntFit n3) (f4 : IntFit n4) (f5 : IntFit n5) (fx : IntFit x) (fy : IntFit y) :
    Calls Tryz.prog 9 #[.agg #[.int .i64 n0, .int .i64 n1, .int .i64 n2, .int .i64 n3, .int .i64 n4, .int .i64 n5], .int .i64 x, .int .i64 y] w fun e w' => e = .returned (.bool true) ∧ Ext w w' := by
  go_enter Tryz.func9, Tryz.ntmps9
  go_wp2_with fail
  obtain ⟨W, hW⟩ : ∃ W, W = w.alloc (.cells #[.int .i64 n0, .int .i64 n1, .int .i64 n2, .int .i64 n3, .int .i64 n4, .int .i64 n5] 55) := ⟨_, rfl⟩
  rw [← hW]
  have hb : W.heap[w.heap.size]? = some (.cells #[.int .i64 n0, .int .i64 n1, .int .i64 n2, .int .i64 n3, .int .i64 n4, .int .i64 n5] 55) := by rw [hW]; exact alloc_new _ _
  have hx : Ext w W := by rw [hW]; exact Ext.alloc _ _
  refine (sane_any W (hg0.ext hx)).mono ?_
  rintro e w2 ⟨rfl, hx2⟩
  have hb2 : w2.heap[w.heap.size]? = some (.cells #[.int .i64 n0, .int .i64 n1, .int .i64 n2, .int .i64 n3, .int .i64 n4, .int .i64 n5] 55) := by rw [hx2.block _ (lt_of_block hb)]; exact hb
  have y2 := hx.trans hx2
  clear hW hb hx hx2
  have e0 : w2.cell? ⟨w.heap.size, 0, none⟩ = some (.int .i64 n0) := by rw [Lib.cell_of_heap hb2]; rfl
  have e1 : w2.cell? ⟨w.heap.size, 1, none⟩ = some (.int .i64 n1) := by rw [Lib.cell_of_heap hb2]; rfl
  have e2 : w2.cell? ⟨w.heap.size, 2, none⟩ = some (.int .i64 n2) := by rw [Lib.cell_of_heap hb2]; rfl
  have e3 : w2.cell? ⟨w.heap.size, 3, none⟩ = some (.int .i64 n3) := by rw [Lib.cell_of_heap hb2]; rfl
  have e4 : w2.cell? ⟨w.heap.size, 4, none⟩ = some (.int .i64 n4) := by rw [Lib.cell_of_heap hb2]; rfl
  have e5 : w2.cell? ⟨w.heap.size, 5, none⟩ = some (.int .i64 n5) := by rw [Lib.cell_of_heap hb2]; rfl
  go_wp2_with fail
  clear e0 e1 e2 e3 e4 e5
  obtain ⟨W3, hW3⟩ : ∃ W3, W3 = w2.alloc (.cells #[.int .i64 n0, .int .i64 n1, .int .i64 n2, .int .i64 n3, .int .i64 n4, .int .i64 n5] 24) := ⟨_, rfl⟩
  rw [← hW3]
  have hx3 : Ext w2 W3 := by rw [hW3]; exact Ext.alloc _ _
  have r1 : W3.rangeAt w2.heap.size 0 (p6 n0 n1 n2 n3 n4 n5) := range_of (pre := []) (cs := p6 n0 n1 n2 n3 n4 n5) (post := []) (T := 24) (by rw [hW3]; exact alloc_new _ _) rfl
  have r2 : W3.rangeAt w.heap.size 0 (p6 n0 n1 n2 n3 n4 n5) := rangeAt_ext (range_of (pre := []) (cs := p6 n0 n1 n2 n3 n4 n5) (post := []) (T := 55) hb2 rfl) hx3
  have y3 := y2.trans hx3
  clear hW3 hb2 y2 hx3
  refine wp_region_ext (SG (p6 n0 n1 n2 n3 n4 n5) (p6 (pickN n0 1073741825) (pickN n1 1073741825) (pickN n2 65) (pickN n3 65) (pickN n4 21) (50 + pickN n5 99951))) SG.ext mixedOrd (by kernel_rfl) (by kernel_rfl) (by kernel_rfl) ?_ ?_
  · refine ⟨?_, ?_, ?_, ?_, ?_, ?_, trivial⟩
    · intro a' w' hs hW
      have h0 : a'.tmps[8]? = some (.pointer (some ⟨w2.heap.size, 0, none⟩)) := hs.old 8 rfl
      exact wpOp_val rfl rfl (by simp [execOp, ev h0, load24 (rangeAt_ext r1 hW)]) ⟨_, rfl, .inr rfl, Ext.refl _⟩
    · intro a' w' hs hW
      have h0 : a'.tmps[3]? = some (.pointer (some ⟨w.heap.size, 0, none⟩)) := hs.old 3 rfl
      exact wpOp_val rfl rfl (by simp [execOp, ev h0, load55 (rangeAt_ext r2 hW)]) ⟨_, rfl, .inr rfl, Ext.refl _⟩
    · intro a' w' hs hW
      obtain ⟨v, h0, rfl⟩ := hs.made 1 35 rfl rfl
      refine wpOp_call (f := 25) (args := #[.agg (p6 n0 n1 n2 n3 n4 n5).toArray]) rfl rfl (exec_call rfl rfl ent25 (by simp [ev h0])) ?_
      refine (ParamsFrom_any n0 n1 n2 n3 n4 n5 w' f0 f1 f2 f3 f4 f5).mono ?_
      rintro e w'' ⟨rfl, hx'⟩
      exact ⟨_, rfl, _, rfl, .inr rfl, hx'⟩
    · intro a' w' hs hW
      obtain ⟨v, h0, rfl⟩ := hs.made 0 34 rfl rfl
      obtain ⟨v, h1, rfl⟩ := hs.made 2 36 rfl rfl
      refine wpOp_val (w' := w'.alloc (.cells (p6 n0 n1 n2 n3 n4 n5 ++ p6 (pickN n0 1073741825) (pickN n1 1073741825) (pickN n2 65) (pickN n3 65) (pickN n4 21) (50 + pickN n5 99951)).toArray 24)) (v := .slice (some ⟨w'.heap.size, 0, none⟩) 2 2) rfl rfl (exec_bs61 rfl (ev h0) (ev h1)) ⟨_, rfl, .inr ⟨_, rfl, alloc_new _ _⟩, Ext.alloc _ _⟩
    · intro a' w' hs hW
      obtain ⟨v, h0, g, rfl, hg⟩ := hs.made 3 37 rfl rfl
      exact wpOp_val (v := .int .i64 2) rfl rfl (by simp [execOp, go_sem, h0]) ⟨_, rfl, .inr rfl, Ext.refl _⟩
    · intro a' w' hs hW
      exact wpOp_val (v := .int .i64 0) rfl rfl (by simp [execOp, go_sem]) ⟨_, rfl, .inr rfl, Ext.refl _⟩
  · intro a' w' hs hW
    obtain ⟨v, h0, rfl⟩ := hs.made 0 34 rfl
    obtain ⟨v, h1, rfl⟩ := hs.made 1 35 rfl
    obtain ⟨v, h2, rfl⟩ := hs.made 2 36 rfl
    obtain ⟨v, h3, g, rfl, hg⟩ := hs.made 3 37 rfl
    obtain ⟨v, h4, rfl⟩ := hs.made 4 38 rfl
    obtain ⟨v, h5, rfl⟩ := hs.made 5 39 rfl
    have ha := act_putAll [(34, .agg (p6 n0 n1 n2 n3 n4 n5).toArray), (35, .agg (p6 n0 n1 n2 n3 n4 n5).toArray), (36, .agg (p6 (pickN n0 1073741825) (pickN n1 1073741825) (pickN n2 65) (pickN n3 65) (pickN n4 21) (50 + pickN n5 99951)).toArray), (37, .slice (some ⟨g, 0, none⟩) 2 2), (38, .int .i64 2), (39, .int .i64 0)] hs.defers hs.size (by simp [h0, h1, h2, h3, h4, h5]) rfl hs.old
    clear hs h0 h1 h2 h3 h4 h5
    simp only [putAll, Act.put] at ha
    subst ha
    go_frame
    have y4 := y3.trans hW
    clear r1 r2 hW y3
    go_wp2_with fail
    go_loopw [39] (fun i wq => ∃ j : Nat, j ≤ 2 ∧ i = .int .i64 j ∧ Below w'.heap.size w' wq) (fun i _ => 2 - (intOf i).toNat)
    case atStart => exact ⟨0, by decide, rfl, Below.refl _ _⟩
    case round =>
      obtain ⟨j, hj, rfl, hbq⟩ := hrel
      have hq : Ext w' wr := hbq
      by_cases hlt : j < 2
      · obtain ⟨q0, q1, q2, q3, q4, q5, ⟨k0, k1, k2, k3, k4, k5⟩, hr⟩ : ∃ q0 q1 q2 q3 q4 q5, (IntFit q0 ∧ IntFit q1 ∧ IntFit q2 ∧ IntFit q3 ∧ IntFit q4 ∧ IntFit q5) ∧ w'.rangeAt g (j * 6) (p6 q0 q1 q2 q3 q4 q5) := by
          match j, hlt with
          | 0, _ => exact ⟨n0, n1, n2, n3, n4, n5, ⟨f0, f1, f2, f3, f4, f5⟩, range_of (pre := []) hg rfl⟩
          | 1, _ =>
            refine ⟨_, _, _, _, _, _, ⟨?_, ?_, ?_, ?_, ?_, ?_⟩, range_of (pre := p6 n0 n1 n2 n3 n4 n5) (l := p6 (pickN n0 1073741825) (pickN n1 1073741825) (pickN n2 65) (pickN n3 65) (pickN n4 21) (50 + pickN n5 99951)) (post := []) hg rfl⟩
            · have := pickN_lt n0 (n := 1073741825) (by decide); constructor <;> omega
            · have := pickN_lt n1 (n := 1073741825) (by decide); constructor <;> omega
            · have := pickN_lt n2 (n := 65) (by decide); constructor <;> omega
            · have := pickN_lt n3 (n := 65) (by decide); constructor <;> omega
            · have := pickN_lt n4 (n := 21) (by decide); constructor <;> omega
            · have := pickN_lt n5 (n := 99951) (by decide); constructor <;> omega
        have hr' := rangeAt_ext hr hq
        have i1 : (0 : Int) ≤ (j : Int) := by omega
        have i2 : (j : Int) < 2 := by omega
        clear hr hg
        go_wp2_with (first
          | refine wpList_ld24 rfl _ rfl g (j * 6) (by simp [Act.eval]) q0 q1 q2 q3 q4 q5 hr' ?_
          | refine wpList_store24 rfl _ _ rfl wr.heap.size q0 q1 q2 q3 q4 q5 rfl rfl _ (alloc_new _ _) rfl ?_)
        obtain ⟨W5, hW5⟩ : ∃ W5, W5 = (wr.alloc (.cells #[.int .i64 0, .int .i64 0, .int .i64 0, .int .i64 0, .int .i64 0, .int .i64 0] 24)).setRow wr.heap.size (p6 q0 q1 q2 q3 q4 q5).toArray := ⟨_, rfl⟩
        rw [← hW5]
        have hb5 : W5.heap[wr.heap.size]? = some (.cells (p6 q0 q1 q2 q3 q4 q5).toArray 24) := by rw [hW5]; exact setRow_heap _ _ _ _ _ _ (alloc_new _ _)
        have hx5 : Ext wr W5 := by rw [hW5]; exact (Ext.alloc _ _).setRow _ _ (Nat.le_refl _)
        have y5 := y4.trans (hq.trans hx5)
        have z5 := hq.trans hx5
        clear hW5 hr'
        have bx := pickN_lt x (n := 210) (by decide)
        have bY := pickN_lt y (n := 3) (by decide)
        obtain ⟨ln, hln⟩ : ∃ ln : Nat, pickN x 210 = (ln : Int) := ⟨(pickN x 210).toNat, by omega⟩
        obtain ⟨m, hm⟩ : ∃ m : Nat, 15 + pickN y 3 = (m : Int) := ⟨(15 + pickN y 3).toNat, by omega⟩
        have hl1 : ln < 210 := by omega
        have hm1 : 15 ≤ m ∧ m ≤ 17 := by omega
        refine (pick13 x 210 W5 fx.1 fx.2 (by decide) (by decide)).mono ?_
        rintro e w6 ⟨rfl, rfl⟩
        rw [hln]
        go_wp2_with fail
        refine (pick13 y 3 W5 fy.1 fy.2 (by decide) (by decide)).mono ?_
        rintro e w6 ⟨rfl, rfl⟩
        go_wp2_with fail
        try rw [hm]
        clear hm hln bx bY
        have r5 : W5.rangeAt wr.heap.size 0 (p6 q0 q1 q2 q3 q4 q5) := range_of (pre := []) (post := []) hb5 rfl
        refine wp_region_gen2 (SB W5.heap.size ln m (strF [116] ln) (strF [115] m) q0 q1 q2 q3 q4 q5) (fun _ w' => Ext W5 w') mixedOrd (by kernel_rfl) (by kernel_rfl) (by kernel_rfl) ⟨rfl, rfl, rfl, Nat.le_refl _, fun _ _ => rfl⟩ ?_ ?_
        · refine ⟨?_, ?_, ?_, ?_, ?_, ?_, ?_, ?_, ?_, ?_, trivial⟩
          · intro a' w' b hdf hso hs hW
            have h0 : a'.tmps[11]? = some (.int .i64 (ln : Int)) := hs.old 11 rfl
            exact wpOp_val rfl rfl (by simp [execOp, go_sem, h0]) ⟨_, rfl, .inr rfl, hW, fun j _ u _ _ _ h => SB.keep (Ext.refl _) rfl j u h⟩
          · intro a' w' b hdf hso hs hW
            obtain ⟨v, h0, rfl⟩ := hs.made 0 48 rfl rfl
            refine wpOp_call (f := 26) (args := #[.string ⟨[116].toArray⟩, .int .i64 (ln : Int)]) rfl rfl (exec_call rfl rfl ent26 (by simp [ev h0, evc])) ?_
            refine (Stretch_any [116] ln w' (by decide) (by omega)).mono ?_
            rintro e w'' ⟨rfl, hx'⟩
            exact ⟨_, rfl, _, rfl, .inr rfl, hW.trans hx', fun j _ u _ _ _ h => SB.keep hx' rfl j u h⟩
          · intro a' w' b hdf hso hs hW
            have h0 : a'.tmps[12]? = some (.int .i64 (m : Int)) := hs.old 12 rfl
            exact wpOp_val rfl rfl (by simp [execOp, go_sem, h0]) ⟨_, rfl, .inr rfl, hW, fun j _ u _ _ _ h => SB.keep (Ext.refl _) rfl j u h⟩
          · intro a' w' b hdf hso hs hW
            obtain ⟨v, h0, rfl⟩ := hs.made 2 50 rfl rfl
            refine wpOp_call (f := 26) (args := #[.string ⟨[115].toArray⟩, .int .i64 (m : Int)]) rfl rfl (exec_call rfl rfl ent26 (by simp [ev h0, evc])) ?_
            refine (Stretch_any [115] m w' (by decide) (by omega)).mono ?_
            rintro e w'' ⟨rfl, hx'⟩
            exact ⟨_, rfl, _, rfl, .inr rfl, hW.trans hx', fun j _ u _ _ _ h => SB.keep hx' rfl j u h⟩
          · intro a' w' b hdf hso hs hW
            have h0 : a'.tmps[10]? = some (.pointer (some ⟨wr.heap.size, 0, none⟩)) := hs.old 10 rfl
            exact wpOp_val rfl rfl (by simp [execOp, ev h0, load24 (rangeAt_ext r5 hW)]) ⟨_, rfl, .inr rfl, hW, fun j _ u _ _ _ h => SB.keep (Ext.refl _) rfl j u h⟩
          · intro a' w' b hdf hso hs hW
            obtain ⟨v, h0, rfl⟩ := hs.made 1 49 rfl rfl
            obtain ⟨v, h1, rfl⟩ := hs.made 3 51 rfl rfl
            obtain ⟨v, h2, rfl⟩ := hs.made 4 52 rfl rfl
            exact wpOp_val rfl rfl (exec_b26 rfl (ev h0) (ev h1) (ev h2)) ⟨_, rfl, .inr rfl, hW, fun j _ u _ _ _ h => SB.keep (Ext.refl _) rfl j u h⟩
          · intro a' w' b hdf hso hs hW
            obtain ⟨v, h0, rfl⟩ := hs.made 5 53 rfl rfl
            exact wpOp_val rfl rfl (exec_b28 rfl rfl rfl rfl (ev h0)) ⟨_, rfl, .inr rfl, hW, fun j _ u _ _ _ h => SB.keep (Ext.refl _) rfl j u h⟩
          · intro a' w' b hdf hso hs hW
            obtain ⟨v, h0, rfl⟩ := hs.made 6 54 rfl rfl
            exact wpOp_val rfl rfl (exec_b33s rfl rfl (ev h0)) ⟨_, rfl, .inr rfl, hW, fun j _ u _ _ _ h => SB.keep (Ext.refl _) rfl j u h⟩
          · intro a' w' b hdf hso hs hW
            have hb9 : b 9 = false := hso.not 9 rfl rfl
            refine wpOp_val (w' := w'.alloc (.cells ((Ac.none 0).cells nilV).toArray 33)) (v := .pointer (some ⟨w'.heap.size, 0, none⟩)) rfl rfl (by kernel_rfl) ⟨_, rfl, .inr ⟨w'.heap.size, rfl, hW.size, ?_⟩, hW.trans (Ext.alloc _ _), fun j _ u _ _ _ h => SB.keep (Ext.alloc _ _) rfl j u h⟩
            have : ((fun k => k == 0 + 8 || b k) 9) = false := hb9
            rw [this]
            exact alloc_new _ _
          · intro a' w' b hdf hso hs hW
            have hb9 : b 9 = false := hso.undone
            obtain ⟨v, h0, g', rfl, hge, hg'⟩ := hs.made 8 13 rfl rfl
            obtain ⟨v, h1, rfl⟩ := hs.made 7 55 rfl rfl
            rw [hb9] at hg'
            refine wpOp_wp rfl rfl (wp_store_row 33 _ _ rfl g' ((sAc (strF [116] ln) (strF [115] m) q0 q1 q2 q3 q4 q5).cells nilV).toArray (ev h0) (ev h1) 33 _ hg' (by kernel_rfl) rfl (Ac.one _ _ _ _) ?_)
            refine ⟨_, rfl, .inl rfl, hW.setRow _ _ hge, fun j d u hj hbj hu h => ?_⟩
            match j, h with
            | 0, h => exact h
            | 1, h => exact h
            | 2, h => exact h
            | 3, h => exact h
            | 4, h => exact h
            | 5, h => exact h
            | 6, h => exact h
            | 7, h => exact h
            | 8, h =>
              have hd13 : d = 13 := by cases hj; rfl
              subst hd13
              rw [h0] at hu
              cases hu
              exact ⟨g', rfl, hge, setRow_heap _ _ _ _ _ _ hg'⟩
            | n + 9, _ => trivial
        · intro a' w6 b hb hs hW
          obtain ⟨v, h0, rfl⟩ := hs.made 0 48 rfl
          obtain ⟨v, h1, rfl⟩ := hs.made 1 49 rfl
          obtain ⟨v, h2, rfl⟩ := hs.made 2 50 rfl
          obtain ⟨v, h3, rfl⟩ := hs.made 3 51 rfl
          obtain ⟨v, h4, rfl⟩ := hs.made 4 52 rfl
          obtain ⟨v, h5, rfl⟩ := hs.made 5 53 rfl
          obtain ⟨v, h6, rfl⟩ := hs.made 6 54 rfl
          obtain ⟨v, h7, rfl⟩ := hs.made 7 55 rfl
          obtain ⟨v, h8, g', rfl, hge, hg'⟩ := hs.made 8 13 rfl
          rw [hb 9 (by decide)] at hg'
          have hg6 : w6.heap[g']? = some (.cells ((sAc (strF [116] ln) (strF [115] m) q0 q1 q2 q3 q4 q5).cells nilV).toArray 33) := hg'
          clear hg'
          have ha := act_putAll [(48, .int .i64 (ln : Int)), (49, .string ⟨(strF [116] ln).toArray⟩), (50, .int .i64 (m : Int)), (51, .string ⟨(strF [115] m).toArray⟩), (52, .agg (p6 q0 q1 q2 q3 q4 q5).toArray), (53, .agg (ses (strF [116] ln) (strF [115] m) q0 q1 q2 q3 q4 q5).toArray), (54, .agg (sAc (strF [116] ln) (strF [115] m) q0 q1 q2 q3 q4 q5).call.cells.toArray), (55, .agg ((sAc (strF [116] ln) (strF [115] m) q0 q1 q2 q3 q4 q5).cells nilV).toArray), (13, .pointer (some ⟨g', 0, none⟩))] hs.defers hs.size (by simp [h0, h1, h2, h3, h4, h5, h6, h7, h8]) rfl hs.old
          clear hs h0 h1 h2 h3 h4 h5 h6 h7 h8 hb
          simp only [putAll, Act.put] at ha
          subst ha
          have r6 := rangeAt_ext r5 hW
          have y6 := y5.trans hW
          have z6 := z5.trans hW
          clear hW r5 hb5 hx5 y5 z5 hge
          obtain ⟨A, hA⟩ : ∃ A, A = sAc (strF [116] ln) (strF [115] m) q0 q1 q2 q3 q4 q5 := ⟨_, rfl⟩
          rw [← hA] at hg6 ⊢
          go_frame
          go_wp2_with (first
            | refine wpList_load33 (by rfl) _ rfl g' rfl _ hg6 rfl ?_
              refine wpList_bs35 rfl _ rfl A none 0 0 rfl ?_
              intro W7 g7 hx7 hb7)
          have hAf : AcFit A := by rw [hA]; exact sAc_fit (by rw [strF_len]; omega) (by rw [strF_len]; omega) k0 k1 k2 k3 k4 k5
          have hAl : (A.line.1 ++ [10]).length ≤ 4000000000 := by rw [hA]; exact sAc_len (by rw [strF_len]; omega) (by rw [strF_len]; omega) k0 k1 k2 k3 k4 k5
          have hAo : A.line.2 = (A.call.parOk && (decide (1 ≤ ln) && decide (ln ≤ 200) && (m == 16))) := by
            rw [hA, sAc_ok (by intro e; have := strF_len [115] m; rw [e] at this; simp at this; omega), strF_len, strF_len]
          have HF7 : ∀ W', FatesAt W' (.slice none 0 0) A.fates := fun W' => by rw [hA]; exact FatesAt.nil _
          have hpo : (sAc [] [] q0 q1 q2 q3 q4 q5).call.parOk = A.call.parOk := by rw [hA]; rfl
          have HPO := Lib.hid hpo
          clear hA hpo
          have HA7 : ActsAt W7 (.slice (some ⟨g7, 0, none⟩) 1 1) [A] := acts_one hb7 (HF7 _)
          have y7 := y6.trans hx7
          have z7 := z6.trans hx7
          have r7 := rangeAt_ext r6 hx7
          have hg7 := (hx7.block _ (lt_of_block hg6)).trans hg6
          clear r6 hg6 hb7 hx7 y6 z6
          refine (Print_any [A] _ W7 (hg0.ext y7) HA7 (fun x hx => by rw [List.mem_singleton.1 hx]; exact hAf)).mono ?_
          rintro e w8 ⟨rfl, hx8⟩
          have y8 := y7.trans hx8
          have z8 := z7.trans hx8
          have r8 := rangeAt_ext r7 hx8
          have hg8 := (hx8.block _ (lt_of_block hg7)).trans hg7
          clear r7 hg7 HA7 y7 z7 hx8
          cases hok : A.line.2 with
          | true =>
            rw [print1 A hok]
            rw [hok] at hAo
            obtain ⟨c1, c2, c3, c4⟩ : A.call.parOk = true ∧ 1 ≤ ln ∧ ln ≤ 200 ∧ m = 16 := by
              have := hAo.symm
              simp only [Bool.and_eq_true, decide_eq_true_eq, beq_iff_eq] at this
              exact ⟨this.1, this.2.1.1, this.2.1.2, this.2.2⟩
            subst c4
            clear hAo
            have d2 : (1 : Int) ≤ (ln : Int) := by omega
            have d3 : (ln : Int) ≤ 200 := by omega
            go_wp2_with fail
            refine (Parse_any (A.line.1 ++ [10]) w8 (hg0.ext y8) hAl).mono ?_
            rintro e w9 ⟨hx9, hm9⟩
            rw [parse1 A hok] at hm9
            obtain ⟨v9, rfl, av9⟩ := hm9
            have y9 := y8.trans hx9
            have z9 := z8.trans hx9
            have r9 := rangeAt_ext r8 hx9
            have hg9 := (hx9.block _ (lt_of_block hg8)).trans hg8
            clear r8 hg8 y8 z8 hx9
            go_wp2_with (refine wpList_ld24 rfl _ rfl wr.heap.size 0 rfl q0 q1 q2 q3 q4 q5 r9 ?_)
            have hpv := pvalid_any (sAc [] [] q0 q1 q2 q3 q4 q5).call w9 (hg0.ext y9)
            rw [HPO.out, c1] at hpv
            refine hpv.mono ?_
            rintro e w10 ⟨rfl, hx10⟩
            have y10 := y9.trans hx10
            have z10 := z9.trans hx10
            have av10 := av9.ext hx10
            have hg10 := (hx10.block _ (lt_of_block hg9)).trans hg9
            clear r9 hg9 av9 y9 z9 hx10 hpv
            go_wp2_with (first
              | refine wpList_load33 (by rfl) _ rfl g' rfl _ hg10 rfl ?_
                refine wpList_bs35g (by rfl) _ rfl A none 0 0 rfl ?_
                intro W11 g11 hx11 hb11)
            have y11 := y10.trans hx11
            have z11 := z10.trans hx11
            have av11 := av10.ext hx11
            have HA11 : ActsAt W11 (.slice (some ⟨g11, 0, none⟩) 1 1) [A] := acts_one hb11 (HF7 _)
            clear hg10 hb11 av10 y10 z10 hx11
            refine (SameAll_any [A] [A] _ _ W11 av11 HA11 (show (1 : Nat) ≤ 4294967296 by decide)).mono ?_
            rintro e w12 ⟨rfl, hx12⟩
            rw [same1]
            have z12 := z11.trans hx12
            clear av11 HA11 y11 z11 hx12
            go_wp2_with fail
            go_roundw
            case rel => exact ⟨j + 1, hlt, by go_num, z12⟩
            case measure => simp [intOf]; omega
          | false =>
            rw [print0 A hok]
            rw [hok] at hAo
            go_wp2_with fail
            refine (Parse_any [] w8 (hg0.ext y8) (by decide)).mono ?_
            rintro e w9 ⟨hx9, hm9⟩
            rw [parse0] at hm9
            obtain ⟨v9, rfl, av9⟩ := hm9
            have y9 := y8.trans hx9
            have z9 := z8.trans hx9
            have r9 := rangeAt_ext r8 hx9
            clear r8 hg8 y8 z8 hx9 av9
            go_wp2_with (refine wpList_ld24 rfl _ rfl wr.heap.size 0 rfl q0 q1 q2 q3 q4 q5 r9 ?_)
            have hpv := pvalid_any (sAc [] [] q0 q1 q2 q3 q4 q5).call w9 (hg0.ext y9)
            rw [HPO.out] at hpv
            refine hpv.mono ?_
            rintro e w10 ⟨rfl, hx10⟩
            have z10 := z9.trans hx10
            clear r9 y9 z9 hx10 hpv
            have hno : A.call.parOk = false ∨ A.call.parOk = true ∧ (¬ (1 : Int) ≤ (ln : Int) ∨ (1 : Int) ≤ (ln : Int) ∧ (¬ (ln : Int) ≤ 200 ∨ (ln : Int) ≤ 200 ∧ (m : Int) ≠ 16)) := by
              cases hc : A.call.parOk with
              | false => exact .inl rfl
              | true =>
                refine .inr ⟨rfl, ?_⟩
                rw [hc, Bool.true_and] at hAo
                have h2 := hAo.symm
                simp only [Bool.and_eq_false_iff, decide_eq_false_iff_not, beq_eq_false_iff_ne] at h2
                omega
            clear hAo
            rcases hno with h1 | ⟨h1, h2 | ⟨h2, h3 | ⟨h3, h4⟩⟩⟩
            · rw [h1]
              go_wp2_with fail
              go_roundw
              case rel => exact ⟨j + 1, hlt, by go_num, z10⟩
              case measure => simp [intOf]; omega
            · rw [h1]
              go_wp2_with fail
              go_roundw
              case rel => exact ⟨j + 1, hlt, by go_num, z10⟩
              case measure => simp [intOf]; omega
            · rw [h1]
              go_wp2_with fail
              go_roundw
              case rel => exact ⟨j + 1, hlt, by go_num, z10⟩
              case measure => simp [intOf]; omega
            · rw [h1]
              go_wp2_with fail
              go_roundw
              case rel => exact ⟨j + 1, hlt, by go_num, z10⟩
              case measure => simp [intOf]; omega
      · go_wp2_with fail
        exact bodyPost_ret (v := .bool true) (by simp [results, Tryz.f9, go_sem]) rfl ⟨rfl, y4.trans hq⟩
end Go.Proofs.YtikmoledbiepoaaGreatDoor

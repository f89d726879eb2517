/- ScriptMatchesReference: the walk. -/
import Derived.Test.YtikmoledbiepoaaGreatDoorRshort
import Derived.Test.YtikmoledbiepoaaGreatDoorScript
import Derived.Test.YtikmoledbiepoaaGreatDoorFits
import Derived.Test.YtikmoledbiepoaaGreatDoorSane
import Derived.Test.YtikmoledbiepoaaGreatDoorLaws
namespace Go.Proofs.YtikmoledbiepoaaGreatDoor
open Go.RowKit
set_option linter.unusedSimpArgs false
set_option linter.unusedVariables false
theorem wrap_small (k : Nat) (h : k ≤ 1000) : IntKind.i64.wrap (k : Int) = (k : Int) := IntWalk.i64_in _ (by omega)
theorem exec_rem {ρ : Operand → Value} {o : Oper} {x y : Operand} {w : World} {j n : Nat} (ho : o.op = .binOp .rem 3 x y 3) (hx : ρ x = .int .i64 (j : Int)) (hy : ρ y = .int .i64 (n : Int)) {q : Nat} (hn : 0 < n) (hj : j ≤ 1000) (hq : j % n = q) :
    (execOp ρ o).run Tryz.prog w = .ok (.value (.int .i64 (q : Int))) w := by
  subst hq
  have h0 : ¬ (n : Int) = 0 := by omega
  have h1 : (j : Int).tmod (n : Int) = ((j % n : Nat) : Int) := (Int.ofNat_tmod j n).symm
  have h2 : j % n ≤ 1000 := Nat.le_trans (Nat.mod_le _ _) hj
  have h3 : IntKind.i64.wrap ((j % n : Nat) : Int) = ((j % n : Nat) : Int) := by
    generalize j % n = k at h2 ⊢
    exact wrap_small k h2
  have h5 : ¬ n = 0 := by omega
  simp [execOp, go_sem, ho, hx, hy, h0, h1, h3, h5]
theorem neqS (a : List UInt8) (w : World) : (binOp .neq 9 (.string ⟨a.toArray⟩) (.string ⟨a.toArray⟩)).run Tryz.prog w = .ok (.bool false) w := by
  have e : ((⟨a.toArray⟩ : ByteArray) == ⟨a.toArray⟩) = true := by
    show (a.toArray == a.toArray) = true
    simp
  simp [go_sem, e]
theorem exec_neqS {ρ : Operand → Value} {o : Oper} {x y : Operand} {w : World} (a : List UInt8) (ho : o.op = .binOp .neq 9 x y 9) (hx : ρ x = .string ⟨a.toArray⟩) (hy : ρ y = .string ⟨a.toArray⟩) :
    (execOp ρ o).run Tryz.prog w = .ok (.value (.bool false)) w := by
  unfold execOp
  simp only [ho, hx, hy, Sem.run_bind, neqS a]
  rfl
theorem eqlS (a : List UInt8) (w : World) : (binOp .eql 9 (.string ⟨a.toArray⟩) (.string ⟨a.toArray⟩)).run Tryz.prog w = .ok (.bool true) w := by
  have e : ((⟨a.toArray⟩ : ByteArray) == ⟨a.toArray⟩) = true := by
    show (a.toArray == a.toArray) = true
    simp
  simp [go_sem, e]
theorem exec_eqlS {ρ : Operand → Value} {o : Oper} {x y : Operand} {w : World} (a : List UInt8) (ho : o.op = .binOp .eql 9 x y 9) (hx : ρ x = .string ⟨a.toArray⟩) (hy : ρ y = .string ⟨a.toArray⟩) :
    (execOp ρ o).run Tryz.prog w = .ok (.value (.bool true)) w := by
  unfold execOp
  simp only [ho, hx, hy, Sem.run_bind, eqlS a]
  rfl
theorem exec_neqI {ρ : Operand → Value} {o : Oper} {x y : Operand} {w : World} (n : Int) (ho : o.op = .binOp .neq 40 x y 40) (hx : ρ x = .int .i64 n) (hy : ρ y = .int .i64 n) :
    (execOp ρ o).run Tryz.prog w = .ok (.value (.bool false)) w := by
  simp [execOp, go_sem, ho, hx, hy]
theorem exec_eqlI {ρ : Operand → Value} {o : Oper} {x y : Operand} {w : World} (n : Int) (ho : o.op = .binOp .eql 40 x y 40) (hx : ρ x = .int .i64 n) (hy : ρ y = .int .i64 n) :
    (execOp ρ o).run Tryz.prog w = .ok (.value (.bool true)) w := by
  simp [execOp, go_sem, ho, hx, hy]
theorem exec_neqB {ρ : Operand → Value} {o : Oper} {x y : Operand} {w : World} (b : Bool) (ho : o.op = .binOp .neq 4 x y 4) (hx : ρ x = .bool b) (hy : ρ y = .bool b) :
    (execOp ρ o).run Tryz.prog w = .ok (.value (.bool false)) w := by
  simp [execOp, go_sem, ho, hx, hy]
theorem exec_eqlB {ρ : Operand → Value} {o : Oper} {x y : Operand} {w : World} (b : Bool) (ho : o.op = .binOp .eql 4 x y 4) (hx : ρ x = .bool b) (hy : ρ y = .bool b) :
    (execOp ρ o).run Tryz.prog w = .ok (.value (.bool true)) w := by
  simp [execOp, go_sem, ho, hx, hy]
theorem wpList_new33m {ops : Array Oper} {rest : List Oper} {o : Oper} {f : Act} {w1 : World} {Q : Exit → Act → World → Prop} {Z : Array Value} (hgd : o.guard = none) (x y : Operand) (ho : o.op = .store 33 x y) (hx : f.eval x = .pointer (some ⟨w1.heap.size, 0, none⟩)) (a : Ac) (s : Option Addr) (n c : Nat)
    (hy : f.eval y = .agg (a.cells (.slice s n c)).toArray) (hZ : Z.size = 23) (h : ∀ W, W.heap[w1.heap.size]? = some (.cells (a.cells (.slice s n c)).toArray 33) → Ext w1 W → wpList Tryz.prog ops Q rest (f.put o.dst undef) W) : wpList Tryz.prog ops Q (o :: rest) f (w1.alloc (.cells Z 33)) := by
  have hx1 : Ext w1 ((w1.alloc (.cells Z 33)).setRow w1.heap.size (a.cells (.slice s n c)).toArray) := (Ext.alloc _ _).setRow _ _ (Nat.le_refl _)
  exact wpList_store33 hgd x y ho w1.heap.size (a.cells (.slice s n c)).toArray hx hy Z (alloc_new _ _) hZ rfl (Ac.one _ _ _ _) (h _ (setRow_heap _ _ _ _ _ _ (alloc_new _ _)) hx1)
/-- An action that came in. -/
structure OddFit (a : Ac) : Prop where
  ints : ∀ i ∈ [0, 1, 2, 3, 5, 6, 7, 10, 11, 12, 13, 14, 15], IntFit (a.call.getI i)
  strs : ∀ i ∈ [4, 8, 9], (a.call.getS i).length ≤ 9223372036854775807
  n : IntFit a.n
  fr : IntFit a.fr
  tgt : IntFit a.tgt
  fates : ∀ x ∈ a.fates, IntFit x
  dat : a.dat.length ≤ 9223372036854775807
theorem cut_s {a : Ac} (h : OddFit a) : AcS 2010 a.cut := by
  refine ⟨⟨fun i hi => ?_, fun i hi => ?_⟩, h.n, h.fr, h.tgt, fun x hx => h.fates x (List.mem_of_mem_take hx), ?_, ?_⟩
  · have := h.ints i hi
    simp only [List.mem_cons, List.not_mem_nil, or_false] at hi
    rcases hi with rfl | rfl | rfl | rfl | rfl | rfl | rfl | rfl | rfl | rfl | rfl | rfl | rfl <;> exact this
  · simp only [List.mem_cons, List.not_mem_nil, or_false] at hi
    rcases hi with rfl | rfl | rfl
    · show (a.call.s.take 2010).length ≤ 2010
      exact take_le _ _
    · show (a.call.tick.take 210).length ≤ 2010
      exact Nat.le_trans (take_le _ _) (by decide)
    · show (a.call.sec.take 20).length ≤ 2010
      exact Nat.le_trans (take_le _ _) (by decide)
  · show (a.fates.take 70).length ≤ 2010
    rw [List.length_take]
    omega
  · exact Nat.le_trans (take_le a.dat 1030) (by decide)
theorem AcS.mono {M N : Nat} (hMN : M ≤ N) {a : Ac} (h : AcS M a) : AcS N a :=
  ⟨⟨h.call.ints, fun i hi => Nat.le_trans (h.call.strs i hi) hMN⟩, h.n, h.fr, h.tgt, h.fates, Nat.le_trans h.few hMN, Nat.le_trans h.dat hMN⟩
theorem mix_s {M : Nat} {a b : Ac} (ha : AcS M a) (hb : AcS M b) (k : Nat) : AcS M (a.mix b k) := by
  have hi : ∀ c : Cal, (∀ i ∈ [0, 1, 2, 3, 5, 6, 7, 10, 11, 12, 13, 14, 15], c.getI i = a.call.getI i ∨ c.getI i = b.call.getI i) → (∀ i ∈ [4, 8, 9], c.getS i = a.call.getS i ∨ c.getS i = b.call.getS i) → CalS M c := fun c h1 h2 =>
    ⟨fun i hi => (h1 i hi).elim (fun e => e ▸ ha.call.ints i hi) (fun e => e ▸ hb.call.ints i hi), fun i hi => (h2 i hi).elim (fun e => e ▸ ha.call.strs i hi) (fun e => e ▸ hb.call.strs i hi)⟩
  have hc : ∀ c : Cal, (∀ i ∈ [0, 1, 2, 3, 5, 6, 7, 10, 11, 12, 13, 14, 15], c.getI i = a.call.getI i ∨ c.getI i = b.call.getI i) → (∀ i ∈ [4, 8, 9], c.getS i = a.call.getS i ∨ c.getS i = b.call.getS i) → AcS M { a with call := c } := fun c h1 h2 => ⟨hi c h1 h2, ha.n, ha.fr, ha.tgt, ha.fates, ha.few, ha.dat⟩
  unfold Ac.mix
  split
  · exact ⟨ha.call, ha.n, ha.fr, ha.tgt, ha.fates, ha.few, ha.dat⟩
  · exact ⟨ha.call, hb.n, ha.fr, ha.tgt, ha.fates, ha.few, ha.dat⟩
  · exact ⟨ha.call, ha.n, ha.fr, ha.tgt, hb.fates, hb.few, ha.dat⟩
  · exact ⟨ha.call, ha.n, hb.fr, hb.tgt, ha.fates, ha.few, hb.dat⟩
  all_goals
    refine hc _ (fun i hi => ?_) (fun i hi => ?_)
    · simp only [List.mem_cons, List.not_mem_nil, or_false] at hi
      rcases hi with rfl | rfl | rfl | rfl | rfl | rfl | rfl | rfl | rfl | rfl | rfl | rfl | rfl <;> first | exact .inl rfl | exact .inr rfl
    · simp only [List.mem_cons, List.not_mem_nil, or_false] at hi
      rcases hi with rfl | rfl | rfl <;> first | exact .inl rfl | exact .inr rfl
theorem mix_fates {W : World} {a b : Ac} {fa fb : Value} (ha : FatesAt W fa a.fates) (hb : FatesAt W fb b.fates) (k : Nat) : FatesAt W (mixV fa fb k) (a.mix b k).fates := by
  unfold mixV
  by_cases h : k = 2
  · subst h
    exact hb
  · rw [if_neg h]
    have : (a.mix b k).fates = a.fates := by
      unfold Ac.mix
      split <;> first | rfl | exact absurd rfl h
    rw [this]
    exact ha
/-- What holds while the list grows. -/
structure MRel (L : List Ac) (w : World) (j : Nat) (v : Value) (ps : List Pt) (wq : World) : Prop where
  len : ps.length = j
  acts : ∀ p ∈ ps, p.a ∈ L
  row : wq.ownsRow w.heap.size 33 23 v j (flatP ps)
  fates : ∀ p ∈ ps, FatesAt w p.v p.a.fates
  below : Ext w wq
/-- What the operations that make the four actions yield. -/
def TM (U p : Value) (j : Nat) (x : Int) (Y M1 M2 Z : Array Value) : Nat → Value → World → Prop
  | 0, v, _ => v = U
  | 1, v, _ => v = .int .i64 (j : Int)
  | 2, v, _ => v = p
  | 3, v, _ => v = .agg Y
  | 4, v, _ => v = U
  | 5, v, _ => v = .int .i64 (j : Int)
  | 6, v, _ => v = p
  | 7, v, _ => v = .agg Y
  | 8, v, _ => v = .agg Z
  | 9, v, _ => v = .int .i64 x
  | 10, v, _ => v = .agg M1
  | 11, v, _ => v = .agg Z
  | 12, v, _ => v = U
  | 13, v, _ => v = .int .i64 (j : Int)
  | 14, v, _ => v = p
  | 15, v, _ => v = .agg Y
  | 16, v, _ => v = .int .i64 x
  | 17, v, _ => v = .agg M2
  | 18, v, _ => v = .agg Z
  | 19, v, w => ∃ g, v = .slice (some ⟨g, 0, none⟩) 4 4 ∧ w.heap[g]? = some (.cells (Y ++ M1 ++ M2 ++ Z) 33)
  | 20, v, _ => v = .int .i64 4
  | 21, v, _ => v = .int .i64 0
  | _, _, _ => True
theorem TM.ext {U p : Value} {j : Nat} {x : Int} {Y M1 M2 Z : Array Value} (i : Nat) (u : Value) (w w' : World) (hx : Ext w w') (h : TM U p j x Y M1 M2 Z i u w) : TM U p j x Y M1 M2 Z i u w' := by
  match i, h with
  | 0, h => exact h
  | 1, h => exact h
  | 2, h => exact h
  | 3, h => exact h
  | 4, h => exact h
  | 5, h => exact h
  | 6, h => exact h
  | 7, h => exact h
  | 8, h => exact h
  | 9, h => exact h
  | 10, h => exact h
  | 11, h => exact h
  | 12, h => exact h
  | 13, h => exact h
  | 14, h => exact h
  | 15, h => exact h
  | 16, h => exact h
  | 17, h => exact h
  | 18, h => exact h
  | 19, h =>
    obtain ⟨g, h1, h2⟩ := h
    exact ⟨g, h1, (hx.block _ (lt_of_block h2)).trans h2⟩
  | 20, h => exact h
  | 21, h => exact h
  | n + 22, _ => trivial
theorem run_bs4 (a b c d : Ac) (s1 s2 s3 s4 : Option Addr) (n1 n2 n3 n4 c1 c2 c3 c4 : Nat) (w : World) : (Instr.buildSlice 35 4 #[(0, .agg (a.cells (.slice s1 n1 c1)).toArray), (1, .agg (b.cells (.slice s2 n2 c2)).toArray), (2, .agg (c.cells (.slice s3 n3 c3)).toArray), (3, .agg (d.cells (.slice s4 n4 c4)).toArray)]).run Tryz.prog w =
    .ok (.slice (some ⟨w.heap.size, 0, none⟩) 4 4) (w.alloc (.cells ((a.cells (.slice s1 n1 c1)).toArray ++ (b.cells (.slice s2 n2 c2)).toArray ++ (c.cells (.slice s3 n3 c3)).toArray ++ (d.cells (.slice s4 n4 c4)).toArray) 33)) := by kernel_rfl
theorem exec_bs4 {ρ : Operand → Value} {o : Oper} {w : World} {x0 x1 x2 x3 : Operand} {Y M1 M2 Z : Array Value} (ho : o.op = .buildSlice 35 4 #[(0, x0), (1, x1), (2, x2), (3, x3)]) (h0 : ρ x0 = .agg Y) (h1 : ρ x1 = .agg M1) (h2 : ρ x2 = .agg M2) (h3 : ρ x3 = .agg Z)
    (hr : (Instr.buildSlice 35 4 #[(0, .agg Y), (1, .agg M1), (2, .agg M2), (3, .agg Z)]).run Tryz.prog w = .ok (.slice (some ⟨w.heap.size, 0, none⟩) 4 4) (w.alloc (.cells (Y ++ M1 ++ M2 ++ Z) 33))) :
    (execOp ρ o).run Tryz.prog w = .ok (.value (.slice (some ⟨w.heap.size, 0, none⟩) 4 4)) (w.alloc (.cells (Y ++ M1 ++ M2 ++ Z) 33)) := by
  unfold execOp
  simp only [ho, List.map_toArray, List.map_cons, List.map_nil, h0, h1, h2, h3, Sem.run_bind, hr]
  rfl
theorem exec_ixm {ρ : Operand → Value} {o : Oper} {x y : Operand} {w : World} {b q n cap j : Nat} (ho : o.op = .indexAddr 35 x y) (hx : ρ x = .slice (some ⟨b, q, none⟩) n cap) (hy : ρ y = .int .i64 (j : Int)) (hj : j < n) :
    (execOp ρ o).run Tryz.prog w = .ok (.value (.pointer (some ⟨b, q + j * 23, none⟩))) w := by
  have u35 : Tryz.prog.underlying 35 = some (.slice 33) := und35
  obtain ⟨i0, hi, j0, j1, j2⟩ := info_parts Tryz.info33
  have k0 : (0 : Int) ≤ (j : Int) := by omega
  have k1 : (j : Int) < (n : Int) := by omega
  simp [execOp, go_sem, ho, hx, hy, k0, k1, u35, hi, j1, hj]
theorem four_at {w : World} {g : Nat} {T : TypeId} {a b c d : List Value} (h : w.heap[g]? = some (.cells (a.toArray ++ b.toArray ++ c.toArray ++ d.toArray) T)) (la : a.length = 23) (lb : b.length = 23) (lc : c.length = 23) : w.rangeAt g 0 a ∧ w.rangeAt g 23 b ∧ w.rangeAt g 46 c ∧ w.rangeAt g 69 d := by
  have e : a.toArray ++ b.toArray ++ c.toArray ++ d.toArray = (a ++ b ++ c ++ d).toArray := by simp
  rw [e] at h
  refine ⟨range_of (pre := []) (post := b ++ c ++ d) h (by simp), ?_, ?_, ?_⟩
  · have := range_of (pre := a) (l := b) (post := c ++ d) h (by simp)
    rwa [la] at this
  · have := range_of (pre := a ++ b) (l := c) (post := d) h (by simp)
    rwa [List.length_append, la, lb] at this
  · have := range_of (pre := a ++ b ++ c) (l := d) (post := []) h (by simp)
    rwa [List.length_append, List.length_append, la, lb, lc] at this
theorem ent14 : Ent 14 := enters_of Tryz.func14 (by kernel_rfl) rfl
/-- An action that lies in memory. -/
structure AcIn (w : World) (g o : Nat) (Z : Ac) (s : Option Addr) (n c : Nat) : Prop where
  row : w.rangeAt g o (Z.cells (.slice s n c))
  fates : FatesAt w (.slice s n c) Z.fates
  fit : AcS 2010 Z
set_option maxRecDepth 100000 in
set_option maxHeartbeats 8000000 in
theorem match_any (l : List Ap) (u : Value) (A : Ac) (s1 : Option Addr) (m1 c1 : Nat) (x many : Int) (w : World) (hg : Glob w) (hl : ApsAt w u l) (hpl : ∀ p ∈ l, ApFit p) (hA : OddFit A) (hF : FatesAt w (.slice s1 m1 c1) A.fates) (hx : IntFit x) (hm : IntFit many) :
    Calls Tryz.prog 3 #[u, .agg (A.cells (.slice s1 m1 c1)).toArray, .int .i64 x, .int .i64 many] w fun e w' => e = .returned (.bool true) ∧ Ext w w' := by
  have hL := scrF_len l
  have hLf := scrF_s l
  have hR := cut_s hA
  have z1 : A.call.s.length ≤ 9223372036854775807 := hA.strs 4 (by simp)
  have z2 : A.call.tick.length ≤ 9223372036854775807 := hA.strs 8 (by simp)
  have z3 : A.call.sec.length ≤ 9223372036854775807 := hA.strs 9 (by simp)
  have hSF := fun W (h : Ext w W) => ScriptFrom_any l u W (hl.ext h) hpl
  generalize scrF l = L at hL hLf hSF
  have hSH := fun W (h : Ext w W) => rshort_any A (.slice s1 m1 c1) W z1 z2 z3 hA.dat (hF.ext h)
  generalize A.cut = R at hR hSH
  have HSF := Lib.hid hSF
  have HSH := Lib.hid hSH
  clear hSF hSH z1 z2 z3 hA hF hl hpl
  obtain ⟨W0, hW0⟩ : ∃ W0, W0 = w.alloc (.cells (A.cells (.slice s1 m1 c1)).toArray 33) := ⟨_, rfl⟩
  have x0 : Ext w W0 := by rw [hW0]; exact Ext.alloc _ _
  have b0 : W0.heap[w.heap.size]? = some (.cells (A.cells (.slice s1 m1 c1)).toArray 33) := by rw [hW0]; exact alloc_new _ _
  rw [Ac.cells_eq] at hW0 ⊢
  have HW := Lib.hid hW0
  clear hW0
  go_enter Tryz.func3, Tryz.ntmps3
  go_wp2_with fail
  rw [← HW.out]
  clear HW
  refine (sane_any W0 (hg.ext x0)).mono ?_
  rintro e w1 ⟨rfl, x1⟩
  have y1 := x0.trans x1
  have b1 : w1.heap[w.heap.size]? = some (.cells (A.cells (.slice s1 m1 c1)).toArray 33) := (x1.block _ (lt_of_block b0)).trans b0
  clear x0 x1 b0
  go_wp2_with fail
  refine (HSF.out w1 y1).mono ?_
  rintro e w2 ⟨x2, u2, rfl, a2, _⟩
  have y2 := y1.trans x2
  have b2 : w2.heap[w.heap.size]? = some (.cells (A.cells (.slice s1 m1 c1)).toArray 33) := (x2.block _ (lt_of_block b1)).trans b1
  clear y1 b1 x2 HSF
  go_wp2_with (refine wpList_load33 (by rfl) _ rfl _ rfl _ b2 rfl ?_)
  refine (HSH.out w2 y2).mono ?_
  rintro e w3 ⟨s3, n3, c3, rfl, f3, x3⟩
  have y3 := y2.trans x3
  have a3 := a2.ext x3
  clear y2 b2 x3 HSH a2
  go_upto_block 0 with (refine wpList_new33m rfl _ _ rfl rfl R s3 n3 c3 rfl rfl ?_; intro W4 b4 x4)
  have a4 := a3.ext x4
  have f4 := f3.ext x4
  have y4 := y3.trans x4
  obtain ⟨B, hB⟩ : ∃ B, B = w3.heap.size := ⟨_, rfl⟩
  rw [← hB] at b4 ⊢
  clear a3 f3 y3 x4 hB
  obtain ⟨hk0, hk1⟩ := pickN_lt many (n := 111) (by decide)
  obtain ⟨m, hmm⟩ : ∃ m : Nat, pickN many 111 = (m : Int) := ⟨(pickN many 111).toNat, by omega⟩
  have hm110 : m ≤ 110 := by omega
  have HPK := fun (W : World) => Lib.hid (pickA many 111 W hm (by decide) (by decide))
  rw [hmm] at HPK
  clear hmm hk0 hk1 hm
  obtain ⟨su, cu, rfl, hcu, hcc⟩ := id a4
  obtain ⟨i0, hi, j0, j1, j2⟩ := info_parts Tryz.info33
  have hi0 := Lib.hid hi
  have hj0 := Lib.hid j0
  have hj1 := Lib.hid j1
  have hj2 := Lib.hid j2
  clear hi j0 j1 j2
  go_cut [12] from 30 to 50 (fun v W => ∃ ps : List Pt, (∀ p ∈ ps, p.a ∈ L) ∧ ps.length ≤ 110 ∧ ActsAt W v (ps.map (·.a)) ∧ Ext W4 W)
  case first =>
    go_wp2_with fail
    go_loopw [12, 13] (fun v i wq => ∃ (j : Nat) (ps : List Pt), j ≤ m ∧ i = .int .i64 j ∧ MRel L W4 j v ps wq) (fun _ i _ => m - (intOf i).toNat)
    case atStart => exact ⟨0, [], Nat.zero_le _, rfl, ⟨rfl, by simp, World.ownsRow_nil _ _ _ _, by simp, Ext.refl _⟩⟩
    case round =>
      obtain ⟨j, ps, hj, rfl, hP⟩ := hrel
      have hbq : Ext W4 wr := hP.below
      by_cases hlt : j < m
      · have k1 : (j : Int) < (m : Int) := by omega
        by_cases hL0 : L = []
        · have hpos' : ¬ (0 : Int) < (L.length : Int) := by rw [hL0]; decide
          have hacts : ActsAt wr u12 (ps.map (·.a)) := acts_row (by rw [hP.len]; exact hP.row) (fun p hp => (hP.fates p hp).ext hbq)
          clear hcc hL0
          go_wp2_with (go_at_call 13; refine (HPK _).out.mono ?_; rintro e W ⟨rfl, rfl⟩)
          go_meet
          exact ⟨ps, hP.acts, by rw [hP.len]; omega, hacts, hbq⟩
        · have hpos : 0 < L.length := List.length_pos_iff.2 hL0
          have hpos' : (0 : Int) < (L.length : Int) := by omega
          obtain ⟨q, hq⟩ : ∃ q, j % L.length = q := ⟨_, rfl⟩
          have hqL : q < L.length := by rw [← hq]; exact Nat.mod_lt _ hpos
          have q0 : (0 : Int) ≤ (q : Int) := by omega
          have q1 : (q : Int) < (L.length : Int) := by omega
          obtain ⟨b, o, rfl, hel⟩ := hcc hL0
          obtain ⟨y, hyy⟩ : ∃ y, L[q]? = some y := ⟨_, List.getElem?_eq_getElem hqL⟩
          have hym := List.mem_of_getElem? hyy
          obtain ⟨s2, n2, c2, hr, hf⟩ := hel q y hyy
          have hld := load33m (rangeAt_ext hr hbq)
          have HQ := Lib.hid hq
          have hone : ∀ u ∈ y.cells (.slice s2 n2 c2), u.oneCell' = true := by
            intro u hu
            exact Array.all_eq_true_iff_forall_mem.1 (Ac.one y s2 n2 c2) u (by rw [List.mem_toArray]; exact hu)
          have hjn : j + 1 ≤ maxLen := by unfold maxLen; omega
          have hby47 : (j + 1) * 232 ≤ 140737488355328 := by omega
          have hj1000 : j ≤ 1000 := by omega
          have hbs : W4.heap.size ≤ wr.heap.size := hbq.size
          clear hq hyy hel hcc hr
          go_wp2_with (first
            | (go_at_call 13; refine (HPK _).out.mono ?_; rintro e W ⟨rfl, rfl⟩)
            | refine wpList_runs 46 rfl rfl (.int .i64 (q : Int)) _ (exec_rem rfl rfl rfl hpos hj1000 HQ.out) ?_
            | refine wpList_runs 48 rfl rfl (.agg (y.cells (.slice s2 n2 c2)).toArray) _ (exec_ld rfl rfl hld) ?_
            | (refine wpList_bs35 rfl _ rfl y s2 n2 c2 rfl ?_; intro W5 g5 hxW5 hbW5; refine wpList_append_lies W5 (by rfl) _ _ 35 (by rfl) W4.heap.size 33 i0 _ 23 232 und35 hi0.out hj0.out hj1.out hj2.out (by rfl) (by decide) _ j (flatP ps) (by rfl) (ownsRow_ext hP.row hxW5) ⟨g5, 0, none⟩ 1 1 (y.cells (.slice s2 n2 c2)) (by rfl) (by rfl) (World.news_of_block hbW5) hone (by decide) hjn hby47 (Nat.le_trans hbs hxW5.size) _ rfl ?_; intro g cap2 w5 hown hgrow hat hlt5))
          have hxW : Ext W4 W5 := hbq.trans hxW5
          refine ⟨⟨j + 1, ps ++ [⟨y, s2, n2, c2⟩], hlt, by go_num, ⟨?_, ?_, ?_, ?_, ?_⟩⟩, by simp [intOf]; omega⟩
          · rw [List.length_append, hP.len]; rfl
          · intro p hp
            rcases List.mem_append.1 hp with h | h
            · exact hP.acts p h
            · rw [List.mem_singleton.1 h]; exact hym
          · have : flatP (ps ++ [⟨y, s2, n2, c2⟩]) = flatP ps ++ y.cells (.slice s2 n2 c2) := by simp [flatP, Pt.cells, Pt.v]
            rw [this]; exact hown
          · intro p hp
            rcases List.mem_append.1 hp with h | h
            · exact hP.fates p h
            · rw [List.mem_singleton.1 h]; exact hf
          · have hvb : ∀ k, u12.ownBlock = some k → W4.heap.size ≤ k := by
              intro k hk
              rcases hP.row.2 with ⟨h2, _⟩ | ⟨g', cap', cur, he, hbb, hgg, _⟩
              · rw [h2] at hk; cases hk
              · rw [he] at hk; cases hk; exact hbb
            exact ⟨hgrow.os.trans hxW.os, hgrow.tape.trans hxW.tape, hgrow.output.trans hxW.output, Nat.le_trans hxW.size hgrow.size, fun k hk => (hgrow.block k (Nat.lt_of_lt_of_le hk hxW.size) (fun h => by have := hvb k h.symm; omega)).trans (hxW.block k hk)⟩
      · have k1 : ¬ (j : Int) < (m : Int) := by omega
        have hacts : ActsAt wr u12 (ps.map (·.a)) := acts_row (by rw [hP.len]; exact hP.row) (fun p hp => (hP.fates p hp).ext hbq)
        clear hcc
        go_wp2_with (go_at_call 13; refine (HPK _).out.mono ?_; rintro e W ⟨rfl, rfl⟩)
        go_meet
        exact ⟨ps, hP.acts, by rw [hP.len]; omega, hacts, hbq⟩
  case rest =>
    obtain ⟨ps, hpa, hpl, hpz, hq⟩ := hcut
    have y5 := y4.trans hq
    have b5 : wc.heap[B]? = some (.cells (R.cells (.slice s3 n3 c3)).toArray 33) := (hq.block _ (lt_of_block b4)).trans b4
    have f5 := f4.ext hq
    have a5 := a4.ext hq
    obtain ⟨_, _, he5, _, hcc5⟩ := id a5
    cases he5
    clear y4 b4 f4 hcc HPK hi0 hj0 hj1 hj2 hq
    have HPZ := Lib.hid hpz
    have HPA := Lib.hid hpa
    clear hpz hpa a4 a5
    go_wp2_with fail
    go_loopw [14] (fun i wq => ∃ j : Nat, j ≤ L.length ∧ i = .int .i64 j ∧ Ext wc wq) (fun i _ => L.length - (intOf i).toNat)
    case atStart => exact ⟨0, Nat.zero_le _, rfl, Ext.refl _⟩
    case round =>
     obtain ⟨j, hj, rfl, hjq⟩ := hrel
     by_cases hlt : j < L.length
     · have k1 : (j : Int) < (L.length : Int) := by omega
       obtain ⟨b, o, rfl, hel⟩ := hcc5 (by intro e; rw [e] at hlt; simp at hlt)
       obtain ⟨y, hyy⟩ : ∃ y, L[j]? = some y := ⟨_, List.getElem?_eq_getElem hlt⟩
       have hys := (hLf y (List.mem_of_getElem? hyy)).mono (N := 2010) (by decide)
       obtain ⟨s2, n2, c2, hr, hf⟩ := hel j y hyy
       have hr6 := rangeAt_ext hr hjq
       have f6 := hf.ext hjq
       have b6 : wr.heap[B]? = some (.cells (R.cells (.slice s3 n3 c3)).toArray 33) := (hjq.block _ (lt_of_block b5)).trans b5
       have g6 := f5.ext hjq
       have z6 : wr.rangeAt B 0 (R.cells (.slice s3 n3 c3)) := range_of (pre := []) (post := []) b6 (by simp)
       obtain ⟨hp0, hp1⟩ := pickN_lt x (n := 12) (by decide)
       obtain ⟨k, hk⟩ : ∃ k : Nat, pickN x 12 = (k : Int) := ⟨(pickN x 12).toNat, by omega⟩
       have m1 := mix_fates f6 g6 k
       obtain ⟨s5, c5, e5, _⟩ := id m1
       have m2 := mix_fates g6 f6 k
       obtain ⟨s6, c6, e6, _⟩ := id m2
       rw [e5] at m1
       rw [e6] at m2
       have t1 := mix_s hys hR k
       have t2 := mix_s hR hys k
       have HM1 : ∀ w', Ext wr w' → Calls Tryz.prog 14 #[.agg (y.cells (.slice s2 n2 c2)).toArray, .agg (R.cells (.slice s3 n3 c3)).toArray, .int .i64 x] w' fun e w'' => e = .returned (.agg ((y.mix R k).cells (.slice s5 (y.mix R k).fates.length c5)).toArray) ∧ Ext w' w'' := fun w' h => by
         have := rmix_at y R _ _ x hx hk w' (f6.ext h) (g6.ext h)
         rw [e5] at this
         exact this
       have HM2 : ∀ w', Ext wr w' → Calls Tryz.prog 14 #[.agg (R.cells (.slice s3 n3 c3)).toArray, .agg (y.cells (.slice s2 n2 c2)).toArray, .int .i64 x] w' fun e w'' => e = .returned (.agg ((R.mix y k).cells (.slice s6 (R.mix y k).fates.length c6)).toArray) ∧ Ext w' w'' := fun w' h => by
         have := rmix_at R y _ _ x hx hk w' (g6.ext h) (f6.ext h)
         rw [e6] at this
         exact this
       generalize y.mix R k = A1 at m1 t1 HM1
       generalize R.mix y k = A2 at m2 t2 HM2
       have HB4 : ∀ w', (Instr.buildSlice 35 4 #[(0, .agg (y.cells (.slice s2 n2 c2)).toArray), (1, .agg (A1.cells (.slice s5 A1.fates.length c5)).toArray), (2, .agg (A2.cells (.slice s6 A2.fates.length c6)).toArray), (3, .agg (R.cells (.slice s3 n3 c3)).toArray)]).run Tryz.prog w' = _ := fun w' => run_bs4 y A1 A2 R s2 s5 s6 s3 n2 _ _ n3 c2 c5 c6 c3 w'
       have HLY : ∀ w', Ext wr w' → (Instr.loadAt 33 (.pointer (some ⟨b, o + j * 23, none⟩))).run Tryz.prog w' = .ok (.agg (y.cells (.slice s2 n2 c2)).toArray) w' := fun w' h => load33m (rangeAt_ext hr6 h)
       have HLZ : ∀ w', Ext wr w' → (Instr.loadAt 33 (.pointer (some ⟨B, 0, none⟩))).run Tryz.prog w' = .ok (.agg (R.cells (.slice s3 n3 c3)).toArray) w' := fun w' h => load33m (rangeAt_ext z6 h)
       have H4 : ∀ (W : World) (g : Nat), Ext wr W → W.heap[g]? = some (.cells ((y.cells (.slice s2 n2 c2)).toArray ++ (A1.cells (.slice s5 A1.fates.length c5)).toArray ++ (A2.cells (.slice s6 A2.fates.length c6)).toArray ++ (R.cells (.slice s3 n3 c3)).toArray) 33) → ∀ i, i < 4 → ∃ Z s n c, AcIn W g (i * 23) Z s n c := fun W g hW hg i hi => by
         obtain ⟨r0, r1, r2, r3⟩ := four_at hg (by simp [Ac.cells, Cal.cells_length]) (by simp [Ac.cells, Cal.cells_length]) (by simp [Ac.cells, Cal.cells_length])
         match i, hi with
         | 0, _ => exact ⟨y, s2, n2, c2, r0, f6.ext hW, hys⟩
         | 1, _ => exact ⟨A1, s5, _, c5, r1, m1.ext hW, t1⟩
         | 2, _ => exact ⟨A2, s6, _, c6, r2, m2.ext hW, t2⟩
         | 3, _ => exact ⟨R, s3, n3, c3, r3, g6.ext hW, hR⟩
       generalize hY : (y.cells (.slice s2 n2 c2)).toArray = Y at HM1 HM2 HB4 HLY H4
       generalize hZ : (R.cells (.slice s3 n3 c3)).toArray = Z at HM1 HM2 HB4 HLZ H4
       generalize (A1.cells (.slice s5 A1.fates.length c5)).toArray = M1 at HM1 HB4 H4
       generalize (A2.cells (.slice s6 A2.fates.length c6)).toArray = M2 at HM2 HB4 H4
       have HHM1 := Lib.hid HM1
       have HHM2 := Lib.hid HM2
       have HH4 := Lib.hid H4
       have HHLY := Lib.hid HLY
       have HHLZ := Lib.hid HLZ
       have HHB4 := Lib.hid HB4
       have HHY := Lib.hid hY
       have HHZ := Lib.hid hZ
       clear HM1 HM2 H4 HLY HLZ HB4 hY hZ hcc5 hel hyy hr hf m1 m2 e5 e6 hp0 hp1 hk
       have y6 := y5.trans hjq
       go_upto_region 12 with fail
       refine wp_region_ext (TM (.slice (some ⟨b, o, none⟩) L.length cu) (.pointer (some ⟨b, o + j * 23, none⟩)) j x Y M1 M2 Z) TM.ext mixedOrd (by kernel_rfl) (by kernel_rfl) (by kernel_rfl) ?_ ?_
       · refine ⟨?_, ?_, ?_, ?_, ?_, ?_, ?_, ?_, ?_, ?_, ?_, ?_, ?_, ?_, ?_, ?_, ?_, ?_, ?_, ?_, ?_, ?_, trivial⟩
         · intro a' w' hs hW
           have h0 : a'.tmps[10]? = some (.slice (some ⟨b, o, none⟩) L.length cu) := hs.old 10 rfl
           exact wpOp_val rfl rfl (by simp [execOp, go_sem, h0]) ⟨_, rfl, .inr rfl, Ext.refl _⟩
         · intro a' w' hs hW
           have h0 : a'.tmps[14]? = some (.int .i64 (j : Int)) := hs.old 14 rfl
           exact wpOp_val rfl rfl (by simp [execOp, go_sem, h0]) ⟨_, rfl, .inr rfl, Ext.refl _⟩
         · intro a' w' hs hW
           obtain ⟨v, h0, rfl⟩ := hs.made 0 57 rfl rfl
           obtain ⟨v, h1, rfl⟩ := hs.made 1 58 rfl rfl
           exact wpOp_val rfl rfl (exec_ixm rfl (ev h0) (ev h1) hlt) ⟨_, rfl, .inr rfl, Ext.refl _⟩
         · intro a' w' hs hW
           obtain ⟨v, h0, rfl⟩ := hs.made 2 59 rfl rfl
           exact wpOp_val rfl rfl (exec_ld rfl (ev h0) (HHLY.out w' hW)) ⟨_, rfl, .inr rfl, Ext.refl _⟩
         · intro a' w' hs hW
           have h0 : a'.tmps[10]? = some (.slice (some ⟨b, o, none⟩) L.length cu) := hs.old 10 rfl
           exact wpOp_val rfl rfl (by simp [execOp, go_sem, h0]) ⟨_, rfl, .inr rfl, Ext.refl _⟩
         · intro a' w' hs hW
           have h0 : a'.tmps[14]? = some (.int .i64 (j : Int)) := hs.old 14 rfl
           exact wpOp_val rfl rfl (by simp [execOp, go_sem, h0]) ⟨_, rfl, .inr rfl, Ext.refl _⟩
         · intro a' w' hs hW
           obtain ⟨v, h0, rfl⟩ := hs.made 4 61 rfl rfl
           obtain ⟨v, h1, rfl⟩ := hs.made 5 62 rfl rfl
           exact wpOp_val rfl rfl (exec_ixm rfl (ev h0) (ev h1) hlt) ⟨_, rfl, .inr rfl, Ext.refl _⟩
         · intro a' w' hs hW
           obtain ⟨v, h0, rfl⟩ := hs.made 6 63 rfl rfl
           exact wpOp_val rfl rfl (exec_ld rfl (ev h0) (HHLY.out w' hW)) ⟨_, rfl, .inr rfl, Ext.refl _⟩
         · intro a' w' hs hW
           have h0 : a'.tmps[11]? = some (.pointer (some ⟨B, 0, none⟩)) := hs.old 11 rfl
           exact wpOp_val rfl rfl (exec_ld rfl (ev h0) (HHLZ.out w' hW)) ⟨_, rfl, .inr rfl, Ext.refl _⟩
         · intro a' w' hs hW
           have h0 : a'.tmps[2]? = some (.int .i64 x) := hs.old 2 rfl
           exact wpOp_val rfl rfl (by simp [execOp, go_sem, h0]) ⟨_, rfl, .inr rfl, Ext.refl _⟩
         · intro a' w' hs hW
           obtain ⟨v, h0, rfl⟩ := hs.made 7 64 rfl rfl
           obtain ⟨v, h1, rfl⟩ := hs.made 8 65 rfl rfl
           obtain ⟨v, h2, rfl⟩ := hs.made 9 66 rfl rfl
           refine wpOp_call (f := 14) (args := #[.agg Y, .agg Z, .int .i64 x]) rfl rfl (exec_call rfl rfl ent14 (by simp [ev h0, ev h1, ev h2])) ?_
           refine (HHM1.out w' hW).mono ?_
           rintro e w'' ⟨rfl, hw''⟩
           exact ⟨_, rfl, _, rfl, .inr rfl, hw''⟩
         · intro a' w' hs hW
           have h0 : a'.tmps[11]? = some (.pointer (some ⟨B, 0, none⟩)) := hs.old 11 rfl
           exact wpOp_val rfl rfl (exec_ld rfl (ev h0) (HHLZ.out w' hW)) ⟨_, rfl, .inr rfl, Ext.refl _⟩
         · intro a' w' hs hW
           have h0 : a'.tmps[10]? = some (.slice (some ⟨b, o, none⟩) L.length cu) := hs.old 10 rfl
           exact wpOp_val rfl rfl (by simp [execOp, go_sem, h0]) ⟨_, rfl, .inr rfl, Ext.refl _⟩
         · intro a' w' hs hW
           have h0 : a'.tmps[14]? = some (.int .i64 (j : Int)) := hs.old 14 rfl
           exact wpOp_val rfl rfl (by simp [execOp, go_sem, h0]) ⟨_, rfl, .inr rfl, Ext.refl _⟩
         · intro a' w' hs hW
           obtain ⟨v, h0, rfl⟩ := hs.made 12 69 rfl rfl
           obtain ⟨v, h1, rfl⟩ := hs.made 13 70 rfl rfl
           exact wpOp_val rfl rfl (exec_ixm rfl (ev h0) (ev h1) hlt) ⟨_, rfl, .inr rfl, Ext.refl _⟩
         · intro a' w' hs hW
           obtain ⟨v, h0, rfl⟩ := hs.made 14 71 rfl rfl
           exact wpOp_val rfl rfl (exec_ld rfl (ev h0) (HHLY.out w' hW)) ⟨_, rfl, .inr rfl, Ext.refl _⟩
         · intro a' w' hs hW
           have h0 : a'.tmps[2]? = some (.int .i64 x) := hs.old 2 rfl
           exact wpOp_val rfl rfl (by simp [execOp, go_sem, h0]) ⟨_, rfl, .inr rfl, Ext.refl _⟩
         · intro a' w' hs hW
           obtain ⟨v, h0, rfl⟩ := hs.made 11 68 rfl rfl
           obtain ⟨v, h1, rfl⟩ := hs.made 15 72 rfl rfl
           obtain ⟨v, h2, rfl⟩ := hs.made 16 73 rfl rfl
           refine wpOp_call (f := 14) (args := #[.agg Z, .agg Y, .int .i64 x]) rfl rfl (exec_call rfl rfl ent14 (by simp [ev h0, ev h1, ev h2])) ?_
           refine (HHM2.out w' hW).mono ?_
           rintro e w'' ⟨rfl, hw''⟩
           exact ⟨_, rfl, _, rfl, .inr rfl, hw''⟩
         · intro a' w' hs hW
           have h0 : a'.tmps[11]? = some (.pointer (some ⟨B, 0, none⟩)) := hs.old 11 rfl
           exact wpOp_val rfl rfl (exec_ld rfl (ev h0) (HHLZ.out w' hW)) ⟨_, rfl, .inr rfl, Ext.refl _⟩
         · intro a' w' hs hW
           obtain ⟨v, h0, rfl⟩ := hs.made 3 60 rfl rfl
           obtain ⟨v, h1, rfl⟩ := hs.made 10 67 rfl rfl
           obtain ⟨v, h2, rfl⟩ := hs.made 17 74 rfl rfl
           obtain ⟨v, h3, rfl⟩ := hs.made 18 75 rfl rfl
           exact wpOp_val rfl rfl (exec_bs4 rfl (ev h0) (ev h1) (ev h2) (ev h3) (HHB4.out w')) ⟨_, rfl, .inr ⟨_, rfl, alloc_new _ _⟩, Ext.alloc _ _⟩
         · intro a' w' hs hW
           obtain ⟨v, h0, g, rfl, hgc⟩ := hs.made 19 76 rfl rfl
           exact wpOp_val (v := .int .i64 4) rfl rfl (by simp [execOp, go_sem, h0]) ⟨_, rfl, .inr rfl, Ext.refl _⟩
         · intro a' w' hs hW
           exact wpOp_val (v := .int .i64 0) rfl rfl (by simp [execOp, go_sem]) ⟨_, rfl, .inr rfl, Ext.refl _⟩
       · intro a' w' hs hW
         obtain ⟨v57, q57, _⟩ := hs.made 0 57 rfl
         obtain ⟨v58, q58, _⟩ := hs.made 1 58 rfl
         obtain ⟨v59, q59, _⟩ := hs.made 2 59 rfl
         obtain ⟨v60, q60, _⟩ := hs.made 3 60 rfl
         obtain ⟨v61, q61, _⟩ := hs.made 4 61 rfl
         obtain ⟨v62, q62, _⟩ := hs.made 5 62 rfl
         obtain ⟨v63, q63, _⟩ := hs.made 6 63 rfl
         obtain ⟨v64, q64, _⟩ := hs.made 7 64 rfl
         obtain ⟨v65, q65, _⟩ := hs.made 8 65 rfl
         obtain ⟨v66, q66, _⟩ := hs.made 9 66 rfl
         obtain ⟨v67, q67, _⟩ := hs.made 10 67 rfl
         obtain ⟨v68, q68, _⟩ := hs.made 11 68 rfl
         obtain ⟨v69, q69, _⟩ := hs.made 12 69 rfl
         obtain ⟨v70, q70, _⟩ := hs.made 13 70 rfl
         obtain ⟨v71, q71, _⟩ := hs.made 14 71 rfl
         obtain ⟨v72, q72, _⟩ := hs.made 15 72 rfl
         obtain ⟨v73, q73, _⟩ := hs.made 16 73 rfl
         obtain ⟨v74, q74, _⟩ := hs.made 17 74 rfl
         obtain ⟨v75, q75, _⟩ := hs.made 18 75 rfl
         obtain ⟨v, q76, g9, rfl, hg9⟩ := hs.made 19 76 rfl
         obtain ⟨v, q77, rfl⟩ := hs.made 20 77 rfl
         obtain ⟨v, q78, rfl⟩ := hs.made 21 78 rfl
         have ha := act_putAll [(57, v57), (58, v58), (59, v59), (60, v60), (61, v61), (62, v62), (63, v63), (64, v64), (65, v65), (66, v66), (67, v67), (68, v68), (69, v69), (70, v70), (71, v71), (72, v72), (73, v73), (74, v74), (75, v75), (76, .slice (some ⟨g9, 0, none⟩) 4 4), (77, .int .i64 4), (78, .int .i64 0)] hs.defers hs.size (by simp [q57, q58, q59, q60, q61, q62, q63, q64, q65, q66, q67, q68, q69, q70, q71, q72, q73, q74, q75, q76, q77, q78]) rfl hs.old
         clear hs q57 q58 q59 q60 q61 q62 q63 q64 q65 q66 q67 q68 q69 q70 q71 q72 q73 q74 q75 q76 q77 q78
         simp only [putAll, Act.put] at ha
         subst ha
         go_frame
         have h4 := HH4.out w' g9 hW hg9
         have HHI := Lib.hid h4
         have y8 := y6.trans hW
         have b8 := (hW.block _ (lt_of_block b6)).trans b6
         have j8 := hjq.trans hW
         clear h4 hg9
         go_wp2_with fail
         go_loopw [78] (fun i wq => ∃ i' : Nat, i' ≤ 4 ∧ i = .int .i64 i' ∧ Ext w' wq) (fun i _ => 4 - (intOf i).toNat)
         case atStart => exact ⟨0, by decide, rfl, Ext.refl _⟩
         case round =>
          obtain ⟨i, hi4, rfl, hiq⟩ := hrel
          by_cases hi : i < 4
          · obtain ⟨Z1, s7, n7, c7, hz⟩ := HHI.out i hi
            have i1 : (0 : Int) ≤ (i : Int) := by omega
            have i2 : (i : Int) < 4 := by omega
            have k0 : (0 : Int) ≤ (j : Int) := by omega
            have rz := rangeAt_ext hz.row hiq
            have fz := hz.fates.ext hiq
            have hld := load33m rz
            have hfit := hz.fit.fit (by decide)
            have y9 := y8.trans hiq
            clear hz rz
            go_wp2_with (first
              | refine wpList_runs 81 rfl rfl (.agg (Z1.cells (.slice s7 n7 c7)).toArray) _ (exec_ld rfl rfl hld) ?_
              | (refine wpList_new33m rfl _ _ rfl rfl Z1 s7 n7 c7 rfl rfl ?_; intro W7 b7 x7)
              | refine wpList_load33 (by rfl) _ rfl _ rfl _ b7 rfl ?_
              | (refine wpList_bs35 rfl _ rfl Z1 s7 n7 c7 rfl ?_; intro W8 g8 x8 h8))
            have x78 := x7.trans x8
            obtain ⟨T, N, hTN⟩ : ∃ T N, printL [Z1] = (T, N) := ⟨_, _, rfl⟩
            have HPr := Print_any [Z1] _ W8 (hg.ext (y9.trans x78)) (acts_one h8 (fz.ext x78)) (fun a ha => by rw [List.mem_singleton.1 ha]; exact hfit)
            have HRp := fun (W : World) (v : Value) (h : ActsAt W v [Z1]) => rprint_any [Z1] v W h (fun a ha => by rw [List.mem_singleton.1 ha]; exact hfit) (by simp)
            rw [hTN] at HPr HRp
            have HHR := Lib.hid HRp
            clear HRp hTN
            refine HPr.mono ?_
            rintro e W9 ⟨rfl, x9⟩
            rw [vS_fst T N]
            have x79 := x78.trans x9
            have b9 := ((x8.trans x9).block _ (lt_of_block b7)).trans b7
            clear HPr h8 b7 x7 x8 x9 x78
            go_wp2_with (first
              | refine wpList_load33 (by rfl) _ rfl _ rfl _ b9 rfl ?_
              | (refine wpList_bs35 rfl _ rfl Z1 s7 n7 c7 rfl ?_; intro WA gA xA hA))
            refine (HHR.out WA _ (acts_one hA (fz.ext (x79.trans xA)))).mono ?_
            rintro e WB ⟨rfl, xB⟩
            rw [vS_fst T N]
            have xW := x79.trans (xA.trans xB)
            have bW := ((xA.trans xB).block _ (lt_of_block b9)).trans b9
            have xr := hW.trans (hiq.trans xW)
            clear HHR hA b9 xA xB x79
            have H17 := fun (k : XW WB) => Lib.hid (Valid_any Z1 (.slice s7 n7 c7) k.val (hg.ext ((y9.trans xW).trans k.ext)) hfit (fz.ext (xW.trans k.ext)))
            have H18 := fun (k : XW WB) => Lib.hid (rvalid_any Z1 (.slice s7 n7 c7) k.val hfit (fz.ext (xW.trans k.ext)))
            have H19 := fun (k : XW WB) => Same_any y Z1 (.slice s2 n2 c2) (.slice s7 n7 c7) k.val (f6.ext (xr.trans k.ext)) (fz.ext (xW.trans k.ext))
            have H20 := fun (k : XW WB) => Rsame_any y Z1 (.slice s2 n2 c2) (.slice s7 n7 c7) k.val (f6.ext (xr.trans k.ext)) (fz.ext (xW.trans k.ext))
            have G19 := fun (k : XW WB) => Same_any Z1 R (.slice s7 n7 c7) (.slice s3 n3 c3) k.val (fz.ext (xW.trans k.ext)) (g6.ext (xr.trans k.ext))
            have G20 := fun (k : XW WB) => Rsame_any Z1 R (.slice s7 n7 c7) (.slice s3 n3 c3) k.val (fz.ext (xW.trans k.ext)) (g6.ext (xr.trans k.ext))
            rw [HHY.out] at H19 H20
            rw [HHZ.out] at G19 G20
            obtain ⟨bv, hbv⟩ : ∃ bv, Z1.line.2 = bv := ⟨_, rfl⟩
            obtain ⟨e1, he1⟩ : ∃ e1, y.eqb Z1 = e1 := ⟨_, rfl⟩
            obtain ⟨e2, he2⟩ : ∃ e2, Z1.eqb R = e2 := ⟨_, rfl⟩
            rw [hbv] at H17 H18
            rw [he1] at H19 H20
            rw [he2] at G19 G20
            have K17 : Hid (∀ k : XW WB, Calls Tryz.prog 17 #[.agg (Z1.cells (.slice s7 n7 c7)).toArray] k.val fun e w' => e = .returned (.bool bv) ∧ Ext k.val w') := fun k => (H17 k).out
            have K18 : Hid (∀ k : XW WB, Calls Tryz.prog 18 #[.agg (Z1.cells (.slice s7 n7 c7)).toArray] k.val fun e w' => e = .returned (.bool bv) ∧ Ext k.val w') := fun k => (H18 k).out
            have K19 := Lib.hid H19
            have K20 := Lib.hid H20
            have J19 := Lib.hid G19
            have J20 := Lib.hid G20
            have L16 : Hid (∀ k : XW WB, (Instr.loadAt 33 (.pointer (some ⟨wr.heap.size, 0, none⟩))).run Tryz.prog k.val = .ok (.agg (Z1.cells (.slice s7 n7 c7)).toArray) k.val) := fun k => load33m (range_of (pre := []) (post := []) ((k.ext.block _ (lt_of_block bW)).trans bW) (by simp))
            have LY : Hid (∀ k : XW WB, (Instr.loadAt 33 (.pointer (some ⟨b, o + j * 23, none⟩))).run Tryz.prog k.val = .ok (.agg Y) k.val) := fun k => HHLY.out k.val (xr.trans k.ext)
            have LZ : Hid (∀ k : XW WB, (Instr.loadAt 33 (.pointer (some ⟨B, 0, none⟩))).run Tryz.prog k.val = .ok (.agg Z) k.val) := fun k => HHLZ.out k.val (xr.trans k.ext)
            clear H17 H18 H19 H20 G19 G20 hbv he1 he2 bW hld
            go_upto_region 17 with fail
            refine wp_region_xw mixedOrd (by kernel_rfl) ?_
            iterate 2 go_big_quiet_step (fail)
            refine wpQuiet_xw rfl (fun k => exec_neqS T rfl rfl rfl) ?_
            go_frame
            iterate 3 go_big_quiet_step (fail)
            refine wpQuiet_xw rfl (fun k => exec_neqI N rfl rfl rfl) ?_
            go_frame
            iterate 2 go_big_quiet_step (fail)
            refine wpQuiet_xw rfl (fun k => exec_ld rfl rfl (L16.out k)) ?_
            go_frame
            go_big_quiet_step (first | (go_at_call 17; exact Calls.xw (K17.out _)))
            refine wpQuiet_xw rfl (fun k => exec_ld rfl rfl (L16.out k)) ?_
            go_frame
            go_big_quiet_step (first | (go_at_call 18; exact Calls.xw (K18.out _)))
            refine wpQuiet_xw rfl (fun k => exec_neqB bv rfl rfl rfl) ?_
            go_frame
            iterate 5 go_big_quiet_step (fail)
            refine wpQuiet_xw rfl (fun k => exec_ld rfl rfl (LY.out k)) ?_
            go_frame
            refine wpQuiet_xw rfl (fun k => exec_ld rfl rfl (L16.out k)) ?_
            go_frame
            go_big_quiet_step (first | (go_at_call 19; exact Calls.xw (K19.out _)))
            iterate 3 go_big_quiet_step (fail)
            refine wpQuiet_xw rfl (fun k => exec_ld rfl rfl (LY.out k)) ?_
            go_frame
            refine wpQuiet_xw rfl (fun k => exec_ld rfl rfl (L16.out k)) ?_
            go_frame
            go_big_quiet_step (first | (go_at_call 20; exact Calls.xw (K20.out _)))
            refine wpQuiet_xw rfl (fun k => exec_neqB e1 rfl rfl rfl) ?_
            go_frame
            iterate 2 go_big_quiet_step (fail)
            refine wpQuiet_xw rfl (fun k => exec_ld rfl rfl (L16.out k)) ?_
            go_frame
            refine wpQuiet_xw rfl (fun k => exec_ld rfl rfl (LZ.out k)) ?_
            go_frame
            go_big_quiet_step (first | (go_at_call 19; exact Calls.xw (J19.out _)))
            refine wpQuiet_xw rfl (fun k => exec_ld rfl rfl (L16.out k)) ?_
            go_frame
            refine wpQuiet_xw rfl (fun k => exec_ld rfl rfl (LZ.out k)) ?_
            go_frame
            go_big_quiet_step (first | (go_at_call 20; exact Calls.xw (J20.out _)))
            refine wpQuiet_xw rfl (fun k => exec_neqB e2 rfl rfl rfl) ?_
            go_frame
            iterate 1 go_big_quiet_step (fail)
            refine wpQuiet_nil ?_
            rintro WC ⟨⟨WC', hC⟩, heC⟩
            have xC : Ext WB WC := by rw [heC]; exact hC
            clear heC hC K17 K18 K19 K20 J19 J20 L16 LY LZ
            go_wp2_with fail
            go_roundw
            case rel => exact ⟨i + 1, hi, by go_num, (hiq.trans xW).trans xC⟩
            case measure => simp [intOf]; omega
          · have i2 : ¬ (i : Int) < 4 := by omega
            have j9 := j8.trans hiq
            clear HHI HHM1 HHM2 HH4 HHLY HHLZ HHB4 HHY HHZ
            go_wp2_with fail
            go_roundw
            case rel => exact ⟨j + 1, hlt, by go_num, j9⟩
            case measure => simp [intOf]; omega
     · have k1 : ¬ (j : Int) < (L.length : Int) := by omega
       have yq := y5.trans hjq
       have bq : wr.heap[B]? = some (.cells (R.cells (.slice s3 n3 c3)).toArray 33) := (hjq.block _ (lt_of_block b5)).trans b5
       have fq := f5.ext hjq
       clear hcc5 b5 f5
       go_wp2_with fail
       have hfitL : ∀ a ∈ ps.map (·.a), AcFit a := fun a ha => by
         obtain ⟨p, hp, rfl⟩ := List.mem_map.1 ha
         exact (hLf p.a (HPA.out p hp)).fit (by decide)
       have hfitR := hR.fit (by decide)
       have hlen : (ps.map (·.a)).length ≤ 4294967296 := by rw [List.length_map]; omega
       obtain ⟨T, N, hTN⟩ : ∃ T N, printL (ps.map (·.a)) = (T, N) := ⟨_, _, rfl⟩
       have HPr := Print_any (ps.map (·.a)) _ wr (hg.ext yq) (HPZ.out.ext hjq) hfitL
       have HRp := fun (W : World) (h : Ext wr W) => rprint_any (ps.map (·.a)) _ W ((HPZ.out.ext hjq).ext h) hfitL hlen
       rw [hTN] at HPr HRp
       have HHR := Lib.hid HRp
       clear HRp hTN hfitL hlen
       refine HPr.mono ?_
       rintro e W9 ⟨rfl, x9⟩
       rw [vS_fst T N]
       clear HPr
       go_wp2_with fail
       refine (HHR.out W9 x9).mono ?_
       rintro e WB ⟨rfl, xB⟩
       rw [vS_fst T N]
       have xW := x9.trans xB
       have bW := (xW.block _ (lt_of_block bq)).trans bq
       have fW := fq.ext xW
       have yW := yq.trans xW
       clear HHR x9 xB bq fq
       have H17 := fun (k : XW WB) => Lib.hid (Valid_any R (.slice s3 n3 c3) k.val (hg.ext (yW.trans k.ext)) hfitR (fW.ext k.ext))
       have H18 := fun (k : XW WB) => Lib.hid (rvalid_any R (.slice s3 n3 c3) k.val hfitR (fW.ext k.ext))
       obtain ⟨bv, hbv⟩ : ∃ bv, R.line.2 = bv := ⟨_, rfl⟩
       rw [hbv] at H17 H18
       have K17 : Hid (∀ k : XW WB, Calls Tryz.prog 17 #[.agg (R.cells (.slice s3 n3 c3)).toArray] k.val fun e w' => e = .returned (.bool bv) ∧ Ext k.val w') := fun k => (H17 k).out
       have K18 : Hid (∀ k : XW WB, Calls Tryz.prog 18 #[.agg (R.cells (.slice s3 n3 c3)).toArray] k.val fun e w' => e = .returned (.bool bv) ∧ Ext k.val w') := fun k => (H18 k).out
       have LZ : Hid (∀ k : XW WB, (Instr.loadAt 33 (.pointer (some ⟨B, 0, none⟩))).run Tryz.prog k.val = .ok (.agg (R.cells (.slice s3 n3 c3)).toArray) k.val) := fun k => load33m (range_of (pre := []) (post := []) ((k.ext.block _ (lt_of_block bW)).trans bW) (by simp))
       clear H17 H18 hbv bW fW hfitR
       go_upto_region 22 with fail
       refine wp_region_xw mixedOrd (by kernel_rfl) ?_
       iterate 4 go_big_quiet_step (fail)
       refine wpQuiet_xw rfl (fun k => exec_eqlS T rfl rfl rfl) ?_
       go_frame
       iterate 4 go_big_quiet_step (fail)
       refine wpQuiet_xw rfl (fun k => exec_eqlI N rfl rfl rfl) ?_
       go_frame
       iterate 2 go_big_quiet_step (fail)
       refine wpQuiet_xw rfl (fun k => exec_ld rfl rfl (LZ.out k)) ?_
       go_frame
       go_big_quiet_step (first | (go_at_call 17; exact Calls.xw (K17.out _)))
       refine wpQuiet_xw rfl (fun k => exec_ld rfl rfl (LZ.out k)) ?_
       go_frame
       go_big_quiet_step (first | (go_at_call 18; exact Calls.xw (K18.out _)))
       refine wpQuiet_xw rfl (fun k => exec_eqlB bv rfl rfl rfl) ?_
       go_frame
       iterate 2 go_big_quiet_step (fail)
       refine wpQuiet_nil ?_
       rintro WC ⟨⟨WC', hC⟩, heC⟩
       have xC : Ext WB WC := by rw [heC]; exact hC
       clear heC hC K17 K18 LZ
       go_wp2_with fail
       go_ret
       exact ⟨rfl, yW.trans xC⟩
end Go.Proofs.YtikmoledbiepoaaGreatDoor

/- A region that draws its order and sets a variable of its own: what a slot holds while its operation is not done. -/
import Derived.Test.YtikmoledbiepoaaGreatDoorUnique
namespace Go.Proofs.YtikmoledbiepoaaGreatDoor
open Go.RowKit
section
variable {P : Program} {ops : Array Oper} {Q : Exit → Act → World → Prop}
theorem wp_region_gen3 {id : Nat} {a0 : Act} {w0 : World} (G : Nat → Value → World → Prop) (W : (Nat → Bool) → World → Prop)
    (hm : P.follows .mixedOrders = true) (hd : dstsApart ops = true) (hw : waitsBack ops = true)
    (hsz : (ops.all fun o => match o.dst with | some d => decide (d < a0.tmps.size) | none => true) = true)
    (h0 : W (fun _ => false) { w0 with drawn := w0.drawn + 1 })
    (hstep : AllAt (fun i o => ∀ (a : Act) (w : World) (b : Nat → Bool), a.defers = a0.defers → Soon ops i o b → SlotsG ops G a0 o a w → (∀ (j : Nat) (d : Tmp), (ops[j]?).bind (·.dst) = some d → b j = false → a.tmps[d]? = a0.tmps[d]?) → W b w →
      wpOp P ops Q i (fun a' w' => ∃ v, a' = a.put o.dst v ∧ (o.dst = none ∨ G i v w') ∧ W (fun k => k == i || b k) w' ∧ ∀ j u, b j = true → G j u w → G j u w') a w) 0 ops.toList)
    (hend : ∀ (a : Act) (w : World) (b : Nat → Bool), (∀ i, i < ops.size → b i = true) → SlotsGEnd ops G a0 a w → W b w → Q .normal a w) :
    (Code.region id ops true).wp P Q a0 w0 := by
  refine wp_region_table (fun _ i v w => G i v w) (fun L w => W (fun k => L.getD k false) w) hm hd hw ?_ ?_ ?_ ?_
  · intro i o d ho hdo
    have := Array.all_eq_true_iff_forall_mem.1 hsz o (Array.mem_of_getElem? ho)
    simpa [hdo] using this
  · have : (fun k => (Array.replicate ops.size false).getD k false) = fun _ => false := by
      funext k
      by_cases h : k < ops.size <;> simp [h]
    rw [this]
    exact h0
  · intro i o L a w ho hLs hun hall hT hW
    have hi : i < L.size := by
      rcases Nat.lt_or_ge i L.size with h | h
      · exact h
      · simp [Array.getElem?_eq_none h] at hun
    have hwait : ∀ (o' : Oper) (L' : Array Bool), (∀ e ∈ o'.after, Region.binds .any e = true → L'.getD e.on false = true) → ∀ j, waitsFor o' j = true → L'.getD j false = true := by
      intro o' L' h j hj
      obtain ⟨e, he, hb⟩ := List.any_eq_true.1 hj
      simp only [Bool.and_eq_true, beq_iff_eq] at hb
      exact hb.2 ▸ h e (Array.mem_toList_iff.1 he) hb.1
    have hs := hstep.get i o (by simpa using ho) a w (fun k => L.getD k false) hT.defers
      ⟨by rw [Nat.zero_add]; simpa [hi] using hun, hwait o L hall, fun j o' hj hbj => hwait o' L fun e he hb => hT.down j o' e hj hbj he hb⟩ ?_ ?_ hW
    · rw [Nat.zero_add] at hs
      refine wpOp_mono ?_ hs
      rintro a' w' ⟨v, rfl, hg, hW', hkeep⟩
      refine ⟨v, rfl, hg, ?_, fun j oj d u hj hLj hdj hu hG => hkeep j u hLj hG⟩
      have e : (fun k => (L.setIfInBounds i true).getD k false) = fun k => k == i || L.getD k false := by
        funext k
        by_cases hk : i = k
        · subst hk; simp [hi]
        · rw [getD_set_ne false hk]
          have : (k == i) = false := beq_eq_false_iff_ne.2 (Ne.symm hk)
          rw [this]; rfl
      rw [e]
      exact hW'
    · refine ⟨fun j d hj hin => ?_, fun t ht => hT.old t fun i o h _ => noDst_spec ht i o h⟩
      obtain ⟨oj, hoj, hdj⟩ := Option.bind_eq_some_iff.1 hj
      exact hT.good j oj d hoj (hwait o L hall j hin) hdj
    · intro j d hj hb
      obtain ⟨oj, hoj, hdj⟩ := Option.bind_eq_some_iff.1 hj
      refine hT.old d fun k ok hk hLk hdk => ?_
      have := dstsApart_spec hd hk hoj hdk hdj
      subst this
      have hb : L.getD k false = false := hb
      rw [hLk] at hb
      cases hb
  · intro L a w hL hT hW
    refine hend a w (fun k => L.getD k false) hL ⟨hT.defers, hT.size, fun j d hj => ?_, fun t ht => hT.old t fun i o h _ => noDst_spec ht i o h⟩ hW
    obtain ⟨oj, hoj, hdj⟩ := Option.bind_eq_some_iff.1 hj
    exact hT.good j oj d hoj (hL j (Array.getElem?_eq_some_iff.1 hoj).1) hdj
end
end Go.Proofs.YtikmoledbiepoaaGreatDoor
/- The reference's hex. -/
namespace Go.Proofs.YtikmoledbiepoaaGreatDoor
open Go.RowKit
def digS : List UInt8 := [48, 49, 50, 51, 52, 53, 54, 55, 56, 57, 97, 98, 99, 100, 101, 102]
def vB (b : UInt8) : Value := .int .u8 (b.toNat : Int)
theorem exec_ixs {ρ : Operand → Value} {o : Oper} {x y : Operand} {w : World} {s : List UInt8} {j : Nat} {b : UInt8} (ho : o.op = .index 9 x y) (hx : ρ x = .string ⟨s.toArray⟩) {k : IntKind} (hy : ρ y = .int k (j : Int)) (h : s[j]? = some b) :
    (execOp ρ o).run Tryz.prog w = .ok (.value (vB b)) w := by
  have hj : j < s.length := (List.getElem?_eq_some_iff.1 h).1
  have hb : s[j] = b := (List.getElem?_eq_some_iff.1 h).2
  have hk' : j < (⟨s.toArray⟩ : ByteArray).size := hj
  have j0 : (0 : Int) ≤ (j : Int) := by omega
  have j1 : (j : Int) < (s.length : Int) := by omega
  have e := byteAt s j hk' hj
  unfold vB
  simp [execOp, go_sem, ho, hx, hy, j0, hj, e, hb]
theorem exec_quo16 {ρ : Operand → Value} {o : Oper} {x : Operand} {w : World} {b : UInt8} (ho : o.op = .binOp .quo 5 x (.const (.int .u8 16)) 5) (hx : ρ x = vB b) (hc : ρ (.const (.int .u8 16)) = .int .u8 16) :
    (execOp ρ o).run Tryz.prog w = .ok (.value (.int .u8 ((b.toNat / 16 : Nat) : Int))) w := by
  have h := b.toNat_lt
  have h1 : IntKind.u8.wrap ((b.toNat : Int) / 16) = (b.toNat : Int) / 16 := IntWalk.u8_in _ (by omega)
  unfold vB at hx
  simp [execOp, go_sem, ho, hx, hc, h1]
theorem exec_rem16 {ρ : Operand → Value} {o : Oper} {x : Operand} {w : World} {b : UInt8} (ho : o.op = .binOp .rem 5 x (.const (.int .u8 16)) 5) (hx : ρ x = vB b) (hc : ρ (.const (.int .u8 16)) = .int .u8 16) :
    (execOp ρ o).run Tryz.prog w = .ok (.value (.int .u8 ((b.toNat % 16 : Nat) : Int))) w := by
  have h := b.toNat_lt
  have h1 : (b.toNat : Int).tmod 16 = (b.toNat : Int) % 16 := Int.tmod_eq_emod_of_nonneg (by omega)
  unfold vB at hx
  simp [execOp, go_sem, ho, hx, hc, h1]
theorem digS_at {n : Nat} (h : n < 16) : digS[n]? = some (dig n) := by
  have : ∀ m : Fin 16, digS[m.1]? = some (dig m.1) := by decide
  exact this ⟨n, h⟩
theorem run_bs2b (a b : UInt8) (w : World) : (Instr.buildSlice 46 2 #[(0, vB a), (1, vB b)]).run Tryz.prog w = .ok (.slice (some ⟨w.heap.size, 0, none⟩) 2 2) (w.alloc (.cells #[vB a, vB b] 5)) := by kernel_rfl
theorem exec_bs2b {ρ : Operand → Value} {o : Oper} {x y : Operand} {w : World} {a b : UInt8} (ho : o.op = .buildSlice 46 2 #[(0, x), (1, y)]) (hx : ρ x = vB a) (hy : ρ y = vB b) :
    (execOp ρ o).run Tryz.prog w = .ok (.value (.slice (some ⟨w.heap.size, 0, none⟩) 2 2)) (w.alloc (.cells #[vB a, vB b] 5)) := by
  unfold execOp
  simp only [ho, List.map_toArray, List.map_cons, List.map_nil, hx, hy, Sem.run_bind, run_bs2b]
  rfl
/-- What 'append(out, digits[s[i]/16], digits[s[i]%16])' yields. -/
def HG (B : Nat) (s : List UInt8) (j : Nat) (c : UInt8) (v0 : Value) (xs : List UInt8) : Nat → Value → World → Prop
  | 0, v, _ => v = v0
  | 1, v, _ => v = .string ⟨digS.toArray⟩
  | 2, v, _ => v = .string ⟨s.toArray⟩
  | 3, v, _ => v = .int .i64 (j : Int)
  | 4, v, _ => v = vB c
  | 5, v, _ => v = .int .u8 ((c.toNat / 16 : Nat) : Int)
  | 6, v, _ => v = vB (dig (c.toNat / 16))
  | 7, v, _ => v = .string ⟨digS.toArray⟩
  | 8, v, _ => v = .string ⟨s.toArray⟩
  | 9, v, _ => v = .int .i64 (j : Int)
  | 10, v, _ => v = vB c
  | 11, v, _ => v = .int .u8 ((c.toNat % 16 : Nat) : Int)
  | 12, v, _ => v = vB (dig (c.toNat % 16))
  | 13, v, w => ∃ g, v = .slice (some ⟨g, 0, none⟩) 2 2 ∧ v0.ownBlock ≠ some g ∧ w.heap[g]? = some (.cells #[vB (dig (c.toNat / 16)), vB (dig (c.toNat % 16))] 5)
  | 14, v, w => w.ownsRow B 5 1 v (xs.length + 2) (Lib.byteCells (xs ++ [dig (c.toNat / 16), dig (c.toNat % 16)]))
  | 15, v, w => w.ownsRow B 5 1 v (xs.length + 2) (Lib.byteCells (xs ++ [dig (c.toNat / 16), dig (c.toNat % 16)]))
  | _, _, _ => True
theorem HG.ext {B : Nat} {s : List UInt8} {j : Nat} {c : UInt8} {v0 : Value} {xs : List UInt8} (i : Nat) (v : Value) (w w' : World) (hx : Ext w w') (h : HG B s j c v0 xs i v w) : HG B s j c v0 xs i v w' := by
  match i, h with
  | 0, h => exact h
  | 1, h => exact h
  | 2, h => exact h
  | 3, h => exact h
  | 4, h => exact h
  | 5, h => exact h
  | 6, h => exact h
  | 7, h => exact h
  | 8, h => exact h
  | 9, h => exact h
  | 10, h => exact h
  | 11, h => exact h
  | 12, h => exact h
  | 13, h =>
    obtain ⟨g, h1, h2, h3⟩ := h
    exact ⟨g, h1, h2, by rw [hx.block _ (lt_of_block h3)]; exact h3⟩
  | 14, h => exact ownsRow_ext h hx
  | 15, h => exact ownsRow_ext h hx
  | n + 16, _ => trivial
theorem HG.low {B : Nat} {s : List UInt8} {j : Nat} {c : UInt8} {v0 : Value} {xs : List UInt8} {i : Nat} {v : Value} {w w' : World} (hi : i < 13) (h : HG B s j c v0 xs i v w) : HG B s j c v0 xs i v w' := by
  match i, hi, h with
  | 0, _, h => exact h
  | 1, _, h => exact h
  | 2, _, h => exact h
  | 3, _, h => exact h
  | 4, _, h => exact h
  | 5, _, h => exact h
  | 6, _, h => exact h
  | 7, _, h => exact h
  | 8, _, h => exact h
  | 9, _, h => exact h
  | 10, _, h => exact h
  | 11, _, h => exact h
  | 12, _, h => exact h
  | n + 13, hi, _ => omega
theorem ownsRow_u8 {w : World} {B g : Nat} {x : Value} (hb : B ≤ g) (h : w.heap[g]? = some (.cells #[x] 5)) : w.ownsRow B 5 1 (.slice (some ⟨g, 0, none⟩) 1 1) 1 [x] :=
  ⟨rfl, .inr ⟨g, 1, #[x], rfl, hb, h, Nat.le_refl _, by decide, rfl, rfl⟩⟩
theorem Ext.trans' {w w1 w2 : World} {v : Value} {e : TypeId} {size n : Nat} {xs : List Value} {W : World} (h : Ext w w1) (hg : w1.grownBy w2 v.ownBlock) (hr : W.ownsRow w.heap.size e size v n xs) : Ext w w2 :=
  Below.trans h ⟨hg.os, hg.tape, hg.output, hg.size, fun k hk => hg.block k (Nat.lt_of_lt_of_le hk h.size) (fun e => by have := (hr.lt k e.symm).1; omega)⟩
set_option maxRecDepth 100000 in
set_option maxHeartbeats 4000000 in
theorem rhex_some (s : List UInt8) (w : World) (h0 : s ≠ []) (hs : s.length ≤ 2147483648) :
    Calls Tryz.prog 50 #[.string ⟨s.toArray⟩] w fun e w' => e = .returned (.string ⟨(32 :: hexAll s).toArray⟩) ∧ Ext w w' := by
  have he : s.isEmpty = false := by simpa using h0
  have he2 : (s == []) = false := beq_eq_false_iff_ne.2 h0
  obtain ⟨W0, hW0⟩ : ∃ W0, W0 = w.alloc (.cells #[.int .u8 32] 5) := ⟨_, rfl⟩
  have x0 : Ext w W0 := by rw [hW0]; exact Ext.alloc _ _
  have r0 : W0.ownsRow w.heap.size 5 1 (.slice (some ⟨w.heap.size, 0, none⟩) 1 1) 1 (Lib.byteCells [32]) := ownsRow_u8 (Nat.le_refl _) (by rw [hW0]; exact alloc_new _ _)
  have HW := Lib.hid hW0
  clear hW0
  go_enter Tryz.func50, Tryz.ntmps50
  go_wp2_with (refine wpList_runs 8 rfl rfl _ _ (exec_bs1 rfl rfl) ?_)
  rw [← HW.out]
  clear HW
  obtain ⟨i0, hi, k0, k1, k2⟩ := info_parts Tryz.info5
  go_loopw [4, 5] (fun v i wq => ∃ j : Nat, j ≤ s.length ∧ i = .int .i64 j ∧ wq.ownsRow w.heap.size 5 1 v (32 :: hexAll (s.take j)).length (Lib.byteCells (32 :: hexAll (s.take j))) ∧ Ext w wq) (fun _ i _ => s.length - (intOf i).toNat)
  case atStart => exact ⟨0, Nat.zero_le _, rfl, r0, x0⟩
  case round =>
    obtain ⟨j, hj, rfl, hrow, hx⟩ := hrel
    have j0 : (0 : Int) ≤ (j : Int) := by omega
    by_cases hlt : j < s.length
    · have j1 : (j : Int) < (s.length : Int) := by omega
      obtain ⟨c, hc⟩ : ∃ c, s[j]? = some c := ⟨_, List.getElem?_eq_getElem hlt⟩
      have hcl := c.toNat_lt
      have hcj : s[j] = c := (List.getElem?_eq_some_iff.1 hc).2
      have hstep : 32 :: hexAll (s.take (j + 1)) = (32 :: hexAll (s.take j)) ++ [dig (c.toNat / 16), dig (c.toNat % 16)] := by rw [hexAll_snoc s j hlt, hcj]; rfl
      have hxl : (32 :: hexAll (s.take j)).length ≤ 4294967297 := by rw [List.length_cons, hexAll_length, List.length_take]; omega
      have HST := Lib.hid hstep
      clear hstep hcj
      generalize 32 :: hexAll (s.take j) = xs at hrow hxl HST
      go_upto_region 8 with fail
      refine wp_region_gen3 (HG w.heap.size s j c u4 xs) (fun b wq => Ext w wq ∧ wr.heap.size ≤ wq.heap.size ∧ (b 14 = false → wq.ownsRow w.heap.size 5 1 u4 xs.length (Lib.byteCells xs))) mixedOrd (by kernel_rfl) (by kernel_rfl) (by kernel_rfl) ⟨hx.trans ⟨rfl, rfl, rfl, Nat.le_refl _, fun _ _ => rfl⟩, Nat.le_refl _, fun _ => hrow⟩ ?_ ?_
      · refine ⟨?_, ?_, ?_, ?_, ?_, ?_, ?_, ?_, ?_, ?_, ?_, ?_, ?_, ?_, ?_, ?_, trivial⟩
        · intro a' w' b hdf hso hs hy hW
          have h0 : a'.tmps[4]? = some u4 := hy 15 4 rfl (hso.not 15 rfl rfl)
          exact wpOp_val rfl rfl (by simp [execOp, go_sem, h0]) ⟨_, rfl, .inr rfl, hW, fun k u hb h => h⟩
        · intro a' w' b hdf hso hs hy hW
          have h0 : a'.tmps[3]? = some (.string ⟨digS.toArray⟩) := hs.old 3 rfl
          exact wpOp_val rfl rfl (by simp [execOp, go_sem, h0]) ⟨_, rfl, .inr rfl, hW, fun k u hb h => h⟩
        · intro a' w' b hdf hso hs hy hW
          have h0 : a'.tmps[0]? = some (.string ⟨s.toArray⟩) := hs.old 0 rfl
          exact wpOp_val rfl rfl (by simp [execOp, go_sem, h0]) ⟨_, rfl, .inr rfl, hW, fun k u hb h => h⟩
        · intro a' w' b hdf hso hs hy hW
          have h0 : a'.tmps[5]? = some (.int .i64 (j : Int)) := hs.old 5 rfl
          exact wpOp_val rfl rfl (by simp [execOp, go_sem, h0]) ⟨_, rfl, .inr rfl, hW, fun k u hb h => h⟩
        · intro a' w' b hdf hso hs hy hW
          obtain ⟨v, h0, rfl⟩ := hs.made 2 17 rfl rfl
          obtain ⟨v, h1, rfl⟩ := hs.made 3 18 rfl rfl
          exact wpOp_val rfl rfl (exec_ixs rfl (ev h0) (ev h1) hc) ⟨_, rfl, .inr rfl, hW, fun k u hb h => h⟩
        · intro a' w' b hdf hso hs hy hW
          obtain ⟨v, h0, rfl⟩ := hs.made 4 19 rfl rfl
          exact wpOp_val rfl rfl (exec_quo16 rfl (ev h0) rfl) ⟨_, rfl, .inr rfl, hW, fun k u hb h => h⟩
        · intro a' w' b hdf hso hs hy hW
          obtain ⟨v, h0, rfl⟩ := hs.made 1 16 rfl rfl
          obtain ⟨v, h1, rfl⟩ := hs.made 5 20 rfl rfl
          exact wpOp_val rfl rfl (exec_ixs rfl (ev h0) (ev h1) (digS_at (by omega))) ⟨_, rfl, .inr rfl, hW, fun k u hb h => h⟩
        · intro a' w' b hdf hso hs hy hW
          have h0 : a'.tmps[3]? = some (.string ⟨digS.toArray⟩) := hs.old 3 rfl
          exact wpOp_val rfl rfl (by simp [execOp, go_sem, h0]) ⟨_, rfl, .inr rfl, hW, fun k u hb h => h⟩
        · intro a' w' b hdf hso hs hy hW
          have h0 : a'.tmps[0]? = some (.string ⟨s.toArray⟩) := hs.old 0 rfl
          exact wpOp_val rfl rfl (by simp [execOp, go_sem, h0]) ⟨_, rfl, .inr rfl, hW, fun k u hb h => h⟩
        · intro a' w' b hdf hso hs hy hW
          have h0 : a'.tmps[5]? = some (.int .i64 (j : Int)) := hs.old 5 rfl
          exact wpOp_val rfl rfl (by simp [execOp, go_sem, h0]) ⟨_, rfl, .inr rfl, hW, fun k u hb h => h⟩
        · intro a' w' b hdf hso hs hy hW
          obtain ⟨v, h0, rfl⟩ := hs.made 8 23 rfl rfl
          obtain ⟨v, h1, rfl⟩ := hs.made 9 24 rfl rfl
          exact wpOp_val rfl rfl (exec_ixs rfl (ev h0) (ev h1) hc) ⟨_, rfl, .inr rfl, hW, fun k u hb h => h⟩
        · intro a' w' b hdf hso hs hy hW
          obtain ⟨v, h0, rfl⟩ := hs.made 10 25 rfl rfl
          exact wpOp_val rfl rfl (exec_rem16 rfl (ev h0) rfl) ⟨_, rfl, .inr rfl, hW, fun k u hb h => h⟩
        · intro a' w' b hdf hso hs hy hW
          obtain ⟨v, h0, rfl⟩ := hs.made 7 22 rfl rfl
          obtain ⟨v, h1, rfl⟩ := hs.made 11 26 rfl rfl
          exact wpOp_val rfl rfl (exec_ixs rfl (ev h0) (ev h1) (digS_at (by omega))) ⟨_, rfl, .inr rfl, hW, fun k u hb h => h⟩
        · intro a' w' b hdf hso hs hy hW
          obtain ⟨v, h0, rfl⟩ := hs.made 6 21 rfl rfl
          obtain ⟨v, h1, rfl⟩ := hs.made 12 27 rfl rfl
          exact wpOp_val (w' := w'.alloc (.cells #[vB (dig (c.toNat / 16)), vB (dig (c.toNat % 16))] 5)) (v := .slice (some ⟨w'.heap.size, 0, none⟩) 2 2) rfl rfl (exec_bs2b rfl (ev h0) (ev h1)) ⟨_, rfl, .inr ⟨_, rfl, fun e => by have := (hrow.lt _ e).2; have := hW.2.1; omega, alloc_new _ _⟩, ⟨hW.1.trans (Ext.alloc _ _), Nat.le_trans hW.2.1 (Ext.alloc w' _).size, fun hb => ownsRow_ext (hW.2.2 hb) (Ext.alloc _ _)⟩, fun k u hb h => h.ext _ _ _ _ (Ext.alloc _ _)⟩
        · intro a' w' b hdf hso hs hy hW
          obtain ⟨v, h0, rfl⟩ := hs.made 0 15 rfl rfl
          obtain ⟨v, h1, g, rfl, hg2, hg3⟩ := hs.made 13 28 rfl rfl
          have hb14 : b 14 = false := hso.undone
          have hb15 : b 15 = false := hso.not 15 rfl rfl
          refine wpOp_wp rfl rfl (wp_append_lies w' _ _ 46 rfl w.heap.size 5 i0 (.int .u8 0) 1 1 Tryz.und46 hi k0 k1 k2 rfl (by omega) _ _ _ (ev h0) (hW.2.2 hb14) ⟨g, 0, none⟩ 2 2 [vB (dig (c.toNat / 16)), vB (dig (c.toNat % 16))] (ev h1) rfl (World.news_of_block hg3) (by simp [vB, Value.oneCell']) (by omega) (by unfold maxLen; omega) (by omega) hW.1.size w'.heap.size rfl ?_)
          intro g' cap' w'' hown hgrow hat hlt2
          refine ⟨_, rfl, .inr ?_, ⟨hW.1.trans' hgrow hrow, Nat.le_trans hW.2.1 hgrow.size, (fun h => by cases h)⟩, ?_⟩
          · show World.ownsRow w'' _ _ _ _ _ _
            have e : Lib.byteCells (xs ++ [dig (c.toNat / 16), dig (c.toNat % 16)]) = Lib.byteCells xs ++ [vB (dig (c.toNat / 16)), vB (dig (c.toNat % 16))] := by simp [Lib.byteCells, vB]
            rw [e]
            exact hown
          · intro k u hbk hG
            by_cases h13 : k < 13
            · exact hG.low h13
            · by_cases he : k = 13
              · subst he
                obtain ⟨g4, f1, f3, f4⟩ := hG
                exact ⟨g4, f1, f3, (hgrow.block g4 (lt_of_block f4) (fun e => f3 e.symm)).trans f4⟩
              · have hsz : k = 14 ∨ k = 15 ∨ ∃ n, k = n + 16 := by
                  rcases Nat.lt_or_ge k 16 with h | h
                  · omega
                  · exact .inr (.inr ⟨k - 16, by omega⟩)
                rcases hsz with rfl | rfl | ⟨n, rfl⟩
                · rw [hb14] at hbk; cases hbk
                · rw [hb15] at hbk; cases hbk
                · exact trivial
        · intro a' w' b hdf hso hs hy hW
          obtain ⟨v, h0, hv⟩ := hs.made 14 29 rfl rfl
          exact wpOp_val (v := v) rfl rfl (by simp [execOp, go_sem, h0]) ⟨_, rfl, .inr hv, hW, fun k u hb h => h⟩
      · intro a' w' b hb hs hW
        obtain ⟨v15, h15, _⟩ := hs.made 0 15 rfl
        obtain ⟨v16, h16, _⟩ := hs.made 1 16 rfl
        obtain ⟨v17, h17, _⟩ := hs.made 2 17 rfl
        obtain ⟨v18, h18, _⟩ := hs.made 3 18 rfl
        obtain ⟨v19, h19, _⟩ := hs.made 4 19 rfl
        obtain ⟨v20, h20, _⟩ := hs.made 5 20 rfl
        obtain ⟨v21, h21, _⟩ := hs.made 6 21 rfl
        obtain ⟨v22, h22, _⟩ := hs.made 7 22 rfl
        obtain ⟨v23, h23, _⟩ := hs.made 8 23 rfl
        obtain ⟨v24, h24, _⟩ := hs.made 9 24 rfl
        obtain ⟨v25, h25, _⟩ := hs.made 10 25 rfl
        obtain ⟨v26, h26, _⟩ := hs.made 11 26 rfl
        obtain ⟨v27, h27, _⟩ := hs.made 12 27 rfl
        obtain ⟨v28, h28, _⟩ := hs.made 13 28 rfl
        obtain ⟨v29, h29, _⟩ := hs.made 14 29 rfl
        obtain ⟨v4, h4, hv4⟩ := hs.made 15 4 rfl
        have ha := act_putAll [(15, v15), (16, v16), (17, v17), (18, v18), (19, v19), (20, v20), (21, v21), (22, v22), (23, v23), (24, v24), (25, v25), (26, v26), (27, v27), (28, v28), (29, v29), (4, v4)] hs.defers hs.size (by simp [h15, h16, h17, h18, h19, h20, h21, h22, h23, h24, h25, h26, h27, h28, h29, h4]) rfl hs.old
        clear hs h15 h16 h17 h18 h19 h20 h21 h22 h23 h24 h25 h26 h27 h28 h29 h4
        have hrow2 : w'.ownsRow w.heap.size 5 1 v4 (32 :: hexAll (s.take (j + 1))).length (Lib.byteCells (32 :: hexAll (s.take (j + 1)))) := by
          rw [HST.out]
          have : (xs ++ [dig (c.toNat / 16), dig (c.toNat % 16)]).length = xs.length + 2 := by rw [List.length_append]; rfl
          rw [this]
          exact hv4
        have hx2 := hW.1
        clear hb hW hv4
        simp only [putAll, Act.put] at ha
        subst ha
        go_frame
        go_wp2_with fail
        go_roundw
        case rel => exact ⟨j + 1, hlt, by go_num, hrow2, hx2⟩
        case measure => simp [intOf]; omega
    · have hje : j = s.length := by omega
      subst hje
      rw [List.take_length] at hrow
      have hcv := run_string_own hrow
      go_wp2_with fail
      go_ret
      exact ⟨rfl, hx⟩
theorem rhex_none (w : World) : Calls Tryz.prog 50 #[.string ⟨#[]⟩] w fun e w' => e = .returned (.string ⟨#[32, 45]⟩) ∧ Ext w w' := by
  go_enter Tryz.func50, Tryz.ntmps50
  go_wp2_with fail
  go_ret
  exact ⟨rfl, Ext.refl _⟩
/-- The reference's hex. -/
theorem rhex_any (s : List UInt8) (w : World) (hs : s.length ≤ 2147483648) : Calls Tryz.prog 50 #[.string ⟨s.toArray⟩] w fun e w' => e = .returned (.string ⟨(32 :: hexB s).toArray⟩) ∧ Ext w w' := by
  by_cases h : s = []
  · subst h
    exact rhex_none w
  · rw [hexB, if_neg h]
    exact rhex_some s w h hs
end Go.Proofs.YtikmoledbiepoaaGreatDoor
/- The reference's num. -/
namespace Go.Proofs.YtikmoledbiepoaaGreatDoor
open Go.RowKit
theorem exec_conv1d {ρ : Operand → Value} {o : Oper} {x : Operand} {w : World} {g : Nat} {b : Int} {d : UInt8} (ho : o.op = .convert 46 9 x) (hx : ρ x = .slice (some ⟨g, 0, none⟩) 1 1) (h : w.heap[g]? = some (.cells #[.int .u8 b] 5)) (hd : UInt8.ofNat b.toNat = d) :
    (execOp ρ o).run Tryz.prog w = .ok (.value (.string ⟨[d].toArray⟩)) w := by
  rw [exec_conv1 ho hx h, hd]
/-- A number behind a blank. -/
def numW (n : Nat) : List UInt8 := 32 :: Lib.decDigits n
set_option maxRecDepth 100000 in
set_option maxHeartbeats 1000000 in
theorem num_any (n : Nat) : ∀ (w : World), n ≤ 9223372036854775807 → Calls Tryz.prog 49 #[.int .i64 (n : Int)] w fun e w' => e = .returned (.string ⟨(numW n).toArray⟩) ∧ Ext w w' := by
  induction n using Nat.strongRecOn with
  | ind n ih =>
    intro w hn
    have IH := Lib.hid ih
    clear ih
    have hm0 : (0 : Int) ≤ (n : Int) % 10 := by omega
    have hm1 : (n : Int) % 10 < 10 := by omega
    have hn0 : (0 : Int) ≤ (n : Int) := by omega
    obtain ⟨d, hd⟩ : ∃ d : UInt8, d = UInt8.ofNat (48 + n % 10) := ⟨_, rfl⟩
    have HDD : Hid (UInt8.ofNat (48 + (n : Int) % 10).toNat = d) := by
      unfold Hid
      rw [hd]
      congr 1
    have HDE := Lib.hid hd
    clear hd
    by_cases h : n < 10
    · have h' : (n : Int) < 10 := by omega
      have HD : Hid (numW n = [32] ++ [d]) := by
        unfold Hid numW
        rw [dd_lt h, HDE.out, Nat.mod_eq_of_lt h]
        rfl
      go_enter Tryz.func49, Tryz.ntmps49
      go_wp2_with (first
        | refine wpList_runs 8 rfl rfl _ _ (exec_bs1 rfl rfl) ?_
        | refine wpList_runs 9 rfl rfl (.string ⟨[d].toArray⟩) _ (exec_conv1d rfl rfl (alloc_new _ _) HDD.out) ?_
        | refine wpList_cat rfl _ _ rfl [32] [d] rfl rfl (by decide) ?_)
      go_ret
      exact ⟨by rw [HD.out]; rfl, Ext.alloc _ _⟩
    · have h' : ¬ (n : Int) < 10 := by omega
      have HD : Hid (numW n = numW (n / 10) ++ [d]) := by
        unfold Hid numW
        rw [dd_ge h, HDE.out]
        rfl
      have hl : (numW (n / 10)).length ≤ 22 := by
        have := Lib.itoa_length_le ((n / 10 : Nat) : Int) (by omega) (by omega)
        unfold Lib.itoa at this
        rw [if_neg (by omega), Int.toNat_natCast] at this
        unfold numW
        rw [List.length_cons]
        omega
      have hx := Ext.alloc w (.cells #[.int .u8 (48 + (n : Int) % 10)] 5)
      go_enter Tryz.func49, Tryz.ntmps49
      go_wp2_with (first
        | refine wpList_runs 8 rfl rfl _ _ (exec_bs1 rfl rfl) ?_
        | refine wpList_runs 9 rfl rfl (.string ⟨[d].toArray⟩) _ (exec_conv1d rfl rfl (alloc_new _ _) HDD.out) ?_)
      refine (IH.out (n / 10) (by omega) _ (by omega)).mono ?_
      rintro e w2 ⟨rfl, x2⟩
      go_wp2_with (refine wpList_cat rfl _ _ rfl (numW (n / 10)) [d] rfl rfl (by simp only [List.length_cons, List.length_nil]; omega) ?_)
      go_ret
      exact ⟨by rw [HD.out]; rfl, hx.trans x2⟩
end Go.Proofs.YtikmoledbiepoaaGreatDoor

/- A region that draws its order and writes: the world is described by which operations are done. -/
import Derived.Test.YtikmoledbiepoaaGreatDoorFields
namespace Go.Proofs.YtikmoledbiepoaaGreatDoor
open Go.RowKit
section
variable {P : Program} {ops : Array Oper} {Q : Exit → Act → World → Prop}
variable {a : Act} {w w' : World} {K : Act → World → Prop} {i : Nat} {o : Oper} {v : Value}
theorem wpOp_on_val {j : Nat} {want : Bool} {d : Tmp} (ho : ops[i]? = some o) (hg : o.guard = some (j, want)) (hj : (ops[j]?).bind (·.dst) = some d) (hb : a.tmps[d]? = some (.bool want))
    (hr : (execOp a.eval o).run P w = .ok (.value v) w') (hK : K (a.put o.dst v) w') : wpOp P ops Q i K a w := by
  refine wpOp_on ho hg hj hb ?_
  simp only [Oper.wp, hr, Oper.upon]
  exact hK
theorem wpOp_on_call {f : FuncId} {args : Array Value} {j : Nat} {want : Bool} {d : Tmp} (ho : ops[i]? = some o) (hg : o.guard = some (j, want)) (hj : (ops[j]?).bind (·.dst) = some d) (hb : a.tmps[d]? = some (.bool want))
    (hr : (execOp a.eval o).run P w = .ok (.enter f args) w') (hc : Calls P f args w' fun e w'' => ∃ v, e = .returned v ∧ K (a.put o.dst v) w'') : wpOp P ops Q i K a w := by
  refine wpOp_on ho hg hj hb ?_
  simp only [Oper.wp, hr, Oper.upon]
  refine hc.mono ?_
  rintro e w'' ⟨v, rfl, h⟩
  exact h
/-- A region whose operations' values are known ahead; what is done turns the world. -/
theorem wp_region_flags {id : Nat} {a0 : Act} {w0 : World} (val : Nat → Value) (W : (Nat → Bool) → World → Prop)
    (hm : P.follows .mixedOrders = true) (hd : dstsApart ops = true) (hw : waitsBack ops = true)
    (hsz : (ops.all fun o => match o.dst with | some d => decide (d < a0.tmps.size) | none => true) = true)
    (h0 : W (fun _ => false) { w0 with drawn := w0.drawn + 1 })
    (hstep : AllAt (fun i o => ∀ (a : Act) (w : World) (b : Nat → Bool), b i = false → Slots ops val a0 o a → W b w → wpOp P ops Q i (fun a' w' => a' = a.put o.dst (val i) ∧ W (fun k => k == i || b k) w') a w) 0 ops.toList)
    (hend : ∀ (a : Act) (w : World) (b : Nat → Bool), (∀ i, i < ops.size → b i = true) → SlotsEnd ops val a0 a → W b w → Q .normal a w) :
    (Code.region id ops true).wp P Q a0 w0 := by
  refine wp_region_table (fun _ i v _ => v = val i) (fun L w => W (fun k => L.getD k false) w) hm hd hw ?_ ?_ ?_ ?_
  · intro i o d ho hdo
    have := Array.all_eq_true_iff_forall_mem.1 hsz o (Array.mem_of_getElem? ho)
    simpa [hdo] using this
  · have : (fun k => (Array.replicate ops.size false).getD k false) = fun _ => false := by
      funext k
      by_cases h : k < ops.size <;> simp [h]
    rw [this]
    exact h0
  · intro i o L a w ho hLs hun hall hT hW
    have hi : i < L.size := by
      rcases Nat.lt_or_ge i L.size with h | h
      · exact h
      · simp [Array.getElem?_eq_none h] at hun
    have hs := hstep.get i o (by simpa using ho) a w (fun k => L.getD k false) (by rw [Nat.zero_add]; simpa [hi] using hun) ?_ hW
    · rw [Nat.zero_add] at hs
      refine wpOp_mono ?_ hs
      rintro a' w' ⟨rfl, hW'⟩
      refine ⟨_, rfl, .inr rfl, ?_, fun _ _ _ _ _ _ _ _ h => h⟩
      have e : (fun k => (L.setIfInBounds i true).getD k false) = fun k => k == i || L.getD k false := by
        funext k
        by_cases hk : i = k
        · subst hk; simp [hi]
        · rw [getD_set_ne false hk]
          have : (k == i) = false := beq_eq_false_iff_ne.2 (Ne.symm hk)
          rw [this]; rfl
      rw [e]
      exact hW'
    · refine ⟨fun j d hj hin => ?_, fun t ht => hT.old t fun i o h _ => noDst_spec ht i o h⟩
      obtain ⟨e, he, hb⟩ := List.any_eq_true.1 hin
      simp only [Bool.and_eq_true, beq_iff_eq] at hb
      obtain ⟨oj, hoj, hdj⟩ := Option.bind_eq_some_iff.1 hj
      obtain ⟨v, hv, rfl⟩ := hT.good j oj d hoj (hb.2 ▸ hall e (Array.mem_toList_iff.1 he) hb.1) hdj
      exact hv
  · intro L a w hL hT hW
    refine hend a w (fun k => L.getD k false) hL ⟨hT.defers, hT.size, fun j d hj => ?_, fun t ht => hT.old t fun i o h _ => noDst_spec ht i o h⟩ hW
    obtain ⟨oj, hoj, hdj⟩ := Option.bind_eq_some_iff.1 hj
    obtain ⟨v, hv, rfl⟩ := hT.good j oj d hoj (hL j (Array.getElem?_eq_some_iff.1 hoj).1) hdj
    exact hv
end
/-- Two strings, one behind the other. -/
theorem u9 : Tryz.prog.underlying 9 = some .string := by kernel_rfl
theorem run_cat (a b : List UInt8) (h : a.length + b.length ≤ 9223372036854775807) (w : World) :
    (binOp .add 9 (.string ⟨a.toArray⟩) (.string ⟨b.toArray⟩)).run Tryz.prog w = .ok (.string ⟨(a ++ b).toArray⟩) w := by
  have h1 : (⟨a.toArray⟩ : ByteArray) ++ ⟨b.toArray⟩ = ⟨(a ++ b).toArray⟩ := by
    apply ByteArray.ext
    simp
  have h2 : ¬ ((((⟨a.toArray⟩ : ByteArray).size + (⟨b.toArray⟩ : ByteArray).size : Nat) : Int) > IntKind.i64.max) := by
    show ¬ (((a.toArray.size + b.toArray.size : Nat) : Int) > 9223372036854775807)
    simp
    omega
  unfold binOp
  simp only [Op.stringOp]
  rw [if_neg h2, h1]
  rfl
theorem exec_cat {ρ : Operand → Value} {o : Oper} {x y : Operand} {w : World} (ho : o.op = .binOp .add 9 x y 9) (a b : List UInt8) (hx : ρ x = .string ⟨a.toArray⟩) (hy : ρ y = .string ⟨b.toArray⟩) (hl : a.length + b.length ≤ 9223372036854775807) :
    (execOp ρ o).run Tryz.prog w = .ok (.value (.string ⟨(a ++ b).toArray⟩)) w := by
  unfold execOp
  simp only [ho, hx, hy, Sem.run_bind, run_cat a b hl]
  rfl
/-- The same, as a step of the walk. -/
theorem wpList_cat {ops : Array Oper} {rest : List Oper} {o : Oper} {f : Act} {w : World} {Q : Exit → Act → World → Prop} (hgd : o.guard = none) (x y : Operand) (ho : o.op = .binOp .add 9 x y 9)
    (a b : List UInt8) (hx : f.eval x = .string ⟨a.toArray⟩) (hy : f.eval y = .string ⟨b.toArray⟩) (hl : a.length + b.length ≤ 9223372036854775807)
    (h : wpList Tryz.prog ops Q rest (f.put o.dst (.string ⟨(a ++ b).toArray⟩)) w) : wpList Tryz.prog ops Q (o :: rest) f w :=
  wpList_plain hgd fun K hK => by
    have h2 := hK _ _ h
    unfold Oper.wp execOp
    simp only [ho, hx, hy, Sem.run_bind, run_cat a b hl]
    exact h2
end Go.Proofs.YtikmoledbiepoaaGreatDoor
/- A region that draws its order, in general: what each operation yields, and what the world is while some are done. -/
namespace Go.Proofs.YtikmoledbiepoaaGreatDoor
open Go.RowKit
section
variable {P : Program} {ops : Array Oper} {Q : Exit → Act → World → Prop}
/-- What is known where operation i is about to be done; b: what is done. -/
structure Soon (ops : Array Oper) (i : Nat) (o : Oper) (b : Nat → Bool) : Prop where
  undone : b i = false
  ready : ∀ j, waitsFor o j = true → b j = true
  down : ∀ (j : Nat) (o' : Oper), ops[j]? = some o' → b j = true → ∀ k, waitsFor o' k = true → b k = true
theorem Soon.not {i : Nat} {o : Oper} {b : Nat → Bool} (h : Soon ops i o b) (j : Nat) {o' : Oper} (hj : ops[j]? = some o') (hw : waitsFor o' i = true) : b j = false := by
  cases hb : b j with
  | false => rfl
  | true => have := h.down j o' hj hb i hw; rw [h.undone] at this; cases this
theorem wp_region_gen {id : Nat} {a0 : Act} {w0 : World} (G : Nat → Value → World → Prop) (W : (Nat → Bool) → World → Prop)
    (hm : P.follows .mixedOrders = true) (hd : dstsApart ops = true) (hw : waitsBack ops = true)
    (hsz : (ops.all fun o => match o.dst with | some d => decide (d < a0.tmps.size) | none => true) = true)
    (h0 : W (fun _ => false) { w0 with drawn := w0.drawn + 1 })
    (hstep : AllAt (fun i o => ∀ (a : Act) (w : World) (b : Nat → Bool), a.defers = a0.defers → Soon ops i o b → SlotsG ops G a0 o a w → W b w →
      wpOp P ops Q i (fun a' w' => ∃ v, a' = a.put o.dst v ∧ (o.dst = none ∨ G i v w') ∧ W (fun k => k == i || b k) w' ∧ ∀ j u, b j = true → G j u w → G j u w') a w) 0 ops.toList)
    (hend : ∀ (a : Act) (w : World) (b : Nat → Bool), (∀ i, i < ops.size → b i = true) → SlotsGEnd ops G a0 a w → W b w → Q .normal a w) :
    (Code.region id ops true).wp P Q a0 w0 := by
  refine wp_region_table (fun _ i v w => G i v w) (fun L w => W (fun k => L.getD k false) w) hm hd hw ?_ ?_ ?_ ?_
  · intro i o d ho hdo
    have := Array.all_eq_true_iff_forall_mem.1 hsz o (Array.mem_of_getElem? ho)
    simpa [hdo] using this
  · have : (fun k => (Array.replicate ops.size false).getD k false) = fun _ => false := by
      funext k
      by_cases h : k < ops.size <;> simp [h]
    rw [this]
    exact h0
  · intro i o L a w ho hLs hun hall hT hW
    have hi : i < L.size := by
      rcases Nat.lt_or_ge i L.size with h | h
      · exact h
      · simp [Array.getElem?_eq_none h] at hun
    have hwait : ∀ (o' : Oper) (L' : Array Bool), (∀ e ∈ o'.after, Region.binds .any e = true → L'.getD e.on false = true) → ∀ j, waitsFor o' j = true → L'.getD j false = true := by
      intro o' L' h j hj
      obtain ⟨e, he, hb⟩ := List.any_eq_true.1 hj
      simp only [Bool.and_eq_true, beq_iff_eq] at hb
      exact hb.2 ▸ h e (Array.mem_toList_iff.1 he) hb.1
    have hs := hstep.get i o (by simpa using ho) a w (fun k => L.getD k false) hT.defers
      ⟨by rw [Nat.zero_add]; simpa [hi] using hun, hwait o L hall, fun j o' hj hbj => hwait o' L fun e he hb => hT.down j o' e hj hbj he hb⟩ ?_ hW
    · rw [Nat.zero_add] at hs
      refine wpOp_mono ?_ hs
      rintro a' w' ⟨v, rfl, hg, hW', hkeep⟩
      refine ⟨v, rfl, hg, ?_, fun j oj d u hj hLj hdj hu hG => hkeep j u hLj hG⟩
      have e : (fun k => (L.setIfInBounds i true).getD k false) = fun k => k == i || L.getD k false := by
        funext k
        by_cases hk : i = k
        · subst hk; simp [hi]
        · rw [getD_set_ne false hk]
          have : (k == i) = false := beq_eq_false_iff_ne.2 (Ne.symm hk)
          rw [this]; rfl
      rw [e]
      exact hW'
    · refine ⟨fun j d hj hin => ?_, fun t ht => hT.old t fun i o h _ => noDst_spec ht i o h⟩
      obtain ⟨oj, hoj, hdj⟩ := Option.bind_eq_some_iff.1 hj
      exact hT.good j oj d hoj (hwait o L hall j hin) hdj
  · intro L a w hL hT hW
    refine hend a w (fun k => L.getD k false) hL ⟨hT.defers, hT.size, fun j d hj => ?_, fun t ht => hT.old t fun i o h _ => noDst_spec ht i o h⟩ hW
    obtain ⟨oj, hoj, hdj⟩ := Option.bind_eq_some_iff.1 hj
    exact hT.good j oj d hoj (hL j (Array.getElem?_eq_some_iff.1 hoj).1) hdj
variable {a : Act} {w w' : World} {K : Act → World → Prop} {i : Nat} {o : Oper}
/-- A call that may panic. -/
theorem wpOp_callP {f : FuncId} {args : Array Value} (ho : ops[i]? = some o) (hg : o.guard = none) (hr : (execOp a.eval o).run P w = .ok (.enter f args) w')
    (hc : Calls P f args w' fun e w'' => (∃ v, e = .returned v ∧ K (a.put o.dst v) w'') ∨ ∃ ch, e = .panicked ch ∧ Q (.panic ch) a w'') : wpOp P ops Q i K a w := by
  unfold wpOp
  simp only [ho, Region.wanted, hg, if_true, Oper.wp, hr, Oper.upon]
  refine .inl (hc.mono ?_)
  rintro e w'' (⟨v, rfl, h⟩ | ⟨ch, rfl, h⟩)
  · exact h
  · exact h
theorem wpOp_wp (ho : ops[i]? = some o) (hg : o.guard = none) (h : o.wp P a w K Q) : wpOp P ops Q i K a w := by
  unfold wpOp
  simp only [ho, Region.wanted, hg, if_true]
  exact .inl h
end
end Go.Proofs.YtikmoledbiepoaaGreatDoor
/- A region that draws its order; what is known of a value may turn with what is done. -/
namespace Go.Proofs.YtikmoledbiepoaaGreatDoor
open Go.RowKit
variable {P : Program} {ops : Array Oper} {Q : Exit → Act → World → Prop}
theorem wp_region_gen2 {id : Nat} {a0 : Act} {w0 : World} (G : (Nat → Bool) → Nat → Value → World → Prop) (W : (Nat → Bool) → World → Prop)
    (hm : P.follows .mixedOrders = true) (hd : dstsApart ops = true) (hw : waitsBack ops = true)
    (hsz : (ops.all fun o => match o.dst with | some d => decide (d < a0.tmps.size) | none => true) = true)
    (h0 : W (fun _ => false) { w0 with drawn := w0.drawn + 1 })
    (hstep : AllAt (fun i o => ∀ (a : Act) (w : World) (b : Nat → Bool), a.defers = a0.defers → Soon ops i o b → SlotsG ops (G b) a0 o a w → W b w →
      wpOp P ops Q i (fun a' w' => ∃ v, a' = a.put o.dst v ∧ (o.dst = none ∨ G (fun k => k == i || b k) i v w') ∧ W (fun k => k == i || b k) w' ∧
        ∀ j d u, (ops[j]?).bind (·.dst) = some d → b j = true → a.tmps[d]? = some u → G b j u w → G (fun k => k == i || b k) j u w') a w) 0 ops.toList)
    (hend : ∀ (a : Act) (w : World) (b : Nat → Bool), (∀ i, i < ops.size → b i = true) → SlotsGEnd ops (G b) a0 a w → W b w → Q .normal a w) :
    (Code.region id ops true).wp P Q a0 w0 := by
  refine wp_region_table (fun L i v w => G (fun k => L.getD k false) i v w) (fun L w => W (fun k => L.getD k false) w) hm hd hw ?_ ?_ ?_ ?_
  · intro i o d ho hdo
    have := Array.all_eq_true_iff_forall_mem.1 hsz o (Array.mem_of_getElem? ho)
    simpa [hdo] using this
  · have : (fun k => (Array.replicate ops.size false).getD k false) = fun _ => false := by
      funext k
      by_cases h : k < ops.size <;> simp [h]
    rw [this]
    exact h0
  · intro i o L a w ho hLs hun hall hT hW
    have hi : i < L.size := by
      rcases Nat.lt_or_ge i L.size with h | h
      · exact h
      · simp [Array.getElem?_eq_none h] at hun
    have hwait : ∀ (o' : Oper) (L' : Array Bool), (∀ e ∈ o'.after, Region.binds .any e = true → L'.getD e.on false = true) → ∀ j, waitsFor o' j = true → L'.getD j false = true := by
      intro o' L' h j hj
      obtain ⟨e, he, hb⟩ := List.any_eq_true.1 hj
      simp only [Bool.and_eq_true, beq_iff_eq] at hb
      exact hb.2 ▸ h e (Array.mem_toList_iff.1 he) hb.1
    have hs := hstep.get i o (by simpa using ho) a w (fun k => L.getD k false) hT.defers
      ⟨by rw [Nat.zero_add]; simpa [hi] using hun, hwait o L hall, fun j o' hj hbj => hwait o' L fun e he hb => hT.down j o' e hj hbj he hb⟩ ?_ hW
    · rw [Nat.zero_add] at hs
      refine wpOp_mono ?_ hs
      have e : (fun k => (L.setIfInBounds i true).getD k false) = fun k => k == i || L.getD k false := by
        funext k
        by_cases hk : i = k
        · subst hk; simp [hi]
        · rw [getD_set_ne false hk]
          have : (k == i) = false := beq_eq_false_iff_ne.2 (Ne.symm hk)
          rw [this]; rfl
      rintro a' w' ⟨v, rfl, hg, hW', hkeep⟩
      refine ⟨v, rfl, ?_, ?_, fun j oj d u hj hLj hdj hu hG => ?_⟩
      · rw [e]; exact hg
      · rw [e]; exact hW'
      · rw [e]; exact hkeep j d u (by rw [hj]; exact hdj) hLj hu hG
    · refine ⟨fun j d hj hin => ?_, fun t ht => hT.old t fun i o h _ => noDst_spec ht i o h⟩
      obtain ⟨oj, hoj, hdj⟩ := Option.bind_eq_some_iff.1 hj
      exact hT.good j oj d hoj (hwait o L hall j hin) hdj
  · intro L a w hL hT hW
    refine hend a w (fun k => L.getD k false) hL ⟨hT.defers, hT.size, fun j d hj => ?_, fun t ht => hT.old t fun i o h _ => noDst_spec ht i o h⟩ hW
    obtain ⟨oj, hoj, hdj⟩ := Option.bind_eq_some_iff.1 hj
    exact hT.good j oj d hoj (hL j (Array.getElem?_eq_some_iff.1 hoj).1) hdj
end Go.Proofs.YtikmoledbiepoaaGreatDoor

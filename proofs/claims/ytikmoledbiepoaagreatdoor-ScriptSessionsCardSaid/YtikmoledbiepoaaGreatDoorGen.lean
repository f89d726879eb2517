/- A region that draws its order, in general: what each operation yields, and what the world is while some are done. -/
import Derived.Test.YtikmoledbiepoaaGreatDoorFlags
namespace Go.Proofs.YtikmoledbiepoaaGreatDoor
open Go.RowKit
section
variable {P : Program} {ops : Array Oper} {Q : Exit → Act → World → Prop}
/-- What is known where operation i is about to be done; b: what is done. -/
structure Soon (ops : Array Oper) (i : Nat) (o : Oper) (b : Nat → Bool) : Prop where
  undone : b i = false
  ready : ∀ j, waitsFor o j = true → b j = true
  down : ∀ (j : Nat) (o' : Oper), ops[j]? = some o' → b j = true → ∀ k, waitsFor o' k = true → b k = true
theorem Soon.not {i : Nat} {o : Oper} {b : Nat → Bool} (h : Soon ops i o b) (j : Nat) {o' : Oper} (hj : ops[j]? = some o') (hw : waitsFor o' i = true) : b j = false := by
  cases hb : b j with
  | false => rfl
  | true => have := h.down j o' hj hb i hw; rw [h.undone] at this; cases this
theorem wp_region_gen {id : Nat} {a0 : Act} {w0 : World} (G : Nat → Value → World → Prop) (W : (Nat → Bool) → World → Prop)
    (hm : P.follows .mixedOrders = true) (hd : dstsApart ops = true) (hw : waitsBack ops = true)
    (hsz : (ops.all fun o => match o.dst with | some d => decide (d < a0.tmps.size) | none => true) = true)
    (h0 : W (fun _ => false) { w0 with drawn := w0.drawn + 1 })
    (hstep : AllAt (fun i o => ∀ (a : Act) (w : World) (b : Nat → Bool), a.defers = a0.defers → Soon ops i o b → SlotsG ops G a0 o a w → W b w →
      wpOp P ops Q i (fun a' w' => ∃ v, a' = a.put o.dst v ∧ (o.dst = none ∨ G i v w') ∧ W (fun k => k == i || b k) w' ∧ ∀ j u, b j = true → G j u w → G j u w') a w) 0 ops.toList)
    (hend : ∀ (a : Act) (w : World) (b : Nat → Bool), (∀ i, i < ops.size → b i = true) → SlotsGEnd ops G a0 a w → W b w → Q .normal a w) :
    (Code.region id ops true).wp P Q a0 w0 := by
  refine wp_region_table (fun _ i v w => G i v w) (fun L w => W (fun k => L.getD k false) w) hm hd hw ?_ ?_ ?_ ?_
  · intro i o d ho hdo
    have := Array.all_eq_true_iff_forall_mem.1 hsz o (Array.mem_of_getElem? ho)
    simpa [hdo] using this
  · have : (fun k => (Array.replicate ops.size false).getD k false) = fun _ => false := by
      funext k
      by_cases h : k < ops.size <;> simp [h]
    rw [this]
    exact h0
  · intro i o L a w ho hLs hun hall hT hW
    have hi : i < L.size := by
      rcases Nat.lt_or_ge i L.size with h | h
      · exact h
      · simp [Array.getElem?_eq_none h] at hun
    have hwait : ∀ (o' : Oper) (L' : Array Bool), (∀ e ∈ o'.after, Region.binds .any e = true → L'.getD e.on false = true) → ∀ j, waitsFor o' j = true → L'.getD j false = true := by
      intro o' L' h j hj
      obtain ⟨e, he, hb⟩ := List.any_eq_true.1 hj
      simp only [Bool.and_eq_true, beq_iff_eq] at hb
      exact hb.2 ▸ h e (Array.mem_toList_iff.1 he) hb.1
    have hs := hstep.get i o (by simpa using ho) a w (fun k => L.getD k false) hT.defers
      ⟨by rw [Nat.zero_add]; simpa [hi] using hun, hwait o L hall, fun j o' hj hbj => hwait o' L fun e he hb => hT.down j o' e hj hbj he hb⟩ ?_ hW
    · rw [Nat.zero_add] at hs
      refine wpOp_mono ?_ hs
      rintro a' w' ⟨v, rfl, hg, hW', hkeep⟩
      refine ⟨v, rfl, hg, ?_, fun j oj d u hj hLj hdj hu hG => hkeep j u hLj hG⟩
      have e : (fun k => (L.setIfInBounds i true).getD k false) = fun k => k == i || L.getD k false := by
        funext k
        by_cases hk : i = k
        · subst hk; simp [hi]
        · rw [getD_set_ne false hk]
          have : (k == i) = false := beq_eq_false_iff_ne.2 (Ne.symm hk)
          rw [this]; rfl
      rw [e]
      exact hW'
    · refine ⟨fun j d hj hin => ?_, fun t ht => hT.old t fun i o h _ => noDst_spec ht i o h⟩
      obtain ⟨oj, hoj, hdj⟩ := Option.bind_eq_some_iff.1 hj
      exact hT.good j oj d hoj (hwait o L hall j hin) hdj
  · intro L a w hL hT hW
    refine hend a w (fun k => L.getD k false) hL ⟨hT.defers, hT.size, fun j d hj => ?_, fun t ht => hT.old t fun i o h _ => noDst_spec ht i o h⟩ hW
    obtain ⟨oj, hoj, hdj⟩ := Option.bind_eq_some_iff.1 hj
    exact hT.good j oj d hoj (hL j (Array.getElem?_eq_some_iff.1 hoj).1) hdj
variable {a : Act} {w w' : World} {K : Act → World → Prop} {i : Nat} {o : Oper}
/-- A call that may panic. -/
theorem wpOp_callP {f : FuncId} {args : Array Value} (ho : ops[i]? = some o) (hg : o.guard = none) (hr : (execOp a.eval o).run P w = .ok (.enter f args) w')
    (hc : Calls P f args w' fun e w'' => (∃ v, e = .returned v ∧ K (a.put o.dst v) w'') ∨ ∃ ch, e = .panicked ch ∧ Q (.panic ch) a w'') : wpOp P ops Q i K a w := by
  unfold wpOp
  simp only [ho, Region.wanted, hg, if_true, Oper.wp, hr, Oper.upon]
  refine .inl (hc.mono ?_)
  rintro e w'' (⟨v, rfl, h⟩ | ⟨ch, rfl, h⟩)
  · exact h
  · exact h
theorem wpOp_wp (ho : ops[i]? = some o) (hg : o.guard = none) (h : o.wp P a w K Q) : wpOp P ops Q i K a w := by
  unfold wpOp
  simp only [ho, Region.wanted, hg, if_true]
  exact .inl h
end
end Go.Proofs.YtikmoledbiepoaaGreatDoor

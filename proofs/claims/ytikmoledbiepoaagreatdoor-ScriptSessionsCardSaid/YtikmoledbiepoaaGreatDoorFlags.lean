/- A region that draws its order and writes: the world is described by which operations are done. -/
import Derived.Test.YtikmoledbiepoaaGreatDoorWrites
namespace Go.Proofs.YtikmoledbiepoaaGreatDoor
open Go.RowKit
section
variable {P : Program} {ops : Array Oper} {Q : Exit → Act → World → Prop}
variable {a : Act} {w w' : World} {K : Act → World → Prop} {i : Nat} {o : Oper} {v : Value}
theorem wpOp_on_val {j : Nat} {want : Bool} {d : Tmp} (ho : ops[i]? = some o) (hg : o.guard = some (j, want)) (hj : (ops[j]?).bind (·.dst) = some d) (hb : a.tmps[d]? = some (.bool want))
    (hr : (execOp a.eval o).run P w = .ok (.value v) w') (hK : K (a.put o.dst v) w') : wpOp P ops Q i K a w := by
  refine wpOp_on ho hg hj hb ?_
  simp only [Oper.wp, hr, Oper.upon]
  exact hK
theorem wpOp_on_call {f : FuncId} {args : Array Value} {j : Nat} {want : Bool} {d : Tmp} (ho : ops[i]? = some o) (hg : o.guard = some (j, want)) (hj : (ops[j]?).bind (·.dst) = some d) (hb : a.tmps[d]? = some (.bool want))
    (hr : (execOp a.eval o).run P w = .ok (.enter f args) w') (hc : Calls P f args w' fun e w'' => ∃ v, e = .returned v ∧ K (a.put o.dst v) w'') : wpOp P ops Q i K a w := by
  refine wpOp_on ho hg hj hb ?_
  simp only [Oper.wp, hr, Oper.upon]
  refine hc.mono ?_
  rintro e w'' ⟨v, rfl, h⟩
  exact h
/-- A region whose operations' values are known ahead; what is done turns the world. -/
theorem wp_region_flags {id : Nat} {a0 : Act} {w0 : World} (val : Nat → Value) (W : (Nat → Bool) → World → Prop)
    (hm : P.follows .mixedOrders = true) (hd : dstsApart ops = true) (hw : waitsBack ops = true)
    (hsz : (ops.all fun o => match o.dst with | some d => decide (d < a0.tmps.size) | none => true) = true)
    (h0 : W (fun _ => false) { w0 with drawn := w0.drawn + 1 })
    (hstep : AllAt (fun i o => ∀ (a : Act) (w : World) (b : Nat → Bool), b i = false → Slots ops val a0 o a → W b w → wpOp P ops Q i (fun a' w' => a' = a.put o.dst (val i) ∧ W (fun k => k == i || b k) w') a w) 0 ops.toList)
    (hend : ∀ (a : Act) (w : World) (b : Nat → Bool), (∀ i, i < ops.size → b i = true) → SlotsEnd ops val a0 a → W b w → Q .normal a w) :
    (Code.region id ops true).wp P Q a0 w0 := by
  refine wp_region_table (fun _ i v _ => v = val i) (fun L w => W (fun k => L.getD k false) w) hm hd hw ?_ ?_ ?_ ?_
  · intro i o d ho hdo
    have := Array.all_eq_true_iff_forall_mem.1 hsz o (Array.mem_of_getElem? ho)
    simpa [hdo] using this
  · have : (fun k => (Array.replicate ops.size false).getD k false) = fun _ => false := by
      funext k
      by_cases h : k < ops.size <;> simp [h]
    rw [this]
    exact h0
  · intro i o L a w ho hLs hun hall hT hW
    have hi : i < L.size := by
      rcases Nat.lt_or_ge i L.size with h | h
      · exact h
      · simp [Array.getElem?_eq_none h] at hun
    have hs := hstep.get i o (by simpa using ho) a w (fun k => L.getD k false) (by rw [Nat.zero_add]; simpa [hi] using hun) ?_ hW
    · rw [Nat.zero_add] at hs
      refine wpOp_mono ?_ hs
      rintro a' w' ⟨rfl, hW'⟩
      refine ⟨_, rfl, .inr rfl, ?_, fun _ _ _ _ _ _ _ _ h => h⟩
      have e : (fun k => (L.setIfInBounds i true).getD k false) = fun k => k == i || L.getD k false := by
        funext k
        by_cases hk : i = k
        · subst hk; simp [hi]
        · rw [getD_set_ne false hk]
          have : (k == i) = false := beq_eq_false_iff_ne.2 (Ne.symm hk)
          rw [this]; rfl
      rw [e]
      exact hW'
    · refine ⟨fun j d hj hin => ?_, fun t ht => hT.old t fun i o h _ => noDst_spec ht i o h⟩
      obtain ⟨e, he, hb⟩ := List.any_eq_true.1 hin
      simp only [Bool.and_eq_true, beq_iff_eq] at hb
      obtain ⟨oj, hoj, hdj⟩ := Option.bind_eq_some_iff.1 hj
      obtain ⟨v, hv, rfl⟩ := hT.good j oj d hoj (hb.2 ▸ hall e (Array.mem_toList_iff.1 he) hb.1) hdj
      exact hv
  · intro L a w hL hT hW
    refine hend a w (fun k => L.getD k false) hL ⟨hT.defers, hT.size, fun j d hj => ?_, fun t ht => hT.old t fun i o h _ => noDst_spec ht i o h⟩ hW
    obtain ⟨oj, hoj, hdj⟩ := Option.bind_eq_some_iff.1 hj
    obtain ⟨v, hv, rfl⟩ := hT.good j oj d hoj (hL j (Array.getElem?_eq_some_iff.1 hoj).1) hdj
    exact hv
end
/-- Two strings, one behind the other. -/
theorem u9 : Tryz.prog.underlying 9 = some .string := by kernel_rfl
theorem run_cat (a b : List UInt8) (h : a.length + b.length ≤ 9223372036854775807) (w : World) :
    (binOp .add 9 (.string ⟨a.toArray⟩) (.string ⟨b.toArray⟩)).run Tryz.prog w = .ok (.string ⟨(a ++ b).toArray⟩) w := by
  have h1 : (⟨a.toArray⟩ : ByteArray) ++ ⟨b.toArray⟩ = ⟨(a ++ b).toArray⟩ := by
    apply ByteArray.ext
    simp
  have h2 : ¬ ((((⟨a.toArray⟩ : ByteArray).size + (⟨b.toArray⟩ : ByteArray).size : Nat) : Int) > IntKind.i64.max) := by
    show ¬ (((a.toArray.size + b.toArray.size : Nat) : Int) > 9223372036854775807)
    simp
    omega
  unfold binOp
  simp only [Op.stringOp]
  rw [if_neg h2, h1]
  rfl
theorem exec_cat {ρ : Operand → Value} {o : Oper} {x y : Operand} {w : World} (ho : o.op = .binOp .add 9 x y 9) (a b : List UInt8) (hx : ρ x = .string ⟨a.toArray⟩) (hy : ρ y = .string ⟨b.toArray⟩) (hl : a.length + b.length ≤ 9223372036854775807) :
    (execOp ρ o).run Tryz.prog w = .ok (.value (.string ⟨(a ++ b).toArray⟩)) w := by
  unfold execOp
  simp only [ho, hx, hy, Sem.run_bind, run_cat a b hl]
  rfl
/-- The same, as a step of the walk. -/
theorem wpList_cat {ops : Array Oper} {rest : List Oper} {o : Oper} {f : Act} {w : World} {Q : Exit → Act → World → Prop} (hgd : o.guard = none) (x y : Operand) (ho : o.op = .binOp .add 9 x y 9)
    (a b : List UInt8) (hx : f.eval x = .string ⟨a.toArray⟩) (hy : f.eval y = .string ⟨b.toArray⟩) (hl : a.length + b.length ≤ 9223372036854775807)
    (h : wpList Tryz.prog ops Q rest (f.put o.dst (.string ⟨(a ++ b).toArray⟩)) w) : wpList Tryz.prog ops Q (o :: rest) f w :=
  wpList_plain hgd fun K hK => by
    have h2 := hK _ _ h
    unfold Oper.wp execOp
    simp only [ho, hx, hy, Sem.run_bind, run_cat a b hl]
    exact h2
end Go.Proofs.YtikmoledbiepoaaGreatDoor

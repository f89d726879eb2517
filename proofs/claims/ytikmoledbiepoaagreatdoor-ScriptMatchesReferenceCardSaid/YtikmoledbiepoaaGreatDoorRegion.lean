/- A region that draws its order, by an invariant over the operations done so far. -/
import Derived.Test.YtikmoledbiepoaaGreatDoorLeaf
namespace Go.Proofs.YtikmoledbiepoaaGreatDoor
open Go.RowKit

section
variable {P : Program} {ops : Array Oper} {Q : Exit → Act → World → Prop} {md : Region.Mode}

/-- How many operations are still to come. -/
def unlisted (L : Array Bool) : Nat := (L.toList.filter (fun b => !b)).length

theorem unlisted_set {L : Array Bool} {i : Nat} (h : L.getD i true = false) : unlisted (L.setIfInBounds i true) + 1 = unlisted L := by
  have hi : i < L.size := by
    rcases Nat.lt_or_ge i L.size with h' | h'
    · exact h'
    · simp [Array.getElem?_eq_none h'] at h
  have hv : L.toList[i]'(by simpa using hi) = false := by simpa [hi] using h
  unfold unlisted
  rw [Array.toList_setIfInBounds]
  have key : ∀ (l : List Bool) (i : Nat) (hi : i < l.length), l[i] = false → ((l.set i true).filter (fun b => !b)).length + 1 = (l.filter (fun b => !b)).length := by
    intro l
    induction l with
    | nil => intro i hi; simp at hi
    | cons x xs ih =>
      intro i hi hx
      cases i with
      | zero => simp at hx; subst hx; simp
      | succ i =>
        have := ih i (by simpa using hi) (by simpa using hx)
        cases x <;> simp at this ⊢ <;> omega
  exact key L.toList i (by simpa using hi) hv

theorem ready_unlisted {L : Array Bool} {i : Nat} (h : i ∈ Region.ready md ops L) : L.getD i true = false := (mem_ready.1 h).1

theorem wpAny_inv (Inv : Array Bool → Act → World → Prop)
    (hstep : ∀ L a w i, Inv L a w → i ∈ Region.ready md ops L → wpOp P ops Q i (Inv (L.setIfInBounds i true)) a w)
    (hend : ∀ L a w, Inv L a w → Region.ready md ops L = [] → Q .normal a w) :
    ∀ fuel L a w, unlisted L ≤ fuel → Inv L a w → wpAny P md ops Q fuel L a w := by
  intro fuel
  induction fuel with
  | zero =>
    intro L a w hf hI
    have hr : Region.ready md ops L = [] := by
      cases hr : Region.ready md ops L with
      | nil => rfl
      | cons x xs =>
        have := unlisted_set (ready_unlisted (i := x) (md := md) (ops := ops) (by rw [hr]; simp))
        omega
    exact ⟨hr, hend L a w hI hr⟩
  | succ fuel ih =>
    intro L a w hf hI
    refine ⟨fun hr => hend L a w hI hr, fun i hi => ?_⟩
    refine wpOp_mono (fun a' w' h => ih _ a' w' ?_ h) (hstep L a w i hI hi)
    have := unlisted_set (ready_unlisted hi)
    omega

/-- No two operations write the same slot. -/
def dstsApart (ops : Array Oper) : Bool :=
  (List.range ops.size).all fun i => (List.range ops.size).all fun j => i == j || match (ops[i]?).bind (·.dst), (ops[j]?).bind (·.dst) with
    | some d, some d' => d != d'
    | _, _ => true
/-- An operation waits for earlier ones alone. -/
def waitsBack (ops : Array Oper) : Bool :=
  (List.range ops.size).all fun i => match ops[i]? with
    | some o => o.after.all fun e => !Region.binds .any e || decide (e.on < i)
    | none => true

theorem dstsApart_spec (h : dstsApart ops = true) {i j : Nat} {o o' : Oper} (hi : ops[i]? = some o) (hj : ops[j]? = some o') {d : Tmp} (hd : o.dst = some d) (hd' : o'.dst = some d) : i = j := by
  have hi' := (Array.getElem?_eq_some_iff.1 hi).1
  have hj' := (Array.getElem?_eq_some_iff.1 hj).1
  simp only [dstsApart, List.all_eq_true, List.mem_range] at h
  have := h i hi' j hj'
  rw [hi, hj] at this
  simp only [Option.bind_some, hd, hd', bne_self_eq_false, Bool.or_false, beq_iff_eq] at this
  exact this

theorem all_listed (hw : waitsBack ops = true) {L : Array Bool} (hs : L.size = ops.size) (hr : Region.ready .any ops L = []) : ∀ i, i < ops.size → L.getD i false = true := by
  intro i
  induction i using Nat.strongRecOn with
  | ind i ih =>
    intro hi
    cases hL : L.getD i false with
    | true => rfl
    | false =>
      exfalso
      have hi2 : i < L.size := by omega
      have : i ∈ Region.ready .any ops L := by
        rw [mem_ready]
        refine ⟨by simpa [hi2] using hL, ops[i], by simp [hi], fun e he hb => ?_⟩
        simp only [waitsBack, List.all_eq_true, List.mem_range] at hw
        have h2 := hw i hi
        rw [Array.getElem?_eq_getElem hi] at h2
        have h3 := Array.all_eq_true_iff_forall_mem.1 h2 e he
        simp only [hb, Bool.not_true, Bool.false_or, decide_eq_true_eq] at h3
        exact ih e.on h3 (by omega)
      rw [hr] at this
      cases this

/-- The slots: what is not written yet is as it was; what is written is good. -/
structure Tab (ops : Array Oper) (G : Array Bool → Nat → Value → World → Prop) (a0 : Act) (L : Array Bool) (a : Act) (w : World) : Prop where
  defers : a.defers = a0.defers
  size : a.tmps.size = a0.tmps.size
  old : ∀ t, (∀ i o, ops[i]? = some o → L.getD i false = true → o.dst ≠ some t) → a.tmps[t]? = a0.tmps[t]?
  good : ∀ i o d, ops[i]? = some o → L.getD i false = true → o.dst = some d → ∃ v, a.tmps[d]? = some v ∧ G L i v w
  down : ∀ i o e, ops[i]? = some o → L.getD i false = true → e ∈ o.after → Region.binds .any e = true → L.getD e.on false = true

theorem wp_region_table {id : Nat} {a0 : Act} {w0 : World} (G : Array Bool → Nat → Value → World → Prop) (Wd : Array Bool → World → Prop)
    (hm : P.follows .mixedOrders = true) (hd : dstsApart ops = true) (hw : waitsBack ops = true)
    (hsz : ∀ (i : Nat) (o : Oper) (d : Tmp), ops[i]? = some o → o.dst = some d → d < a0.tmps.size)
    (h0 : Wd (Array.replicate ops.size false) { w0 with drawn := w0.drawn + 1 })
    (hstep : ∀ (i : Nat) (o : Oper) (L : Array Bool) (a : Act) (w : World), ops[i]? = some o → L.size = ops.size → L.getD i true = false → (∀ e ∈ o.after, Region.binds .any e = true → L.getD e.on false = true) → Tab ops G a0 L a w → Wd L w →
      wpOp P ops Q i (fun a' w' => ∃ v, a' = a.put o.dst v ∧ (o.dst = none ∨ G (L.setIfInBounds i true) i v w') ∧ Wd (L.setIfInBounds i true) w' ∧
        ∀ (j : Nat) (oj : Oper) (d : Tmp) (u : Value), ops[j]? = some oj → L.getD j false = true → oj.dst = some d → a.tmps[d]? = some u → G L j u w → G (L.setIfInBounds i true) j u w') a w)
    (hend : ∀ L a w, (∀ i, i < ops.size → L.getD i false = true) → Tab ops G a0 L a w → Wd L w → Q .normal a w) :
    (Code.region id ops true).wp P Q a0 w0 := by
  refine wp_region_any hm ?_
  refine wpAny_inv (md := .any) (fun L a w => L.size = ops.size ∧ Tab ops G a0 L a w ∧ Wd L w) ?_ ?_ ops.size _ a0 _ ?_ ?_
  · rintro L a w i ⟨hs, hT, hW⟩ hi
    obtain ⟨hun, o, ho, hall⟩ := mem_ready.1 hi
    refine wpOp_mono ?_ (hstep i o L a w ho hs hun hall hT hW)
    rintro a' w' ⟨v, rfl, hg, hW', hkeep⟩
    have hi2 : i < L.size := by have := (Array.getElem?_eq_some_iff.1 ho).1; omega
    refine ⟨by simpa using hs, ⟨?_, ?_, ?_, ?_, ?_⟩, hW'⟩
    · rw [← hT.defers]; cases o.dst <;> rfl
    · rw [← hT.size]; cases o.dst <;> simp [Act.put]
    · intro t ht
      have h1 : o.dst ≠ some t := ht i o ho (by simp [hi2])
      have h2 : (a.put o.dst v).tmps[t]? = a.tmps[t]? := by
        cases hd' : o.dst with
        | none => rfl
        | some d =>
          have : d ≠ t := fun e => h1 (by rw [hd', e])
          simp [Act.put, Array.getElem?_setIfInBounds_ne this]
      rw [h2]
      exact hT.old t fun j o' hj hLj => ht j o' hj (getD_set_true hLj)
    · intro j o' d hj hLj hdj
      by_cases hij : i = j
      · subst hij
        rw [ho] at hj
        cases hj
        rw [hdj] at hg ⊢
        have hlt : d < a.tmps.size := by rw [hT.size]; exact hsz i o d ho hdj
        exact ⟨v, by simp [Act.put, hlt], hg.resolve_left (by simp)⟩
      · rw [getD_set_ne false hij] at hLj
        obtain ⟨u, hu, hgu⟩ := hT.good j o' d hj hLj hdj
        refine ⟨u, ?_, hkeep j o' d u hj hLj hdj hu hgu⟩
        rw [← hu]
        cases hd' : o.dst with
        | none => rfl
        | some d' =>
          have : d' ≠ d := fun e => hij (dstsApart_spec hd ho hj (by rw [hd', e]) hdj)
          simp [Act.put, Array.getElem?_setIfInBounds_ne this]
    · intro j o' e hj hLj he hb
      by_cases hij : i = j
      · subst hij
        rw [ho] at hj
        cases hj
        exact getD_set_true (hall e he hb)
      · rw [getD_set_ne false hij] at hLj
        exact getD_set_true (hT.down j o' e hj hLj he hb)
  · rintro L a w ⟨hs, hT, hW⟩ hr
    exact hend L a w (all_listed hw hs hr) hT hW
  · have : ∀ n, unlisted (Array.replicate n false) ≤ n := by
      intro n
      unfold unlisted
      rw [Array.toList_replicate]
      exact Nat.le_trans (List.length_filter_le _ _) (by simp)
    exact this _
  · have hnone : ∀ i, (Array.replicate ops.size false).getD i false = true → False := by
      intro i hi
      by_cases h : i < ops.size
      · simp [h] at hi
      · simp [h] at hi
    refine ⟨by simp, ⟨rfl, rfl, fun _ _ => rfl, fun i o d _ hL _ => (hnone i hL).elim, fun i o e _ hL _ _ => (hnone i hL).elim⟩, h0⟩

variable {a : Act} {w w' : World} {K : Act → World → Prop} {i : Nat} {o : Oper} {v : Value}

theorem wpOp_val (ho : ops[i]? = some o) (hg : o.guard = none) (hr : (execOp a.eval o).run P w = .ok (.value v) w') (hK : K (a.put o.dst v) w') : wpOp P ops Q i K a w := by
  unfold wpOp
  simp only [ho, Region.wanted, hg, if_true, Oper.wp, hr, Oper.upon]
  exact .inl hK
theorem wpOp_skip (ho : ops[i]? = some o) (hg : o.guard = none) (hr : (execOp a.eval o).run P w = .ok .skip w') (hK : K (a.put o.dst undef) w') : wpOp P ops Q i K a w := by
  unfold wpOp
  simp only [ho, Region.wanted, hg, if_true, Oper.wp, hr, Oper.upon]
  exact .inl hK
theorem wpOp_call {f : FuncId} {args : Array Value} (ho : ops[i]? = some o) (hg : o.guard = none) (hr : (execOp a.eval o).run P w = .ok (.enter f args) w')
    (hc : Calls P f args w' fun e w'' => ∃ v, e = .returned v ∧ K (a.put o.dst v) w'') : wpOp P ops Q i K a w := by
  unfold wpOp
  simp only [ho, Region.wanted, hg, if_true, Oper.wp, hr, Oper.upon]
  refine .inl (hc.mono ?_)
  rintro e w'' ⟨v, rfl, h⟩
  exact h
/-- An operation whose guard is off. -/
theorem wpOp_off {j : Nat} {want b : Bool} {d : Tmp} (ho : ops[i]? = some o) (hg : o.guard = some (j, want)) (hj : (ops[j]?).bind (·.dst) = some d) (hb : a.tmps[d]? = some (.bool b)) (hne : b ≠ want)
    (hK : K (a.put o.dst undef) w) : wpOp P ops Q i K a w := by
  unfold wpOp
  have : Region.wanted o (yielded ops a.tmps) = false := by
    simp [Region.wanted, hg, yielded, hj, hb, hne]
  simp only [ho, this]
  exact hK
/-- An operation whose guard is on. -/
theorem wpOp_on {j : Nat} {want : Bool} {d : Tmp} (ho : ops[i]? = some o) (hg : o.guard = some (j, want)) (hj : (ops[j]?).bind (·.dst) = some d) (hb : a.tmps[d]? = some (.bool want))
    (h : o.wp P a w K Q) : wpOp P ops Q i K a w := by
  unfold wpOp
  have : Region.wanted o (yielded ops a.tmps) = true := by
    simp [Region.wanted, hg, yielded, hj, hb]
  simp only [ho, this]
  exact .inl h
theorem ev {t : Tmp} {x : Value} (h : a.tmps[t]? = some x) : a.eval (.tmp t) = x := by simp [Act.eval, h]

/-- No operation writes the slot. -/
def noDst (ops : Array Oper) (t : Tmp) : Bool := ops.toList.all fun o => o.dst != some t
theorem noDst_spec {t : Tmp} (h : noDst ops t = true) (i : Nat) (o : Oper) (ho : ops[i]? = some o) : o.dst ≠ some t := by
  have := List.all_eq_true.1 h o (Array.mem_toList_iff.2 (Array.mem_of_getElem? ho))
  simpa using this
/-- A statement for each operation of a list. -/
def AllAt (X : Nat → Oper → Prop) : Nat → List Oper → Prop
  | _, [] => True
  | n, o :: r => X n o ∧ AllAt X (n + 1) r
theorem AllAt.get {X : Nat → Oper → Prop} : ∀ {l : List Oper} {n : Nat}, AllAt X n l → ∀ (i : Nat) (o : Oper), l[i]? = some o → X (n + i) o
  | [], _, _, i, o, h => by simp at h
  | x :: r, n, ⟨h0, hr⟩, i, o, h => by
    cases i with
    | zero => simp at h; subst h; exact h0
    | succ i =>
      have := AllAt.get hr i o (by simpa using h)
      rwa [show n + (i + 1) = n + 1 + i by omega]
/-- Operation o waits for operation j. -/
def waitsFor (o : Oper) (j : Nat) : Bool := o.after.toList.any fun e => Region.binds .any e && e.on == j
/-- The slots that the step of operation o may rest on. -/
structure Slots (ops : Array Oper) (val : Nat → Value) (a0 : Act) (o : Oper) (a : Act) : Prop where
  made : ∀ (j : Nat) (d : Tmp), (ops[j]?).bind (·.dst) = some d → waitsFor o j = true → a.tmps[d]? = some (val j)
  old : ∀ t, noDst ops t = true → a.tmps[t]? = a0.tmps[t]?
/-- The slots behind the region. -/
structure SlotsEnd (ops : Array Oper) (val : Nat → Value) (a0 : Act) (a : Act) : Prop where
  defers : a.defers = a0.defers
  size : a.tmps.size = a0.tmps.size
  made : ∀ (j : Nat) (d : Tmp), (ops[j]?).bind (·.dst) = some d → a.tmps[d]? = some (val j)
  old : ∀ t, noDst ops t = true → a.tmps[t]? = a0.tmps[t]?

/-- A region whose operations' values are known ahead. -/
theorem wp_region_vals {id : Nat} {a0 : Act} {w0 : World} (val : Nat → Value) (W : World → Prop)
    (hm : P.follows .mixedOrders = true) (hd : dstsApart ops = true) (hw : waitsBack ops = true)
    (hsz : (ops.all fun o => match o.dst with | some d => decide (d < a0.tmps.size) | none => true) = true)
    (h0 : W { w0 with drawn := w0.drawn + 1 })
    (hstep : AllAt (fun i o => ∀ (a : Act) (w : World), Slots ops val a0 o a → W w → wpOp P ops Q i (fun a' w' => a' = a.put o.dst (val i) ∧ W w') a w) 0 ops.toList)
    (hend : ∀ (a : Act) (w : World), SlotsEnd ops val a0 a → W w → Q .normal a w) :
    (Code.region id ops true).wp P Q a0 w0 := by
  refine wp_region_table (fun _ i v _ => v = val i) (fun _ w => W w) hm hd hw ?_ h0 ?_ ?_
  · intro i o d ho hdo
    have := Array.all_eq_true_iff_forall_mem.1 hsz o (Array.mem_of_getElem? ho)
    simpa [hdo] using this
  · intro i o L a w ho _ hun hall hT hW
    have hs := hstep.get i o (by simpa using ho) a w ?_ hW
    · rw [Nat.zero_add] at hs
      refine wpOp_mono ?_ hs
      rintro a' w' ⟨rfl, hW'⟩
      exact ⟨_, rfl, .inr rfl, hW', fun _ _ _ _ _ _ _ _ h => h⟩
    · refine ⟨fun j d hj hin => ?_, fun t ht => hT.old t fun i o h _ => noDst_spec ht i o h⟩
      obtain ⟨e, he, hb⟩ := List.any_eq_true.1 hin
      simp only [Bool.and_eq_true, beq_iff_eq] at hb
      obtain ⟨oj, hoj, hdj⟩ := Option.bind_eq_some_iff.1 hj
      obtain ⟨v, hv, rfl⟩ := hT.good j oj d hoj (hb.2 ▸ hall e (Array.mem_toList_iff.1 he) hb.1) hdj
      exact hv
  · intro L a w hL hT hW
    refine hend a w ⟨hT.defers, hT.size, fun j d hj => ?_, fun t ht => hT.old t fun i o h _ => noDst_spec ht i o h⟩ hW
    obtain ⟨oj, hoj, hdj⟩ := Option.bind_eq_some_iff.1 hj
    obtain ⟨v, hv, rfl⟩ := hT.good j oj d hoj (hL j (Array.getElem?_eq_some_iff.1 hoj).1) hdj
    exact hv

/-- The slots that a step may rest on, where what is known of them may speak of memory. -/
structure SlotsG (ops : Array Oper) (G : Nat → Value → World → Prop) (a0 : Act) (o : Oper) (a : Act) (w : World) : Prop where
  made : ∀ (j : Nat) (d : Tmp), (ops[j]?).bind (·.dst) = some d → waitsFor o j = true → ∃ v, a.tmps[d]? = some v ∧ G j v w
  old : ∀ t, noDst ops t = true → a.tmps[t]? = a0.tmps[t]?
structure SlotsGEnd (ops : Array Oper) (G : Nat → Value → World → Prop) (a0 : Act) (a : Act) (w : World) : Prop where
  defers : a.defers = a0.defers
  size : a.tmps.size = a0.tmps.size
  made : ∀ (j : Nat) (d : Tmp), (ops[j]?).bind (·.dst) = some d → ∃ v, a.tmps[d]? = some v ∧ G j v w
  old : ∀ t, noDst ops t = true → a.tmps[t]? = a0.tmps[t]?

/-- A region whose operations only make memory. -/
theorem wp_region_ext {id : Nat} {a0 : Act} {w0 : World} (G : Nat → Value → World → Prop) (hG : ∀ (j : Nat) (u : Value) (w w' : World), Ext w w' → G j u w → G j u w')
    (hm : P.follows .mixedOrders = true) (hd : dstsApart ops = true) (hw : waitsBack ops = true)
    (hsz : (ops.all fun o => match o.dst with | some d => decide (d < a0.tmps.size) | none => true) = true)
    (hstep : AllAt (fun i o => ∀ (a : Act) (w : World), SlotsG ops G a0 o a w → Ext w0 w → wpOp P ops Q i (fun a' w' => ∃ v, a' = a.put o.dst v ∧ (o.dst = none ∨ G i v w') ∧ Ext w w') a w) 0 ops.toList)
    (hend : ∀ (a : Act) (w : World), SlotsGEnd ops G a0 a w → Ext w0 w → Q .normal a w) :
    (Code.region id ops true).wp P Q a0 w0 := by
  refine wp_region_table (fun _ i v w => G i v w) (fun _ w => Ext w0 w) hm hd hw ?_ ⟨rfl, rfl, rfl, Nat.le_refl _, fun _ _ => rfl⟩ ?_ ?_
  · intro i o d ho hdo
    have := Array.all_eq_true_iff_forall_mem.1 hsz o (Array.mem_of_getElem? ho)
    simpa [hdo] using this
  · intro i o L a w ho _ hun hall hT hW
    have hs := hstep.get i o (by simpa using ho) a w ?_ hW
    · rw [Nat.zero_add] at hs
      refine wpOp_mono ?_ hs
      rintro a' w' ⟨v, rfl, hg, hx⟩
      exact ⟨_, rfl, hg, hW.trans hx, fun j _ _ u _ _ _ _ h => hG j u w w' hx h⟩
    · refine ⟨fun j d hj hin => ?_, fun t ht => hT.old t fun i o h _ => noDst_spec ht i o h⟩
      obtain ⟨e, he, hb⟩ := List.any_eq_true.1 hin
      simp only [Bool.and_eq_true, beq_iff_eq] at hb
      obtain ⟨oj, hoj, hdj⟩ := Option.bind_eq_some_iff.1 hj
      exact hT.good j oj d hoj (hb.2 ▸ hall e (Array.mem_toList_iff.1 he) hb.1) hdj
  · intro L a w hL hT hW
    refine hend a w ⟨hT.defers, hT.size, fun j d hj => ?_, fun t ht => hT.old t fun i o h _ => noDst_spec ht i o h⟩ hW
    obtain ⟨oj, hoj, hdj⟩ := Option.bind_eq_some_iff.1 hj
    exact hT.good j oj d hoj (hL j (Array.getElem?_eq_some_iff.1 hoj).1) hdj
/-- The slots of a frame, one by one. -/
def AllSlots (a : Act) : Nat → List Value → Prop
  | _, [] => True
  | n, v :: r => a.tmps[n]? = some v ∧ AllSlots a (n + 1) r
theorem AllSlots.get {a : Act} : ∀ {l : List Value} {n : Nat}, AllSlots a n l → ∀ (i : Nat), i < l.length → a.tmps[n + i]? = l[i]?
  | [], _, _, i, h => by simp at h
  | x :: r, n, ⟨h0, hr⟩, i, h => by
    cases i with
    | zero => simpa using h0
    | succ i =>
      have := AllSlots.get hr i (by simpa using h)
      rw [show n + (i + 1) = n + 1 + i by omega, this]; simp
theorem act_of_slots {a : Act} {l : List Value} (hd : a.defers = []) (hs : a.tmps.size = l.length) (h : AllSlots a 0 l) : a = ⟨l.toArray, []⟩ := by
  cases a with
  | mk t d =>
    simp only at hd hs
    subst hd
    congr
    apply Array.ext_getElem?
    intro i
    rcases Nat.lt_or_ge i l.length with hi | hi
    · have := h.get i hi
      simpa using this
    · rw [Array.getElem?_eq_none (by omega)]; simp [hi]
/-- A frame with some slots written. -/
def putAll (a : Act) : List (Tmp × Value) → Act
  | [] => a
  | p :: r => putAll (a.put (some p.1) p.2) r
theorem putAll_defers (l : List (Tmp × Value)) : ∀ a : Act, (putAll a l).defers = a.defers := by
  induction l with
  | nil => intro a; rfl
  | cons p r ih => intro a; rw [putAll, ih]; rfl
theorem putAll_get {b : Act} : ∀ (l : List (Tmp × Value)) (a : Act), a.tmps.size = b.tmps.size → (∀ p ∈ l, b.tmps[p.1]? = some p.2) → ∀ t, (putAll a l).tmps[t]? = b.tmps[t]? ∨ ((∀ p ∈ l, p.1 ≠ t) ∧ (putAll a l).tmps[t]? = a.tmps[t]?)
  | [], a, _, _, t => .inr ⟨by simp, rfl⟩
  | p :: r, a, hs, hp, t => by
    rcases putAll_get r (a.put (some p.1) p.2) (by simpa [Act.put] using hs) (fun q hq => hp q (by simp [hq])) t with h | ⟨h1, h2⟩
    · exact .inl h
    · by_cases hpt : p.1 = t
      · refine .inl ?_
        rw [putAll, h2]
        have hb := hp p (by simp)
        rw [hpt] at hb
        have hlt : t < b.tmps.size := by
          rcases Nat.lt_or_ge t b.tmps.size with h | h
          · exact h
          · rw [Array.getElem?_eq_none h] at hb; cases hb
        rw [hb]
        simp [Act.put, hpt, hs, hlt]
      · refine .inr ⟨fun q hq => ?_, ?_⟩
        · rcases List.mem_cons.1 hq with rfl | hq
          · exact hpt
          · exact h1 q hq
        · rw [putAll, h2]; simp [Act.put, Array.getElem?_setIfInBounds_ne hpt]
def dstsIn (ops : Array Oper) (ks : List Tmp) : Bool := ops.toList.all fun o => match o.dst with | some d => ks.contains d | none => true
theorem noDst_of {ks : List Tmp} (h : dstsIn ops ks = true) {t : Tmp} (ht : t ∉ ks) : noDst ops t = true := by
  simp only [noDst, dstsIn, List.all_eq_true] at *
  intro o ho
  have := h o ho
  cases hd : o.dst with
  | none => rfl
  | some d =>
    rw [hd] at this
    simp only [bne_iff_ne, ne_eq, Option.some.injEq]
    intro e
    subst e
    exact ht (by simpa using this)
/-- The frame behind a region: as it was, with the region's slots written. -/
theorem act_putAll {a a0 : Act} (l : List (Tmp × Value)) (hd : a.defers = a0.defers) (hs : a.tmps.size = a0.tmps.size) (hp : ∀ p ∈ l, a.tmps[p.1]? = some p.2)
    (hin : dstsIn ops (l.map (·.1)) = true) (hold : ∀ t, noDst ops t = true → a.tmps[t]? = a0.tmps[t]?) : a = putAll a0 l := by
  have h1 : a.defers = (putAll a0 l).defers := by rw [putAll_defers, hd]
  have h2 : a.tmps = (putAll a0 l).tmps := by
    apply Array.ext_getElem?
    intro t
    rcases putAll_get (b := a) l a0 hs.symm hp t with h | ⟨h1, h2⟩
    · exact h.symm
    · rw [h2]
      refine hold t (noDst_of hin fun hm => ?_)
      obtain ⟨p, hp1, hp2⟩ := List.mem_map.1 hm
      exact h1 p hp1 hp2
  cases a
  cases hx : putAll a0 l
  rw [hx] at h1 h2
  simp_all
end
end Go.Proofs.YtikmoledbiepoaaGreatDoor

/- What the cards of this seat share: the package-level variables out of the row's condition, the world that fits, the row's last step. -/
import Derived.Test.YtikmoledbiepoaaGreatDoorTie
import Derived.Test.YtikmoledbiepoaaGreatDoorCards
import Derived.Test.YtikmoledbiepoaaGreatDoorLeaf
import Derived.ProofKit
import Derived.OpenShut
import Derived.LaidMore
import Derived.Lay
import Derived.SevenTiedAt
import Derived.Stop.Joined
import Derived.Shelf.Vars
import Derived.WideKeyArgs
import Derived.Lib.LaidU8
import Derived.Handed
import Derived.Carry
import Derived.Test.YtikmoledbiepoaaGreatDoorOpen
namespace Go.Proofs.YtikmoledbiepoaaGreatDoor
open Go.ChangeShapes Go.WideShapes Go.ChangeAt Go.RowKit
variable {H : Type} {enc : TypeId × Value → H}
/-- The plain wrap, with the row's condition and the world's shape. -/
theorem returns_shaped {a : Assume} {C : Checked} {os : Os} {f : FuncId} {fn : Func} {s : ChangeSpec} {conds : List PathCond} {apart fresh handsOn again : Bool} {X : World → Array Value → Prop}
    (hX : ∀ (w w' : World) (args : Array Value), w.heap = w'.heap → X w args → X w' args)
    (own : ownKnob C.prog.godebug = none) (started : os.Started) (noInit : C.prog.inits.idxOf? f = none) (hfn : C.prog.funcs[f]? = some fn)
    (witness : ∃ (w : World) (tape : Tape) (i : Input), w.os = os ∧ (w.forCall tape i).Shaped C.prog ∧ i.vars = [] ∧ Input.okWide C.prog (w.forCall tape i) .any w.heap.size f i ∧
      ((s.pre enc C.prog fn conds apart (w.forCall tape i).memory i.args ∧ X (w.forCall tape i).memory i.args) ∧ sizedMet enc C.prog fn (OpenSpec.ofChange s) apart (w.forCall tape i).memory i.args) ∧ a.holds C.prog (lone (Frame.enter C.prog f i.args .normal) [] (w.forCall tape i)))
    (contract : ∀ (W : World) (base : Nat) (args : Array Value) (ds gs : List (DataW H)) (before : List MemPlace),
      (∀ (j : Nat) t v, fn.params[j]? = some t → args[j]? = some v → Value.okWide C.prog W .any base t v) →
      DataW.Whole enc C.prog fn.params.toList s.vars apart W args.toList ds gs before → X W args → W.ShapedOpen C.prog →
      Calls C.prog f args W fun e W' => ∃ v, e = .returned v ∧ s.post enc C.prog fn apart fresh handsOn again W args v W') :
    ReturnsInHanded a C os f .any (fun w args => (s.pre enc C.prog fn conds apart w args ∧ X w args) ∧ sizedMet enc C.prog fn (OpenSpec.ofChange s) apart w args) (s.post enc C.prog fn apart fresh handsOn again) := by
  refine returnsInHanded_of_calls own started noInit witness ?_
  intro w tape i _ hsh _ hok hpre _
  obtain ⟨_, _, _, fn', hfn', _, _, _, _, hval⟩ := hok
  have e : fn' = fn := Option.some.inj (hfn'.symm.trans hfn)
  subst e
  obtain ⟨⟨⟨ds, gs, before, hw, _⟩, hx⟩, _⟩ := hpre
  have hw' := DataW.Whole.of_heap (w' := w.forCall tape i) (by rfl) hw
  refine (contract (w.forCall tape i) w.heap.size i.args ds gs before hval hw' (hX _ _ _ (by rfl) hx) hsh).mono fun e W' ⟨v, he, hp⟩ => ?_
  subst he
  exact ChangeSpec.post_blind hp
theorem own : ownKnob Tryz.prog.godebug = none := by kernel_rfl
theorem laidOut : laidOutB Tryz.prog = true := by kernel_rfl
/-- What the rows list. -/
def laidAll8 : List (String × DataW Unit) := [("math/bits.deBruijn32tab", Rows.laid_math_bits_deBruijn32tab), ("math/bits.deBruijn64tab", Rows.laid_math_bits_deBruijn64tab), ("internal/strconv.uint64pow10", Rows.laid_internal_strconv_uint64pow10), ("unicode/utf8.acceptRanges", Rows.laid_unicode_utf8_acceptRanges), ("peregrine/params.errParams", Rows.laid_peregrine_params_errParams), ("strconv.ErrRange", Rows.laid_strconv_ErrRange), ("strconv.ErrSyntax", Rows.laid_strconv_ErrSyntax), ("unicode/utf8.first", Rows.laid_unicode_utf8_first)]
theorem iface_reads {P : Program} {w : World} {n : String} {name : String} {d : DataW Unit} {t : TypeId} {ms : Array (String × TypeId)} {g : Nat} (hg : P.globalNamed n = some g) (ht : (P.globals[g]?).map (·.type) = some t) (hu : P.underlying t = some (.interface ms))
    (h : Lib.VarReads P w n (.iface name d)) : ∃ tp p, w.var? P n = some #[.iface tp p] := by
  obtain ⟨g', t', cs, fuel, p, h1, h2, h3, h4⟩ := h
  obtain rfl := Option.some.inj (hg.symm.trans h1)
  obtain rfl := Option.some.inj (ht.symm.trans h2)
  rw [h3]
  obtain ⟨l⟩ := cs
  cases fuel with
  | zero => simp [DataW.trod] at h4
  | succ m =>
    simp only [DataW.trod, hu] at h4
    match l, h4 with
    | [], h4 => simp at h4
    | x :: y :: r, h4 => cases x <;> simp at h4
    | [x], h4 =>
      cases x with
      | iface tp p => exact ⟨tp, p, rfl⟩
      | nilIface => simp at h4
      | _ => simp at h4
theorem undErr (t : TypeId) (h : (match Tryz.prog.underlying t with | some (.interface _) => true | _ => false) = true) : ∃ ms, Tryz.prog.underlying t = some (.interface ms) := by
  cases hu : Tryz.prog.underlying t with
  | none => rw [hu] at h; cases h
  | some d =>
    rw [hu] at h
    cases d <;> first | exact ⟨_, rfl⟩ | cases h
end Go.Proofs.YtikmoledbiepoaaGreatDoor
/- What the cards of this seat share: from the row's condition to what the walks ask; the row's last step where a call only makes memory. -/
namespace Go.Proofs.YtikmoledbiepoaaGreatDoor
open Go.ChangeShapes Go.WideShapes Go.ChangeAt Go.RowKit
theorem laid_pow10 : (Rows.laid_internal_strconv_uint64pow10 : DataW Unit) = Lib.tabData .u64 Lib.pow10Tab := by kernel_rfl
theorem gsize : Tryz.prog.globals.size = 9 := by kernel_rfl
theorem var_lt {P : Program} {w : World} {n : String} {g : Nat} {cs : Array Value} (hg : P.globalNamed n = some g) (h : w.var? P n = some cs) : g < w.heap.size := by
  unfold World.var? at h
  rw [hg] at h
  simp only [Option.bind_some] at h
  cases hh : w.heap[g]? with
  | none => rw [hh] at h; cases h
  | some o => exact lt_of_block hh
theorem glob_of {W : World} (h : laidMetH Tryz.prog laidAll8 W) (hs : W.ShapedOpen Tryz.prog) : Glob W := by
  rw [MakeChecks.laidMetH_plain _ _ _ (by kernel_rfl)] at h
  obtain ⟨m1, e1⟩ := undErr 71 (by kernel_rfl)
  have hp := Lib.laidMet.reads h (n := "peregrine/params.errParams") (d := Rows.laid_peregrine_params_errParams) (by simp [laidAll8])
  have hr := Lib.laidMet.reads h (n := "strconv.ErrRange") (d := Rows.laid_strconv_ErrRange) (by simp [laidAll8])
  have hy := Lib.laidMet.reads h (n := "strconv.ErrSyntax") (d := Rows.laid_strconv_ErrSyntax) (by simp [laidAll8])
  have ht := Lib.laidMet.reads h (n := "internal/strconv.uint64pow10") (d := Lib.tabData .u64 Lib.pow10Tab) (by rw [← laid_pow10]; simp [laidAll8])
  have hb := Lib.laidMet.reads h (n := "math/bits.deBruijn64tab") (d := Rows.laid_math_bits_deBruijn64tab) (by simp [laidAll8])
  have gp : Tryz.prog.globalNamed "peregrine/params.errParams" = some 0 := by kernel_rfl
  obtain ⟨tp, p, vp⟩ := iface_reads gp (t := 71) (by kernel_rfl) e1 hp
  refine ⟨⟨tp, p, by simpa using World.var?_cell gp vp 0⟩, ?_, ?_, ?_, ?_, ?_⟩
  · exact cell_of_shapedOpen_int (t := 3) (zero := #[.int .i64 0]) hs (by rw [gsize]; decide) (by kernel_rfl) rfl (by kernel_rfl) (by kernel_rfl) Tryz.underlying3
  · obtain ⟨g, t, cs, fuel, q, h1, h2, h3, h4⟩ := ht
    have gt : Tryz.prog.globalNamed "internal/strconv.uint64pow10" = some 2 := by kernel_rfl
    have tt : (Tryz.prog.globals[2]?).map (·.type) = some 164 := by kernel_rfl
    obtain rfl := Option.some.inj (gt.symm.trans h1)
    obtain rfl := Option.some.inj (tt.symm.trans h2)
    unfold Lib.TabIs
    have u164 : Tryz.prog.underlying 164 = some (.array 20 152) := by kernel_rfl
    have u8 : Tryz.prog.underlying 152 = some (.int .u64) := by kernel_rfl
    have c8 : Tryz.prog.cellsOf 152 = 1 := by kernel_rfl
    have c164 : Tryz.prog.cellsOf 164 = 20 := by kernel_rfl
    have e := Lib.cells_of_tab u164 u8 c8 c164 h4
    rw [h3, ← e]
  · exact iface_reads (t := 71) g_syn (by kernel_rfl) e1 hy
  · exact iface_reads (t := 71) g_rng (by kernel_rfl) e1 hr
  · obtain ⟨g, t, cs, fuel, q, h1, h2, h3, h4⟩ := hb
    have gt : Tryz.prog.globalNamed "math/bits.deBruijn64tab" = some 8 := by kernel_rfl
    obtain rfl := Option.some.inj (gt.symm.trans h1)
    exact var_lt h1 h3
section
variable {H : Type} {enc : TypeId × Value → H}
/-- The row's last step, where nothing that was there has turned. -/
theorem post_of_ext {f : Func} {s : ChangeSpec} {W W' : World} {args : Array Value} {ds : List (DataW H)} {before : List MemPlace}
    (hs : s.vars = []) (hr : f.resultTypes = #[4]) (hfn : s.fn H ds = { results := [.lit (.bool true)], args := ds }) (hT : ∀ t ∈ f.params.toList, Tryz.prog.readableRec t = true ∧ t < Tryz.prog.types.size)
    (hW : DataW.Whole enc Tryz.prog f.params.toList s.vars false W args.toList ds [] before) (hx : Ext W W') : s.post enc Tryz.prog f false true false false W args (.bool true) W' := by
  have hlt : ∀ p ∈ before, p.block < W.heap.size := fun p hp => hW.lt p hp
  have hW' := hW
  obtain ⟨pa, pv, hA, hV, hb, _, _⟩ := hW
  have hpv : pv = [] := by rw [hs] at hV; exact hV
  subst hpv
  rw [List.append_nil] at hb
  subst hb
  have stay : ∀ (ts : List TypeId) (vs : List Value) (es : List (DataW H)) (q : List MemPlace) (sp : Nat → Bool), (∀ t ∈ ts, Tryz.prog.readableRec t = true ∧ t < Tryz.prog.types.size) → DataW.TrodAll enc Tryz.prog W 0 (fun _ => true) true ts vs es q → (∀ p ∈ q, p.block < W.heap.size) → (∀ p ∈ q, sp p.block = true) →
      DataW.TrodAll enc Tryz.prog W' 0 sp true ts vs es q := by
    intro ts
    induction ts with
    | nil => intro vs es q sp _ h _ _; cases vs <;> cases es <;> first | exact h | exact h.elim
    | cons t ts ih =>
      intro vs es q sp hT h h1 h2
      match vs, es, h with
      | [], _, h => exact h.elim
      | _ :: _, [], h => exact h.elim
      | v :: vs, d :: es, ⟨p, r, ha, hb, e⟩ =>
        subst e
        refine ⟨p, r, ?_, ih vs es r sp (fun u hu => hT u (List.mem_cons_of_mem _ hu)) hb (fun x hx => h1 x (List.mem_append_right _ hx)) (fun x hx => h2 x (List.mem_append_right _ hx)), rfl⟩
        exact WideElems.Trod_stays laidOut (hT t List.mem_cons_self).1 (hT t List.mem_cons_self).2 ha (fun x hx' => Below.same hx (h1 x (List.mem_append_left _ hx'))) (fun x hx => h2 x (List.mem_append_left _ hx))
  refine ⟨ds, [], before, [], before, [], hW', ?_, ?_, ?_, World.keptBut_mono (fun p hp => ⟨hp, by simpa using hp⟩) (Below.frame hx (· ∈ before)), fun h => by cases h⟩
  · rw [List.append_nil, hfn, hr]
    exact trodAll_mk1 (shut_bool Tryz.underlying4 true)
  · rw [List.append_nil, hfn]
    exact stay _ _ _ _ _ hT hA hlt (fun p hp => by simpa using hlt p hp)
  · rw [hs, List.append_nil, hfn]; rfl
end
end Go.Proofs.YtikmoledbiepoaaGreatDoor
/- The arguments of this seat's laws, opened. -/
namespace Go.Proofs.YtikmoledbiepoaaGreatDoor
open Go.ChangeShapes Go.WideShapes Go.ChangeAt Go.RowKit
theorem tsize : Tryz.prog.types.size = 202 := by kernel_rfl
section
variable {H : Type} {enc : TypeId × Value → H} {W : World} {base : Nat} {sp : Nat → Bool} {hd : Bool} {v : Value} {d : DataW H} {p : List MemPlace}
set_option maxRecDepth 100000 in
/-- An int that came in. -/
theorem arg_int (hv : Value.okWide Tryz.prog W .any base 3 v) (h : DataW.Trod enc Tryz.prog W 0 sp hd 3 v d p) : ∃ n, v = .int .i64 n ∧ IntFit n := by
  obtain ⟨n, rfl, rfl, rfl, hw⟩ := open_int Tryz.underlying3 hv h
  exact ⟨n, rfl, bounds_i64 hw⟩
set_option maxRecDepth 100000 in
/-- Six numbers that came in. -/
theorem arg_six (hv : Value.okWide Tryz.prog W .any base 55 v) (h : DataW.Trod enc Tryz.prog W 0 sp hd 55 v d p) : ∃ p q r s t u, v = .agg (p6 p q r s t u).toArray ∧ IntFit p ∧ IntFit q ∧ IntFit r ∧ IntFit s ∧ IntFit t ∧ IntFit u := by
  unfold Value.okWide at hv
  rw [Tryz.underlying55] at hv
  obtain ⟨cs, rfl, _⟩ := hv
  obtain ⟨n, hn⟩ := h
  obtain ⟨a, b, c, x, y, z, e, h1⟩ := rd_six hn
  refine ⟨a, b, c, x, y, z, ?_, h1⟩
  rw [← e]
  rfl
set_option maxRecDepth 100000 in
/-- Parameters of an action that came in. -/
theorem arg_ap (hv : Value.okWide Tryz.prog W .any base 57 v) (h : DataW.Trod enc Tryz.prog W 0 sp hd 57 v d p) : ∃ (p : Ap) (s : Option Addr) (m c : Nat), v = .agg (p.cells (.slice s m c)).toArray ∧ FatesAt W (.slice s m c) p.fates ∧ ApFit p := by
  unfold Value.okWide at hv
  rw [Tryz.underlying57] at hv
  obtain ⟨cs, rfl, _⟩ := hv
  obtain ⟨n, hn⟩ := h
  obtain ⟨q, s, m, c, e, h1⟩ := rd_ap hn
  refine ⟨q, s, m, c, ?_, h1⟩
  rw [← e]
  rfl
set_option maxRecDepth 100000 in
/-- A list of parameters that came in. -/
theorem arg_aps (hv : Value.okWide Tryz.prog W .any base 22 v) (h : DataW.Trod enc Tryz.prog W 0 sp hd 22 v d p) : ∃ l : List Ap, ApsAt W v l ∧ ∀ q ∈ l, ApFit q := by
  obtain ⟨n, hn⟩ := h
  obtain ⟨u, l, e, ⟨s, m, c, hu⟩, h1, h2⟩ := rd_aps hn
  have huv : v = u := by
    unfold Value.okWide at hv
    rw [Tryz.underlying22] at hv
    have hv : Cell.okWide Tryz.prog W .any base 22 v := hv
    cases v with
    | agg cs =>
      exfalso
      unfold Cell.okWide at hv
      rw [Tryz.underlying22] at hv
      exact hv
    | _ => simpa [Value.cells] using e
  subst huv
  exact ⟨l, h1, h2⟩
end
end Go.Proofs.YtikmoledbiepoaaGreatDoor

/- script.forms: the map that it returns. -/
import Derived.Test.YtikmoledbiepoaaGreatDoorMakers
namespace Go.Proofs.YtikmoledbiepoaaGreatDoor
open Go.RowKit
/-- Block b holds the field f. -/
def BoxOf (lo : Nat) (w : World) (b : Nat) (f : Fld) : Prop := lo ≤ b ∧ ∃ rv wv, w.heap[b]? = some (.cells #[rv, wv] 123) ∧ FldAt lo w.heap.size w (.agg #[rv, wv]) f
theorem BoxOf.ext {lo : Nat} {w w' : World} {b : Nat} {f : Fld} (h : BoxOf lo w b f) (hx : Ext w w') : BoxOf lo w' b f := by
  obtain ⟨h0, rv, wv, h1, h2⟩ := h
  exact ⟨h0, rv, wv, by rw [hx.block b (lt_of_block h1)]; exact h1, h2.mono (SameIn.of_ext hx) (Nat.le_refl _) hx.size⟩
theorem BoxOf.made {lo : Nat} {w : World} {rv wv : Value} {f : Fld} (h : FldAt lo w.heap.size w (.agg #[rv, wv]) f) (hl : lo ≤ w.heap.size) : BoxOf lo (w.alloc (.cells #[rv, wv] 123)) w.heap.size f :=
  ⟨hl, rv, wv, alloc_new _ _, h.mono (SameIn.of_ext (Ext.alloc _ _)) (Nat.le_refl _) (Ext.alloc _ _).size⟩
/-- The world behind a maker and its box. -/
theorem box_step {lo : Nat} {w0 w w1 : World} {v : Value} {f : Fld} (hx0 : Ext w0 w) (hx : Ext w w1) (h : FldAt lo w1.heap.size w1 v f) (hl : lo ≤ w0.heap.size) :
    ∃ F1 c1 F2 c2, v = .agg #[.func (.func F1) #[] c1, .func (.func F2) #[] c2] ∧ ∃ W b, W = w1.alloc (.cells #[.func (.func F1) #[] c1, .func (.func F2) #[] c2] 123) ∧ b = w1.heap.size ∧ Ext w W ∧ Ext w0 W ∧ BoxOf lo W b f := by
  obtain ⟨rv, wv, rfl, hr, hw, F1, c1, F2, c2, rfl, rfl⟩ := h
  refine ⟨F1, c1, F2, c2, rfl, _, _, rfl, rfl, hx.trans (Ext.alloc _ _), (hx0.trans hx).trans (Ext.alloc _ _), ?_⟩
  exact BoxOf.made ⟨_, _, rfl, hr, hw, _, _, _, _, rfl, rfl⟩ (Nat.le_trans hl (hx0.trans hx).size)
/-- A slice of fields that the call itself owns. -/
def OwnFlds (B lo : Nat) (w : World) (v : Value) (fs : List Fld) : Prop := ∃ xs, w.ownsRow B 123 2 v fs.length xs ∧ FldCells lo w.heap.size w xs.toArray fs
theorem FldCells.ext {lo : Nat} {w w' : World} {cur : Array Value} {fs : List Fld} (h : FldCells lo w.heap.size w cur fs) (hx : Ext w w') : FldCells lo w'.heap.size w' cur fs := by
  intro j f hj
  obtain ⟨rv, wv, h1, h2, h3⟩ := h j f hj
  exact ⟨rv, wv, h1, h2, h3.mono (SameIn.of_ext hx) (Nat.le_refl _) hx.size⟩
theorem OwnFlds.ext {B lo : Nat} {w w' : World} {v : Value} {fs : List Fld} (h : OwnFlds B lo w v fs) (hx : Ext w w') : OwnFlds B lo w' v fs := by
  obtain ⟨xs, h1, h2⟩ := h
  exact ⟨xs, ownsRow_ext h1 hx, h2.ext hx⟩
theorem FldAt.ext {lo : Nat} {w w' : World} {v : Value} {f : Fld} (h : FldAt lo w.heap.size w v f) (hx : Ext w w') : FldAt lo w'.heap.size w' v f :=
  h.mono (SameIn.of_ext hx) (Nat.le_refl _) hx.size
theorem ent89 : Ent 89 := enters_of Tryz.func89 (by kernel_rfl) rfl
theorem Tryz.info123 : (Tryz.prog.info? 123).map (fun i => (i.zero, i.size, i.bytes)) = some (some (.agg #[.nilFunc, .nilFunc]), 2, 16) := by kernel_rfl
theorem und114 : Tryz.prog.underlying 114 = some (.slice 123) := by kernel_rfl
theorem par_isI {k : Nat} (h : k < 6) : isI (10 + k) = true := by
  have : ∀ a : Fin 6, isI (10 + a.1) = true := by decide
  exact this ⟨k, h⟩
def resumeTo (k : Nat) : List Fld := [fLocal, fRemote, fTicket, fSecret] ++ (List.range k).map fPar
theorem accPar {k : Nat} (h : k < 6) : Ent (93 + k) ∧ ∀ b o w, Calls Tryz.prog (93 + k) #[.pointer (some ⟨b, o, none⟩)] w fun e w' => e = .returned (.pointer (some ⟨b, o + k, none⟩)) ∧ w' = w := by
  match k, h with
  | 0, _ => exact ⟨ent93, acc93⟩
  | 1, _ => exact ⟨ent94, acc94⟩
  | 2, _ => exact ⟨ent95, acc95⟩
  | 3, _ => exact ⟨ent96, acc96⟩
  | 4, _ => exact ⟨ent97, acc97⟩
  | 5, _ => exact ⟨ent98, acc98⟩
  | n + 6, h => omega
theorem sameIn_append {B lo hi n : Nat} {w2 w3 : World} {v r q : Value} {xs : List Value} (hrow : w2.ownsRow B 123 2 v n xs) (hg : (w2.alloc (.cells #[r, q] 123)).grownBy w3 v.ownBlock) : SameIn lo hi w2 w3 := by
  intro x _ _ hx
  have hlt := hx.lt
  rw [hg.block x (by simp; omega) ?_, alloc_old _ _ hlt]
  intro e
  obtain ⟨cs, T, fz, h1, h2⟩ := hx
  rcases hrow.2 with ⟨rfl, _⟩ | ⟨g, cap, cur, rfl, _, hgg, _⟩
  · simp [Value.ownBlock] at e
  · simp [Value.ownBlock] at e
    subst e
    rw [h1] at hgg
    cases hgg
    exact h2 rfl
theorem fldCells_snoc {lo hi : Nat} {w : World} {xs : List Value} {r q : Value} {fs : List Fld} {f : Fld} (h : FldCells lo hi w xs.toArray fs) (hl : xs.length = 2 * fs.length) (hf : FldAt lo hi w (.agg #[r, q]) f) : FldCells lo hi w (xs ++ [r, q]).toArray (fs ++ [f]) := by
  intro j f' hj
  by_cases hlt : j < fs.length
  · rw [List.getElem?_append_left hlt] at hj
    obtain ⟨rv, wv, h1, h2, h3⟩ := h j f' hj
    refine ⟨rv, wv, ?_, ?_, h3⟩
    · rw [List.getElem?_toArray, List.getElem?_append_left (by omega)]; simpa using h1
    · rw [List.getElem?_toArray, List.getElem?_append_left (by omega)]; simpa using h2
  · have hlt2 : j < (fs ++ [f]).length := by
      rcases Nat.lt_or_ge j (fs ++ [f]).length with h | h
      · exact h
      · rw [List.getElem?_eq_none h] at hj; cases hj
    have : j = fs.length := by simp at hlt2; omega
    subst this
    simp at hj
    subst hj
    refine ⟨r, q, ?_, ?_, hf⟩
    · rw [List.getElem?_toArray, List.getElem?_append_right (by omega), hl]; simp
    · rw [List.getElem?_toArray, List.getElem?_append_right (by omega), hl]; simp [show 2 * fs.length + 1 - 2 * fs.length = 1 by omega]
theorem FldCells.same {lo hi hi' : Nat} {w w' : World} {cur : Array Value} {fs : List Fld} (h : FldCells lo hi w cur fs) (hs : SameIn lo hi w w') (hh : hi ≤ hi') : FldCells lo hi' w' cur fs := by
  intro j f hj
  obtain ⟨rv, wv, h1, h2, h3⟩ := h j f hj
  exact ⟨rv, wv, h1, h2, h3.mono hs (Nat.le_refl _) hh⟩
theorem own_append {B lo n : Nat} {w2 w3 : World} {v v3 r q : Value} {xs : List Value} {fs : List Fld} {f : Fld} (hrow : w2.ownsRow B 123 2 v n xs) (hg : (w2.alloc (.cells #[r, q] 123)).grownBy w3 v.ownBlock) (hrow3 : w3.ownsRow B 123 2 v3 (n + 1) (xs ++ [r, q]))
    (hcl : FldCells lo w2.heap.size w2 xs.toArray fs) (hn : fs.length = n) (hf : FldAt lo w2.heap.size w2 (.agg #[r, q]) f) : OwnFlds B lo w3 v3 (fs ++ [f]) := by
  have hs : SameIn lo w2.heap.size w2 w3 := sameIn_append hrow hg
  have hsz : w2.heap.size ≤ w3.heap.size := by have := hg.size; simp at this; omega
  have hl : xs.length = 2 * fs.length := by rw [hrow.1, hn]; omega
  exact ⟨_, by simpa [hn] using hrow3, fldCells_snoc (hcl.same hs hsz) hl (hf.mono hs (Nat.le_refl _) hsz)⟩
theorem OwnFlds.flds {B lo : Nat} {w : World} {v : Value} {fs : List Fld} (h : OwnFlds B lo w v fs) (hB : lo ≤ B) : FldsAt lo w.heap.size w v fs := by
  obtain ⟨xs, hrow, hcl⟩ := h
  rcases hrow.2 with ⟨rfl, h0⟩ | ⟨g, cap, cur, rfl, hbg, hgg, _, _, _, htk⟩
  · exact ⟨none, 0, by rw [h0], fun hn => absurd (List.length_eq_zero_iff.1 h0) hn⟩
  · refine ⟨_, cap, rfl, fun _ => ⟨g, cur, rfl, Nat.le_trans hB hbg, hgg, fun j f hj => ?_⟩⟩
    obtain ⟨rv, wv, h1, h2, h3⟩ := hcl j f hj
    have hjl : j < fs.length := by
      rcases Nat.lt_or_ge j fs.length with h | h
      · exact h
      · rw [List.getElem?_eq_none h] at hj; cases hj
    refine ⟨rv, wv, ?_, ?_, h3⟩
    · rw [← htk] at h1; rw [List.getElem?_toArray, List.getElem?_take_of_lt (by omega)] at h1; simpa using h1
    · rw [← htk] at h2; rw [List.getElem?_toArray, List.getElem?_take_of_lt (by omega)] at h2; simpa using h2
theorem resumeTo_succ (k : Nat) : resumeTo (k + 1) = resumeTo k ++ [fPar k] := by simp [resumeTo, List.range_succ]
theorem exec_buildForm {ρ : Operand → Value} {o : Oper} {s : ByteArray} {x y : Operand} {ad : Option Addr} {n c : Nat} {w : World} (hop : o.op = .build 116 #[(0, y), (1, x)]) (hy : ρ y = .string s) (hx : ρ x = .slice ad n c) :
    (execOp ρ o).run Tryz.prog w = .ok (.value (.agg #[.string s, .slice ad n c])) w := by
  unfold execOp
  simp only [hop]
  simp [hx, hy, run_buildForm]
/-- The map of forms at block bm; all that it is made of lies from lo to hi. -/
structure FormsAt (lo hi : Nat) (w : World) (bm : Nat) : Prop where
  lob : lo ≤ bm
  hib : bm < hi
  size : hi ≤ w.heap.size
  map : ∃ es : Array MapEntry, w.heap[bm]? = some (.map es es.size) ∧ (∀ (i : Nat) (e : MapEntry), es[i]? = some e → e.born = i) ∧
    (∀ (i : Nat) (e : MapEntry), es[i]? = some e → ∃ k, k < 14 ∧ EntryOk lo hi w k e) ∧ ∀ k : Nat, k < 14 → ∃ (i : Nat) (e : MapEntry), es[i]? = some e ∧ e.key = .int .i64 (k : Int)
def FormsPost (w : World) (e : Ending) (w' : World) : Prop := ∃ bm, e = .returned (.map (some bm)) ∧ Ext w w' ∧ FormsAt w.heap.size w'.heap.size w' bm
theorem FldsAt.hi {lo hi hi' : Nat} {w : World} {v : Value} {fs : List Fld} (h : FldsAt lo hi w v fs) (hh : hi ≤ hi') : FldsAt lo hi' w v fs := by
  obtain ⟨a, cap, rfl, h⟩ := h
  refine ⟨a, cap, rfl, fun hn => ?_⟩
  obtain ⟨bs, cur, rfl, hl, hb, hc⟩ := h hn
  exact ⟨bs, cur, rfl, hl, hb, hc.same (SameIn.refl _ _ _) hh⟩
theorem insIdx_lt {k : Nat} (h : k < 14) : insIdx k < 69 := by
  have : ∀ a : Fin 14, insIdx a.1 < 69 := by decide
  exact this ⟨k, h⟩
theorem formsAt_of {lo hi : Nat} {L : Array Bool} {w : World} {bm clk : Nat} {es : Array MapEntry} (hlo : lo ≤ hi) (hbm : hi ≤ bm) (hm : w.heap[bm]? = some (.map es clk)) (he : Ents lo hi L w es clk) (hL : ∀ k, k < 14 → L.getD (insIdx k) false = true) :
    FormsAt lo w.heap.size w bm := by
  have hlt := lt_of_block hm
  refine ⟨by omega, hlt, Nat.le_refl _, es, by rw [hm, he.clock], he.born, fun i e hi' => ?_, fun k hk => he.all k hk (hL k hk)⟩
  obtain ⟨k, hk, _, h1, sl, h2, h3⟩ := he.ok i e hi'
  exact ⟨k, hk, h1, sl, h2, h3.hi (by omega)⟩
theorem boxes_at {lo hi : Nat} {W7 wr : World} {b : Nat} {f : Fld} (h : BoxOf lo W7 b f) (hb : Below W7.heap.size W7 wr) (hh : wr.heap.size ≤ hi) :
    ∃ rv qv, (∀ w', Below wr.heap.size wr w' → w'.heap[b]? = some (.cells #[rv, qv] 123)) ∧ ∀ w', Below wr.heap.size wr w' → FldAt lo hi w' (.agg #[rv, qv]) f := by
  obtain ⟨h0, rv, qv, h1, h2⟩ := h
  have hlt := lt_of_block h1
  refine ⟨rv, qv, fun w' hw => ?_, fun w' hw => ?_⟩
  · rw [hw.block b (Nat.lt_of_lt_of_le hlt hb.size), hb.block b hlt]; exact h1
  · refine h2.mono (fun x _ hx _ => ?_) (Nat.le_refl _) (Nat.le_trans hb.size hh)
    rw [hw.block x (Nat.lt_of_lt_of_le hx hb.size), hb.block x hx]
theorem wp_region_lit {ops : Array Oper} {Q : Exit → Act → World → Prop} {id : Nat} {a0 : Act} {w0 : World} {lo hi : Nat} (hd : dstsApart ops = true) (hw : waitsBack ops = true)
    (hsz : (ops.all fun o => match o.dst with | some d => decide (d < a0.tmps.size) | none => true) = true) (hh : hi = w0.heap.size)
    (hstep : map35 ops = true → AllAt (fun i o => ∀ (L : Array Bool) (a : Act) (w' : World), L.size = ops.size → L.getD i true = false → (∀ e ∈ o.after, Region.binds .any e = true → L.getD e.on false = true) → Tab ops (G14 lo hi) a0 L a w' → (Below hi w0 w' ∧ hi ≤ w'.heap.size) →
      wpOp Tryz.prog ops Q i (KK ops lo hi w0 L a w' i o) a w') 0 ops.toList) (h35 : map35 ops = true)
    (hend : ∀ (L : Array Bool) (a : Act) (w' : World), (∀ i, i < ops.size → L.getD i false = true) → Tab ops (G14 lo hi) a0 L a w' → (Below hi w0 w' ∧ hi ≤ w'.heap.size) → Q .normal a w') :
    (Code.region id ops true).wp Tryz.prog Q a0 w0 := by
  refine wp_region_table (G14 lo hi) (fun _ w' => Below hi w0 w' ∧ hi ≤ w'.heap.size) mixedOrd hd hw ?_ ?_ ?_ hend
  · intro i o d ho hdo
    have := Array.all_eq_true_iff_forall_mem.1 hsz o (Array.mem_of_getElem? ho)
    simpa [hdo] using this
  · subst hh
    exact ⟨⟨rfl, rfl, rfl, Nat.le_refl _, fun _ _ => rfl⟩, Nat.le_refl _⟩
  · intro i o L a w ho hs hun hall hT hW
    have h := (hstep h35).get i o (by simpa using ho) L a w hs (by rw [Nat.zero_add]; exact hun) hall hT hW
    rw [Nat.zero_add] at h
    exact h
set_option maxHeartbeats 2000000 in
set_option maxRecDepth 100000 in
theorem forms_any (w : World) : Calls Tryz.prog 67 #[] w (FormsPost w) := by
  have hmf := mkFn
  obtain ⟨i0, hi, j0, j1, j2⟩ := info_parts Tryz.info123
  go_enter Tryz.func67, Tryz.ntmps67
  go_wp2_with fail
  refine (integer_any w.heap.size 1073741823 1 _ w rfl (of_acc ent83 acc83 _ _ _) (Nat.le_refl _)).mono ?_
  rintro e w1 ⟨⟨v1, rfl, hf1⟩, hx1⟩
  obtain ⟨F1, c1, G1, d1, rfl, W1, b1, hW1, hb1, hy1, hz1, hB1⟩ := box_step (Ext.refl w) hx1 hf1 (Nat.le_refl _)
  clear hf1
  go_wp2_with fail
  rw [← hW1, ← hb1]
  clear hW1 hb1 hx1
  refine (integer_any w.heap.size 1073741823 2 _ W1 rfl (of_acc ent84 acc84 _ _ _) hz1.size).mono ?_
  rintro e w2 ⟨⟨v2, rfl, hf2⟩, hx2⟩
  obtain ⟨F2, c2, G2, d2, rfl, W2, b2, hW2, hb2, hy2, hz2, hB2⟩ := box_step (hz1) hx2 hf2 (Nat.le_refl _)
  clear hf2
  go_wp2_with fail
  rw [← hW2, ← hb2]
  clear hW2 hb2 hx2
  replace hB1 := hB1.ext hy2
  clear hy2
  refine (integer_any w.heap.size 1073741823 5 _ W2 rfl (of_acc ent85 acc85 _ _ _) hz2.size).mono ?_
  rintro e w3 ⟨⟨v3, rfl, hf3⟩, hx3⟩
  obtain ⟨F3, c3, G3, d3, rfl, W3, b3, hW3, hb3, hy3, hz3, hB3⟩ := box_step (hz2) hx3 hf3 (Nat.le_refl _)
  clear hf3
  go_wp2_with fail
  rw [← hW3, ← hb3]
  clear hW3 hb3 hx3
  replace hB1 := hB1.ext hy3
  replace hB2 := hB2.ext hy3
  clear hy3
  refine (integer_any w.heap.size 1073741823 3 _ W3 rfl (of_acc ent86 acc86 _ _ _) hz3.size).mono ?_
  rintro e w4 ⟨⟨v4, rfl, hf4⟩, hx4⟩
  obtain ⟨F4, c4, G4, d4, rfl, W4, b4, hW4, hb4, hy4, hz4, hB4⟩ := box_step (hz3) hx4 hf4 (Nat.le_refl _)
  clear hf4
  go_wp2_with fail
  rw [← hW4, ← hb4]
  clear hW4 hb4 hx4
  replace hB1 := hB1.ext hy4
  replace hB2 := hB2.ext hy4
  replace hB3 := hB3.ext hy4
  clear hy4
  refine (integer_any w.heap.size 65535 6 _ W4 rfl (of_acc ent87 acc87 _ _ _) hz4.size).mono ?_
  rintro e w5 ⟨⟨v5, rfl, hf5⟩, hx5⟩
  obtain ⟨F5, c5, G5, d5, rfl, W5, b5, hW5, hb5, hy5, hz5, hB5⟩ := box_step (hz4) hx5 hf5 (Nat.le_refl _)
  clear hf5
  go_wp2_with fail
  rw [← hW5, ← hb5]
  clear hW5 hb5 hx5
  replace hB1 := hB1.ext hy5
  replace hB2 := hB2.ext hy5
  replace hB3 := hB3.ext hy5
  replace hB4 := hB4.ext hy5
  clear hy5
  refine (integer_any w.heap.size 65535 7 _ W5 rfl (of_acc ent88 acc88 _ _ _) hz5.size).mono ?_
  rintro e w6 ⟨⟨v6, rfl, hf6⟩, hx6⟩
  obtain ⟨F6, c6, G6, d6, rfl, W6, b6, hW6, hb6, hy6, hz6, hB6⟩ := box_step (hz5) hx6 hf6 (Nat.le_refl _)
  clear hf6
  go_wp2_with fail
  rw [← hW6, ← hb6]
  clear hW6 hb6 hx6
  replace hB1 := hB1.ext hy6
  replace hB2 := hB2.ext hy6
  replace hB3 := hB3.ext hy6
  replace hB4 := hB4.ext hy6
  replace hB5 := hB5.ext hy6
  clear hy6
  refine (text_any' w.heap.size 2000 4 _ W6 rfl (of_acc ent90 acc90 _ _ _) hz6.size).mono ?_
  rintro e w7 ⟨⟨v7, rfl, hf7⟩, hx7⟩
  obtain ⟨F7, c7, G7, d7, rfl, W7, b7, hW7, hb7, hy7, hz7, hB7⟩ := box_step (hz6) hx7 hf7 (Nat.le_refl _)
  clear hf7
  go_wp2_with fail
  rw [← hW7, ← hb7]
  clear hW7 hb7 hx7
  replace hB1 := hB1.ext hy7
  replace hB2 := hB2.ext hy7
  replace hB3 := hB3.ext hy7
  replace hB4 := hB4.ext hy7
  replace hB5 := hB5.ext hy7
  replace hB6 := hB6.ext hy7
  clear hy7
  obtain ⟨l5, r5, q5, h5, f5⟩ := id hB5
  obtain ⟨l6, r6, q6, h6, f6⟩ := id hB6
  refine wp_region_ext (fun i v w' => match i with
      | 0 => v = .agg #[r5, q5] | 1 => v = .agg #[r6, q6] | 2 => FldAt w.heap.size w'.heap.size w' v fTicket | 3 => FldAt w.heap.size w'.heap.size w' v fSecret
      | _ => OwnFlds W7.heap.size w.heap.size w' v [fLocal, fRemote, fTicket, fSecret]) ?_ mixedOrd (by kernel_rfl) (by kernel_rfl) (by kernel_rfl) ?_ ?_
  · intro j u w1 w2 hx h
    match j, h with
    | 0, h => exact h
    | 1, h => exact h
    | 2, h => exact FldAt.ext h hx
    | 3, h => exact FldAt.ext h hx
    | n + 4, h => exact OwnFlds.ext h hx
  · refine ⟨?_, ?_, ?_, ?_, ?_, ?_, trivial⟩
    · intro a w' hs hW
      exact wpOp_val rfl rfl (exec_load123 rfl (ev (hs.old 5 rfl)) (by rw [hW.block b5 (lt_of_block h5)]; exact h5)) ⟨_, rfl, .inr rfl, Ext.refl _⟩
    · intro a w' hs hW
      exact wpOp_val rfl rfl (exec_load123 rfl (ev (hs.old 6 rfl)) (by rw [hW.block b6 (lt_of_block h6)]; exact h6)) ⟨_, rfl, .inr rfl, Ext.refl _⟩
    · intro a w' hs hW
      refine wpOp_call (f := 89) (args := #[.int .i64 200, .func (.func 91) #[] #[]]) rfl rfl (exec_call rfl rfl ent89 (by simp [Act.eval])) ?_
      refine (text_any' w.heap.size 200 8 _ w' rfl (of_acc ent91 acc91 _ _ _) (hz7.trans hW).size).mono ?_
      rintro e w2 ⟨⟨v, rfl, hf⟩, hx⟩
      exact ⟨v, rfl, v, rfl, .inr hf, hx⟩
    · intro a w' hs hW
      refine wpOp_call (f := 89) (args := #[.int .i64 16, .func (.func 92) #[] #[]]) rfl rfl (exec_call rfl rfl ent89 (by simp [Act.eval])) ?_
      refine (text_any' w.heap.size 16 9 _ w' rfl (of_acc ent92 acc92 _ _ _) (hz7.trans hW).size).mono ?_
      rintro e w2 ⟨⟨v, rfl, hf⟩, hx⟩
      exact ⟨v, rfl, v, rfl, .inr hf, hx⟩
    · intro a w' hs hW
      obtain ⟨v18, h18, rfl⟩ := hs.made 0 18 rfl rfl
      obtain ⟨v19, h19, rfl⟩ := hs.made 1 19 rfl rfl
      obtain ⟨v20, h20, g20⟩ := hs.made 2 20 rfl rfl
      obtain ⟨v21, h21, g21⟩ := hs.made 3 21 rfl rfl
      obtain ⟨r7, q7, rfl, g20⟩ := g20
      obtain ⟨r8, q8, rfl, g21⟩ := g21
      refine wpOp_val rfl rfl (exec_buildSlice rfl (by simp [ev h18, ev h19, ev h20, ev h21]) (run_buildFields4 r5 q5 r6 q6 r7 q7 r8 q8 w')) ⟨_, rfl, .inr ?_, Ext.alloc _ _⟩
      have hx := Ext.alloc w' (.cells #[r5, q5, r6, q6, r7, q7, r8, q8] 123)
      refine ⟨[r5, q5, r6, q6, r7, q7, r8, q8], ⟨rfl, .inr ⟨w'.heap.size, 4, _, rfl, hW.size, alloc_new _ _, by decide, by decide, rfl, rfl⟩⟩, ?_⟩
      intro j f hj
      match j, hj with
      | 0, hj => cases hj; exact ⟨r5, q5, rfl, rfl, FldAt.ext (FldAt.ext f5 hW) hx⟩
      | 1, hj => cases hj; exact ⟨r6, q6, rfl, rfl, FldAt.ext (FldAt.ext f6 hW) hx⟩
      | 2, hj => cases hj; exact ⟨r7, q7, rfl, rfl, FldAt.ext ⟨r7, q7, rfl, g20⟩ hx⟩
      | 3, hj => cases hj; exact ⟨r8, q8, rfl, rfl, FldAt.ext ⟨r8, q8, rfl, g21⟩ hx⟩
      | n + 4, hj => simp at hj
    · intro a w' hs hW
      obtain ⟨v22, h22, g22⟩ := hs.made 4 22 rfl rfl
      exact wpOp_val rfl rfl (exec_move (.inr rfl) (ev h22)) ⟨_, rfl, .inr g22, Ext.refl _⟩
  · intro a W8 hs hx8
    obtain ⟨v18, h18, g18⟩ := hs.made 0 18 rfl
    obtain ⟨v19, h19, g19⟩ := hs.made 1 19 rfl
    obtain ⟨v20, h20, g20⟩ := hs.made 2 20 rfl
    obtain ⟨v21, h21, g21⟩ := hs.made 3 21 rfl
    obtain ⟨v22, h22, g22⟩ := hs.made 4 22 rfl
    obtain ⟨v8, h8, g8⟩ := hs.made 5 8 rfl
    have ha := act_putAll [(18, v18), (19, v19), (20, v20), (21, v21), (22, v22), (8, v8)] hs.defers hs.size (by simp [h18, h19, h20, h21, h22, h8]) rfl hs.old
    clear hs h18 h19 h20 h21 h22 h8 g18 g19 g20 g21 g22
    simp only [putAll, Act.put] at ha
    subst ha
    go_wp2
    obtain ⟨W9, hW9⟩ : ∃ W9, W9 = W8.alloc (.cells #[.func (.func 93) #[] #[], .func (.func 94) #[] #[], .func (.func 95) #[] #[], .func (.func 96) #[] #[], .func (.func 97) #[] #[], .func (.func 98) #[] #[]] 111) := ⟨_, rfl⟩
    have hx9 : Ext W8 W9 := by rw [hW9]; exact Ext.alloc _ _
    have hfs : W9.heap[W8.heap.size]? = some (.cells #[.func (.func 93) #[] #[], .func (.func 94) #[] #[], .func (.func 95) #[] #[], .func (.func 96) #[] #[], .func (.func 97) #[] #[], .func (.func 98) #[] #[]] 111) := by rw [hW9]; exact alloc_new _ _
    have g9 := g8.ext hx9
    have hB9 : Below W7.heap.size W7 W9 := hx8.trans hx9
    rw [← hW9]
    clear hW9 g8
    have hlb : W7.heap.size ≤ W8.heap.size := hx8.size
    obtain ⟨bf, hbf⟩ : ∃ bf, bf = W8.heap.size := ⟨_, rfl⟩
    rw [← hbf] at hfs hlb ⊢
    clear hbf hx9 hx8
    go_loopw [8, 25] (fun v i wr => ∃ k : Nat, k ≤ 6 ∧ i = .int .i64 k ∧ OwnFlds W7.heap.size w.heap.size wr v (resumeTo k) ∧ Below W7.heap.size W7 wr ∧ wr.heap[bf]? = some (.cells #[.func (.func 93) #[] #[], .func (.func 94) #[] #[], .func (.func 95) #[] #[], .func (.func 96) #[] #[], .func (.func 97) #[] #[], .func (.func 98) #[] #[]] 111))
      (fun _ i _ => 6 - (intOf i).toNat)
    case atStart => exact ⟨0, by omega, rfl, g9, hB9, hfs⟩
    case round =>
      clear g9 hB9 hfs
      obtain ⟨k, hk, rfl, hown, hbw, hfs⟩ := hrel
      by_cases hlt : k < 6
      · have hcell : wr.cell? ⟨bf, k, none⟩ = some (.func (.func (93 + k)) #[] #[]) := by
          rw [Lib.cell_of_heap hfs]
          match k, hlt with
          | 0, _ => rfl
          | 1, _ => rfl
          | 2, _ => rfl
          | 3, _ => rfl
          | 4, _ => rfl
          | 5, _ => rfl
          | n + 6, h => omega
        go_wp2_with fail
        have hlo : w.heap.size ≤ wr.heap.size := Nat.le_trans hz7.size hbw.size
        have hxa := Ext.alloc wr (.cells #[.func (.func (93 + k)) #[] #[]] 111)
        refine (integer_any w.heap.size 4611686018427387903 (10 + k) _ _ (par_isI hlt) (of_par (accPar hlt).1 (accPar hlt).2 (alloc_new _ _) hlo (by simp)) (by simp; omega)).mono ?_
        rintro e w2 ⟨⟨v2, rfl, hf2⟩, hx2⟩
        have hx2' : Ext wr w2 := hxa.trans hx2
        clear hx2 hxa
        have hown2 := hown.ext hx2'
        clear hown
        have hbw2 : Below W7.heap.size W7 w2 := hbw.trans (Below.mono hx2' hbw.size)
        have hfs2 : w2.heap[bf]? = some (.cells #[.func (.func 93) #[] #[], .func (.func 94) #[] #[], .func (.func 95) #[] #[], .func (.func 96) #[] #[], .func (.func 97) #[] #[], .func (.func 98) #[] #[]] 111) := by
          rw [hx2'.block bf (lt_of_block hfs)]; exact hfs
        clear hfs hcell
        obtain ⟨rv, wv, rfl, hr, hw, H1, e1, H2, e2, rfl, rfl⟩ := hf2
        have hf2 : FldAt w.heap.size w2.heap.size w2 (.agg #[.func (.func H1) #[] e1, .func (.func H2) #[] e2]) ⟨0, 4611686018427387903, 10 + k⟩ := ⟨_, _, rfl, hr, hw, _, _, _, _, rfl, rfl⟩
        clear hr hw
        obtain ⟨xs, hrow, hcl⟩ := hown2
        have hlen : (resumeTo k).length = 4 + k := by simp [resumeTo]; omega
        rw [hlen] at hrow
        have hbld := run_buildFields1 (.func (.func H1) #[] e1) (.func (.func H2) #[] e2)
        go_wp2_with (at_builtin; go_must (refine wpList_append_own _ rfl _ _ 114 rfl W7.heap.size 123 i0 (.agg #[.nilFunc, .nilFunc]) 2 16 und114 hi j0 j1 j2 rfl (by decide) _ _ _ rfl (hrow.alloc _) ⟨w2.heap.size, 0, none⟩ 1 1 [.func (.func H1) #[] e1, .func (.func H2) #[] e2] rfl rfl ?c1 ?c2 ?c3 ?c4 ?c5 ?_))
        case c1 =>
          intro j u hj
          match j, hj with
          | 0, hj => simp at hj; subst hj; simp [Addr.add]
          | 1, hj => simp at hj; subst hj; simp [Addr.add]
          | n + 2, hj => simp at hj
        case c2 => intro u hu; simp at hu; rcases hu with rfl | rfl <;> rfl
        case c3 => unfold maxLen; omega
        case c4 => omega
        case c5 => have := hbw2.size; simp; omega
        intro v3 w3 hrow3 hgrow3 _
        clear hbld
        go_wp2
        refine ⟨⟨k + 1, by omega, by go_num, ?_, ?_, ?_⟩, by simp [intOf]; omega⟩
        · rw [resumeTo_succ]; exact own_append hrow hgrow3 hrow3 hcl hlen hf2
        · exact (hbw2.alloc hbw2.size _).grown hgrow3 (by have := hbw2.size; simp; omega) (fun k hk => (hrow.lt k hk).1)
        · have hs3 : SameIn 0 (bf + 1) w2 w3 := sameIn_append hrow hgrow3
          exact hs3.box (Nat.zero_le _) (Nat.lt_succ_self _) hfs2 (by decide)
      · have hk6 : k = 6 := by omega
        subst hk6
        have hfl : FldsAt w.heap.size wr.heap.size wr u8 (formOf 0).2 := OwnFlds.flds hown hz7.size
        clear hown hfs hlt hk
        go_wp2
        have hlo : w.heap.size ≤ wr.heap.size := Nat.le_trans hz7.size hbw.size
        obtain ⟨rv1, qv1, hbx1, hfx1⟩ := boxes_at (hi := wr.heap.size) hB1 hbw (Nat.le_refl _)
        obtain ⟨rv2, qv2, hbx2, hfx2⟩ := boxes_at (hi := wr.heap.size) hB2 hbw (Nat.le_refl _)
        obtain ⟨rv3, qv3, hbx3, hfx3⟩ := boxes_at (hi := wr.heap.size) hB3 hbw (Nat.le_refl _)
        obtain ⟨rv4, qv4, hbx4, hfx4⟩ := boxes_at (hi := wr.heap.size) hB4 hbw (Nat.le_refl _)
        obtain ⟨rv5, qv5, hbx5, hfx5⟩ := boxes_at (hi := wr.heap.size) hB5 hbw (Nat.le_refl _)
        obtain ⟨rv6, qv6, hbx6, hfx6⟩ := boxes_at (hi := wr.heap.size) hB6 hbw (Nat.le_refl _)
        obtain ⟨rv7, qv7, hbx7, hfx7⟩ := boxes_at (hi := wr.heap.size) hB7 hbw (Nat.le_refl _)
        have hf8 : ∀ w', (Below wr.heap.size wr w' ∧ wr.heap.size ≤ w'.heap.size) → FldsAt w.heap.size wr.heap.size w' u8 (formOf 0).2 := fun w' h => hfl.r (R.of_ext (hi := wr.heap.size) h.1 (Nat.le_refl _))
        clear hB1 hB2 hB3 hB4 hB5 hB6 hB7 h5 h6 f5 f6 l5 l6 hfl
        refine wp_region_lit (lo := w.heap.size) (hi := wr.heap.size) (w0 := wr) (by kernel_rfl) (by kernel_rfl) (by kernel_rfl) rfl (fun h35 => ?_) (by kernel_rfl) ?_
        · refine ⟨?_, ?_, ?_, ?_, ?_, ?_, ?_, ?_, ?_, ?_, ?_, ?_, ?_, ?_, ?_, ?_, ?_, ?_, ?_, ?_, ?_, ?_, ?_, ?_, ?_, ?_, ?_, ?_, ?_, ?_, ?_, ?_, ?_, ?_, ?_, ?_, ?_, ?_, ?_, ?_, ?_, ?_, ?_, ?_, ?_, ?_, ?_, ?_, ?_, ?_, ?_, ?_, ?_, ?_, ?_, ?_, ?_, ?_, ?_, ?_, ?_, ?_, ?_, ?_, ?_, ?_, ?_, ?_, ?_, trivial⟩
          · intro L a w' hs hun hall hT hW
            refine stepVal rfl rfl (exec_makeMap rfl) (Ext.alloc _ _) rfl hW ?_
            exact ⟨w'.heap.size, #[], 0, rfl, hW.2, alloc_new _ _, ents_empty hT (by kernel_rfl) hun (by rw [hs]; decide)⟩
          · intro L a w' hs hun hall hT hW
            exact stepVal rfl rfl (exec_move (.inl rfl) (ev (hT.oldn 8 rfl))) (Ext.refl _) rfl hW (hf8 w' hW)
          · intro L a w' hs hun hall hT hW
            obtain ⟨v0, h0, g0⟩ := hT.get hall 1 36 rfl rfl
            obtain ⟨ad, cap, rfl, g0⟩ := g0
            exact stepVal rfl rfl (exec_buildForm rfl rfl (ev h0)) (Ext.refl _) rfl hW ⟨_, rfl, ad, cap, rfl, g0⟩
          · intro L a w' hs hun hall hT hW
            exact stepIns (k := 0) (jb := 2) rfl rfl rfl rfl (by decide) rfl hT hs hun hW _ _ rfl rfl (listed_of hall (j := 0) rfl) rfl rfl (listed_of hall (j := 2) rfl) rfl h35 (by kernel_rfl)
          · intro L a w' hs hun hall hT hW
            exact stepVal rfl rfl (exec_load123 rfl (ev (hT.oldn 5 rfl)) (hbx5 w' hW.1)) (Ext.refl _) rfl hW (hfx5 w' hW.1)
          · intro L a w' hs hun hall hT hW
            exact stepVal rfl rfl (exec_load123 rfl (ev (hT.oldn 6 rfl)) (hbx6 w' hW.1)) (Ext.refl _) rfl hW (hfx6 w' hW.1)
          · intro L a w' hs hun hall hT hW
            obtain ⟨v0, h0, g0⟩ := hT.get hall 4 38 rfl rfl
            obtain ⟨r0, q0, rfl, g0⟩ := g0
            obtain ⟨v1, h1, g1⟩ := hT.get hall 5 39 rfl rfl
            obtain ⟨r1, q1, rfl, g1⟩ := g1
            exact stepVal rfl rfl (exec_buildSlice rfl (by simp [ev h0, ev h1]) (run_buildFields2 r0 q0 r1 q1 w')) (Ext.alloc _ _) rfl hW (flds_made2 (Nat.le_trans hlo hW.2) ⟨r0, q0, rfl, g0⟩ ⟨r1, q1, rfl, g1⟩)
          · intro L a w' hs hun hall hT hW
            obtain ⟨v0, h0, g0⟩ := hT.get hall 6 40 rfl rfl
            obtain ⟨ad, cap, rfl, g0⟩ := g0
            exact stepVal rfl rfl (exec_buildForm rfl rfl (ev h0)) (Ext.refl _) rfl hW ⟨_, rfl, ad, cap, rfl, g0⟩
          · intro L a w' hs hun hall hT hW
            exact stepIns (k := 1) (jb := 7) rfl rfl rfl rfl (by decide) rfl hT hs hun hW _ _ rfl rfl (listed_of hall (j := 0) rfl) rfl rfl (listed_of hall (j := 7) rfl) rfl h35 (by kernel_rfl)
          · intro L a w' hs hun hall hT hW
            exact stepVal rfl rfl (exec_buildForm rfl rfl rfl) (Ext.refl _) rfl hW ⟨_, rfl, none, 0, rfl, fun h => absurd rfl h⟩
          · intro L a w' hs hun hall hT hW
            exact stepIns (k := 2) (jb := 9) rfl rfl rfl rfl (by decide) rfl hT hs hun hW _ _ rfl rfl (listed_of hall (j := 0) rfl) rfl rfl (listed_of hall (j := 9) rfl) rfl h35 (by kernel_rfl)
          · intro L a w' hs hun hall hT hW
            exact stepVal rfl rfl (exec_load123 rfl (ev (hT.oldn 1 rfl)) (hbx1 w' hW.1)) (Ext.refl _) rfl hW (hfx1 w' hW.1)
          · intro L a w' hs hun hall hT hW
            exact stepCall rfl rfl (exec_call rfl rfl ent100 (by simp)) rfl hW (direction_at _ _ _)
          · intro L a w' hs hun hall hT hW
            obtain ⟨v0, h0, g0⟩ := hT.get hall 11 43 rfl rfl
            obtain ⟨r0, q0, rfl, g0⟩ := g0
            obtain ⟨v1, h1, g1⟩ := hT.get hall 12 44 rfl rfl
            obtain ⟨r1, q1, rfl, g1⟩ := g1
            exact stepVal rfl rfl (exec_buildSlice rfl (by simp [ev h0, ev h1]) (run_buildFields2 r0 q0 r1 q1 w')) (Ext.alloc _ _) rfl hW (flds_made2 (Nat.le_trans hlo hW.2) ⟨r0, q0, rfl, g0⟩ ⟨r1, q1, rfl, g1⟩)
          · intro L a w' hs hun hall hT hW
            obtain ⟨v0, h0, g0⟩ := hT.get hall 13 45 rfl rfl
            obtain ⟨ad, cap, rfl, g0⟩ := g0
            exact stepVal rfl rfl (exec_buildForm rfl rfl (ev h0)) (Ext.refl _) rfl hW ⟨_, rfl, ad, cap, rfl, g0⟩
          · intro L a w' hs hun hall hT hW
            exact stepIns (k := 3) (jb := 14) rfl rfl rfl rfl (by decide) rfl hT hs hun hW _ _ rfl rfl (listed_of hall (j := 0) rfl) rfl rfl (listed_of hall (j := 14) rfl) rfl h35 (by kernel_rfl)
          · intro L a w' hs hun hall hT hW
            exact stepVal rfl rfl (exec_load123 rfl (ev (hT.oldn 1 rfl)) (hbx1 w' hW.1)) (Ext.refl _) rfl hW (hfx1 w' hW.1)
          · intro L a w' hs hun hall hT hW
            obtain ⟨v0, h0, g0⟩ := hT.get hall 16 47 rfl rfl
            obtain ⟨r0, q0, rfl, g0⟩ := g0
            exact stepVal rfl rfl (exec_buildSlice rfl (by simp [ev h0]) (run_buildFields1 r0 q0 w')) (Ext.alloc _ _) rfl hW (flds_made1 (Nat.le_trans hlo hW.2) ⟨r0, q0, rfl, g0⟩)
          · intro L a w' hs hun hall hT hW
            obtain ⟨v0, h0, g0⟩ := hT.get hall 17 48 rfl rfl
            obtain ⟨ad, cap, rfl, g0⟩ := g0
            exact stepVal rfl rfl (exec_buildForm rfl rfl (ev h0)) (Ext.refl _) rfl hW ⟨_, rfl, ad, cap, rfl, g0⟩
          · intro L a w' hs hun hall hT hW
            exact stepIns (k := 4) (jb := 18) rfl rfl rfl rfl (by decide) rfl hT hs hun hW _ _ rfl rfl (listed_of hall (j := 0) rfl) rfl rfl (listed_of hall (j := 18) rfl) rfl h35 (by kernel_rfl)
          · intro L a w' hs hun hall hT hW
            exact stepVal rfl rfl (exec_load123 rfl (ev (hT.oldn 1 rfl)) (hbx1 w' hW.1)) (Ext.refl _) rfl hW (hfx1 w' hW.1)
          · intro L a w' hs hun hall hT hW
            exact stepVal rfl rfl (exec_load123 rfl (ev (hT.oldn 2 rfl)) (hbx2 w' hW.1)) (Ext.refl _) rfl hW (hfx2 w' hW.1)
          · intro L a w' hs hun hall hT hW
            exact stepVal rfl rfl (exec_load123 rfl (ev (hT.oldn 7 rfl)) (hbx7 w' hW.1)) (Ext.refl _) rfl hW (hfx7 w' hW.1)
          · intro L a w' hs hun hall hT hW
            obtain ⟨v0, h0, g0⟩ := hT.get hall 20 50 rfl rfl
            obtain ⟨r0, q0, rfl, g0⟩ := g0
            obtain ⟨v1, h1, g1⟩ := hT.get hall 21 51 rfl rfl
            obtain ⟨r1, q1, rfl, g1⟩ := g1
            obtain ⟨v2, h2, g2⟩ := hT.get hall 22 52 rfl rfl
            obtain ⟨r2, q2, rfl, g2⟩ := g2
            exact stepVal rfl rfl (exec_buildSlice rfl (by simp [ev h0, ev h1, ev h2]) (run_buildFields3 r0 q0 r1 q1 r2 q2 w')) (Ext.alloc _ _) rfl hW (flds_made3 (Nat.le_trans hlo hW.2) ⟨r0, q0, rfl, g0⟩ ⟨r1, q1, rfl, g1⟩ ⟨r2, q2, rfl, g2⟩)
          · intro L a w' hs hun hall hT hW
            obtain ⟨v0, h0, g0⟩ := hT.get hall 23 53 rfl rfl
            obtain ⟨ad, cap, rfl, g0⟩ := g0
            exact stepVal rfl rfl (exec_buildForm rfl rfl (ev h0)) (Ext.refl _) rfl hW ⟨_, rfl, ad, cap, rfl, g0⟩
          · intro L a w' hs hun hall hT hW
            exact stepIns (k := 5) (jb := 24) rfl rfl rfl rfl (by decide) rfl hT hs hun hW _ _ rfl rfl (listed_of hall (j := 0) rfl) rfl rfl (listed_of hall (j := 24) rfl) rfl h35 (by kernel_rfl)
          · intro L a w' hs hun hall hT hW
            exact stepVal rfl rfl (exec_load123 rfl (ev (hT.oldn 1 rfl)) (hbx1 w' hW.1)) (Ext.refl _) rfl hW (hfx1 w' hW.1)
          · intro L a w' hs hun hall hT hW
            exact stepVal rfl rfl (exec_load123 rfl (ev (hT.oldn 2 rfl)) (hbx2 w' hW.1)) (Ext.refl _) rfl hW (hfx2 w' hW.1)
          · intro L a w' hs hun hall hT hW
            obtain ⟨v0, h0, g0⟩ := hT.get hall 26 55 rfl rfl
            obtain ⟨r0, q0, rfl, g0⟩ := g0
            obtain ⟨v1, h1, g1⟩ := hT.get hall 27 56 rfl rfl
            obtain ⟨r1, q1, rfl, g1⟩ := g1
            exact stepVal rfl rfl (exec_buildSlice rfl (by simp [ev h0, ev h1]) (run_buildFields2 r0 q0 r1 q1 w')) (Ext.alloc _ _) rfl hW (flds_made2 (Nat.le_trans hlo hW.2) ⟨r0, q0, rfl, g0⟩ ⟨r1, q1, rfl, g1⟩)
          · intro L a w' hs hun hall hT hW
            obtain ⟨v0, h0, g0⟩ := hT.get hall 28 57 rfl rfl
            obtain ⟨ad, cap, rfl, g0⟩ := g0
            exact stepVal rfl rfl (exec_buildForm rfl rfl (ev h0)) (Ext.refl _) rfl hW ⟨_, rfl, ad, cap, rfl, g0⟩
          · intro L a w' hs hun hall hT hW
            exact stepIns (k := 6) (jb := 29) rfl rfl rfl rfl (by decide) rfl hT hs hun hW _ _ rfl rfl (listed_of hall (j := 0) rfl) rfl rfl (listed_of hall (j := 29) rfl) rfl h35 (by kernel_rfl)
          · intro L a w' hs hun hall hT hW
            exact stepVal rfl rfl (exec_load123 rfl (ev (hT.oldn 1 rfl)) (hbx1 w' hW.1)) (Ext.refl _) rfl hW (hfx1 w' hW.1)
          · intro L a w' hs hun hall hT hW
            exact stepVal rfl rfl (exec_load123 rfl (ev (hT.oldn 2 rfl)) (hbx2 w' hW.1)) (Ext.refl _) rfl hW (hfx2 w' hW.1)
          · intro L a w' hs hun hall hT hW
            exact stepVal rfl rfl (exec_load123 rfl (ev (hT.oldn 3 rfl)) (hbx3 w' hW.1)) (Ext.refl _) rfl hW (hfx3 w' hW.1)
          · intro L a w' hs hun hall hT hW
            obtain ⟨v0, h0, g0⟩ := hT.get hall 31 59 rfl rfl
            obtain ⟨r0, q0, rfl, g0⟩ := g0
            obtain ⟨v1, h1, g1⟩ := hT.get hall 32 60 rfl rfl
            obtain ⟨r1, q1, rfl, g1⟩ := g1
            obtain ⟨v2, h2, g2⟩ := hT.get hall 33 61 rfl rfl
            obtain ⟨r2, q2, rfl, g2⟩ := g2
            exact stepVal rfl rfl (exec_buildSlice rfl (by simp [ev h0, ev h1, ev h2]) (run_buildFields3 r0 q0 r1 q1 r2 q2 w')) (Ext.alloc _ _) rfl hW (flds_made3 (Nat.le_trans hlo hW.2) ⟨r0, q0, rfl, g0⟩ ⟨r1, q1, rfl, g1⟩ ⟨r2, q2, rfl, g2⟩)
          · intro L a w' hs hun hall hT hW
            obtain ⟨v0, h0, g0⟩ := hT.get hall 34 62 rfl rfl
            obtain ⟨ad, cap, rfl, g0⟩ := g0
            exact stepVal rfl rfl (exec_buildForm rfl rfl (ev h0)) (Ext.refl _) rfl hW ⟨_, rfl, ad, cap, rfl, g0⟩
          · intro L a w' hs hun hall hT hW
            exact stepIns (k := 7) (jb := 35) rfl rfl rfl rfl (by decide) rfl hT hs hun hW _ _ rfl rfl (listed_of hall (j := 0) rfl) rfl rfl (listed_of hall (j := 35) rfl) rfl h35 (by kernel_rfl)
          · intro L a w' hs hun hall hT hW
            exact stepVal rfl rfl (exec_load123 rfl (ev (hT.oldn 1 rfl)) (hbx1 w' hW.1)) (Ext.refl _) rfl hW (hfx1 w' hW.1)
          · intro L a w' hs hun hall hT hW
            exact stepVal rfl rfl (exec_load123 rfl (ev (hT.oldn 2 rfl)) (hbx2 w' hW.1)) (Ext.refl _) rfl hW (hfx2 w' hW.1)
          · intro L a w' hs hun hall hT hW
            exact stepVal rfl rfl (exec_load123 rfl (ev (hT.oldn 3 rfl)) (hbx3 w' hW.1)) (Ext.refl _) rfl hW (hfx3 w' hW.1)
          · intro L a w' hs hun hall hT hW
            obtain ⟨v0, h0, g0⟩ := hT.get hall 37 64 rfl rfl
            obtain ⟨r0, q0, rfl, g0⟩ := g0
            obtain ⟨v1, h1, g1⟩ := hT.get hall 38 65 rfl rfl
            obtain ⟨r1, q1, rfl, g1⟩ := g1
            obtain ⟨v2, h2, g2⟩ := hT.get hall 39 66 rfl rfl
            obtain ⟨r2, q2, rfl, g2⟩ := g2
            exact stepVal rfl rfl (exec_buildSlice rfl (by simp [ev h0, ev h1, ev h2]) (run_buildFields3 r0 q0 r1 q1 r2 q2 w')) (Ext.alloc _ _) rfl hW (flds_made3 (Nat.le_trans hlo hW.2) ⟨r0, q0, rfl, g0⟩ ⟨r1, q1, rfl, g1⟩ ⟨r2, q2, rfl, g2⟩)
          · intro L a w' hs hun hall hT hW
            obtain ⟨v0, h0, g0⟩ := hT.get hall 40 67 rfl rfl
            obtain ⟨ad, cap, rfl, g0⟩ := g0
            exact stepVal rfl rfl (exec_buildForm rfl rfl (ev h0)) (Ext.refl _) rfl hW ⟨_, rfl, ad, cap, rfl, g0⟩
          · intro L a w' hs hun hall hT hW
            exact stepIns (k := 8) (jb := 41) rfl rfl rfl rfl (by decide) rfl hT hs hun hW _ _ rfl rfl (listed_of hall (j := 0) rfl) rfl rfl (listed_of hall (j := 41) rfl) rfl h35 (by kernel_rfl)
          · intro L a w' hs hun hall hT hW
            exact stepVal rfl rfl (exec_load123 rfl (ev (hT.oldn 1 rfl)) (hbx1 w' hW.1)) (Ext.refl _) rfl hW (hfx1 w' hW.1)
          · intro L a w' hs hun hall hT hW
            exact stepVal rfl rfl (exec_load123 rfl (ev (hT.oldn 2 rfl)) (hbx2 w' hW.1)) (Ext.refl _) rfl hW (hfx2 w' hW.1)
          · intro L a w' hs hun hall hT hW
            exact stepVal rfl rfl (exec_load123 rfl (ev (hT.oldn 4 rfl)) (hbx4 w' hW.1)) (Ext.refl _) rfl hW (hfx4 w' hW.1)
          · intro L a w' hs hun hall hT hW
            obtain ⟨v0, h0, g0⟩ := hT.get hall 43 69 rfl rfl
            obtain ⟨r0, q0, rfl, g0⟩ := g0
            obtain ⟨v1, h1, g1⟩ := hT.get hall 44 70 rfl rfl
            obtain ⟨r1, q1, rfl, g1⟩ := g1
            obtain ⟨v2, h2, g2⟩ := hT.get hall 45 71 rfl rfl
            obtain ⟨r2, q2, rfl, g2⟩ := g2
            exact stepVal rfl rfl (exec_buildSlice rfl (by simp [ev h0, ev h1, ev h2]) (run_buildFields3 r0 q0 r1 q1 r2 q2 w')) (Ext.alloc _ _) rfl hW (flds_made3 (Nat.le_trans hlo hW.2) ⟨r0, q0, rfl, g0⟩ ⟨r1, q1, rfl, g1⟩ ⟨r2, q2, rfl, g2⟩)
          · intro L a w' hs hun hall hT hW
            obtain ⟨v0, h0, g0⟩ := hT.get hall 46 72 rfl rfl
            obtain ⟨ad, cap, rfl, g0⟩ := g0
            exact stepVal rfl rfl (exec_buildForm rfl rfl (ev h0)) (Ext.refl _) rfl hW ⟨_, rfl, ad, cap, rfl, g0⟩
          · intro L a w' hs hun hall hT hW
            exact stepIns (k := 9) (jb := 47) rfl rfl rfl rfl (by decide) rfl hT hs hun hW _ _ rfl rfl (listed_of hall (j := 0) rfl) rfl rfl (listed_of hall (j := 47) rfl) rfl h35 (by kernel_rfl)
          · intro L a w' hs hun hall hT hW
            exact stepVal rfl rfl (exec_load123 rfl (ev (hT.oldn 1 rfl)) (hbx1 w' hW.1)) (Ext.refl _) rfl hW (hfx1 w' hW.1)
          · intro L a w' hs hun hall hT hW
            exact stepVal rfl rfl (exec_load123 rfl (ev (hT.oldn 3 rfl)) (hbx3 w' hW.1)) (Ext.refl _) rfl hW (hfx3 w' hW.1)
          · intro L a w' hs hun hall hT hW
            obtain ⟨v0, h0, g0⟩ := hT.get hall 49 74 rfl rfl
            obtain ⟨r0, q0, rfl, g0⟩ := g0
            obtain ⟨v1, h1, g1⟩ := hT.get hall 50 75 rfl rfl
            obtain ⟨r1, q1, rfl, g1⟩ := g1
            exact stepVal rfl rfl (exec_buildSlice rfl (by simp [ev h0, ev h1]) (run_buildFields2 r0 q0 r1 q1 w')) (Ext.alloc _ _) rfl hW (flds_made2 (Nat.le_trans hlo hW.2) ⟨r0, q0, rfl, g0⟩ ⟨r1, q1, rfl, g1⟩)
          · intro L a w' hs hun hall hT hW
            obtain ⟨v0, h0, g0⟩ := hT.get hall 51 76 rfl rfl
            obtain ⟨ad, cap, rfl, g0⟩ := g0
            exact stepVal rfl rfl (exec_buildForm rfl rfl (ev h0)) (Ext.refl _) rfl hW ⟨_, rfl, ad, cap, rfl, g0⟩
          · intro L a w' hs hun hall hT hW
            exact stepIns (k := 10) (jb := 52) rfl rfl rfl rfl (by decide) rfl hT hs hun hW _ _ rfl rfl (listed_of hall (j := 0) rfl) rfl rfl (listed_of hall (j := 52) rfl) rfl h35 (by kernel_rfl)
          · intro L a w' hs hun hall hT hW
            exact stepVal rfl rfl (exec_load123 rfl (ev (hT.oldn 1 rfl)) (hbx1 w' hW.1)) (Ext.refl _) rfl hW (hfx1 w' hW.1)
          · intro L a w' hs hun hall hT hW
            obtain ⟨v0, h0, g0⟩ := hT.get hall 54 78 rfl rfl
            obtain ⟨r0, q0, rfl, g0⟩ := g0
            exact stepVal rfl rfl (exec_buildSlice rfl (by simp [ev h0]) (run_buildFields1 r0 q0 w')) (Ext.alloc _ _) rfl hW (flds_made1 (Nat.le_trans hlo hW.2) ⟨r0, q0, rfl, g0⟩)
          · intro L a w' hs hun hall hT hW
            obtain ⟨v0, h0, g0⟩ := hT.get hall 55 79 rfl rfl
            obtain ⟨ad, cap, rfl, g0⟩ := g0
            exact stepVal rfl rfl (exec_buildForm rfl rfl (ev h0)) (Ext.refl _) rfl hW ⟨_, rfl, ad, cap, rfl, g0⟩
          · intro L a w' hs hun hall hT hW
            exact stepIns (k := 11) (jb := 56) rfl rfl rfl rfl (by decide) rfl hT hs hun hW _ _ rfl rfl (listed_of hall (j := 0) rfl) rfl rfl (listed_of hall (j := 56) rfl) rfl h35 (by kernel_rfl)
          · intro L a w' hs hun hall hT hW
            exact stepVal rfl rfl (exec_load123 rfl (ev (hT.oldn 1 rfl)) (hbx1 w' hW.1)) (Ext.refl _) rfl hW (hfx1 w' hW.1)
          · intro L a w' hs hun hall hT hW
            exact stepVal rfl rfl (exec_load123 rfl (ev (hT.oldn 5 rfl)) (hbx5 w' hW.1)) (Ext.refl _) rfl hW (hfx5 w' hW.1)
          · intro L a w' hs hun hall hT hW
            obtain ⟨v0, h0, g0⟩ := hT.get hall 58 81 rfl rfl
            obtain ⟨r0, q0, rfl, g0⟩ := g0
            obtain ⟨v1, h1, g1⟩ := hT.get hall 59 82 rfl rfl
            obtain ⟨r1, q1, rfl, g1⟩ := g1
            exact stepVal rfl rfl (exec_buildSlice rfl (by simp [ev h0, ev h1]) (run_buildFields2 r0 q0 r1 q1 w')) (Ext.alloc _ _) rfl hW (flds_made2 (Nat.le_trans hlo hW.2) ⟨r0, q0, rfl, g0⟩ ⟨r1, q1, rfl, g1⟩)
          · intro L a w' hs hun hall hT hW
            obtain ⟨v0, h0, g0⟩ := hT.get hall 60 83 rfl rfl
            obtain ⟨ad, cap, rfl, g0⟩ := g0
            exact stepVal rfl rfl (exec_buildForm rfl rfl (ev h0)) (Ext.refl _) rfl hW ⟨_, rfl, ad, cap, rfl, g0⟩
          · intro L a w' hs hun hall hT hW
            exact stepIns (k := 12) (jb := 61) rfl rfl rfl rfl (by decide) rfl hT hs hun hW _ _ rfl rfl (listed_of hall (j := 0) rfl) rfl rfl (listed_of hall (j := 61) rfl) rfl h35 (by kernel_rfl)
          · intro L a w' hs hun hall hT hW
            exact stepVal rfl rfl (exec_load123 rfl (ev (hT.oldn 1 rfl)) (hbx1 w' hW.1)) (Ext.refl _) rfl hW (hfx1 w' hW.1)
          · intro L a w' hs hun hall hT hW
            obtain ⟨v0, h0, g0⟩ := hT.get hall 63 85 rfl rfl
            obtain ⟨r0, q0, rfl, g0⟩ := g0
            exact stepVal rfl rfl (exec_buildSlice rfl (by simp [ev h0]) (run_buildFields1 r0 q0 w')) (Ext.alloc _ _) rfl hW (flds_made1 (Nat.le_trans hlo hW.2) ⟨r0, q0, rfl, g0⟩)
          · intro L a w' hs hun hall hT hW
            obtain ⟨v0, h0, g0⟩ := hT.get hall 64 86 rfl rfl
            obtain ⟨ad, cap, rfl, g0⟩ := g0
            exact stepVal rfl rfl (exec_buildForm rfl rfl (ev h0)) (Ext.refl _) rfl hW ⟨_, rfl, ad, cap, rfl, g0⟩
          · intro L a w' hs hun hall hT hW
            exact stepIns (k := 13) (jb := 65) rfl rfl rfl rfl (by decide) rfl hT hs hun hW _ _ rfl rfl (listed_of hall (j := 0) rfl) rfl rfl (listed_of hall (j := 65) rfl) rfl h35 (by kernel_rfl)
          · intro L a w' hs hun hall hT hW
            obtain ⟨v0, h0, g0⟩ := hT.get hall 0 35 rfl rfl
            exact stepVal rfl rfl (exec_move (.inl rfl) (ev h0)) (Ext.refl _) rfl hW g0
          · intro L a w' hs hun hall hT hW
            obtain ⟨v0, h0, g0⟩ := hT.get hall 67 88 rfl rfl
            exact stepVal rfl rfl (exec_move (.inr rfl) (ev h0)) (Ext.refl _) rfl hW g0
        · intro L a w' hL hT hW
          obtain ⟨v0, h0, g0⟩ := hT.good 68 _ 0 rfl (hL 68 (by decide)) rfl
          obtain ⟨bm, es, clk, rfl, hbm, hm, he⟩ : MapOk w.heap.size wr.heap.size L v0 w' := g0
          have hd : a.defers = [] := hT.defers
          have hx : Ext w w' := hz7.trans (hbw.trans (Below.mono hW.1 hbw.size))
          have hfin := formsAt_of hlo hbm hm he fun k hk => hL _ (by have := insIdx_lt hk; exact this)
          clear hT hL hf8 hmf
          go_wp2
          exact bodyPost_ret (v := .map (some bm)) (by simp [results, Tryz.results67, go_sem, h0]) hd ⟨bm, rfl, hx, hfin⟩
end Go.Proofs.YtikmoledbiepoaaGreatDoor
/- Equality of sessions and calls. -/
namespace Go.Proofs.YtikmoledbiepoaaGreatDoor
open Go.RowKit
set_option maxRecDepth 100000 in
theorem eq26 (t s t' s' : List UInt8) (a b c d e f a' b' c' d' e' f' : Int) (w : World) :
    (binOp .eql 26 (.agg #[vS t, vS s, vI a, vI b, vI c, vI d, vI e, vI f]) (.agg #[vS t', vS s', vI a', vI b', vI c', vI d', vI e', vI f'])).run Tryz.prog w =
      .ok (.bool (t == t' && (s == s' && (a == a' && (b == b' && (c == c' && (d == d' && (e == e' && f == f')))))))) w := by
  unfold vS vI
  rw [run_eql_struct]
  simp [go_sem]
  repeat' split
  all_goals simp_all
set_option maxRecDepth 100000 in
theorem neq26 (t s t' s' : List UInt8) (a b c d e f a' b' c' d' e' f' : Int) (w : World) :
    (binOp .neq 26 (.agg #[vS t, vS s, vI a, vI b, vI c, vI d, vI e, vI f]) (.agg #[vS t', vS s', vI a', vI b', vI c', vI d', vI e', vI f'])).run Tryz.prog w =
      .ok (.bool !(t == t' && (s == s' && (a == a' && (b == b' && (c == c' && (d == d' && (e == e' && f == f')))))))) w := by
  unfold vS vI
  rw [run_neq_struct]
  simp [go_sem]
  repeat' split
  all_goals simp_all
theorem ite_eqI {a b : Int} {R : Result Value} {B : Bool} {w : World} (h : R = .ok (.bool B) w) : (if a = b then R else .ok (.bool false) w) = .ok (.bool (a == b && B)) w := by
  by_cases e : a = b
  · simp [e, h]
  · have : (a == b) = false := beq_eq_false_iff_ne.2 e
    rw [if_neg e, this]; simp
theorem ite_eqS {a b : List UInt8} {R : Result Value} {B : Bool} {w : World} (h : R = .ok (.bool B) w) : (if a = b then R else .ok (.bool false) w) = .ok (.bool (a == b && B)) w := by
  by_cases e : a = b
  · simp [e, h]
  · have : (a == b) = false := beq_eq_false_iff_ne.2 e
    rw [if_neg e, this]; simp
theorem ite_eqL {a b : Int} {w : World} : (if a = b then Result.ok (.bool true) w else .ok (.bool false) w) = (.ok (.bool (a == b)) w : Result Value) := by
  by_cases e : a = b
  · simp [e]
  · have : (a == b) = false := beq_eq_false_iff_ne.2 e
    rw [if_neg e, this]
set_option maxRecDepth 100000 in
set_option maxHeartbeats 1000000 in
theorem eq28 (x y : Cal) (w : World) : (binOp .eql 28 (.agg x.cells.toArray) (.agg y.cells.toArray)).run Tryz.prog w = .ok (.bool (x.eqb y)) w := by
  unfold Cal.cells Cal.eqb vS vI
  rw [run_eql_struct]
  simp [go_sem]
  exact ite_eqI (ite_eqI (ite_eqI (ite_eqI (ite_eqS (ite_eqI (ite_eqI (ite_eqI (ite_eqS (ite_eqS (ite_eqI (ite_eqI (ite_eqI (ite_eqI (ite_eqI ite_eqL))))))))))))))
def Cal.sess (c : Cal) : List Value := [vS c.tick, vS c.sec, vI c.p0, vI c.p1, vI c.p2, vI c.p3, vI c.p4, vI c.p5]
theorem eqSess (c : Cal) (w : World) :
    (binOp .eql 26 (.agg #[.string ⟨c.tick.toArray⟩, .string ⟨c.sec.toArray⟩, .int .i64 c.p0, .int .i64 c.p1, .int .i64 c.p2, .int .i64 c.p3, .int .i64 c.p4, .int .i64 c.p5])
      (.agg #[.string ⟨#[]⟩, .string ⟨#[]⟩, .int .i64 0, .int .i64 0, .int .i64 0, .int .i64 0, .int .i64 0, .int .i64 0])).run Tryz.prog w = .ok (.bool c.noSess) w := eq26 c.tick c.sec [] [] c.p0 c.p1 c.p2 c.p3 c.p4 c.p5 0 0 0 0 0 0 w
theorem neqSess (c : Cal) (w : World) :
    (binOp .neq 26 (.agg #[.string ⟨c.tick.toArray⟩, .string ⟨c.sec.toArray⟩, .int .i64 c.p0, .int .i64 c.p1, .int .i64 c.p2, .int .i64 c.p3, .int .i64 c.p4, .int .i64 c.p5])
      (.agg #[.string ⟨#[]⟩, .string ⟨#[]⟩, .int .i64 0, .int .i64 0, .int .i64 0, .int .i64 0, .int .i64 0, .int .i64 0])).run Tryz.prog w = .ok (.bool !c.noSess) w := neq26 c.tick c.sec [] [] c.p0 c.p1 c.p2 c.p3 c.p4 c.p5 0 0 0 0 0 0 w
end Go.Proofs.YtikmoledbiepoaaGreatDoor

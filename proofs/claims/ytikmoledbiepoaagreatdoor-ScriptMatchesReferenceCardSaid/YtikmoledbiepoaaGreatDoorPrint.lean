/- script.Valid and script.Print. -/
import Derived.Test.YtikmoledbiepoaaGreatDoorLine
namespace Go.Proofs.YtikmoledbiepoaaGreatDoor
open Go.RowKit
set_option maxRecDepth 100000 in
set_option maxHeartbeats 1000000 in
theorem Valid_any (a : Ac) (fv : Value) (w : World) (hg : Glob w) (hfit : AcFit a) (hA : FatesAt w fv a.fates) :
    Calls Tryz.prog 17 #[.agg (a.cells fv).toArray] w fun e w' => e = .returned (.bool a.line.2) ∧ Ext w w' := by
  have hxa := Ext.alloc w (.cells (a.cells fv).toArray 33)
  have hL := line_any a fv _ (hg.ext hxa) hfit (hA.ext hxa)
  have hb := alloc_new w (.cells (a.cells fv).toArray 33)
  obtain ⟨s1, n1, rfl, hA'⟩ := id hA
  rw [Ac.cells_eq] at hL hb hxa ⊢
  clear hA hA'
  go_enter Tryz.func17, Tryz.ntmps17
  go_wp2_with (refine wpList_load33 (by rfl) _ rfl w.heap.size rfl _ hb rfl ?_)
  refine hL.mono ?_
  rintro e w3 ⟨rfl, hx3⟩
  go_wp2_with fail
  go_ret
  exact ⟨rfl, hxa.trans hx3⟩
/-- A slice of actions. -/
def ActsAt (w : World) (v : Value) (l : List Ac) : Prop :=
  ∃ a cap, v = .slice a l.length cap ∧ l.length ≤ cap ∧ (l ≠ [] → ∃ b o, a = some ⟨b, o, none⟩ ∧ ∀ (j : Nat) (x : Ac), l[j]? = some x → ∃ s n c, w.rangeAt b (o + j * 23) (x.cells (.slice s n c)) ∧ FatesAt w (.slice s n c) x.fates)
theorem ActsAt.nil (w : World) (c : Nat) : ActsAt w (.slice none 0 c) [] := ⟨none, c, rfl, Nat.zero_le _, fun h => absurd rfl h⟩
theorem rangeAt_ext {w w' : World} {b o : Nat} {cs : List Value} (h : w.rangeAt b o cs) (hx : Ext w w') : w'.rangeAt b o cs := fun j v hv => by
  have := h j v hv
  rw [hx.cell (p := ⟨b, o + j, none⟩) (cell_lt this)]; exact this
theorem ActsAt.ext {w w' : World} {v : Value} {l : List Ac} (h : ActsAt w v l) (hx : Ext w w') : ActsAt w' v l := by
  obtain ⟨a, cap, rfl, h1, h2⟩ := h
  refine ⟨a, cap, rfl, h1, fun hn => ?_⟩
  obtain ⟨b, o, rfl, hc⟩ := h2 hn
  refine ⟨b, o, rfl, fun j x hj => ?_⟩
  obtain ⟨s, n, c, hr, hf⟩ := hc j x hj
  exact ⟨s, n, c, rangeAt_ext hr hx, hf.ext hx⟩
/-- The lines of a script, each with its end. -/
def linesOf (l : List Ac) : List UInt8 := l.flatMap fun a => a.line.1 ++ [10]
/-- script.Print. -/
def printL (l : List Ac) : List UInt8 × Int := if l.length ≤ 100 ∧ (l.all fun a => a.line.2) = true then (linesOf l, 0) else ([], 290)
theorem call_len2 {c : Cal} (hf : CalFit c) : c.line.1.length ≤ 43000000000 := by
  unfold Cal.line
  split
  · show (Lib.join _ [32]).length ≤ _
    rw [Lib.join_cons, List.length_append]
    have h1 := (form_len c.key.toNat).2
    have h2 := joinTail_len _ _ (words_fit hf c.key.toNat).2
    have h3 := (form_len c.key.toNat).1
    rw [List.length_map] at h2
    have h4 := Nat.mul_le_mul_right (4294967296 + 1) h3
    omega
  · simp
/-- No line is too long. -/
theorem line_le {a : Ac} (h : AcFit a) : a.line.1.length ≤ 200000000000 := by
  unfold Ac.line
  split
  · simp
  · unfold Ac.text
    have l0 := call_len2 h.call
    have l1 := Lib.itoa_length_le a.n h.n.1 h.n.2
    have l2 := Lib.itoa_length_le a.fr h.fr.1 h.fr.2
    have l3 := Lib.itoa_length_le a.tgt h.tgt.1 h.tgt.2
    have l4 := hexB_length a.dat
    have l5 := h.dat
    have l6 := fate_len a.fates h.fates
    have l7 := h.few
    have l8 : (sideW a.side).length ≤ 7 := by unfold sideW; split <;> decide
    have l9 : wCall.length = 5 := rfl
    have l10 : wTick.length = 5 := rfl
    have l11 : wFates.length = 5 := rfl
    have l12 : wInject.length = 7 := rfl
    simp only
    split
    · simp only [List.length_append]; omega
    · split
      · simp only [List.length_append]; omega
      · split
        · simp only [List.length_append]; omega
        · split
          · simp only [List.length_append, List.length_cons, List.length_nil]; omega
          · simp
theorem linesOf_len (l : List Ac) (h : ∀ x ∈ l, AcFit x) : (linesOf l).length ≤ l.length * 200000000001 := by
  induction l with
  | nil => simp [linesOf]
  | cons x r ih =>
    have h1 := ih fun y hy => h y (by simp [hy])
    have h2 := line_le (h x (by simp))
    unfold linesOf at h1 ⊢
    rw [List.flatMap_cons, List.length_append, List.length_append, List.length_cons, List.length_cons, List.length_nil, Nat.add_mul]
    omega
theorem linesOf_snoc {l : List Ac} {j : Nat} {x : Ac} (h : l[j]? = some x) : linesOf (l.take (j + 1)) = linesOf (l.take j) ++ (x.line.1 ++ [10]) := by
  unfold linesOf
  rw [List.take_add_one, h]
  simp
theorem builderAt_ext {T e : TypeId} {B b : Nat} {p : Value} {bs : List Value} {w w' : World} (h : Lib.BuilderAt T e B b p bs w) (hx : Ext w w') : Lib.BuilderAt T e B b p bs w' := by
  obtain ⟨h1, v, hb, hr, hn⟩ := h
  exact ⟨h1, v, (hx.block b (lt_of_block hb)).trans hb, ownsRow_ext hr hx, hn⟩
theorem isBuilder_ext {T e : TypeId} {B b : Nat} {bs : List Value} {w w' : World} (h : Lib.IsBuilder T e B b bs w) (hx : Ext w w') : Lib.IsBuilder T e B b bs w' := by
  rcases h with h | h
  · exact .inl (builderAt_ext h hx)
  · exact .inr (builderAt_ext h hx)
theorem linesOf_take (l : List Ac) (j : Nat) (h : ∀ x ∈ l, AcFit x) (hl : l.length ≤ 100) : (linesOf (l.take j)).length ≤ 20000000000100 := by
  have h1 := linesOf_len (l.take j) fun x hx => h x (List.mem_of_mem_take hx)
  have h2 : (l.take j).length ≤ 100 := by rw [List.length_take]; omega
  have h3 := Nat.mul_le_mul_right 200000000001 h2
  omega
def okTo (l : List Ac) (j : Nat) : Bool := (l.take j).all fun a => a.line.2
theorem okTo_snoc {l : List Ac} {j : Nat} {x : Ac} (h : l[j]? = some x) : okTo l (j + 1) = (okTo l j && x.line.2) := by
  unfold okTo
  rw [List.take_add_one, h]
  simp
theorem okTo_false {l : List Ac} {j : Nat} (h : okTo l j = false) : (l.all fun a => a.line.2) = false := by
  unfold okTo at h
  rw [List.all_eq_false] at h ⊢
  obtain ⟨x, hx, hn⟩ := h
  exact ⟨x, List.mem_of_mem_take hx, hn⟩
def PrintRel (l : List Ac) (w : World) (B : Nat) (j : Nat) (wq : World) : Prop :=
  Lib.IsBuilder 67 5 w.heap.size B (Lib.byteCells (linesOf (l.take j))) wq ∧ Below w.heap.size w wq
set_option maxRecDepth 100000 in
set_option maxHeartbeats 2000000 in
theorem Print_any (l : List Ac) (v : Value) (w : World) (hg : Glob w) (hl : ActsAt w v l) (hfit : ∀ x ∈ l, AcFit x) :
    Calls Tryz.prog 15 #[v] w fun e w' => e = .returned (.tuple #[vS (printL l).1, .int .i64 (printL l).2]) ∧ Ext w w' := by
  obtain ⟨sa, cap, rfl, hcap, hat⟩ := id hl
  by_cases h100 : l.length ≤ 100
  · go_enter Tryz.func15, Tryz.ntmps15
    go_wp2_with fail
    go_loopw [14] (fun i wq => ∃ j : Nat, j ≤ l.length ∧ i = .int .i64 j ∧ okTo l j = true ∧ PrintRel l w w.heap.size j wq) (fun i _ => l.length - (intOf i).toNat)
    case atStart => exact ⟨0, Nat.zero_le _, rfl, rfl, Lib.fresh_isBuilder 67 5 w, (Below.refl _ _).alloc (Nat.le_refl _) _⟩
    case round =>
      obtain ⟨j, hj, rfl, hok, hB, hb⟩ := hrel
      by_cases hlt : j < l.length
      · obtain ⟨x, hx⟩ : ∃ x, l[j]? = some x := ⟨_, List.getElem?_eq_getElem hlt⟩
        obtain ⟨b, o, rfl, hc⟩ := hat (by intro e; rw [e] at hlt; simp at hlt)
        obtain ⟨s, n, c, hr, hf⟩ := hc j x hx
        have hq : Ext w wr := hb
        have hr' := rangeAt_ext hr hq
        have hf' := hf.ext hq
        have HK := Lib.hid hok
        clear hok
        go_wp2_with (first | refine wpList_ld33m rfl _ rfl b (o + j * 23) rfl x (.slice s n c) hr' ?_ | refine wpList_store33 rfl _ _ rfl wr.heap.size _ rfl rfl _ (alloc_new _ _) rfl rfl (Ac.one _ _ _ _) ?_ | refine wpList_load33 (by rfl) _ rfl wr.heap.size rfl _ (setRow_heap _ _ _ _ _ _ (alloc_new _ _)) rfl ?_)
        have hxr : Ext wr ((wr.alloc (.cells ((Ac.none 0).cells (.slice none 0 0)).toArray 33)).setRow wr.heap.size (x.cells (.slice s n c)).toArray) := (Ext.alloc _ _).setRow _ _ (Nat.le_refl _)
        have hfx := hfit x (List.mem_of_getElem? hx)
        refine (line_any x (.slice s n c) _ (hg.ext (hq.trans hxr)) hfx (hf'.ext hxr)).mono ?_
        rintro e w4 ⟨rfl, hx4⟩
        have hxq : Ext wr w4 := hxr.trans hx4
        have hB4 := isBuilder_ext hB hxq
        have hq4 : Ext w w4 := hq.trans hxq
        have hl4 := linesOf_take l j hfit h100
        have hl5 := line_le hfx
        have hs4 := hq4.size
        have HS : Hid (linesOf (l.take (j + 1)) = linesOf (l.take j) ++ (x.line.1 ++ [10]) ∧ okTo l (j + 1) = (okTo l j && x.line.2)) := ⟨linesOf_snoc hx, okTo_snoc hx⟩
        have hcat : x.line.1.length + ([10] : List UInt8).length ≤ 9223372036854775807 := by simp; omega
        clear hx4 hxr hxq hB hr' hf' hr hf hc hx hl
        unfold vS
        cases hxo : x.line.2 with
        | false =>
          have HP : Hid (printL l = ([], 290)) := by
            unfold Hid printL
            rw [if_neg]
            intro h
            have h2 : okTo l (j + 1) = false := by rw [HS.out.2, hxo, Bool.and_false]
            rw [okTo_false h2] at h
            cases h.2
          go_wp2_with fail
          go_ret2
          exact ⟨by rw [HP.out]; rfl, hq4⟩
        | true =>
          have hWS := WriteString_any w.heap.size w.heap.size (Lib.byteCells (linesOf (l.take j))) ⟨(x.line.1 ++ [10]).toArray⟩ w4 hB4 (by simp [Lib.byteCells, ByteArray.size]; omega) hs4
          go_wp2_with (refine wpList_cat rfl _ _ rfl x.line.1 [10] rfl rfl hcat ?_)
          refine hWS.mono ?_
          rintro e w5 ⟨rfl, hB5, hb5⟩
          have hR : PrintRel l w w.heap.size (j + 1) w5 := by
            refine ⟨?_, Below.trans (show Below w.heap.size w w4 from hq4) hb5⟩
            rw [HS.out.1]
            have : Lib.byteCells (linesOf (l.take j) ++ (x.line.1 ++ [10])) = Lib.byteCells (linesOf (l.take j)) ++ Lib.strCells ⟨(x.line.1 ++ [10]).toArray⟩ := by
              simp [Lib.byteCells, Lib.strCells]
            rw [this]
            exact .inr hB5
          have HO : Hid (okTo l (j + 1) = true) := by unfold Hid; rw [HS.out.2, HK.out, hxo]; rfl
          clear hB5 hb5 hWS hB4
          go_wp2_with fail
          go_roundw
          case rel => exact ⟨j + 1, by omega, by go_num, HO.out, hR⟩
          case measure => simp [intOf]; omega
      · have hjl : j = l.length := by omega
        have HP : Hid (printL l = (linesOf (l.take j), 0)) := by
          have h := hok
          unfold okTo at h
          rw [hjl, List.take_length] at h
          unfold Hid printL
          rw [hjl, List.take_length, if_pos ⟨h100, h⟩]
        clear hjl hok
        have hq : Ext w wr := hb
        go_wp2_with (go_at_call 30; refine (Tryz.Builder_String_any w.heap.size w.heap.size _ _ hB hb.size).mono ?_; rintro e w5 ⟨rfl, hb5⟩)
        go_ret2
        exact ⟨by rw [HP.out]; rfl, Below.trans (show Below w.heap.size w wr from hq) hb5⟩
  · have HP : Hid (printL l = ([], 290)) := by unfold Hid printL; rw [if_neg (fun h => h100 h.1)]
    have h1 : (100 : Int) < (l.length : Int) := by omega
    clear h100
    go_enter Tryz.func15, Tryz.ntmps15
    go_wp2_with fail
    go_ret2
    exact ⟨by rw [HP.out]; rfl, Ext.refl _⟩
end Go.Proofs.YtikmoledbiepoaaGreatDoor

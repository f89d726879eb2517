/- The reference's Same and SameAll. -/
import Derived.Test.YtikmoledbiepoaaGreatDoorPall
namespace Go.Proofs.YtikmoledbiepoaaGreatDoor
open Go.RowKit
theorem take_eq_snoc {l m : List Int} {j : Nat} {x : Int} (hl : l[j]? = some x) (hm : m[j]? = some x) (h : l.take j = m.take j) : l.take (j + 1) = m.take (j + 1) := by
  rw [List.take_add_one, List.take_add_one, hl, hm, h]
theorem ac_cell {w : World} {b : Nat} {T : TypeId} {a : Ac} {fv : Value} (h : w.heap[b]? = some (.cells (a.cells fv).toArray T)) : w.cell? ⟨b, 0, none⟩ = some (.int .i64 a.kind) ∧ w.cell? ⟨b, 1, none⟩ = some (.int .i64 a.side) ∧ w.cell? ⟨b, 18, none⟩ = some (.int .i64 a.n) ∧ w.cell? ⟨b, 19, none⟩ = some fv := by
  refine ⟨?_, ?_, ?_, ?_⟩ <;> (rw [Lib.cell_of_heap h]; rfl)
section
variable {ops : Array Oper} {rest : List Oper} {o : Oper} {f : Act} {w : World} {Q : Exit → Act → World → Prop}
theorem wpList_ld28g (hw : Region.wanted o (yielded ops f.tmps) = true) (x : Operand) (ho : o.op = .load 28 x) (b k : Nat) (hx : f.eval x = .pointer (some ⟨b, k, none⟩)) (c : Cal) (hr : w.rangeAt b k c.cells)
    (h : wpList Tryz.prog ops Q rest (f.put o.dst (.agg c.cells.toArray)) w) : wpList Tryz.prog ops Q (o :: rest) f w :=
  wpList_step fun K hK => by
    obtain ⟨fs, hu⟩ := und28
    rw [if_pos hw]
    exact wp_load_mid 28 x ho b k hx c.cells _ hr hu rfl inf28 (hK _ _ h)
theorem wpList_ld31g (hw : Region.wanted o (yielded ops f.tmps) = true) (x : Operand) (ho : o.op = .load 31 x) (b k : Nat) (hx : f.eval x = .pointer (some ⟨b, k, none⟩)) (p q r : Value) (hr : w.rangeAt b k [p, q, r])
    (h : wpList Tryz.prog ops Q rest (f.put o.dst (.agg #[p, q, r])) w) : wpList Tryz.prog ops Q (o :: rest) f w :=
  wpList_step fun K hK => by
    obtain ⟨fs, hu⟩ := und31
    rw [if_pos hw]
    exact wp_load_mid 31 x ho b k hx [p, q, r] _ hr hu rfl inf31 (hK _ _ h)
end
set_option maxRecDepth 100000 in
set_option maxHeartbeats 2000000 in
theorem Rsame_any (a b : Ac) (fv gv : Value) (w : World) (hA : FatesAt w fv a.fates) (hB : FatesAt w gv b.fates) :
    Calls Tryz.prog 20 #[.agg (a.cells fv).toArray, .agg (b.cells gv).toArray] w fun e w' => e = .returned (.bool (a.eqb b)) ∧ Ext w w' := by
  obtain ⟨s1, n1, rfl, hA'⟩ := id hA
  obtain ⟨s2, n2, rfl, hB'⟩ := id hB
  have hl1 := hA'.2.1
  have hl2 := hB'.2.1
  clear hA' hB'
  have hxa := (Ext.alloc w (.cells (a.cells (.slice s1 a.fates.length n1)).toArray 33)).trans (Ext.alloc _ (.cells (b.cells (.slice s2 b.fates.length n2)).toArray 33))
  have hb1 := two_first w (.cells (a.cells (.slice s1 a.fates.length n1)).toArray 33) (.cells (b.cells (.slice s2 b.fates.length n2)).toArray 33)
  have hb2 := two_second w (.cells (a.cells (.slice s1 a.fates.length n1)).toArray 33) (.cells (b.cells (.slice s2 b.fates.length n2)).toArray 33)
  go_enter Tryz.func20, Tryz.ntmps20
  go_upto_region 1 with fail
  obtain ⟨W, hW⟩ : ∃ W, W = (w.alloc (.cells (a.cells (.slice s1 a.fates.length n1)).toArray 33)).alloc (.cells (b.cells (.slice s2 b.fates.length n2)).toArray 33) := ⟨_, rfl⟩
  rw [← hW] at hxa hb1 hb2 ⊢
  clear hW
  have HV : Hid (a.eqb b = ((a.kind == b.kind) && (a.side == b.side) && a.call.eqb b.call && (a.n == b.n) && (a.fates == b.fates) && a.inj b)) := rfl
  have hA2 := hA.ext hxa
  have hB2 := hB.ext hxa
  obtain ⟨_, _, _, k1⟩ := ac_cell hb1
  obtain ⟨_, _, _, k2⟩ := ac_cell hb2
  by_cases hl : a.fates.length = b.fates.length
  · have hlb : ((a.fates.length : Int) != (b.fates.length : Int)) = false := by simp [hl]
    have hlt1 := lt_of_block hb1
    have hlt2 := lt_of_block hb2
    have HL := Lib.hid hl
    clear hl
    go_wp2_with fail
    go_loopw [5] (fun i wq => ∃ j : Nat, j ≤ a.fates.length ∧ i = .int .i64 j ∧ a.fates.take j = b.fates.take j ∧ Below W.heap.size W wq) (fun i _ => a.fates.length - (intOf i).toNat)
    case atStart => exact ⟨0, Nat.zero_le _, rfl, rfl, Below.refl _ _⟩
    case round =>
      obtain ⟨j, hj, rfl, htk, hbq⟩ := hrel
      have HT := Lib.hid htk
      clear htk
      have hq : Ext W wr := hbq
      have hc1 := (hq.block _ hlt1).trans hb1
      have hc2 := (hq.block _ hlt2).trans hb2
      obtain ⟨p1, p2, p3, p4⟩ := ac_cell hc1
      obtain ⟨q1, q2, q3, q4⟩ := ac_cell hc2
      by_cases hlt : j < a.fates.length
      · have hltb : j < b.fates.length := by have := HL.out; omega
        obtain ⟨x, hx⟩ : ∃ x, a.fates[j]? = some x := ⟨_, List.getElem?_eq_getElem hlt⟩
        obtain ⟨y, hy⟩ : ∃ y, b.fates[j]? = some y := ⟨_, List.getElem?_eq_getElem hltb⟩
        obtain ⟨s1', n1', he, _, _, hcell⟩ := hA2
        cases he
        obtain ⟨f1, o1, rfl, hf1⟩ := hcell (by intro e; rw [e] at hlt; simp at hlt)
        obtain ⟨s2', n2', he, _, _, hcell2⟩ := hB2
        cases he
        obtain ⟨f2, o2, rfl, hf2⟩ := hcell2 (by intro e; rw [e] at hltb; simp at hltb)
        have d1 : wr.cell? ⟨f1, o1 + j, none⟩ = some (.int .i64 x) := by rw [hq.cell (p := ⟨f1, o1 + j, none⟩) (cell_lt (hf1 j x hx))]; exact hf1 j x hx
        have d2 : wr.cell? ⟨f2, o2 + j, none⟩ = some (.int .i64 y) := by rw [hq.cell (p := ⟨f2, o2 + j, none⟩) (cell_lt (hf2 j y hy))]; exact hf2 j y hy
        have i1 : (0 : Int) ≤ (j : Int) := by omega
        have i2 : (j : Int) < (a.fates.length : Int) := by omega
        have i3 : (j : Int) < (b.fates.length : Int) := by omega
        by_cases hxy : x = y
        · have hne : (x != y) = false := by simp [hxy]
          have HS : Hid (a.fates.take (j + 1) = b.fates.take (j + 1)) := take_eq_snoc hx (by rw [hxy]; exact hy) HT.out
          clear hxy hx hy hf1 hf2 hcell hcell2
          go_wp2_with fail
          go_quiet (fail)
          go_wp2_with fail
          go_roundw
          case rel => exact ⟨j + 1, by omega, by go_num, HS.out, hq.drewNs _⟩
          case measure => simp [intOf]; omega
        · have hne : (x != y) = true := by simpa using hxy
          have HF : Hid (a.eqb b = false) := by
            unfold Hid
            rw [HV.out]
            have : (a.fates == b.fates) = false := beq_eq_false_iff_ne.2 fun e => by rw [e, hy] at hx; cases hx; exact hxy rfl
            rw [this]; simp
          clear hxy hx hy hf1 hf2 hcell hcell2
          go_wp2_with fail
          go_quiet (fail)
          go_wp2_with fail
          go_ret
          exact ⟨by rw [HF.out]; rfl, hxa.trans (hq.drewNs _)⟩
      · have hfe : (a.fates == b.fates) = true := by
          have h1 : a.fates.take j = a.fates := List.take_of_length_le (by omega)
          have h2 : b.fates.take j = b.fates := List.take_of_length_le (by have := HL.out; omega)
          have := HT.out
          rw [h1, h2] at this
          simpa using this
        rw [hfe] at HV
        clear hfe
        have h28 := eq28 a.call b.call
        have h31 := eq31 a b
        have r1 := ac_call hc1
        have r2 := ac_call hc2
        have t1 := ac_inj hc1
        have t2 := ac_inj hc2
        have hxw := hxa.trans hq
        by_cases h1 : a.kind = b.kind
        · have h1' : (a.kind == b.kind) = true := beq_iff_eq.2 h1; clear h1
          by_cases h2 : a.side = b.side
          · have h2' : (a.side == b.side) = true := beq_iff_eq.2 h2; clear h2
            cases h3 : a.call.eqb b.call with
            | true =>
              rw [h3] at h28
              by_cases h4 : a.n = b.n
              · have h4' : (a.n == b.n) = true := beq_iff_eq.2 h4; clear h4
                rw [h1', h2', h3, h4'] at HV
                go_wp2_with (first | refine wpList_ld28g (by rfl) _ rfl w.heap.size 2 rfl a.call r1 ?_ | refine wpList_ld28g (by rfl) _ rfl (w.heap.size + 1) 2 rfl b.call r2 ?_ | refine wpList_ld31g (by rfl) _ rfl w.heap.size 20 rfl _ _ _ t1 ?_ | refine wpList_ld31g (by rfl) _ rfl (w.heap.size + 1) 20 rfl _ _ _ t2 ?_)
                go_ret
                exact ⟨by rw [HV.out]; simp, hxw⟩
              · have h4' : (a.n == b.n) = false := beq_eq_false_iff_ne.2 h4; clear h4
                rw [h4'] at HV
                go_wp2_with (first | refine wpList_ld28g (by rfl) _ rfl w.heap.size 2 rfl a.call r1 ?_ | refine wpList_ld28g (by rfl) _ rfl (w.heap.size + 1) 2 rfl b.call r2 ?_)
                go_ret
                exact ⟨by rw [HV.out]; simp, hxw⟩
            | false =>
              rw [h3] at h28 HV
              go_wp2_with (first | refine wpList_ld28g (by rfl) _ rfl w.heap.size 2 rfl a.call r1 ?_ | refine wpList_ld28g (by rfl) _ rfl (w.heap.size + 1) 2 rfl b.call r2 ?_)
              go_ret
              exact ⟨by rw [HV.out]; simp, hxw⟩
          · have h2' : (a.side == b.side) = false := beq_eq_false_iff_ne.2 h2; clear h2
            rw [h2'] at HV
            go_wp2_with fail
            go_ret
            exact ⟨by rw [HV.out]; simp, hxw⟩
        · have h1' : (a.kind == b.kind) = false := beq_eq_false_iff_ne.2 h1; clear h1
          rw [h1'] at HV
          go_wp2_with fail
          go_ret
          exact ⟨by rw [HV.out]; simp, hxw⟩
  · have hlb : ((a.fates.length : Int) != (b.fates.length : Int)) = true := by simp; omega
    have HF : Hid (a.eqb b = false) := by
      unfold Hid
      rw [HV.out]
      have : (a.fates == b.fates) = false := beq_eq_false_iff_ne.2 fun e => hl (by rw [e])
      rw [this]; simp
    clear hl
    go_wp2_with fail
    go_ret
    exact ⟨by rw [HF.out]; rfl, hxa⟩
end Go.Proofs.YtikmoledbiepoaaGreatDoor
/- The reference's SameAll. -/
namespace Go.Proofs.YtikmoledbiepoaaGreatDoor
open Go.RowKit
/-- SameAll. -/
def sameL (l m : List Ac) : Bool := decide (l.length = m.length) && (l.zip m).all fun p => p.1.eqb p.2
def sameTo (l m : List Ac) (j : Nat) : Bool := ((l.zip m).take j).all fun p => p.1.eqb p.2
theorem sameTo_snoc {l m : List Ac} {j : Nat} {x y : Ac} (hx : l[j]? = some x) (hy : m[j]? = some y) : sameTo l m (j + 1) = (sameTo l m j && x.eqb y) := by
  unfold sameTo
  have : (l.zip m)[j]? = some (x, y) := by rw [List.getElem?_zip_eq_some]; exact ⟨hx, hy⟩
  rw [List.take_add_one, this]
  simp
theorem sameL_false {l m : List Ac} {j : Nat} (h : sameTo l m j = false) : sameL l m = false := by
  unfold sameTo at h
  unfold sameL
  rw [List.all_eq_false] at h
  obtain ⟨p, hp, hn⟩ := h
  have : ((l.zip m).all fun p => p.1.eqb p.2) = false := by
    rw [List.all_eq_false]
    exact ⟨p, List.mem_of_mem_take hp, hn⟩
  rw [this, Bool.and_false]
theorem ent20 : Ent 20 := enters_of Tryz.func20 (by kernel_rfl) rfl
set_option maxRecDepth 100000 in
set_option maxHeartbeats 2000000 in
theorem SameAll_any (l m : List Ac) (u v : Value) (w : World) (hl : ActsAt w u l) (hm : ActsAt w v m) (hs1 : l.length ≤ 4294967296) :
    Calls Tryz.prog 23 #[u, v] w fun e w' => e = .returned (.bool (sameL l m)) ∧ Ext w w' := by
  obtain ⟨s1, n1, rfl, hn1, hc1⟩ := hl
  obtain ⟨s2, n2, rfl, hn2, hc2⟩ := hm
  by_cases hle : l.length = m.length
  · have hlb : ((l.length : Int) != (m.length : Int)) = false := by simp [hle]
    have HL := Lib.hid hle
    clear hle
    go_enter Tryz.func23, Tryz.ntmps23
    go_wp2_with fail
    go_loopw [5] (fun i wq => ∃ j : Nat, j ≤ l.length ∧ i = .int .i64 j ∧ sameTo l m j = true ∧ Below w.heap.size w wq) (fun i _ => l.length - (intOf i).toNat)
    case atStart => exact ⟨0, Nat.zero_le _, rfl, rfl, Below.refl _ _⟩
    case round =>
      obtain ⟨j, hj, rfl, hst, hbq⟩ := hrel
      have HS := Lib.hid hst
      clear hst
      have hq : Ext w wr := hbq
      by_cases hlt : j < l.length
      · have hltb : j < m.length := by have := HL.out; omega
        obtain ⟨x, hx⟩ : ∃ x, l[j]? = some x := ⟨_, List.getElem?_eq_getElem hlt⟩
        obtain ⟨y, hy⟩ : ∃ y, m[j]? = some y := ⟨_, List.getElem?_eq_getElem hltb⟩
        obtain ⟨b1, o1, rfl, hd1⟩ := hc1 (by intro e; rw [e] at hlt; simp at hlt)
        obtain ⟨b2, o2, rfl, hd2⟩ := hc2 (by intro e; rw [e] at hltb; simp at hltb)
        obtain ⟨t1, m1, k1, r1, f1⟩ := hd1 j x hx
        obtain ⟨t2, m2, k2, r2, f2⟩ := hd2 j y hy
        have r1' := rangeAt_ext r1 hq
        have r2' := rangeAt_ext r2 hq
        have i1 : (0 : Int) ≤ (j : Int) := by omega
        have i2 : (j : Int) < (l.length : Int) := by omega
        have i3 : (j : Int) < (m.length : Int) := by omega
        have HN : Hid (sameTo l m (j + 1) = (sameTo l m j && x.eqb y)) := sameTo_snoc hx hy
        clear hx hy
        go_wp2_with fail
        refine wp_region_vals (fun i => [.slice (some ⟨b1, o1, none⟩) l.length n1, .int .i64 (j : Int), .pointer (some ⟨b1, o1 + j * 23, none⟩), .agg (x.cells (.slice t1 m1 k1)).toArray, .slice (some ⟨b2, o2, none⟩) m.length n2, .int .i64 (j : Int), .pointer (some ⟨b2, o2 + j * 23, none⟩), .agg (y.cells (.slice t2 m2 k2)).toArray, .bool (x.eqb y), .bool (!x.eqb y)].getD i undef) (fun w' => Ext wr w') mixedOrd (by kernel_rfl) (by kernel_rfl) (by kernel_rfl) ⟨rfl, rfl, rfl, Nat.le_refl _, fun _ _ => rfl⟩ ?_ ?_
        · refine ⟨?_, ?_, ?_, ?_, ?_, ?_, ?_, ?_, ?_, ?_, trivial⟩
          · intro a' w' hs hW
            have h0 : a'.tmps[0]? = some (.slice (some ⟨b1, o1, none⟩) l.length n1) := hs.old 0 rfl
            exact wpOp_val rfl rfl (by simp [execOp, go_sem, h0]) ⟨rfl, hW⟩
          · intro a' w' hs hW
            have h0 : a'.tmps[5]? = some (.int .i64 (j : Int)) := hs.old 5 rfl
            exact wpOp_val rfl rfl (by simp [execOp, go_sem, h0]) ⟨rfl, hW⟩
          · intro a' w' hs hW
            have h0 : a'.tmps[17]? = some (.slice (some ⟨b1, o1, none⟩) l.length n1) := hs.made 0 17 rfl rfl
            have h1 : a'.tmps[18]? = some (.int .i64 (j : Int)) := hs.made 1 18 rfl rfl
            exact wpOp_val rfl rfl (by simp [execOp, go_sem, h0, h1, i1, i2]) ⟨rfl, hW⟩
          · intro a' w' hs hW
            have h0 : a'.tmps[19]? = some (.pointer (some ⟨b1, o1 + j * 23, none⟩)) := hs.made 2 19 rfl rfl
            exact wpOp_val rfl rfl (by simp [execOp, ev h0, load33m (rangeAt_ext r1' hW)]) ⟨rfl, hW⟩
          · intro a' w' hs hW
            have h0 : a'.tmps[1]? = some (.slice (some ⟨b2, o2, none⟩) m.length n2) := hs.old 1 rfl
            exact wpOp_val rfl rfl (by simp [execOp, go_sem, h0]) ⟨rfl, hW⟩
          · intro a' w' hs hW
            have h0 : a'.tmps[5]? = some (.int .i64 (j : Int)) := hs.old 5 rfl
            exact wpOp_val rfl rfl (by simp [execOp, go_sem, h0]) ⟨rfl, hW⟩
          · intro a' w' hs hW
            have h0 : a'.tmps[21]? = some (.slice (some ⟨b2, o2, none⟩) m.length n2) := hs.made 4 21 rfl rfl
            have h1 : a'.tmps[22]? = some (.int .i64 (j : Int)) := hs.made 5 22 rfl rfl
            exact wpOp_val rfl rfl (by simp [execOp, go_sem, h0, h1, i1, i3]) ⟨rfl, hW⟩
          · intro a' w' hs hW
            have h0 : a'.tmps[23]? = some (.pointer (some ⟨b2, o2 + j * 23, none⟩)) := hs.made 6 23 rfl rfl
            exact wpOp_val rfl rfl (by simp [execOp, ev h0, load33m (rangeAt_ext r2' hW)]) ⟨rfl, hW⟩
          · intro a' w' hs hW
            have h0 : a'.tmps[20]? = some (.agg (x.cells (.slice t1 m1 k1)).toArray) := hs.made 3 20 rfl rfl
            have h1 : a'.tmps[24]? = some (.agg (y.cells (.slice t2 m2 k2)).toArray) := hs.made 7 24 rfl rfl
            refine wpOp_call (f := 20) (args := #[.agg (x.cells (.slice t1 m1 k1)).toArray, .agg (y.cells (.slice t2 m2 k2)).toArray]) rfl rfl (exec_call rfl rfl ent20 (by simp [ev h0, ev h1])) ?_
            refine (Rsame_any x y _ _ w' ((f1.ext hq).ext hW) ((f2.ext hq).ext hW)).mono ?_
            rintro e w'' ⟨rfl, hx'⟩
            exact ⟨_, rfl, rfl, hW.trans hx'⟩
          · intro a' w' hs hW
            have h0 : a'.tmps[25]? = some (.bool (x.eqb y)) := hs.made 8 25 rfl rfl
            exact wpOp_val rfl rfl (by simp [execOp, go_sem, h0]) ⟨rfl, hW⟩
        · intro a' w' hs hW
          have q17 : a'.tmps[17]? = some (.slice (some ⟨b1, o1, none⟩) l.length n1) := hs.made 0 17 rfl
          have q18 : a'.tmps[18]? = some (.int .i64 (j : Int)) := hs.made 1 18 rfl
          have q19 : a'.tmps[19]? = some (.pointer (some ⟨b1, o1 + j * 23, none⟩)) := hs.made 2 19 rfl
          have q20 : a'.tmps[20]? = some (.agg (x.cells (.slice t1 m1 k1)).toArray) := hs.made 3 20 rfl
          have q21 : a'.tmps[21]? = some (.slice (some ⟨b2, o2, none⟩) m.length n2) := hs.made 4 21 rfl
          have q22 : a'.tmps[22]? = some (.int .i64 (j : Int)) := hs.made 5 22 rfl
          have q23 : a'.tmps[23]? = some (.pointer (some ⟨b2, o2 + j * 23, none⟩)) := hs.made 6 23 rfl
          have q24 : a'.tmps[24]? = some (.agg (y.cells (.slice t2 m2 k2)).toArray) := hs.made 7 24 rfl
          have q25 : a'.tmps[25]? = some (.bool (x.eqb y)) := hs.made 8 25 rfl
          have q26 : a'.tmps[26]? = some (.bool (!x.eqb y)) := hs.made 9 26 rfl
          have ha := act_putAll [(17, .slice (some ⟨b1, o1, none⟩) l.length n1), (18, .int .i64 (j : Int)), (19, .pointer (some ⟨b1, o1 + j * 23, none⟩)), (20, .agg (x.cells (.slice t1 m1 k1)).toArray), (21, .slice (some ⟨b2, o2, none⟩) m.length n2), (22, .int .i64 (j : Int)), (23, .pointer (some ⟨b2, o2 + j * 23, none⟩)), (24, .agg (y.cells (.slice t2 m2 k2)).toArray), (25, .bool (x.eqb y)), (26, .bool (!x.eqb y))] hs.defers hs.size (by simp [q17, q18, q19, q20, q21, q22, q23, q24, q25, q26]) rfl hs.old
          clear hs q17 q18 q19 q20 q21 q22 q23 q24 q25 q26
          simp only [putAll, Act.put] at ha
          subst ha
          go_frame
          have hqw : Ext w w' := hq.trans hW
          clear hW
          cases he : x.eqb y with
          | true =>
            have HT : Hid (sameTo l m (j + 1) = true) := by unfold Hid; rw [HN.out, HS.out, he]; rfl
            go_wp2_with fail
            go_roundw
            case rel => exact ⟨j + 1, by omega, by go_num, HT.out, hqw⟩
            case measure => simp [intOf]; omega
          | false =>
            have HF : Hid (sameL l m = false) := by
              unfold Hid
              exact sameL_false (j := j + 1) (by rw [HN.out, he, Bool.and_false])
            go_wp2_with fail
            go_ret
            exact ⟨by rw [HF.out]; rfl, hqw⟩
      · have HT : Hid (sameL l m = true) := by
          unfold Hid sameL
          have h1 := HS.out
          unfold sameTo at h1
          rw [List.take_of_length_le (by rw [List.length_zip]; omega)] at h1
          rw [h1, decide_eq_true HL.out]
          rfl
        go_wp2_with fail
        go_ret
        exact ⟨by rw [HT.out]; rfl, hq⟩
  · have hlb : ((l.length : Int) != (m.length : Int)) = true := by simp; omega
    have HF : Hid (sameL l m = false) := by unfold Hid sameL; rw [decide_eq_false hle]; rfl
    clear hle
    go_enter Tryz.func23, Tryz.ntmps23
    go_wp2_with fail
    go_ret
    exact ⟨by rw [HF.out]; rfl, Ext.refl _⟩
end Go.Proofs.YtikmoledbiepoaaGreatDoor

/- The reference's Parse. -/
import Derived.Test.YtikmoledbiepoaaGreatDoorRguess
import Derived.Test.YtikmoledbiepoaaGreatDoorRvalid
import Derived.Test.YtikmoledbiepoaaGreatDoorPall
namespace Go.Proofs.YtikmoledbiepoaaGreatDoor
open Go.RowKit
set_option linter.unusedSimpArgs false
set_option linter.unusedVariables false
theorem rnum_fit (s : List UInt8) : IntFit ((rnum s : Nat) : Int) := by
  have h := rnumL_le 11 (s.take 11) (by rw [List.length_take]; omega)
  have h2 : 29 * 10 ^ 11 = 2900000000000 := by decide
  unfold IntFit rnum
  omega
theorem rn_fit (l : List (List UInt8)) (i : Nat) : -9223372036854775808 ≤ rn l i ∧ rn l i ≤ 9223372036854775807 := rnum_fit _
theorem rraw_half : ∀ s : List UInt8, 2 * (rraw s).length ≤ s.length
  | [] => by simp [rraw]
  | [_] => by simp [rraw]
  | a :: b :: r => by
    have := rraw_half r
    simp only [rraw, List.length_cons]
    omega
theorem rat_le {l : List (List UInt8)} {M : Nat} (h : ∀ x ∈ l, x.length ≤ M) (i : Nat) : (rat l i).length ≤ M := by
  unfold rat
  rw [List.getD_eq_getElem?_getD]
  cases hx : l[i]? with
  | none => simp
  | some x => exact h x (List.mem_of_getElem? hx)
theorem raw_le {l : List (List UInt8)} (h : ∀ x ∈ l, x.length ≤ 4000000000) (i : Nat) : (rraw (rat l i)).length ≤ 2147483648 := by
  have h1 := rraw_half (rat l i)
  have h2 := rat_le h i
  omega
theorem rgk_fit (k : Nat) {l : List (List UInt8)} (h : ∀ x ∈ l, x.length ≤ 4000000000) : CalFit (rgk k l) := by
  refine ⟨fun i hi => ?_, fun i hi => ?_⟩
  · match k with
    | 0 | 1 | 2 | 3 | 4 | 5 | 6 | 7 | 8 | 9 | 10 | 11 | 12 | 13 | n + 14 =>
      rcases isI_cases hi with rfl | rfl | rfl | rfl | rfl | rfl | rfl | rfl | rfl | rfl | rfl | rfl | rfl <;> (simp only [rgk, Cal.getI, Cal.ofKind]; first | exact rn_fit _ _ | decide | (split <;> decide))
  · match k with
    | 0 | 1 | 2 | 3 | 4 | 5 | 6 | 7 | 8 | 9 | 10 | 11 | 12 | 13 | n + 14 =>
      rcases isS_cases hi with rfl | rfl | rfl <;> (simp only [rgk, Cal.getS, Cal.ofKind]; first | exact raw_le h _ | simp)
theorem zero_fit : CalFit (Cal.ofKind 0) := by
  refine ⟨fun i hi => ?_, fun i hi => ?_⟩
  · rcases isI_cases hi with rfl | rfl | rfl | rfl | rfl | rfl | rfl | rfl | rfl | rfl | rfl | rfl | rfl <;> decide
  · rcases isS_cases hi with rfl | rfl | rfl <;> decide
theorem rgc_fit {l : List (List UInt8)} (h : ∀ x ∈ l, x.length ≤ 4000000000) : CalFit (rgc l) := by
  unfold rgc
  cases keyOf (rat l 0) with
  | none => exact zero_fit
  | some k => exact rgk_fit k h
theorem int0_fit : IntFit 0 := ⟨by decide, by decide⟩
theorem rguess_fit {s : List UInt8} (hs : s.length ≤ 4000000000) : AcFit (rguess s) := by
  obtain ⟨h1, h2⟩ := spl_len 32 s
  have hw : ∀ x ∈ spl 32 s, x.length ≤ 4000000000 := fun x hx => Nat.le_trans (h2 x hx) hs
  unfold rguess
  generalize spl 32 s = l at h1 hw
  unfold rgl
  split
  · exact ⟨rgc_fit fun x hx => hw x (List.mem_of_mem_drop hx), int0_fit, int0_fit, int0_fit, (fun x hx => by cases hx), Nat.zero_le _, Nat.zero_le _⟩
  · split
    · exact ⟨zero_fit, rn_fit _ _, int0_fit, int0_fit, (fun x hx => by cases hx), Nat.zero_le _, Nat.zero_le _⟩
    · split
      · refine ⟨zero_fit, int0_fit, int0_fit, int0_fit, ?_, ?_, Nat.zero_le _⟩
        · intro x hx
          obtain ⟨y, _, rfl⟩ := List.mem_map.1 hx
          exact rnum_fit y
        · show ((l.drop 1).map _).length ≤ _
          rw [List.length_map, List.length_drop]
          omega
      · split
        · exact ⟨zero_fit, int0_fit, rn_fit _ _, rn_fit _ _, (fun x hx => by cases hx), Nat.zero_le _, raw_le hw 3⟩
        · exact ⟨zero_fit, int0_fit, int0_fit, int0_fit, (fun x hx => by cases hx), Nat.zero_le _, Nat.zero_le _⟩
/-- The loop of the reference's Parse. -/
structure QRel (init : List (List UInt8)) (w1 : World) (j : Nat) (u : Value) (ps : List Pt) (wq : World) : Prop where
  go : goLines 0 init = exMap (ps.map (·.a) ++ ·) (goLines j (init.drop j))
  len : ps.length = j
  few : j ≤ 100
  row : wq.ownsRow w1.heap.size 33 23 u j (flatP ps)
  fates : ∀ p ∈ ps, FatesAt wq p.v p.a.fates ∧ Typed3 wq p.v p.a.fates
  below : Ext w1 wq
/-- A new action, stored. -/
theorem wpList_new33 {ops : Array Oper} {rest : List Oper} {o : Oper} {f : Act} {w1 : World} {Q : Exit → Act → World → Prop} {Z : Array Value} (hgd : o.guard = none) (x y : Operand) (ho : o.op = .store 33 x y) (hx : f.eval x = .pointer (some ⟨w1.heap.size, 0, none⟩)) (a : Ac) (s : Option Addr) (n c : Nat)
    (hy : f.eval y = .agg (a.cells (.slice s n c)).toArray) (hZ : Z.size = 23) (h : ∀ W, W.heap[w1.heap.size]? = some (.cells (a.cells (.slice s n c)).toArray 33) → Ext w1 W → wpList Tryz.prog ops Q rest (f.put o.dst undef) W) : wpList Tryz.prog ops Q (o :: rest) f (w1.alloc (.cells Z 33)) := by
  have hx1 : Ext w1 ((w1.alloc (.cells Z 33)).setRow w1.heap.size (a.cells (.slice s n c)).toArray) := (Ext.alloc _ _).setRow _ _ (Nat.le_refl _)
  exact wpList_store33 hgd x y ho w1.heap.size (a.cells (.slice s n c)).toArray hx hy Z (alloc_new _ _) hZ rfl (Ac.one _ _ _ _) (h _ (setRow_heap _ _ _ _ _ _ (alloc_new _ _)) hx1)
theorem neq9 (a b : List UInt8) (w : World) : (binOp .neq 9 (.string ⟨a.toArray⟩) (.string ⟨b.toArray⟩)).run Tryz.prog w = .ok (.bool (!(a == b))) w := by
  have e : ((⟨a.toArray⟩ : ByteArray) == ⟨b.toArray⟩) = (a == b) := by
    rw [Bool.eq_iff_iff]
    constructor
    · intro h
      have h2 : a.toArray = b.toArray := by
        have : (a.toArray == b.toArray) = true := h
        simpa using this
      simpa using h2
    · intro h
      rw [beq_iff_eq] at h
      subst h
      show (a.toArray == a.toArray) = true
      simp
  simp [go_sem, e]
theorem exec_neq9 {ρ : Operand → Value} {o : Oper} {x y : Operand} {w : World} {a b : List UInt8} {r : Bool} (ho : o.op = .binOp .neq 9 x y 9) (hx : ρ x = .string ⟨a.toArray⟩) (hy : ρ y = .string ⟨b.toArray⟩) (h : (!(a == b)) = r) :
    (execOp ρ o).run Tryz.prog w = .ok (.value (.bool r)) w := by
  subst h
  unfold execOp
  simp only [ho, hx, hy, Sem.run_bind, neq9 a b]
  rfl
set_option maxRecDepth 100000 in
set_option maxHeartbeats 4000000 in
theorem rparse_any (s : List UInt8) (w : World) (hs : s.length ≤ 4000000000) : Calls Tryz.prog 22 #[.string ⟨s.toArray⟩] w (ParsedP s w) := by
  obtain ⟨init, last, hsp⟩ : ∃ init last, spl 10 s = init ++ [last] := ⟨_, _, (List.dropLast_concat_getLast (spl_ne 10 s)).symm⟩
  have hlen : (spl 10 s).length = init.length + 1 := by rw [hsp]; simp
  obtain ⟨hmax, hws⟩ := spl_len 10 s
  have hil : init.length ≤ 4000000000 := by omega
  have HR : Hid (ParseR s = match goLines 0 init with | .error k => .error k | .ok l => if last = [] then .ok l else .error init.length) := by
    unfold Hid ParseR
    rw [hsp]
    simp
    cases goLines 0 init <;> rfl
  obtain ⟨l, hl⟩ : ∃ l, l = spl 10 s := ⟨_, rfl⟩
  have HSP := fun W => Lib.hid (split10 s l hl hs W)
  have hlw : ∀ x ∈ init, x.length ≤ 4000000000 := fun x hx => by have := hws x (by rw [hsp]; simp [hx]); omega
  rw [← hl] at hsp hlen
  have hne : l ≠ [] := by rw [hsp]; simp
  have HSPL := Lib.hid hsp
  have HLW := Lib.hid hlw
  have hlI : (l.length : Int) = (init.length : Int) + 1 := by omega
  have HLI := Lib.hid hlI
  clear hl hws hmax hsp hlw hlI
  go_enter Tryz.func22, Tryz.ntmps22
  go_wp2_with (go_at_call 38; refine (HSP _).out.mono ?_; rintro e w1 ⟨⟨v, rfl, hv⟩, hx1⟩; obtain ⟨b, q, cap, rfl, _, hpos⟩ := strs_head hv hne rfl)
  obtain ⟨i0, hi, j0, j1, j2⟩ := info_parts Tryz.info33
  go_loopw [6, 7] (fun u i wq => ∃ (j : Nat) (ps : List Pt), j ≤ init.length ∧ i = .int .i64 j ∧ QRel init w1 j u ps wq) (fun _ i _ => init.length - (intOf i).toNat)
  case atStart =>
    refine ⟨0, [], Nat.zero_le _, rfl, ⟨?_, rfl, by omega, World.ownsRow_nil _ _ _ _, by simp, Ext.refl _⟩⟩
    rw [List.drop_zero]
    cases goLines 0 init <;> rfl
  case round =>
    obtain ⟨j, ps, hj, rfl, hP⟩ := hrel
    have hbq : Ext w1 wr := hP.below
    have hli := HLI.out
    have i0' : (0 : Int) ≤ (j : Int) := by omega
    obtain ⟨_, _, he, hlc, _, hcc⟩ := id hv
    cases he
    obtain ⟨b', q', he, hcell⟩ := hcc hne
    cases he
    by_cases hlt : j < init.length
    · have i1 : (j : Int) < (l.length : Int) - 1 := by omega
      have i2 : (j : Int) < (l.length : Int) := by omega
      obtain ⟨x, hx⟩ : ∃ x, init[j]? = some x := ⟨_, List.getElem?_eq_getElem hlt⟩
      have hdrop : init.drop j = x :: init.drop (j + 1) := by
        rw [List.drop_eq_getElem_cons hlt]
        have : init[j] = x := by simpa [List.getElem?_eq_getElem hlt] using hx
        rw [this]
      have hlx : l[j]? = some x := by rw [HSPL.out, List.getElem?_append_left hlt]; exact hx
      have c1 := hcell j x hlx
      have c1l := cell_lt c1
      have cx := (hbq.cell (p := ⟨b, q + j, none⟩) c1l).trans c1
      unfold vS at cx c1
      have hgo := hP.go
      rw [hdrop] at hgo
      have HGO := Lib.hid hgo
      have hxl := HLW.out x (List.mem_of_getElem? hx)
      have HPE := Lib.hid (rparse_eq x)
      have hfit := rguess_fit hxl
      have HGS := Lib.hid (rguess_any x wr hxl)
      obtain ⟨g, hg⟩ : ∃ g, g = rguess x := ⟨_, rfl⟩
      rw [← hg] at HGS hfit
      unfold rparseL at HPE
      rw [← hg] at HPE
      clear hdrop hgo hx hlx hg hcell hcc hli
      cases hv2 : g.line.2 with
      | false =>
        have HE : Hid (ParseR s = .error j) := by
          have hp := HPE.out
          rw [hv2, if_neg (by rintro ⟨h, _⟩; cases h)] at hp
          unfold Hid
          rw [HR.out, HGO.out]
          simp [goLines, ← hp, exMap]
        have HV : ∀ (fv : Value) (W : World), FatesAt W fv g.fates → Hid (Calls Tryz.prog 18 #[.agg (g.cells fv).toArray] W fun e w' => e = .returned (.bool false) ∧ Ext W w') := fun fv W hf => by
          have := rvalid_any g fv W hfit hf
          rw [hv2] at this
          exact this
        clear hv2 hfit HPE
        go_upto_region 8 with (first
          | (go_at_call 39; refine HGS.out.mono ?_; rintro e W2 ⟨s1, n1, c1', rfl, hfa, hty, hx2⟩)
          | (refine wpList_new33 rfl _ _ rfl rfl g s1 n1 c1' rfl rfl ?_; intro W4 hb4 hx4)
          | refine wpList_load33 (by rfl) _ rfl _ rfl _ hb4 rfl ?_
          | (go_at_call 18; refine (HV _ _ (hfa.ext hx4)).out.mono ?_; rintro e W5 ⟨rfl, hx5⟩))
        have hxx := ((hx1.trans hbq).trans (hx2.trans hx4)).trans hx5
        refine wp_region_xw mixedOrd (by kernel_rfl) ?_
        repeat (go_big_quiet_step (fail))
        refine wpQuiet_nil ?_
        rintro _ ⟨⟨W6, hx6⟩, rfl⟩
        go_wp2_with fail
        go_ret3
        exact ⟨hxx.trans hx6, by rw [HE.out]; rfl⟩
      | true =>
        have HV : ∀ (fv : Value) (W : World), FatesAt W fv g.fates → Hid (Calls Tryz.prog 18 #[.agg (g.cells fv).toArray] W fun e w' => e = .returned (.bool true) ∧ Ext W w') := fun fv W hf => by
          have := rvalid_any g fv W hfit hf
          rw [hv2] at this
          exact this
        by_cases h100 : 100 ≤ j
        · have HE : Hid (ParseR s = .error j) := by
            unfold Hid
            rw [HR.out, HGO.out]
            cases hp : parseL x with
            | none => simp [goLines, hp, exMap]
            | some a => simp [goLines, hp, exMap, h100]
          have hd : decide ((100 : Int) ≤ (j : Int)) = true := by simp; omega
          have hd2 : (100 : Int) ≤ (j : Int) := by omega
          clear hv2 hfit HPE h100
          go_upto_region 8 with (first
            | (go_at_call 39; refine HGS.out.mono ?_; rintro e W2 ⟨s1, n1, c1', rfl, hfa, hty, hx2⟩)
            | (refine wpList_new33 rfl _ _ rfl rfl g s1 n1 c1' rfl rfl ?_; intro W4 hb4 hx4)
            | refine wpList_load33 (by rfl) _ rfl _ rfl _ hb4 rfl ?_
            | (go_at_call 18; refine (HV _ _ (hfa.ext hx4)).out.mono ?_; rintro e W5 ⟨rfl, hx5⟩))
          have hxx := ((hx1.trans hbq).trans (hx2.trans hx4)).trans hx5
          refine wp_region_xw mixedOrd (by kernel_rfl) ?_
          repeat (go_big_quiet_step (fail))
          refine wpQuiet_nil ?_
          rintro _ ⟨⟨W6, hx6⟩, rfl⟩
          go_wp2_with fail
          go_ret3
          exact ⟨hxx.trans hx6, by rw [HE.out]; rfl⟩
        · have hd : decide ((100 : Int) ≤ (j : Int)) = false := by simp; omega
          have hd2 : ¬ (100 : Int) ≤ (j : Int) := by omega
          obtain ⟨y, hy⟩ : ∃ y, y = g.line.1 := ⟨_, rfl⟩
          have HL : ∀ (fv : Value) (W : World), FatesAt W fv g.fates → Hid (Calls Tryz.prog 31 #[.agg (g.cells fv).toArray] W fun e w' => e = .returned (.string ⟨y.toArray⟩) ∧ Ext W w') := fun fv W hf => by
            have := rline_any g fv W hfit hf hv2
            rw [← hy] at this
            exact this
          have cxk : ∀ W, Ext wr W → W.cell? ⟨b, q + j, none⟩ = some (.string ⟨x.toArray⟩) := fun W hW => (hW.cell (p := ⟨b, q + j, none⟩) (cell_lt cx)).trans cx
          have HCX := Lib.hid cxk
          by_cases hyx : y = x
          · have hp : parseL x = some g := by
              have h := HPE.out
              rw [if_pos ⟨hv2, by rw [← hy]; exact hyx⟩] at h
              exact h.symm
            have HP2 := Lib.hid hp
            have hbeq : (!(y == x)) = false := by rw [hyx]; simp
            have HB := Lib.hid hbeq
            have hone : ∀ (s1 : Option Addr) (n1 c1' : Nat), ∀ u ∈ g.cells (.slice s1 n1 c1'), u.oneCell' = true := by
              intro s1 n1 c1' u hu
              exact Array.all_eq_true_iff_forall_mem.1 (Ac.one g s1 n1 c1') u (by simpa using hu)
            have hjn : j + 1 ≤ maxLen := by unfold maxLen; omega
            have hby47 : (j + 1) * 232 ≤ 140737488355328 := by omega
            clear hv2 hfit HPE hyx hy hp hbeq cxk
            go_upto_region 8 with (first
              | (go_at_call 39; refine HGS.out.mono ?_; rintro e W2 ⟨s1, n1, c1', rfl, hfa, hty, hx2⟩)
              | (refine wpList_new33 rfl _ _ rfl rfl g s1 n1 c1' rfl rfl ?_; intro W4 hb4 hx4)
              | refine wpList_load33 (by rfl) _ rfl _ rfl _ hb4 rfl ?_
              | (go_at_call 18; refine (HV _ _ (hfa.ext hx4)).out.mono ?_; rintro e W5 ⟨rfl, hx5⟩))
            have hb5 := (hx5.block _ (lt_of_block hb4)).trans hb4
            have hfa5 := (hfa.ext hx4).ext hx5
            have hty5 := (hty.ext hx4).ext hx5
            have hx25 := (hx2.trans hx4).trans hx5
            have ck : ∀ k : XW W5, k.val.cell? ⟨b, q + j, none⟩ = some (.string ⟨x.toArray⟩) := fun k => HCX.out _ (hx25.trans k.ext)
            obtain ⟨A0, hA0⟩ : ∃ A0, A0 = (g.cells (.slice s1 n1 c1')).toArray := ⟨_, rfl⟩
            have hld : ∀ k : XW W5, (Instr.loadAt 33 (.pointer (some ⟨W2.heap.size, 0, none⟩))).run Tryz.prog k.val = .ok (.agg A0) k.val := fun k => by
              rw [hA0]
              exact load33m (fun i v hv => by rw [Lib.cell_of_heap ((k.ext.block _ (lt_of_block hb5)).trans hb5), Nat.zero_add]; simpa using hv)
            have HLL : ∀ k : XW W5, Hid (Calls Tryz.prog 31 #[.agg A0] k.val fun e w' => e = .returned (.string ⟨y.toArray⟩) ∧ Ext k.val w') := fun k => by
              rw [hA0]
              exact HL _ _ (hfa5.ext k.ext)
            clear hA0
            refine wp_region_xw mixedOrd (by kernel_rfl) ?_
            iterate 7 go_big_quiet_step (fail)
            refine wpQuiet_xw rfl (fun k => exec_ld rfl rfl (hld k)) ?_
            go_frame
            go_big_quiet_step (first | (go_at_call 31; exact Calls.xw (HLL _).out))
            iterate 4 go_big_quiet_step (fail)
            refine wpQuiet_xw rfl (fun k => exec_neq9 rfl rfl rfl HB.out) ?_
            go_frame
            go_big_quiet_step (fail)
            refine wpQuiet_nil ?_
            rintro W6 ⟨⟨W6', hx6⟩, he6⟩
            have hx6 : Ext W5 W6 := by rw [he6]; exact hx6
            clear he6
            have hb6 := (hx6.block _ (lt_of_block hb5)).trans hb5
            have hxr6 := hx25.trans hx6
            clear HLL hld ck
            have hbs : w1.heap.size ≤ W6.heap.size := (hbq.trans hxr6).size
            go_wp2_with (first
              | refine wpList_load33 (by rfl) _ rfl W2.heap.size rfl _ hb6 rfl ?_
              | (refine wpList_bs35 rfl _ rfl g s1 n1 c1' rfl ?_; intro W7 g7 hxW7 hbW7; have hxr7 := hxr6.trans hxW7; refine wpList_append_lies W7 (by rfl) _ _ 35 (by rfl) w1.heap.size 33 i0 _ 23 232 und35 hi j0 j1 j2 (by rfl) (by decide) _ j (flatP ps) (by rfl) (ownsRow_ext hP.row hxr7) ⟨g7, 0, none⟩ 1 1 (g.cells (.slice s1 n1 c1')) (by rfl) (by rfl) (World.news_of_block hbW7) (hone _ _ _) (by decide) hjn hby47 (Nat.le_trans hbs hxW7.size) _ rfl ?_; intro g8 cap8 W8 hown hgrow hat hlt8))
            have hvb : ∀ k, u6.ownBlock = some k → w1.heap.size ≤ k ∧ ∃ cur, W7.heap[k]? = some (.cells cur 33) := by
              intro k hk
              rcases hP.row.2 with ⟨h2, _⟩ | ⟨g', cap', cur, he, hbb, hgg, _⟩
              · rw [h2] at hk; cases hk
              · rw [he] at hk; cases hk; exact ⟨hbb, cur, (hxr7.block _ (lt_of_block hgg)).trans hgg⟩
            have hk8 : Kept (fun k => u6.ownBlock = some k) W7 W8 := ⟨hgrow.os, hgrow.tape, hgrow.output, hgrow.size, fun k hk1 hk2 => hgrow.block k hk1 (fun e => hk2 e.symm)⟩
            have hS : ∀ (b : Nat) (cur : Array Value), W7.heap[b]? = some (.cells cur 3) → ¬ u6.ownBlock = some b := fun b cur hb h => by
              obtain ⟨_, cur', hc⟩ := hvb b h
              rw [hb] at hc; cases hc
            have hxW : Ext w1 W7 := hbq.trans hxr7
            have hx57 := hx6.trans hxW7
            go_roundw
            case rel =>
              refine ⟨j + 1, ps ++ [⟨g, s1, n1, c1'⟩], by omega, by go_num, ⟨?_, ?_, by omega, ?_, ?_, ?_⟩⟩
              · rw [HGO.out]
                simp only [goLines, HP2.out]
                rw [if_neg h100, exMap_exMap]
                cases goLines (j + 1) (init.drop (j + 1)) with
                | error k => rfl
                | ok l => simp [exMap]
              · rw [List.length_append, hP.len]; rfl
              · have : flatP (ps ++ [⟨g, s1, n1, c1'⟩]) = flatP ps ++ g.cells (.slice s1 n1 c1') := by simp [flatP, Pt.cells, Pt.v]
                rw [this]; exact hown
              · intro p hp'
                rcases List.mem_append.1 hp' with h | h
                · obtain ⟨f1, f2⟩ := hP.fates p h
                  exact fates_kept (f1.ext hxr7) (f2.ext hxr7) hk8 hS
                · rw [List.mem_singleton.1 h]
                  exact fates_kept (hfa5.ext hx57) (hty5.ext hx57) hk8 hS
              · exact ⟨hk8.os.trans hxW.os, hk8.tape.trans hxW.tape, hk8.output.trans hxW.output, Nat.le_trans hxW.size hk8.size, fun k hk => (hk8.block k (Nat.lt_of_lt_of_le hk hxW.size) (fun h => by have := (hvb k h).1; omega)).trans (hxW.block k hk)⟩
            case measure => simp [intOf]; omega
          · have hp : parseL x = none := by
              have h := HPE.out
              rw [if_neg (by rintro ⟨_, h2⟩; exact hyx (hy.trans h2))] at h
              exact h.symm
            have HE : Hid (ParseR s = .error j) := by
              unfold Hid
              rw [HR.out, HGO.out]
              simp [goLines, hp, exMap]
            have hbeq : (!(y == x)) = true := by simpa using hyx
            have HB := Lib.hid hbeq
            clear hv2 hfit HPE hyx hy hp hbeq cxk
            go_upto_region 8 with (first
              | (go_at_call 39; refine HGS.out.mono ?_; rintro e W2 ⟨s1, n1, c1', rfl, hfa, hty, hx2⟩)
              | (refine wpList_new33 rfl _ _ rfl rfl g s1 n1 c1' rfl rfl ?_; intro W4 hb4 hx4)
              | refine wpList_load33 (by rfl) _ rfl _ rfl _ hb4 rfl ?_
              | (go_at_call 18; refine (HV _ _ (hfa.ext hx4)).out.mono ?_; rintro e W5 ⟨rfl, hx5⟩))
            have hb5 := (hx5.block _ (lt_of_block hb4)).trans hb4
            have hfa5 := (hfa.ext hx4).ext hx5
            have hx25 := (hx2.trans hx4).trans hx5
            have ck : ∀ k : XW W5, k.val.cell? ⟨b, q + j, none⟩ = some (.string ⟨x.toArray⟩) := fun k => HCX.out _ (hx25.trans k.ext)
            obtain ⟨A0, hA0⟩ : ∃ A0, A0 = (g.cells (.slice s1 n1 c1')).toArray := ⟨_, rfl⟩
            have hld : ∀ k : XW W5, (Instr.loadAt 33 (.pointer (some ⟨W2.heap.size, 0, none⟩))).run Tryz.prog k.val = .ok (.agg A0) k.val := fun k => by
              rw [hA0]
              exact load33m (fun i v hv => by rw [Lib.cell_of_heap ((k.ext.block _ (lt_of_block hb5)).trans hb5), Nat.zero_add]; simpa using hv)
            have HLL : ∀ k : XW W5, Hid (Calls Tryz.prog 31 #[.agg A0] k.val fun e w' => e = .returned (.string ⟨y.toArray⟩) ∧ Ext k.val w') := fun k => by
              rw [hA0]
              exact HL _ _ (hfa5.ext k.ext)
            clear hA0
            refine wp_region_xw mixedOrd (by kernel_rfl) ?_
            iterate 7 go_big_quiet_step (fail)
            refine wpQuiet_xw rfl (fun k => exec_ld rfl rfl (hld k)) ?_
            go_frame
            go_big_quiet_step (first | (go_at_call 31; exact Calls.xw (HLL _).out))
            iterate 4 go_big_quiet_step (fail)
            refine wpQuiet_xw rfl (fun k => exec_neq9 rfl rfl rfl HB.out) ?_
            go_frame
            go_big_quiet_step (fail)
            refine wpQuiet_nil ?_
            rintro W6 ⟨⟨W6', hx6⟩, he6⟩
            have hx6 : Ext W5 W6 := by rw [he6]; exact hx6
            clear he6
            have hxx := (hx1.trans hbq).trans (hx25.trans hx6)
            clear HLL hld ck
            go_wp2_with fail
            go_ret3
            exact ⟨hxx, by rw [HE.out]; rfl⟩
    · have hje : j = init.length := by omega
      subst hje
      have hgo : goLines 0 init = .ok (ps.map (·.a)) := by
        rw [hP.go, List.drop_length]
        simp [goLines, exMap]
      have hlx : l[init.length]? = some last := by rw [HSPL.out, List.getElem?_append_right (Nat.le_refl _), Nat.sub_self]; rfl
      have c1 := hcell _ _ hlx
      have cx := (hbq.cell (p := ⟨b, q + init.length, none⟩) (cell_lt c1)).trans c1
      unfold vS at cx c1
      have HA : Hid (ActsAt wr u6 (ps.map (·.a))) := acts_row (by rw [hP.len]; exact hP.row) (fun p hp => (hP.fates p hp).1)
      have i1 : ¬ (init.length : Int) < (l.length : Int) - 1 := by omega
      have i3 : (l.length : Int) - 1 = (init.length : Int) := by omega
      have i4 : (init.length : Int) < (l.length : Int) := by omega
      clear hcell hcc hlx hli
      by_cases hl : last = []
      · subst hl
        have HE : Hid (ParseR s = .ok (ps.map (·.a))) := by
          unfold Hid
          rw [HR.out, hgo]
          simp
        clear hgo
        go_wp2_with fail
        go_ret3
        exact ⟨hx1.trans hbq, by rw [HE.out]; exact ⟨_, rfl, HA.out⟩⟩
      · have HE : Hid (ParseR s = .error init.length) := by
          unfold Hid
          rw [HR.out, hgo]
          simp [hl]
        have h1 : last.isEmpty = false := by simpa using hl
        have h2 : (last == []) = false := by simpa using hl
        clear hgo hl
        go_wp2_with fail
        go_ret3
        exact ⟨hx1.trans hbq, by rw [HE.out]; rfl⟩
end Go.Proofs.YtikmoledbiepoaaGreatDoor

/- ScriptLimits: the walk. -/
import Derived.Test.YtikmoledbiepoaaGreatDoorAppd
namespace Go.Proofs.YtikmoledbiepoaaGreatDoor
open Go.RowKit
theorem vS_fst (x : List UInt8) (n : Int) : vS (x, n).1 = .string ⟨x.toArray⟩ := rfl
theorem lines_one (a : Ac) : linesOf [a] = a.line.1 ++ [10] := by simp [linesOf]
theorem print_one (a : Ac) (h : a.line.2 = true) : printL [a] = (a.line.1 ++ [10], 0) := by
  rw [printL_ok [a] (by simp [okL, h]) (by simp), lines_one]
/-- The parameters with a short string. -/
def cutP (p : Ap) : Ap := { p with s := p.s.take 20 }
theorem cutP_fit {p : Ap} (h : ApFit p) : ApFit (cutP p) :=
  ⟨h.kind, h.call, h.side, h.conn, h.stream, h.n, h.code, by have := take_le p.s 20; show (p.s.take 20).length ≤ _; omega, h.fates, h.q0, h.q1, h.q2, h.q3, h.q4, h.q5⟩
theorem cut_cells (p : Ap) (fv : Value) {w : World} {B : Nat} (h : w.heap[B]? = some (.cells (p.cells fv).toArray 57)) : (w.setCell ⟨B, 7, none⟩ (.string ⟨(p.s.take 20).toArray⟩)).heap[B]? = some (.cells ((cutP p).cells fv).toArray 57) := by
  rw [heap_setCell_self h]
  rfl
/-- What holds while the list grows: j times the same action. -/
structure LRel (x : Ac) (w : World) (j : Nat) (v : Value) (ps : List Pt) (wq : World) : Prop where
  len : ps.length = j
  acts : ps.map (·.a) = List.replicate j x
  row : wq.ownsRow w.heap.size 33 23 v j (flatP ps)
  fates : ∀ p ∈ ps, FatesAt wq p.v p.a.fates ∧ Typed3 wq p.v p.a.fates
  below : Below w.heap.size w wq
theorem rep_ok (x : Ac) (h : x.line.2 = true) (n : Nat) : okL (List.replicate n x) = true := by
  unfold okL
  rw [List.all_eq_true]
  intro a ha
  rw [(List.mem_replicate.1 ha).2]
  exact h
theorem rep_print (x : Ac) (h : x.line.2 = true) {n : Nat} (hn : n ≤ 100) : printL (List.replicate n x) = (linesOf (List.replicate n x), 0) := printL_ok _ (rep_ok x h n) (by rw [List.length_replicate]; exact hn)
theorem rep_print_no (x : Ac) {n : Nat} (hn : ¬ n ≤ 100) : printL (List.replicate n x) = ([], 290) := by
  unfold printL
  rw [if_neg (by rw [List.length_replicate]; exact fun h => hn h.1)]
theorem rep_parse (x : Ac) (h : x.line.2 = true) {n : Nat} (hn : n ≤ 100) : ParseR (linesOf (List.replicate n x)) = .ok (List.replicate n x) := ParseR_lines _ (rep_ok x h n) (by rw [List.length_replicate]; exact hn)
theorem rep_parse_no (x : Ac) (h : x.line.2 = true) {n : Nat} (hn : ¬ n ≤ 100) : ParseR (linesOf (List.replicate n x)) = .error 100 := ParseR_many _ (rep_ok x h n) (by rw [List.length_replicate]; omega)
theorem rep_lines (x : Ac) (n : Nat) : linesOf (List.replicate (n + 1) x) = linesOf (List.replicate n x) ++ (x.line.1 ++ [10]) := by
  rw [List.replicate_succ', linesOf_append, lines_one]
theorem rep_len (p : Ap) (n : Nat) : (linesOf (List.replicate n (actF p))).length ≤ n * 9501 := by
  have := linesOf_short (l := List.replicate n (actF p)) (M := 9500) fun a ha => by
    rw [(List.mem_replicate.1 ha).2]
    exact (actF_s p).line (by decide)
  rwa [List.length_replicate] at this
set_option maxRecDepth 100000 in
set_option maxHeartbeats 4000000 in
theorem limits_any (p : Ap) (s1 : Option Addr) (m1 c1 : Nat) (many : Int) (w : World) (hg : Glob w) (hF : FatesAt w (.slice s1 m1 c1) p.fates) (hp : ApFit p) (hm : IntFit many) :
    Calls Tryz.prog 8 #[.agg (p.cells (.slice s1 m1 c1)).toArray, .int .i64 many] w fun e w' => e = .returned (.bool true) ∧ Ext w w' := by
  have HT : Hid ((⟨p.s.toArray⟩ : ByteArray).extract 0 (min (p.s.length : Int) 20).toNat = ⟨(p.s.take 20).toArray⟩) := ext_take p.s 20
  have hps := hp.s
  obtain ⟨W0, hW0⟩ : ∃ W0, W0 = w.alloc (.cells (p.cells (.slice s1 m1 c1)).toArray 57) := ⟨_, rfl⟩
  have x0 : Ext w W0 := by rw [hW0]; exact Ext.alloc _ _
  have b0 : W0.heap[w.heap.size]? = some (.cells (p.cells (.slice s1 m1 c1)).toArray 57) := by rw [hW0]; exact alloc_new _ _
  rw [Ap.cells_eq] at hW0 ⊢
  have HW := Lib.hid hW0
  clear hW0
  go_enter Tryz.func8, Tryz.ntmps8
  go_wp2_with fail
  rw [← HW.out]
  clear HW
  refine (sane_any W0 (hg.ext x0)).mono ?_
  rintro e w1 ⟨rfl, x1⟩
  have y1 := x0.trans x1
  have b1 : w1.heap[w.heap.size]? = some (.cells (p.cells (.slice s1 m1 c1)).toArray 57) := (x1.block _ (lt_of_block b0)).trans b0
  clear x0 x1 b0
  have e7 : w1.cell? ⟨w.heap.size, 7, none⟩ = some (.string ⟨p.s.toArray⟩) := by rw [Lib.cell_of_heap b1]; rfl
  have f7 : w1.frozen? ⟨w.heap.size, 7, none⟩ = false := Lib.frozen_of_heap b1 7
  go_upto_region 3 with fail
  rw [HT.out]
  obtain ⟨W2, hW2⟩ : ∃ W2, W2 = w1.setCell ⟨w.heap.size, 7, none⟩ (.string ⟨(p.s.take 20).toArray⟩) := ⟨_, rfl⟩
  rw [← hW2]
  have b2 : W2.heap[w.heap.size]? = some (.cells ((cutP p).cells (.slice s1 m1 c1)).toArray 57) := by rw [hW2]; exact cut_cells p _ b1
  have y2 : Ext w W2 := by rw [hW2]; exact y1.setCell (p := ⟨w.heap.size, 7, none⟩) (Nat.le_refl _) _
  clear hW2 b1 y1 HT e7 f7
  obtain ⟨hk0, hk1⟩ := pickN_lt many (n := 10) (by decide)
  obtain ⟨n, hn⟩ : ∃ n : Nat, 95 + pickN many 10 = (n : Int) := ⟨(95 + pickN many 10).toNat, by omega⟩
  have hn1 : 95 ≤ n ∧ n ≤ 104 := by omega
  go_wp2_with fail
  refine (pickA many 10 W2 hm (by decide) (by decide)).mono ?_
  rintro e w3 ⟨rfl, rfl⟩
  go_wp2_with fail
  try rw [hn]
  have hF2 := hF.ext y2
  have hpc := cutP_fit hp
  obtain ⟨i0, hi, j0, j1, j2⟩ := info_parts Tryz.info33
  obtain ⟨x, hx⟩ : ∃ x, x = actF (cutP p) := ⟨_, rfl⟩
  have hAC : ∀ W, Ext W2 W → Calls Tryz.prog 24 #[.agg ((cutP p).cells (.slice s1 m1 c1)).toArray] W fun e w' => Ext W w' ∧ ∃ s n c, e = .returned (.agg (x.cells (.slice s n c)).toArray) ∧ FatesAt w' (.slice s n c) x.fates ∧ Typed3 w' (.slice s n c) x.fates := fun W h => by
    have := ActionFrom_any (cutP p) s1 m1 c1 W hpc (hF2.ext h)
    unfold ActP at this
    rw [← hx] at this
    exact this
  have HX := Lib.hid hx
  have HAC := Lib.hid hAC
  clear hn hk0 hk1 hF hF2 hx hAC
  go_loopw [7, 8] (fun v i wq => ∃ (j : Nat) (ps : List Pt), j ≤ n ∧ i = .int .i64 j ∧ LRel x W2 j v ps wq) (fun _ i _ => n - (intOf i).toNat)
  case atStart => exact ⟨0, [], Nat.zero_le _, rfl, ⟨rfl, rfl, World.ownsRow_nil _ _ _ _, by simp, Below.refl _ _⟩⟩
  case round =>
    obtain ⟨j, ps, hj, rfl, hP⟩ := hrel
    have hbq : Ext W2 wr := hP.below
    by_cases hlt : j < n
    · have k1 : (j : Int) < (n : Int) := by omega
      have br := (hbq.block _ (lt_of_block b2)).trans b2
      have hr2 : wr.rangeAt w.heap.size 0 ((cutP p).cells (.slice s1 m1 c1)) := range_of (pre := []) (post := []) br (by simp)
      have hac := HAC.out wr hbq
      clear br
      go_wp2_with (refine wpList_ld57 rfl _ rfl w.heap.size 0 rfl (cutP p) (.slice s1 m1 c1) hr2 ?_)
      refine hac.mono ?_
      rintro e w3 ⟨hx3, s2, n2, c2, rfl, hfa, hty⟩
      have hx33 := hbq.trans hx3
      have hone : ∀ u ∈ x.cells (.slice s2 n2 c2), u.oneCell' = true := by
        intro u hu
        exact Array.all_eq_true_iff_forall_mem.1 (Ac.one x s2 n2 c2) u (by rw [List.mem_toArray]; exact hu)
      have hjn : j + 1 ≤ maxLen := by unfold maxLen; omega
      have hby47 : (j + 1) * 232 ≤ 140737488355328 := by omega
      have hbs : W2.heap.size ≤ w3.heap.size := hx33.size
      clear hac hr2
      go_wp2_with (refine wpList_bs35 rfl _ rfl x s2 n2 c2 rfl ?_; intro W5 g5 hxW5 hbW5; have hx45 := hx3.trans hxW5; refine wpList_append_lies W5 (by rfl) _ _ 35 (by rfl) W2.heap.size 33 i0 _ 23 232 und35 hi j0 j1 j2 (by rfl) (by decide) _ j (flatP ps) (by rfl) (ownsRow_ext hP.row hx45) ⟨g5, 0, none⟩ 1 1 (x.cells (.slice s2 n2 c2)) (by rfl) (by rfl) (World.news_of_block hbW5) hone (by decide) hjn hby47 (Nat.le_trans hbs hxW5.size) _ rfl ?_; intro g cap2 w5 hown hgrow hat hlt5)
      have hvb : ∀ k, u7.ownBlock = some k → W2.heap.size ≤ k ∧ ∃ cur, W5.heap[k]? = some (.cells cur 33) := by
        intro k hk
        rcases hP.row.2 with ⟨h2, _⟩ | ⟨g', cap', cur, he, hbb, hgg, _⟩
        · rw [h2] at hk; cases hk
        · rw [he] at hk; cases hk; exact ⟨hbb, cur, (hx45.block _ (lt_of_block hgg)).trans hgg⟩
      have hk5 : Kept (fun k => u7.ownBlock = some k) W5 w5 := ⟨hgrow.os, hgrow.tape, hgrow.output, hgrow.size, fun k hk1 hk2 => hgrow.block k hk1 (fun e => hk2 e.symm)⟩
      have hS : ∀ (b : Nat) (cur : Array Value), W5.heap[b]? = some (.cells cur 3) → ¬ u7.ownBlock = some b := fun b cur hb h => by
        obtain ⟨_, cur', hc⟩ := hvb b h
        rw [hb] at hc; cases hc
      have hxW : Ext W2 W5 := hbq.trans hx45
      refine ⟨⟨j + 1, ps ++ [⟨x, s2, n2, c2⟩], hlt, by go_num, ⟨?_, ?_, ?_, ?_, ?_⟩⟩, by simp [intOf]; omega⟩
      · rw [List.length_append, hP.len]; rfl
      · rw [List.map_append, hP.acts, List.replicate_succ']; rfl
      · have : flatP (ps ++ [⟨x, s2, n2, c2⟩]) = flatP ps ++ x.cells (.slice s2 n2 c2) := by simp [flatP, Pt.cells, Pt.v]
        rw [this]; exact hown
      · intro q hq
        rcases List.mem_append.1 hq with h | h
        · obtain ⟨f1, f2⟩ := hP.fates q h
          exact fates_kept (f1.ext hx45) (f2.ext hx45) hk5 hS
        · rw [List.mem_singleton.1 h]
          exact fates_kept (hfa.ext hxW5) (hty.ext hxW5) hk5 hS
      · exact ⟨hk5.os.trans hxW.os, hk5.tape.trans hxW.tape, hk5.output.trans hxW.output, Nat.le_trans hxW.size hk5.size, fun k hk => (hk5.block k (Nat.lt_of_lt_of_le hk hxW.size) (fun h => by have := (hvb k h).1; omega)).trans (hxW.block k hk)⟩
    · have hje : j = n := by omega
      subst hje
      have hacts : ActsAt wr u7 (List.replicate j x) := by
        rw [← hP.acts]
        exact acts_row (by rw [hP.len]; exact hP.row) (fun p hp => (hP.fates p hp).1)
      obtain ⟨sa, cap, rfl, hc1, hc2⟩ := id hacts
      rw [List.length_replicate] at hc1 ⊢
      obtain ⟨b, o, rfl, hel⟩ := hc2 (by intro e; have := congrArg List.length e; simp at this; omega)
      have hone1 : ∀ cp, 1 ≤ cp → ActsAt wr (.slice (some ⟨b, o, none⟩) 1 cp) [x] := fun cp h1 => ⟨_, cp, rfl, h1, fun _ => ⟨b, o, rfl, fun i y hy => by
        match i, hy with
        | 0, hy =>
          cases hy
          exact hel 0 x (by rw [List.getElem?_replicate, if_pos (by omega)])⟩⟩
      have hcap : (1 : Int) ≤ (cap : Int) := by omega
      have yr := y2.trans hbq
      have HO := Lib.hid hone1
      rw [List.length_replicate] at hacts
      have HA := Lib.hid hacts
      have hxo : x.line.2 = true := by rw [HX.out]; exact actF_ok _
      have hxf : AcFit x := by rw [HX.out]; exact (actF_s _).fit (by decide)
      have hxl : ∀ q, q ≤ 104 → (linesOf (List.replicate q x)).length ≤ 988104 := fun q hq => by
        have := rep_len (cutP p) q
        rw [← HX.out] at this
        have h2 := Nat.mul_le_mul_right 9501 hq
        omega
      have hxl1 : (x.line.1 ++ [10]).length ≤ 9501 := by
        have := (actF_s (cutP p)).line (by decide)
        rw [← HX.out] at this
        rw [List.length_append, List.length_cons, List.length_nil]
        omega
      have HXL := Lib.hid hxl
      have HXF := Lib.hid hxf
      clear hone1 hacts hel hc2 hP hxl hxf HAC b2
      go_wp2_with fail
      refine (Print_any [x] _ wr (hg.ext yr) (HO.out cap (by omega)) (fun a ha => by rw [List.mem_singleton.1 ha]; exact HXF.out)).mono ?_
      rintro e w6 ⟨rfl, x6⟩
      rw [print_one x hxo, vS_fst]
      have y6 := yr.trans x6
      have a6 := HA.out.ext x6
      clear HO HA yr x6
      go_wp2_with fail
      go_loopw [11, 12] (fun t i wq => ∃ q : Nat, q ≤ j ∧ i = .int .i64 q ∧ t = .string ⟨(linesOf (List.replicate q x)).toArray⟩ ∧ Ext w6 wq) (fun _ i _ => j - (intOf i).toNat)
      case atStart => exact ⟨0, Nat.zero_le _, rfl, rfl, Ext.refl _⟩
      case round =>
        obtain ⟨q, hq, rfl, rfl, hx6⟩ := hrel
        by_cases hlt2 : q < j
        · have k1 : (q : Int) < (j : Int) := by omega
          have hb1 := HXL.out q (by omega)
          go_wp2_with (refine wpList_cat rfl _ _ rfl (linesOf (List.replicate q x)) (x.line.1 ++ [10]) rfl rfl (by omega) ?_)
          exact ⟨⟨q + 1, hlt2, by go_num, by rw [rep_lines], hx6⟩, by simp [intOf]; omega⟩
        · have hqe : q = j := by omega
          subst hqe
          have a7 := a6.ext hx6
          have y7 := y6.trans hx6
          clear a6 y6
          go_wp2_with fail
          refine (Print_any (List.replicate q x) _ _ (hg.ext y7) a7 (fun a ha => by rw [(List.mem_replicate.1 ha).2]; exact HXF.out)).mono ?_
          rintro e w8 ⟨rfl, x8⟩
          have y8 := y7.trans x8
          clear a7 y7 x8
          by_cases h100 : q ≤ 100
          · rw [rep_print x hxo h100, vS_fst]
            go_wp2_with fail
            refine (Parse_any (linesOf (List.replicate q x)) w8 (hg.ext y8) (Nat.le_trans (HXL.out q (by omega)) (by decide))).mono ?_
            rintro e w9 ⟨x9, hm9⟩
            rw [rep_parse x hxo h100] at hm9
            obtain ⟨v9, rfl, a9⟩ := hm9
            have y9 := y8.trans x9
            obtain ⟨s9, cap9, rfl, _, _⟩ := a9
            rw [List.length_replicate]
            clear y8 x9
            have h101 : ¬ 100 < q := by omega
            go_wp2_with fail
            go_ret
            exact ⟨rfl, y9⟩
          · rw [rep_print_no x h100, vS_fst]
            go_wp2_with fail
            refine (Parse_any (linesOf (List.replicate q x)) w8 (hg.ext y8) (Nat.le_trans (HXL.out q (by omega)) (by decide))).mono ?_
            rintro e w9 ⟨x9, hm9⟩
            rw [rep_parse_no x hxo h100] at hm9
            have hm9' : e = .returned (.tuple #[.slice none 0 0, .int .i64 ((100 : Nat) : Int), .int .i64 290]) := hm9
            subst hm9'
            have y9 := y8.trans x9
            clear y8 x9 hm9
            have h101 : 100 < q := by omega
            go_wp2_with fail
            go_ret
            exact ⟨rfl, y9⟩
end Go.Proofs.YtikmoledbiepoaaGreatDoor

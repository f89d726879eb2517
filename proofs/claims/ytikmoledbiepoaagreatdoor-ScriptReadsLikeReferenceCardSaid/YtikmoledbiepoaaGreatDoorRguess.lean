/- The reference's guess: all kinds but the fates. -/
import Derived.Test.YtikmoledbiepoaaGreatDoorRgc
import Derived.Test.YtikmoledbiepoaaGreatDoorRusedac
import Derived.Deep.AppendLies
namespace Go.Proofs.YtikmoledbiepoaaGreatDoor
open Go.RowKit
set_option linter.unusedSimpArgs false
set_option linter.unusedVariables false
/-- What guess ends with. -/
def GuessP (a : Ac) (w : World) (e : Ending) (w' : World) : Prop :=
  ∃ s1 n c, e = .returned (.agg (a.cells (.slice s1 n c)).toArray) ∧ FatesAt w' (.slice s1 n c) a.fates ∧ Typed3 w' (.slice s1 n c) a.fates ∧ Ext w w'
theorem GuessP.bare {a : Ac} {w w' : World} (hf : a.fates = []) (hx : Ext w w') : GuessP a w (.returned (.agg (a.cells (.slice none 0 0)).toArray)) w' := by
  refine ⟨none, 0, 0, rfl, ?_, ?_, hx⟩
  · rw [hf]; exact FatesAt.nil _
  · rw [hf]; exact Typed3.nil _ _
theorem strs_head {w : World} {v : Value} {l : List (List UInt8)} {x : List UInt8} (h : StrsAt w v l) (hn : l ≠ []) (hx : rat l 0 = x) :
    ∃ b o cap, v = .slice (some ⟨b, o, none⟩) l.length cap ∧ w.cell? ⟨b, o, none⟩ = some (.string ⟨x.toArray⟩) ∧ (0 : Int) < (l.length : Int) := by
  obtain ⟨a, cap, rfl, h1, h2, h3⟩ := h
  obtain ⟨b, o, rfl, hc⟩ := h3 hn
  have hpos := List.length_pos_iff.2 hn
  refine ⟨b, o, cap, rfl, ?_, by omega⟩
  obtain ⟨y, hy⟩ : ∃ y, l[0]? = some y := ⟨_, List.getElem?_eq_getElem hpos⟩
  have := hc 0 y hy
  unfold rat at hx
  rw [List.getD_eq_getElem?_getD, hy] at hx
  cases hx
  exact this
theorem num_ex3 (y : List UInt8) : ∃ N : Int, Hid (N = ((rnum y : Nat) : Int)) ∧ ∀ W, Hid (Calls Tryz.prog 63 #[.string ⟨y.toArray⟩] W fun e w' => e = .returned (.int .i64 N) ∧ W = w') :=
  ⟨_, rfl, fun W => rnumber_any y W⟩
theorem split32 (s : List UInt8) (l : List (List UInt8)) (hl : l = spl 32 s) (hs : s.length ≤ 4000000000) (W : World) :
    Calls Tryz.prog 38 #[.string ⟨s.toArray⟩, .int .u8 32] W fun e w' => (∃ v, e = .returned v ∧ StrsAt w' v l) ∧ Ext W w' := by
  subst hl
  exact rsplit_any s 32 W hs
theorem split10 (s : List UInt8) (l : List (List UInt8)) (hl : l = spl 10 s) (hs : s.length ≤ 4000000000) (W : World) :
    Calls Tryz.prog 38 #[.string ⟨s.toArray⟩, .int .u8 10] W fun e w' => (∃ v, e = .returned v ∧ StrsAt w' v l) ∧ Ext W w' := by
  subst hl
  exact rsplit_any s 10 W hs
set_option maxRecDepth 100000 in
set_option maxHeartbeats 2000000 in
theorem rguess_tick (s : List UInt8) (l : List (List UInt8)) (w : World) (hl : l = spl 32 s) (hs : s.length ≤ 4000000000) (hx0 : rat l 0 = kTick) : Calls Tryz.prog 39 #[.string ⟨s.toArray⟩] w (GuessP (rgl l) w) := by
  have HSP := fun W => Lib.hid (split32 s l hl hs W)
  have hne : l ≠ [] := by rw [hl]; exact spl_ne _ _
  obtain ⟨y, hy⟩ : ∃ y, y = rat l 1 := ⟨_, rfl⟩
  have HA := Lib.hid (show AtIs l 1 y from ⟨1, rfl, by decide, hy.symm⟩)
  obtain ⟨N, hN, HN⟩ := num_ex3 y
  have HG : Hid (rgl l = { Ac.none 2 with n := N }) := by
    unfold Hid rgl
    rw [hx0, if_neg (by decide), if_pos rfl, hN.out, hy]
    rfl
  clear hy hN hl
  go_enter Tryz.func39, Tryz.ntmps39
  go_wp2_with (first
    | (go_at_call 38; refine (HSP _).out.mono ?_; rintro e w1 ⟨⟨v, rfl, hv⟩, hx1⟩; obtain ⟨b, o, cap, rfl, hc0, hpos⟩ := strs_head hv hne hx0; have hbR := (hx1.block w.heap.size (by simp)).trans (alloc_new w _))
    | (go_at_call 61; refine (at_is l _ _ _ HA.out _ hv).mono ?_; rintro e W ⟨rfl, rfl⟩)
    | (go_at_call 63; refine (HN _).out.mono ?_; rintro e W ⟨rfl, rfl⟩)
    | refine wpList_store33 rfl _ _ rfl w.heap.size ({ Ac.none 2 with n := N }.cells (.slice none 0 0)).toArray rfl rfl _ hbR rfl rfl (Ac.one _ _ _ _) ?_)
  refine bodyPost_ret (res33 rfl _ _ w.heap.size _ rfl (setRow_heap _ _ _ _ _ _ hbR) (by rfl)) rfl ?_
  rw [HG.out]
  exact GuessP.bare rfl (((Ext.alloc _ _).trans hx1).setRow _ _ (Nat.le_refl _))
set_option maxRecDepth 100000 in
set_option maxHeartbeats 2000000 in
theorem rguess_inject (s : List UInt8) (l : List (List UInt8)) (w : World) (hl : l = spl 32 s) (hs : s.length ≤ 4000000000) (hx0 : rat l 0 = kInject) : Calls Tryz.prog 39 #[.string ⟨s.toArray⟩] w (GuessP (rgl l) w) := by
  have HSP := fun W => Lib.hid (split32 s l hl hs W)
  have hne : l ≠ [] := by rw [hl]; exact spl_ne _ _
  have hll : ∀ x ∈ l, x.length ≤ 4294967296 := fun x hx => by rw [hl] at hx; have := (spl_len 32 s).2 x hx; omega
  have hr3 := rat_len hll 3
  obtain ⟨y1, hy1⟩ : ∃ y, y = rat l 1 := ⟨_, rfl⟩
  have HA1 := Lib.hid (show AtIs l 1 y1 from ⟨1, rfl, by decide, hy1.symm⟩)
  obtain ⟨N1, hN1, HN1⟩ := num_ex3 y1
  obtain ⟨y2, hy2⟩ : ∃ y, y = rat l 2 := ⟨_, rfl⟩
  have HA2 := Lib.hid (show AtIs l 2 y2 from ⟨2, rfl, by decide, hy2.symm⟩)
  obtain ⟨N2, hN2, HN2⟩ := num_ex3 y2
  obtain ⟨y3, hy3⟩ : ∃ y, y = rat l 3 := ⟨_, rfl⟩
  have HA3 := Lib.hid (show AtIs l 3 y3 from ⟨3, rfl, by decide, hy3.symm⟩)
  rw [← hy3] at hr3
  have HR := fun W => Lib.hid (rraw_any y3 W hr3)
  obtain ⟨D, hD⟩ : ∃ D, D = rraw y3 := ⟨_, rfl⟩
  rw [← hD] at HR
  have HG : Hid (rgl l = { Ac.none 4 with fr := N1, tgt := N2, dat := D }) := by
    unfold Hid rgl
    rw [hx0, if_neg (by decide), if_neg (by decide), if_neg (by decide), if_pos rfl, hN1.out, hN2.out, hD, hy1, hy2, hy3]
    rfl
  clear hy1 hy2 hy3 hN1 hN2 hD hl hll hr3
  go_enter Tryz.func39, Tryz.ntmps39
  go_wp2_with (first
    | (go_at_call 38; refine (HSP _).out.mono ?_; rintro e w1 ⟨⟨v, rfl, hv⟩, hx1⟩; obtain ⟨b, o, cap, rfl, hc0, hpos⟩ := strs_head hv hne hx0; have hbR := (hx1.block w.heap.size (by simp)).trans (alloc_new w _))
    | (go_at_call 61; refine (at_is l _ _ _ (by with_reducible first | exact HA1.out | exact HA2.out | exact HA3.out) _ hv).mono ?_; rintro e W ⟨rfl, rfl⟩)
    | (go_at_call_of 63 (Value.string ⟨y1.toArray⟩); refine (HN1 _).out.mono ?_; rintro e W ⟨rfl, rfl⟩)
    | (go_at_call_of 63 (Value.string ⟨y2.toArray⟩); refine (HN2 _).out.mono ?_; rintro e W ⟨rfl, rfl⟩)
    | (go_at_call 64; refine (HR _).out.mono ?_; rintro e w2 ⟨rfl, hx2⟩; have hbR2 := (hx2.block _ (lt_of_block hbR)).trans hbR)
    | refine wpList_store33 rfl _ _ rfl w.heap.size ({ Ac.none 4 with fr := N1, tgt := N2, dat := D }.cells (.slice none 0 0)).toArray rfl rfl _ hbR2 rfl rfl (Ac.one _ _ _ _) ?_)
  refine bodyPost_ret (res33 rfl _ _ w.heap.size _ rfl (setRow_heap _ _ _ _ _ _ hbR2) (by rfl)) rfl ?_
  rw [HG.out]
  exact GuessP.bare rfl ((((Ext.alloc _ _).trans hx1).trans hx2).setRow _ _ (Nat.le_refl _))
set_option maxRecDepth 100000 in
set_option maxHeartbeats 2000000 in
theorem rguess_none (s : List UInt8) (l : List (List UInt8)) (w : World) (hl : l = spl 32 s) (hs : s.length ≤ 4000000000) (h1 : rat l 0 ≠ kCall) (h2 : rat l 0 ≠ kTick) (h3 : rat l 0 ≠ wFates) (h4 : rat l 0 ≠ kInject) : Calls Tryz.prog 39 #[.string ⟨s.toArray⟩] w (GuessP (rgl l) w) := by
  have HSP := fun W => Lib.hid (split32 s l hl hs W)
  have hne : l ≠ [] := by rw [hl]; exact spl_ne _ _
  have HG : Hid (rgl l = Ac.none 0) := by
    unfold Hid rgl
    rw [if_neg h1, if_neg h2, if_neg h3, if_neg h4]
  obtain ⟨x, hx0⟩ : ∃ x, rat l 0 = x := ⟨_, rfl⟩
  rw [hx0] at h1 h2 h3 h4
  have n1 : (x == [99, 97, 108, 108]) = false := beq_eq_false_iff_ne.2 h1
  have n2 : (x == [116, 105, 99, 107]) = false := beq_eq_false_iff_ne.2 h2
  have n3 : (x == [102, 97, 116, 101, 115]) = false := beq_eq_false_iff_ne.2 h3
  have n4 : (x == [105, 110, 106, 101, 99, 116]) = false := beq_eq_false_iff_ne.2 h4
  have HX := Lib.hid hx0
  clear hl h1 h2 h3 h4 hx0
  go_enter Tryz.func39, Tryz.ntmps39
  go_wp2_with (first
    | (go_at_call 38; refine (HSP _).out.mono ?_; rintro e w1 ⟨⟨v, rfl, hv⟩, hx1⟩; obtain ⟨b, o, cap, rfl, hc0, hpos⟩ := strs_head hv hne HX.out; have hbR := (hx1.block w.heap.size (by simp)).trans (alloc_new w _))
    | refine wpList_store33 rfl _ _ rfl w.heap.size ((Ac.none 0).cells (.slice none 0 0)).toArray rfl rfl _ hbR rfl rfl (Ac.one _ _ _ _) ?_)
  refine bodyPost_ret (res33 rfl _ _ w.heap.size _ rfl (setRow_heap _ _ _ _ _ _ hbR) (by rfl)) rfl ?_
  rw [HG.out]
  exact GuessP.bare rfl (((Ext.alloc _ _).trans hx1).setRow _ _ (Nat.le_refl _))
end Go.Proofs.YtikmoledbiepoaaGreatDoor
/- The reference's guess: a call. -/
namespace Go.Proofs.YtikmoledbiepoaaGreatDoor
open Go.RowKit
set_option linter.unusedSimpArgs false
set_option linter.unusedVariables false
/-- A slice from element k on. -/
def dropV (b q n cap k : Nat) : Value := .slice (if cap = k then some ⟨b, q, none⟩ else some ⟨b, q + k, none⟩) (n - k) (cap - k)
theorem exec_drop {ρ : Operand → Value} {o : Oper} {x y : Operand} {w : World} {b q n cap k : Nat} (ho : o.op = .slice 47 x (some y) none none) (hx : ρ x = .slice (some ⟨b, q, none⟩) n cap) (hy : ρ y = .int .i64 (k : Int)) (hk : k ≤ n) (hn : n ≤ cap) :
    (execOp ρ o).run Tryz.prog w = .ok (.value (dropV b q n cap k)) w := by
  have u47 : Tryz.prog.underlying 47 = some (.slice 9) := und47
  have k0 : (0 : Int) ≤ (k : Int) := by omega
  have k1 : (k : Int) ≤ (n : Int) := by omega
  have k2 : (n : Int) ≤ (cap : Int) := by omega
  have k3 : k ≤ cap := by omega
  unfold dropV
  simp [execOp, go_sem, ho, hx, hy, k0, k1, k2, k3, hk, hn, u47]
theorem strs_drop {w : World} {b q cap : Nat} {l : List (List UInt8)} (h : StrsAt w (.slice (some ⟨b, q, none⟩) l.length cap) l) (k : Nat) (hk : k ≤ l.length) : StrsAt w (dropV b q l.length cap k) (l.drop k) := by
  obtain ⟨a, cap', he, h1, h2, h3⟩ := h
  cases he
  refine ⟨_, cap - k, by unfold dropV; rw [List.length_drop], by rw [List.length_drop]; omega, by omega, fun hn => ?_⟩
  have hlt : k < l.length := by
    rcases Nat.lt_or_ge k l.length with h | h
    · exact h
    · exact absurd (List.drop_eq_nil_of_le h) hn
  obtain ⟨b', o', he, hc⟩ := h3 (by intro e; rw [e] at hlt; simp at hlt)
  cases he
  rw [if_neg (by omega)]
  refine ⟨b, q + k, rfl, fun j x hj => ?_⟩
  rw [List.getElem?_drop] at hj
  rw [Nat.add_assoc]
  exact hc (k + j) x hj
section
variable {ops : Array Oper} {rest : List Oper} {o : Oper} {f : Act} {w w0 w1 : World} {Q : Exit → Act → World → Prop} {C R : Nat} {a : Ac} {fv : Value}
theorem UA.more {W W' : World} (h : UA w0 C R a fv W) (hx : Ext W W') : UA w0 C R a fv W' :=
  ⟨(hx.block _ (lt_of_block h.act)).trans h.act, (hx.block _ (lt_of_block h.res)).trans h.res, h.ext.trans hx, h.rc, h.lo, h.lr⟩
theorem wpList_UAc2 (c : Cal) (hgd : o.guard = none) (x y : Operand) (ho : o.op = .store 28 x y) (hx : f.eval x = .pointer (some ⟨C, 2, none⟩)) (hy : f.eval y = .agg c.cells.toArray) (h0 : UA w0 C R a fv w)
    (h : ∀ W, UA w0 C R { a with call := c } fv W → wpList Tryz.prog ops Q rest (f.put o.dst undef) W) : wpList Tryz.prog ops Q (o :: rest) f w := by
  refine wpList_store_mid hgd 28 x y ho C 2 c.cells.toArray hx hy (there_of_block h0.act 2 16 (by simp [Ac.cells, Cal.cells_length])) inf28 (cal_one _) (h _ (h0.kept (Kept.setCells _ _ _) ?_))
  rw [heap_setCells_self _ _ _ _ h0.act, put_call]
theorem wpList_UAint2 (a' : Ac) (i : Nat) (hgd : o.guard = none) (x y : Operand) (ho : o.op = .store 3 x y) (hx : f.eval x = .pointer (some ⟨C, i, none⟩)) (v u : Int) (hy : f.eval y = .int .i64 v) (h0 : UA w0 C R a fv w) (hi : (a.cells fv).toArray[i]? = some (.int .i64 u))
    (hs : (a.cells fv).toArray.setIfInBounds i (.int .i64 v) = (a'.cells fv).toArray) (hE : Ext w1 w) (hC : w1.heap.size ≤ C)
    (h : ∀ W, UA w0 C R a' fv W → Ext w1 W → wpList Tryz.prog ops Q rest (f.put o.dst undef) W) : wpList Tryz.prog ops Q (o :: rest) f w := by
  refine wpList_plain hgd fun K hK => ?_
  have e0 : w.cell? ⟨C, i, none⟩ = some (.int .i64 u) := by rw [Lib.cell_of_heap h0.act]; exact hi
  have e1 := Lib.frozen_of_heap h0.act i
  have h2 := hK _ _ (h _ (h0.cell i _ hs) (hE.setCell (p := ⟨C, i, none⟩) hC _))
  unfold Oper.wp execOp
  simp only [ho, hx, hy]
  simp [go_sem, e0, e1]
  exact h2
/-- A new action, stored. -/
theorem wpList_UAnew {Z : Array Value} (hgd : o.guard = none) (x y : Operand) (ho : o.op = .store 33 x y) (hx : f.eval x = .pointer (some ⟨w1.heap.size, 0, none⟩)) (a : Ac) (hy : f.eval y = .agg (a.cells (.slice none 0 0)).toArray) (hZ : Z.size = 23)
    (hb : w1.heap[R]? = some (.cells ((Ac.none 0).cells (.slice none 0 0)).toArray 33)) (he : Ext w0 w1) (hR : w0.heap.size ≤ R)
    (h : ∀ W, UA w0 w1.heap.size R a (.slice none 0 0) W → Ext w1 W → wpList Tryz.prog ops Q rest (f.put o.dst undef) W) : wpList Tryz.prog ops Q (o :: rest) f (w1.alloc (.cells Z 33)) := by
  have hlt := lt_of_block hb
  have hx1 : Ext w1 ((w1.alloc (.cells Z 33)).setRow w1.heap.size (a.cells (.slice none 0 0)).toArray) := (Ext.alloc _ _).setRow _ _ (Nat.le_refl _)
  refine wpList_store33 hgd x y ho w1.heap.size (a.cells (.slice none 0 0)).toArray hx hy Z (alloc_new _ _) hZ rfl (Ac.one _ _ _ _) (h _ ⟨setRow_heap _ _ _ _ _ _ (alloc_new _ _), (hx1.block _ hlt).trans hb, he.trans hx1, by omega, he.size, hR⟩ hx1)
end
set_option maxRecDepth 100000 in
set_option maxHeartbeats 4000000 in
theorem rguess_call1 (s : List UInt8) (l : List (List UInt8)) (w : World) (hl : l = spl 32 s) (hs : s.length ≤ 4000000000) (hx0 : rat l 0 = kCall) (hsv : rat l 1 = kServer) : Calls Tryz.prog 39 #[.string ⟨s.toArray⟩] w (GuessP (rgl l) w) := by
  have HSP := fun W => Lib.hid (split32 s l hl hs W)
  have hne : l ≠ [] := by rw [hl]; exact spl_ne _ _
  have hll : ∀ x ∈ l, x.length ≤ 4294967296 := fun x hx => by rw [hl] at hx; have := (spl_len 32 s).2 x hx; omega
  have hlen : l.length ≤ 4294967296 := by rw [hl]; have := (spl_len 32 s).1; omega
  have HA := Lib.hid (show AtIs l 1 [115, 101, 114, 118, 101, 114] from ⟨1, rfl, by decide, hsv⟩)
  obtain ⟨k, hk⟩ : ∃ k, k = min 2 l.length := ⟨_, rfl⟩
  have hkl : k ≤ l.length := by omega
  have hdr : l.drop 2 = l.drop k := by
    rcases Nat.lt_or_ge l.length 2 with h | h
    · rw [List.drop_eq_nil_of_le (by omega), List.drop_eq_nil_of_le (by omega)]
    · rw [show k = 2 by omega]
  obtain ⟨c, hc⟩ : ∃ c, c = rgc (l.drop k) := ⟨_, rfl⟩
  have HG : Hid (rgl l = { Ac.none 1 with side := 1, call := c }) := by
    unfold Hid rgl
    rw [hx0, if_pos rfl, hsv, if_pos rfl, hdr, hc]
    try rfl
  have HC : ∀ (v : Value) (W : World), StrsAt W v (l.drop k) → Hid (Calls Tryz.prog 62 #[v] W fun e w' => e = .returned (.agg c.cells.toArray) ∧ Ext W w') := fun v W hv => by
    have := rgc_any (l.drop k) v W hv (fun x hx => hll x (List.mem_of_mem_drop hx))
    rw [← hc] at this
    exact this
  have hmin : min (2 : Int) (l.length : Int) = (k : Int) := by omega
  have HK := Lib.hid hkl
  clear hl hc hdr hk hsv hll
  go_enter Tryz.func39, Tryz.ntmps39
  go_wp2_with (first
    | (go_at_call 38; refine (HSP _).out.mono ?_; rintro e w1 ⟨⟨v, rfl, hv⟩, hx1⟩; obtain ⟨b, o, cap, rfl, hc0, hpos⟩ := strs_head hv hne hx0; have hbR := (hx1.block w.heap.size (by simp)).trans (alloc_new w _))
    | (refine wpList_UAnew rfl _ _ rfl rfl (Ac.none 1) rfl rfl hbR ((Ext.alloc _ _).trans hx1) (Nat.le_refl _) ?_; intro W2 hU hE; have hv2 := hv.ext hE)
    | (go_at_call 61; refine (at_is l _ _ _ HA.out _ hv2).mono ?_; rintro e W ⟨rfl, rfl⟩)
    | (refine wpList_UAint2 { Ac.none 1 with side := 1 } 1 rfl _ _ rfl rfl _ _ rfl hU rfl rfl hE (Nat.le_refl _) ?_; clear hU hE hv2; intro W3 hU hE; have hv2 := hv.ext hE)
    | refine wpList_runs 23 rfl rfl (dropV b o l.length cap k) _ (exec_drop rfl rfl rfl HK.out (by obtain ⟨_, _, he, h1, _⟩ := hv; cases he; exact h1)) ?_
    | (go_at_call 62; refine (HC _ _ (strs_drop hv2 k HK.out)).out.mono ?_; rintro e W4 ⟨rfl, hx4⟩; have hU4 := hU.more hx4; clear hU)
    | (refine wpList_UAc2 c rfl _ _ rfl rfl rfl hU4 ?_; clear hU4; intro W5 hU5)
    | refine wpList_load33 (by rfl) _ rfl _ rfl _ hU5.act rfl ?_
    | refine wpList_store33 rfl _ _ rfl w.heap.size _ rfl rfl _ hU5.res rfl rfl (Ac.one _ _ _ _) ?_)
  refine bodyPost_ret (res33 rfl _ _ w.heap.size _ rfl (setRow_heap _ _ _ _ _ _ hU5.res) (by rfl)) rfl ?_
  rw [HG.out]
  exact GuessP.bare rfl (hU5.ext.setRow _ _ (Nat.le_refl _))
set_option maxRecDepth 100000 in
set_option maxHeartbeats 4000000 in
theorem rguess_call0 (s : List UInt8) (l : List (List UInt8)) (w : World) (hl : l = spl 32 s) (hs : s.length ≤ 4000000000) (hx0 : rat l 0 = kCall) (hsv : rat l 1 ≠ kServer) : Calls Tryz.prog 39 #[.string ⟨s.toArray⟩] w (GuessP (rgl l) w) := by
  have HSP := fun W => Lib.hid (split32 s l hl hs W)
  have hne : l ≠ [] := by rw [hl]; exact spl_ne _ _
  have hll : ∀ x ∈ l, x.length ≤ 4294967296 := fun x hx => by rw [hl] at hx; have := (spl_len 32 s).2 x hx; omega
  have hlen : l.length ≤ 4294967296 := by rw [hl]; have := (spl_len 32 s).1; omega
  obtain ⟨y1, hy1⟩ : ∃ y1, y1 = rat l 1 := ⟨_, rfl⟩
  have n1 : (y1 == [115, 101, 114, 118, 101, 114]) = false := beq_eq_false_iff_ne.2 (by rw [hy1]; exact hsv)
  have HA := Lib.hid (show AtIs l 1 y1 from ⟨1, rfl, by decide, hy1.symm⟩)
  obtain ⟨k, hk⟩ : ∃ k, k = min 2 l.length := ⟨_, rfl⟩
  have hkl : k ≤ l.length := by omega
  have hdr : l.drop 2 = l.drop k := by
    rcases Nat.lt_or_ge l.length 2 with h | h
    · rw [List.drop_eq_nil_of_le (by omega), List.drop_eq_nil_of_le (by omega)]
    · rw [show k = 2 by omega]
  obtain ⟨c, hc⟩ : ∃ c, c = rgc (l.drop k) := ⟨_, rfl⟩
  have HG : Hid (rgl l = { Ac.none 1 with call := c }) := by
    unfold Hid rgl
    rw [hx0, if_pos rfl, if_neg hsv, hdr, hc]
    try rfl
  have HC : ∀ (v : Value) (W : World), StrsAt W v (l.drop k) → Hid (Calls Tryz.prog 62 #[v] W fun e w' => e = .returned (.agg c.cells.toArray) ∧ Ext W w') := fun v W hv => by
    have := rgc_any (l.drop k) v W hv (fun x hx => hll x (List.mem_of_mem_drop hx))
    rw [← hc] at this
    exact this
  have hmin : min (2 : Int) (l.length : Int) = (k : Int) := by omega
  have HK := Lib.hid hkl
  clear hl hc hdr hk hsv hll hy1
  go_enter Tryz.func39, Tryz.ntmps39
  go_wp2_with (first
    | (go_at_call 38; refine (HSP _).out.mono ?_; rintro e w1 ⟨⟨v, rfl, hv⟩, hx1⟩; obtain ⟨b, o, cap, rfl, hc0, hpos⟩ := strs_head hv hne hx0; have hbR := (hx1.block w.heap.size (by simp)).trans (alloc_new w _))
    | (refine wpList_UAnew rfl _ _ rfl rfl (Ac.none 1) rfl rfl hbR ((Ext.alloc _ _).trans hx1) (Nat.le_refl _) ?_; intro W2 hU hE; have hv2 := hv.ext hE)
    | (go_at_call 61; refine (at_is l _ _ _ HA.out _ hv2).mono ?_; rintro e W ⟨rfl, rfl⟩)
    | refine wpList_runs 23 rfl rfl (dropV b o l.length cap k) _ (exec_drop rfl rfl rfl HK.out (by obtain ⟨_, _, he, h1, _⟩ := hv; cases he; exact h1)) ?_
    | (go_at_call 62; refine (HC _ _ (strs_drop hv2 k HK.out)).out.mono ?_; rintro e W4 ⟨rfl, hx4⟩; have hU4 := hU.more hx4; clear hU)
    | (refine wpList_UAc2 c rfl _ _ rfl rfl rfl hU4 ?_; clear hU4; intro W5 hU5)
    | refine wpList_load33 (by rfl) _ rfl _ rfl _ hU5.act rfl ?_
    | refine wpList_store33 rfl _ _ rfl w.heap.size _ rfl rfl _ hU5.res rfl rfl (Ac.one _ _ _ _) ?_)
  refine bodyPost_ret (res33 rfl _ _ w.heap.size _ rfl (setRow_heap _ _ _ _ _ _ hU5.res) (by rfl)) rfl ?_
  rw [HG.out]
  exact GuessP.bare rfl (hU5.ext.setRow _ _ (Nat.le_refl _))
end Go.Proofs.YtikmoledbiepoaaGreatDoor
/- The reference's guess: fates. -/
namespace Go.Proofs.YtikmoledbiepoaaGreatDoor
open Go.RowKit
set_option linter.unusedSimpArgs false
set_option linter.unusedVariables false
theorem ent63r : Ent 63 := enters_of Tryz.func63 (by kernel_rfl) rfl
/-- What the operations of 'append(a.Fates, number(l[i]))' yield. -/
def EG (F : Nat) (vl v0 : Value) (b q j : Nat) (x : List UInt8) (xs : List Int) (n : Int) (i : Nat) (v : Value) (w : World) : Prop := match i with
  | 0 => v = .pointer (some ⟨F, 19, none⟩)
  | 1 => v = v0
  | 2 => v = vl
  | 3 => v = .int .i64 (j : Int)
  | 4 => v = .pointer (some ⟨b, q + j, none⟩)
  | 5 => v = .string ⟨x.toArray⟩
  | 6 => v = .int .i64 n
  | 7 => ∃ g, v = .slice (some ⟨g, 0, none⟩) 1 1 ∧ F + 1 ≤ g ∧ v0.ownBlock ≠ some g ∧ w.heap[g]? = some (.cells #[.int .i64 n] 3)
  | 8 => ∃ s m c, v = .slice s m c ∧ w.ownsRow (F + 1) 3 1 (.slice s m c) (xs.length + 1) (xs.map vI ++ [vI n])
  | 9 => v = .pointer (some ⟨F, 19, none⟩)
  | _ => True
theorem EG.same {F : Nat} {vl v0 : Value} {b q i : Nat} {x : List UInt8} {xs : List Int} {n : Int} {j : Nat} {u : Value} {w w' : World} (h : EG F vl v0 b q i x xs n j u w) (h7 : j ≠ 7) (h8 : j ≠ 8) : EG F vl v0 b q i x xs n j u w' := by
  match j, h7, h8, h with
  | 0, _, _, h => exact h
  | 1, _, _, h => exact h
  | 2, _, _, h => exact h
  | 3, _, _, h => exact h
  | 4, _, _, h => exact h
  | 5, _, _, h => exact h
  | 6, _, _, h => exact h
  | 7, h7, _, _ => exact absurd rfl h7
  | 8, _, h8, _ => exact absurd rfl h8
  | 9, _, _, h => exact h
  | k + 10, _, _, _ => exact trivial
/-- The world meanwhile. -/
structure EW (w1 : World) (v0 : Value) (xs : List Int) (n : Int) (b8 b10 : Bool) (wq : World) : Prop where
  ext : Ext w1 wq
  row : b8 = false → wq.ownsRow (w1.heap.size + 1) 3 1 v0 xs.length (xs.map vI)
  old : b10 = false → wq.heap[w1.heap.size]? = some (.cells ((Ac.none 3).cells v0).toArray 33)
  new : b10 = true → ∃ s m c, wq.heap[w1.heap.size]? = some (.cells ((Ac.none 3).cells (.slice s m c)).toArray 33) ∧ wq.ownsRow (w1.heap.size + 1) 3 1 (.slice s m c) (xs.length + 1) (xs.map vI ++ [vI n])
theorem EW.step {w1 : World} {v0 : Value} {xs : List Int} {n : Int} {b8 b10 : Bool} {wq wz : World} {S : Nat → Prop} (h : EW w1 v0 xs n b8 b10 wq) (hk : Kept S wq wz) (hS : ∀ k, k < w1.heap.size + 1 → ¬ S k)
    (hrow : b8 = false → wz.ownsRow (w1.heap.size + 1) 3 1 v0 xs.length (xs.map vI)) (h10 : b10 = false) : EW w1 v0 xs n b8 b10 wz where
  ext := h.ext.kept hk (fun k hk => hS k (by omega))
  row := hrow
  old := fun hb => (hk.block _ (lt_of_block (h.old hb)) (hS _ (by omega))).trans (h.old hb)
  new := fun hb => by rw [h10] at hb; cases hb
theorem fates_take {l : List (List UInt8)} {j : Nat} {x : List UInt8} (h : l[j]? = some x) (hj : 1 ≤ j) : ((l.take (j + 1)).drop 1).map (fun y => ((rnum y : Nat) : Int)) = (((l.take j).drop 1).map fun y => ((rnum y : Nat) : Int)) ++ [((rnum x : Nat) : Int)] := by
  have hl := (List.getElem?_eq_some_iff.1 h).1
  rw [List.take_add_one, h, List.drop_append_of_le_length (by rw [List.length_take]; omega), List.map_append]
  rfl
set_option maxRecDepth 100000 in
set_option maxHeartbeats 4000000 in
theorem rguess_fates (s : List UInt8) (l : List (List UInt8)) (w : World) (hl : l = spl 32 s) (hs : s.length ≤ 4000000000) (hx0 : rat l 0 = wFates) : Calls Tryz.prog 39 #[.string ⟨s.toArray⟩] w (GuessP (rgl l) w) := by
  have HSP := fun W => Lib.hid (split32 s l hl hs W)
  have hne : l ≠ [] := by rw [hl]; exact spl_ne _ _
  have hlen : l.length ≤ 4294967296 := by rw [hl]; have := (spl_len 32 s).1; omega
  have hl1 : 1 ≤ l.length := List.length_pos_iff.2 hne
  have HG : Hid (rgl l = { Ac.none 3 with fates := (l.drop 1).map fun x => ((rnum x : Nat) : Int) }) := by
    unfold Hid rgl
    rw [hx0, if_neg (by decide), if_neg (by decide), if_pos rfl]
  clear hl
  go_enter Tryz.func39, Tryz.ntmps39
  go_wp2_with (first
    | (go_at_call 38; refine (HSP _).out.mono ?_; rintro e w1 ⟨⟨v, rfl, hv⟩, hx1⟩; obtain ⟨b, q, cap, rfl, hc0, hpos⟩ := strs_head hv hne hx0; have hbR := (hx1.block w.heap.size (by simp)).trans (alloc_new w _))
    | (refine wpList_UAnew rfl _ _ rfl rfl (Ac.none 3) rfl rfl hbR ((Ext.alloc _ _).trans hx1) (Nat.le_refl _) ?_; intro W2 hU hE))
  have hxw1 : Ext w w1 := (Ext.alloc _ _).trans hx1
  have hwl : w.heap.size < w1.heap.size := lt_of_block hbR
  go_loopw [6] (fun i wq => ∃ (j : Nat) (xs : List Int) (s1 : Option Addr) (n1 c1 : Nat), 1 ≤ j ∧ j ≤ l.length ∧ i = .int .i64 j ∧ Hid (xs = ((l.take j).drop 1).map fun y => ((rnum y : Nat) : Int)) ∧ xs.length ≤ j ∧
    wq.heap[w1.heap.size]? = some (.cells ((Ac.none 3).cells (.slice s1 n1 c1)).toArray 33) ∧ wq.ownsRow (w1.heap.size + 1) 3 1 (.slice s1 n1 c1) xs.length (xs.map vI) ∧ Ext w1 wq) (fun i _ => l.length - (intOf i).toNat)
  case atStart =>
    refine ⟨1, [], none, 0, 0, Nat.le_refl _, hl1, rfl, ?_, by simp, hU.act, World.ownsRow_nil _ _ _ _, hE⟩
    unfold Hid
    rw [List.drop_eq_nil_of_le (by rw [List.length_take]; omega)]
    rfl
  case round =>
    obtain ⟨j, xs, s1, n1, c1, hj1, hj, rfl, HXS, hxl, hb1, hrow, hx⟩ := hrel
    have i0 : (0 : Int) ≤ (j : Int) := by omega
    by_cases hlt : j < l.length
    · have i1 : (j : Int) < (l.length : Int) := by omega
      obtain ⟨_, _, he, hlc, _, hcc⟩ := id hv
      cases he
      obtain ⟨b', q', he, hcell⟩ := hcc hne
      cases he
      obtain ⟨x, hxx⟩ : ∃ x, l[j]? = some x := ⟨_, List.getElem?_eq_getElem hlt⟩
      have c2 := hcell j x hxx
      have c2l := cell_lt c2
      obtain ⟨n, hn, HN⟩ := num_ex3 x
      have HST : Hid (xs ++ [n] = ((l.take (j + 1)).drop 1).map fun y => ((rnum y : Nat) : Int)) := by
        unfold Hid
        rw [fates_take hxx hj1, ← HXS.out, hn.out]
      clear hcell hcc hxx hn HXS
      go_upto_region 16 with fail
      obtain ⟨i0', hi, j0, j1, j2⟩ := info_parts Tryz.info3
      have hvb : ∀ g, (Value.slice s1 n1 c1).ownBlock = some g → w1.heap.size + 1 ≤ g ∧ g < wr.heap.size := hrow.lt
      have hlx : xs.length ≤ 4294967296 := by omega
      refine wp_region_gen (EG w1.heap.size (.slice (some ⟨b, q, none⟩) l.length cap) (.slice s1 n1 c1) b q j x xs n) (fun c wq => EW w1 (.slice s1 n1 c1) xs n (c 8) (c 10) wq ∧ wr.heap.size ≤ wq.heap.size) mixedOrd (by kernel_rfl) (by kernel_rfl) (by kernel_rfl)
        ⟨⟨⟨hx.os, hx.tape, hx.output, hx.size, hx.block⟩, fun _ => hrow, fun _ => hb1, (fun h => by cases h)⟩, Nat.le_refl _⟩ ?_ ?_
      · refine ⟨?_, ?_, ?_, ?_, ?_, ?_, ?_, ?_, ?_, ?_, ?_, trivial⟩
        · intro a' w' c hdf hso hs hW
          have h0 : a'.tmps[5]? = some (.pointer (some ⟨w1.heap.size, 0, none⟩)) := hs.old 5 rfl
          exact wpOp_val rfl rfl (by simp [execOp, go_sem, h0]) ⟨_, rfl, .inr rfl, hW, fun _ _ _ h => h⟩
        · intro a' w' c hdf hso hs hW
          obtain ⟨v, h0, rfl⟩ := hs.made 0 42 rfl rfl
          have hb7 : c 10 = false := hso.not 10 rfl rfl
          have e0 : w'.cell? ⟨w1.heap.size, 19, none⟩ = some (.slice s1 n1 c1) := by rw [Lib.cell_of_heap (hW.1.old hb7)]; rfl
          exact wpOp_val rfl rfl (by simp [execOp, go_sem, h0, e0]) ⟨_, rfl, .inr rfl, hW, fun _ _ _ h => h⟩
        · intro a' w' c hdf hso hs hW
          have h0 : a'.tmps[3]? = some (.slice (some ⟨b, q, none⟩) l.length cap) := hs.old 3 rfl
          exact wpOp_val rfl rfl (by simp [execOp, go_sem, h0]) ⟨_, rfl, .inr rfl, hW, fun _ _ _ h => h⟩
        · intro a' w' c hdf hso hs hW
          have h0 : a'.tmps[6]? = some (.int .i64 (j : Int)) := hs.old 6 rfl
          exact wpOp_val rfl rfl (by simp [execOp, go_sem, h0]) ⟨_, rfl, .inr rfl, hW, fun _ _ _ h => h⟩
        · intro a' w' c hdf hso hs hW
          obtain ⟨v, h0, rfl⟩ := hs.made 2 44 rfl rfl
          obtain ⟨v, h1, rfl⟩ := hs.made 3 45 rfl rfl
          exact wpOp_val rfl rfl (by simp [execOp, go_sem, h0, h1, i0, i1]) ⟨_, rfl, .inr rfl, hW, fun _ _ _ h => h⟩
        · intro a' w' c hdf hso hs hW
          obtain ⟨v, h0, rfl⟩ := hs.made 4 46 rfl rfl
          have e0 := (hW.1.ext.cell (p := ⟨b, q + j, none⟩) c2l).trans c2
          unfold vS at e0
          exact wpOp_val rfl rfl (by simp [execOp, go_sem, h0, e0]) ⟨_, rfl, .inr rfl, hW, fun _ _ _ h => h⟩
        · intro a' w' c hdf hso hs hW
          obtain ⟨v, h0, rfl⟩ := hs.made 5 47 rfl rfl
          refine wpOp_call (f := 63) (args := #[.string ⟨x.toArray⟩]) rfl rfl (exec_call rfl rfl ent63r (by simp [ev h0])) ?_
          refine (HN w').out.mono ?_
          rintro e w'' ⟨rfl, rfl⟩
          exact ⟨_, rfl, _, rfl, .inr rfl, hW, fun _ _ _ h => h⟩
        · intro a' w' c hdf hso hs hW
          obtain ⟨v, h0, rfl⟩ := hs.made 6 48 rfl rfl
          have hb5 : c 8 = false := hso.not 8 rfl rfl
          have hb7 : c 10 = false := hso.not 10 rfl rfl
          have hxa : Ext w' (w'.alloc (.cells #[.int .i64 n] 3)) := Ext.alloc _ _
          refine wpOp_val (w' := w'.alloc (.cells #[.int .i64 n] 3)) (v := .slice (some ⟨w'.heap.size, 0, none⟩) 1 1) rfl rfl (by simp [execOp, go_sem, h0]) ⟨_, rfl, .inr ⟨w'.heap.size, rfl, ?_, ?_, alloc_new _ _⟩, ⟨hW.1.step (S := fun _ => False) (Kept.of_below hxa) (fun _ _ h => h) (fun hb => ownsRow_ext (hW.1.row hb) hxa) hb7, Nat.le_trans hW.2 hxa.size⟩, ?_⟩
          · exact lt_of_block (hW.1.old hb7)
          · intro e; have := (hvb _ e).2; have := hW.2; omega
          · intro k u hbk hG
            refine EG.same hG ?_ ?_
            · rintro rfl; have := hso.undone; rw [Nat.zero_add] at this; rw [this] at hbk; cases hbk
            · rintro rfl; rw [hb5] at hbk; cases hbk
        · intro a' w' c hdf hso hs hW
          obtain ⟨v, h0, rfl⟩ := hs.made 1 43 rfl rfl
          obtain ⟨v, h1, g, rfl, hg1, hg2, hg3⟩ := hs.made 7 49 rfl rfl
          have hb5 : c 8 = false := hso.undone
          have hb7 : c 10 = false := hso.not 10 rfl rfl
          refine wpOp_wp rfl rfl (wp_append_lies w' _ _ 29 rfl (w1.heap.size + 1) 3 i0' (.int .i64 0) 1 8 und29 hi j0 j1 j2 rfl (by omega) _ _ _ (ev h0) (hW.1.row hb5) ⟨g, 0, none⟩ 1 1 [.int .i64 n] (ev h1) rfl (World.news_of_block hg3) (by simp [Value.oneCell']) (by omega) (by unfold maxLen; omega) (by omega) (lt_of_block (hW.1.old hb7)) w'.heap.size rfl ?_)
          intro g' cap' w'' hown hgrow hat hlt2
          have hkg : Kept (fun k => (Value.slice s1 n1 c1).ownBlock = some k) w' w'' := ⟨hgrow.os, hgrow.tape, hgrow.output, hgrow.size, fun k hk1 hk2 => hgrow.block k hk1 (fun e => hk2 e.symm)⟩
          refine ⟨_, rfl, .inr ⟨_, _, _, rfl, hown⟩, ⟨?_, Nat.le_trans hW.2 hgrow.size⟩, ?_⟩
          · have hT : EW w1 (.slice s1 n1 c1) xs n true (c 10) w' := { hW.1 with row := fun h => by cases h }
            exact hT.step hkg (fun k hk1 hk2 => by have := (hvb k hk2).1; omega) (fun h => by cases h) hb7
          · intro k u hbk hG
            by_cases h4 : k = 7
            · subst h4
              obtain ⟨g4, e1, e2, e3, e4⟩ := hG
              exact ⟨g4, e1, e2, e3, (hgrow.block g4 (lt_of_block e4) (fun e => e3 e.symm)).trans e4⟩
            · exact EG.same hG h4 (by rintro rfl; rw [hb5] at hbk; cases hbk)
        · intro a' w' c hdf hso hs hW
          have h0 : a'.tmps[5]? = some (.pointer (some ⟨w1.heap.size, 0, none⟩)) := hs.old 5 rfl
          exact wpOp_val rfl rfl (by simp [execOp, go_sem, h0]) ⟨_, rfl, .inr rfl, hW, fun _ _ _ h => h⟩
        · intro a' w' c hdf hso hs hW
          obtain ⟨v, h0, rfl⟩ := hs.made 9 51 rfl rfl
          obtain ⟨v, h1, s2, m2, c2', rfl, hown⟩ := hs.made 8 50 rfl rfl
          have hb7 : c 10 = false := hso.undone
          have hb5 : c 8 = true := hso.ready 8 rfl
          have hold := hW.1.old hb7
          have e0 : w'.cell? ⟨w1.heap.size, 19, none⟩ = some (.slice s1 n1 c1) := by rw [Lib.cell_of_heap hold]; rfl
          have e1 : w'.frozen? ⟨w1.heap.size, 19, none⟩ = false := Lib.frozen_of_heap hold 19
          have hks : Kept (· = w1.heap.size) w' (w'.setCell ⟨w1.heap.size, 19, none⟩ (.slice s2 m2 c2')) := Kept.setCell (S := (· = w1.heap.size)) w' (p := ⟨w1.heap.size, 19, none⟩) rfl _
          have hF := hW.1
          refine wpOp_skip (w' := w'.setCell ⟨w1.heap.size, 19, none⟩ (.slice s2 m2 c2')) rfl rfl (by simp [execOp, go_sem, h0, h1, e0, e1]) ⟨undef, rfl, .inl rfl, ⟨⟨?_, ?_, ?_, ?_⟩, Nat.le_trans hW.2 hks.size⟩, ?_⟩
          · exact hF.ext.setCell (p := ⟨w1.heap.size, 19, none⟩) (Nat.le_refl _) _
          · intro h
            have h' : c 8 = false := h
            rw [hb5] at h'; cases h'
          · intro h; cases h
          · intro _; exact ⟨s2, m2, c2', by rw [heap_setCell_self hold]; rfl, ownsRow_kept hown hks (fun g hgg h => by omega)⟩
          · intro k u hbk hG
            by_cases h4 : k = 7
            · subst h4
              obtain ⟨g4, f1, f2, f3, f4⟩ := hG
              exact ⟨g4, f1, f2, f3, (hks.block g4 (lt_of_block f4) (by omega)).trans f4⟩
            · by_cases h5 : k = 8
              · subst h5
                obtain ⟨s5, m5, c5, f1, f2⟩ := hG
                exact ⟨s5, m5, c5, f1, ownsRow_kept f2 hks (fun g hgg h => by omega)⟩
              · exact EG.same hG h4 h5
      · intro a' w' c hb hs hW
        obtain ⟨v42, h42, _⟩ := hs.made 0 42 rfl
        obtain ⟨v43, h43, _⟩ := hs.made 1 43 rfl
        obtain ⟨v44, h44, _⟩ := hs.made 2 44 rfl
        obtain ⟨v45, h45, _⟩ := hs.made 3 45 rfl
        obtain ⟨v46, h46, _⟩ := hs.made 4 46 rfl
        obtain ⟨v47, h47, _⟩ := hs.made 5 47 rfl
        obtain ⟨v48, h48, _⟩ := hs.made 6 48 rfl
        obtain ⟨v49, h49, _⟩ := hs.made 7 49 rfl
        obtain ⟨v50, h50, _⟩ := hs.made 8 50 rfl
        obtain ⟨v51, h51, _⟩ := hs.made 9 51 rfl
        have ha := act_putAll [(42, v42), (43, v43), (44, v44), (45, v45), (46, v46), (47, v47), (48, v48), (49, v49), (50, v50), (51, v51)] hs.defers hs.size (by simp [h42, h43, h44, h45, h46, h47, h48, h49, h50, h51]) rfl hs.old
        clear hs h42 h43 h44 h45 h46 h47 h48 h49 h50 h51
        have hF := hW.1
        obtain ⟨s2, m2, c3, hn1, hn2⟩ := hF.new (hb 10 (by decide))
        have hxF := hF.ext
        have hn3 : w'.ownsRow (w1.heap.size + 1) 3 1 (.slice s2 m2 c3) (xs ++ [n]).length ((xs ++ [n]).map vI) := by
          rw [List.length_append, List.map_append]; exact hn2
        clear hb hW hF hn2
        simp only [putAll, Act.put] at ha
        subst ha
        go_frame
        go_wp2_with fail
        go_roundw
        case rel => exact ⟨j + 1, xs ++ [n], s2, m2, c3, by omega, by omega, by go_num, HST, by rw [List.length_append]; simp; omega, hn1, hn3, hxF⟩
        case measure => simp [intOf]; omega
    · have i1 : ¬ (j : Int) < (l.length : Int) := by omega
      have hbR2 := (hx.block _ hwl).trans hbR
      have HX : Hid (xs = (l.drop 1).map fun y => ((rnum y : Nat) : Int)) := by
        have := HXS.out
        rw [List.take_of_length_le (by omega)] at this
        exact this
      have hks : Kept (· = w.heap.size) wr (wr.setRow w.heap.size ((Ac.none 3).cells (.slice s1 n1 c1)).toArray) := ⟨rfl, rfl, rfl, by simp, fun k _ hk => setRow_other _ _ _ _ hk⟩
      have hrow2 := ownsRow_kept hrow hks (fun g hg h => by omega)
      have hrow3 := Lib.hid hrow2
      clear HXS hrow2 hks
      go_wp2_with (first
        | refine wpList_load33 (by rfl) _ rfl w1.heap.size rfl _ hb1 rfl ?_
        | refine wpList_store33 rfl _ _ rfl w.heap.size ((Ac.none 3).cells (.slice s1 n1 c1)).toArray rfl rfl _ hbR2 rfl rfl (Ac.one _ _ _ _) ?_)
      refine bodyPost_ret (res33 rfl _ _ w.heap.size _ rfl (setRow_heap _ _ _ _ _ _ hbR2) (by rfl)) rfl ?_
      rw [HG.out, ← HX.out]
      obtain ⟨f1, f2⟩ := fates_row hrow3.out
      exact ⟨s1, n1, c1, rfl, f1, f2, (hxw1.trans hx).setRow _ _ (Nat.le_refl _)⟩
/-- guess. -/
theorem rguess_any (s : List UInt8) (w : World) (hs : s.length ≤ 4000000000) : Calls Tryz.prog 39 #[.string ⟨s.toArray⟩] w (GuessP (rguess s) w) := by
  unfold rguess
  by_cases h1 : rat (spl 32 s) 0 = kCall
  · by_cases hsv : rat (spl 32 s) 1 = kServer
    · exact rguess_call1 s _ w rfl hs h1 hsv
    · exact rguess_call0 s _ w rfl hs h1 hsv
  by_cases h2 : rat (spl 32 s) 0 = kTick
  · exact rguess_tick s _ w rfl hs h2
  by_cases h3 : rat (spl 32 s) 0 = wFates
  · exact rguess_fates s _ w rfl hs h3
  by_cases h4 : rat (spl 32 s) 0 = kInject
  · exact rguess_inject s _ w rfl hs h4
  exact rguess_none s _ w rfl hs h1 h2 h3 h4
end Go.Proofs.YtikmoledbiepoaaGreatDoor

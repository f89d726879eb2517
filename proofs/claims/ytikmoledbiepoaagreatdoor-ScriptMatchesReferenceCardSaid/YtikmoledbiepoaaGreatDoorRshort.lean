/- short: an action whose strings and lists are short. -/
import Derived.Test.YtikmoledbiepoaaGreatDoorRmix
namespace Go.Proofs.YtikmoledbiepoaaGreatDoor
open Go.RowKit
set_option linter.unusedSimpArgs false
set_option linter.unusedVariables false
/-- short. -/
def Ac.cut (a : Ac) : Ac := { a with call := { a.call with s := a.call.s.take 2010, tick := a.call.tick.take 210, sec := a.call.sec.take 20 }, dat := a.dat.take 1030, fates := a.fates.take 70 }
theorem wpList_UAcellK {ops : Array Oper} {rest : List Oper} {o : Oper} {f : Act} {w w0 : World} {Q : Exit → Act → World → Prop} {C R : Nat} {a : Ac} {fv : Value} (a' : Ac) (fv' : Value) (i : Nat) (T : TypeId) (hgd : o.guard = none) (x y : Operand) (ho : o.op = .store T x y) (hx : f.eval x = .pointer (some ⟨C, i, none⟩)) (u v : Value) (hy : f.eval y = v) (h0 : UA w0 C R a fv w) (hi : (a.cells fv).toArray[i]? = some u)
    (hs : (a.cells fv).toArray.setIfInBounds i v = (a'.cells fv').toArray) (hr : ∀ w : World, w.cell? ⟨C, i, none⟩ = some u → w.frozen? ⟨C, i, none⟩ = false → (Instr.storeAt T (.pointer (some ⟨C, i, none⟩)) v).run Tryz.prog w = .ok () (w.setCell ⟨C, i, none⟩ v))
    (h : ∀ W, UA w0 C R a' fv' W → Kept (· = C) w W → wpList Tryz.prog ops Q rest (f.put o.dst undef) W) : wpList Tryz.prog ops Q (o :: rest) f w := by
  have e0 : w.cell? ⟨C, i, none⟩ = some u := by rw [Lib.cell_of_heap h0.act]; exact hi
  have e1 := Lib.frozen_of_heap h0.act i
  refine wpList_runs0 hgd (w.setCell ⟨C, i, none⟩ v) ?_ (h _ (h0.cell i v hs) (Kept.setCell (S := (· = C)) w (p := ⟨C, i, none⟩) rfl v))
  unfold execOp
  simp only [ho, hx, hy, Sem.run_bind, hr w e0 e1]
  rfl
theorem exec_slf {ρ : Operand → Value} {o : Oper} {x y : Operand} {w : World} {b q n cap k : Nat} (ho : o.op = .slice 29 x none (some y) none) (hx : ρ x = .slice (some ⟨b, q, none⟩) n cap) (hy : ρ y = .int .i64 (k : Int)) (hk : k ≤ n) (hn : n ≤ cap) :
    (execOp ρ o).run Tryz.prog w = .ok (.value (.slice (some ⟨b, q, none⟩) k cap)) w := by
  have u29 : Tryz.prog.underlying 29 = some (.slice 3) := und29
  have k0 : (0 : Int) ≤ (k : Int) := by omega
  have k1 : (k : Int) ≤ (n : Int) := by omega
  have k2 : (n : Int) ≤ (cap : Int) := by omega
  have k3 : (k : Int) ≤ (cap : Int) := by omega
  have k4 : k ≤ cap := by omega
  simp [execOp, go_sem, ho, hx, hy, k0, k1, k2, k3, k4, hk, hn, u29]
theorem exec_sl0 {ρ : Operand → Value} {o : Oper} {x y : Operand} {w : World} {s : Option Addr} {cap : Nat} (ho : o.op = .slice 29 x none (some y) none) (hx : ρ x = .slice s 0 cap) (hy : ρ y = .int .i64 0) :
    ∃ s' c', (execOp ρ o).run Tryz.prog w = .ok (.value (.slice s' 0 c')) w := by
  have u29 : Tryz.prog.underlying 29 = some (.slice 3) := und29
  have k2 : (0 : Int) ≤ (cap : Int) := by omega
  cases s with
  | none => exact ⟨_, _, by simp [execOp, go_sem, ho, hx, hy, k2, u29]; exact ⟨rfl, rfl⟩⟩
  | some p => exact ⟨_, _, by simp [execOp, go_sem, ho, hx, hy, k2, u29]; exact ⟨rfl, rfl⟩⟩
theorem exec_ap0 {ρ : Operand → Value} {o : Oper} {x y : Operand} {w : World} {s : Option Addr} {cap : Nat} (ho : o.op = .call { callee := .builtin .append, args := #[x, y], argTypes := #[29, 29] }) (hx : ρ x = .slice none 0 0) (hy : ρ y = .slice s 0 cap) :
    (execOp ρ o).run Tryz.prog w = .ok (.value (.slice none 0 0)) w := by
  have u29 : Tryz.prog.underlying 29 = some (.slice 3) := und29
  obtain ⟨i0, hi, j0, j1, j2⟩ := info_parts Tryz.info3
  cases s with
  | none => simp [execOp, ho, resolve, invoke, builtin, Builtin.append_, Builtin.lenOf, Builtin.firstCells, go_sem, hx, hy, u29, hi, j0, j1, j2]
  | some p => simp [execOp, ho, resolve, invoke, builtin, Builtin.append_, Builtin.lenOf, Builtin.firstCells, go_sem, hx, hy, u29, hi, j0, j1, j2]
theorem wpList_sl0 {ops : Array Oper} {rest : List Oper} {o : Oper} {f : Act} {w : World} {Q : Exit → Act → World → Prop} {s : Option Addr} {cap : Nat} (d : Nat) (hd : o.dst = some d) (hw : Region.wanted o (yielded ops f.tmps) = true) (x y : Operand) (ho : o.op = .slice 29 x none (some y) none) (hx : f.eval x = .slice s 0 cap) (hy : f.eval y = .int .i64 0)
    (h : ∀ s' c', wpList Tryz.prog ops Q rest (f.put o.dst (.slice s' 0 c')) w) : wpList Tryz.prog ops Q (o :: rest) f w := by
  obtain ⟨s', c', h0⟩ := exec_sl0 ho hx hy
  exact wpList_runs d hd hw _ _ h0 (h s' c')
theorem str_cut (s : List UInt8) (k : Nat) (K : Int) (hK : K = k) : ∃ S : List UInt8, Hid (S = s.take k) ∧ (⟨s.toArray⟩ : ByteArray).extract 0 (min (s.length : Int) K).toNat = ⟨S.toArray⟩ := ⟨_, rfl, by rw [hK]; exact ext_take s k⟩
theorem UA.moreK {w0 : World} {C R : Nat} {a : Ac} {fv : Value} {W W' : World} (h : UA w0 C R a fv W) (hx : Ext W W') : UA w0 C R a fv W' :=
  ⟨(hx.block _ (lt_of_block h.act)).trans h.act, (hx.block _ (lt_of_block h.res)).trans h.res, h.ext.trans hx, h.rc, h.lo, h.lr⟩
set_option maxRecDepth 100000 in
set_option maxHeartbeats 4000000 in
theorem rshort_some (a : Ac) (b q cap : Nat) (w : World) (z1 : a.call.s.length ≤ 9223372036854775807) (z2 : a.call.tick.length ≤ 9223372036854775807) (z3 : a.call.sec.length ≤ 9223372036854775807) (z4 : a.dat.length ≤ 9223372036854775807) (hA : FatesAt w (.slice (some ⟨b, q, none⟩) a.fates.length cap) a.fates) (hne : a.fates ≠ []) :
    Calls Tryz.prog 12 #[.agg (a.cells (.slice (some ⟨b, q, none⟩) a.fates.length cap)).toArray] w fun e w' => ∃ s n c, e = .returned (.agg (a.cut.cells (.slice s n c)).toArray) ∧ FatesAt w' (.slice s n c) a.cut.fates ∧ Ext w w' := by
  obtain ⟨S1, HS1, t1⟩ := str_cut a.call.s 2010 2010 rfl
  obtain ⟨S2, HS2, t2⟩ := str_cut a.call.tick 210 210 rfl
  obtain ⟨S3, HS3, t3⟩ := str_cut a.call.sec 20 20 rfl
  obtain ⟨S4, HS4, t4⟩ := str_cut a.dat 1030 1030 rfl
  obtain ⟨_, _, he, hlc, hcm, hcc⟩ := id hA
  cases he
  obtain ⟨b', q', he, hcell⟩ := hcc hne
  cases he
  obtain ⟨k, hk⟩ : ∃ k, k = min a.fates.length 70 := ⟨_, rfl⟩
  have hpos : 0 < a.fates.length := List.length_pos_iff.2 hne
  have hk0 : 0 < k := by omega
  have hkl : k ≤ a.fates.length := by omega
  have hk70 : k ≤ 70 := by omega
  have hmin : min (a.fates.length : Int) 70 = (k : Int) := by omega
  obtain ⟨xs, hxs⟩ : ∃ xs, xs = a.fates.take 70 := ⟨_, rfl⟩
  have hxl : xs.length = k := by rw [hxs, List.length_take]; omega
  have HXS := Lib.hid hxs
  have hnews : ∀ W, Ext w W → ∀ (j : Nat) (u : Value), (xs.map vI)[j]? = some u → W.cell? ((⟨b, q, none⟩ : Addr).add j) = some u := by
    intro W hW j u hj
    rw [List.getElem?_map] at hj
    cases hx : xs[j]? with
    | none => rw [hx] at hj; cases hj
    | some x =>
      rw [hx] at hj
      cases hj
      have hx2 : a.fates[j]? = some x := by
        rw [hxs, List.getElem?_take] at hx
        split at hx
        · exact hx
        · cases hx
      have c := hcell j x hx2
      have c2 := (hW.cell (p := ⟨b, q + j, none⟩) (cell_lt c)).trans c
      exact (congrArg W.cell? (show (⟨b, q, none⟩ : Addr).add j = ⟨b, q + j, none⟩ by cases j <;> simp [Addr.add])).trans c2
  have HNEWS := Lib.hid hnews
  have HF : Hid (a.cut = { a with call := { a.call with s := S1, tick := S2, sec := S3 }, dat := S4, fates := xs }) := by
    unfold Hid Ac.cut
    rw [HS1.out, HS2.out, HS3.out, HS4.out, HXS.out]
  obtain ⟨W0, hW0⟩ : ∃ W0, W0 = (w.alloc (.cells (a.cells (.slice (some ⟨b, q, none⟩) a.fates.length cap)).toArray 33)).alloc (.cells ((Ac.none 0).cells (.slice none 0 0)).toArray 33) := ⟨_, rfl⟩
  have hU : UA w w.heap.size (w.heap.size + 1) a (.slice (some ⟨b, q, none⟩) a.fates.length cap) W0 := by
    subst hW0
    exact ⟨two_first _ _ _, two_second _ _ _, (Ext.alloc _ _).trans (Ext.alloc _ _), by omega, by omega, by omega⟩
  have e1 : W0.cell? ⟨w.heap.size, 6, none⟩ = some (.string ⟨a.call.s.toArray⟩) := by rw [Lib.cell_of_heap hU.act]; rfl
  rw [Ac.cells_eq, acNone_cells] at hW0
  rw [Ac.cells_eq]
  have HW := Lib.hid hW0
  have m1 : (0 : Int) ≤ min (a.call.s.length : Int) 2010 := by omega
  have m2 : min (a.call.s.length : Int) 2010 ≤ (a.call.s.length : Int) := by omega
  have m3 : (0 : Int) ≤ min (a.call.tick.length : Int) 210 := by omega
  have m4 : min (a.call.tick.length : Int) 210 ≤ (a.call.tick.length : Int) := by omega
  have m5 : (0 : Int) ≤ min (a.call.sec.length : Int) 20 := by omega
  have m6 : min (a.call.sec.length : Int) 20 ≤ (a.call.sec.length : Int) := by omega
  have m7 : (0 : Int) ≤ min (a.dat.length : Int) 1030 := by omega
  have m8 : min (a.dat.length : Int) 1030 ≤ (a.dat.length : Int) := by omega
  obtain ⟨i0, hi, j0, j1, j2⟩ := info_parts Tryz.info3
  clear hW0 hk hxs hnews hcell hcc HS1 HS2 HS3 HS4 hne
  go_enter Tryz.func12, Tryz.ntmps12
  go_upto_region 1 with fail
  rw [← HW.out]
  clear HW
  go_upto_region 5 with (first
    | (refine wpList_UAcell { a with call := { a.call with s := S1 } } _ 6 9 rfl _ _ rfl rfl _ (.string ⟨S1.toArray⟩) rfl hU rfl rfl (fun w h1 h2 => st_str _ _ _ _ w h1 h2) ?_; clear e1 hU; intro W1 hU1; have e2 : W1.cell? ⟨w.heap.size, 10, none⟩ = some (.string ⟨a.call.tick.toArray⟩) := by rw [Lib.cell_of_heap hU1.act]; rfl)
    | (refine wpList_UAcell { a with call := { a.call with s := S1, tick := S2 } } _ 10 9 rfl _ _ rfl rfl _ (.string ⟨S2.toArray⟩) rfl hU1 rfl rfl (fun w h1 h2 => st_str _ _ _ _ w h1 h2) ?_; clear e2 hU1; intro W2 hU2; have e3 : W2.cell? ⟨w.heap.size, 11, none⟩ = some (.string ⟨a.call.sec.toArray⟩) := by rw [Lib.cell_of_heap hU2.act]; rfl)
    | (refine wpList_UAcell { a with call := { a.call with s := S1, tick := S2, sec := S3 } } _ 11 9 rfl _ _ rfl rfl _ (.string ⟨S3.toArray⟩) rfl hU2 rfl rfl (fun w h1 h2 => st_str _ _ _ _ w h1 h2) ?_; clear e3 hU2; intro W3 hU3; have e4 : W3.cell? ⟨w.heap.size, 22, none⟩ = some (.string ⟨a.dat.toArray⟩) := by rw [Lib.cell_of_heap hU3.act]; rfl)
    | (refine wpList_UAcell { a with call := { a.call with s := S1, tick := S2, sec := S3 }, dat := S4 } _ 22 9 rfl _ _ rfl rfl _ (.string ⟨S4.toArray⟩) rfl hU3 rfl rfl (fun w h1 h2 => st_str _ _ _ _ w h1 h2) ?_; clear e4 hU3; intro W4 hU4; have e5 : W4.cell? ⟨w.heap.size, 19, none⟩ = some (.slice (some ⟨b, q, none⟩) a.fates.length cap) := by rw [Lib.cell_of_heap hU4.act]; rfl))
  have hbase : w.heap.size + 2 ≤ W4.heap.size := by have := lt_of_block hU4.res; omega
  go_wp2_with (first
    | refine wpList_runs 59 rfl rfl (.slice (some ⟨b, q, none⟩) k cap) _ (exec_slf rfl rfl rfl hkl hlc) ?_
    | (at_builtin; refine wpList_append_lies W4 rfl _ _ 29 rfl (w.heap.size + 2) 3 i0 (.int .i64 0) 1 8 und29 hi j0 j1 j2 rfl (by decide) (.slice none 0 0) 0 [] rfl (World.ownsRow_nil _ _ _ _) ⟨b, q, none⟩ k cap (xs.map vI) rfl (by rw [List.length_map, hxl, Nat.mul_one]) (HNEWS.out W4 hU4.ext) (by intro u hu; obtain ⟨y, _, rfl⟩ := List.mem_map.1 hu; rfl) hk0 (by unfold maxLen; omega) (by omega) hbase _ rfl ?_; intro g cap6 W5 hown hgrow hat hlt5; have hx5 : Ext W4 W5 := ⟨hgrow.os, hgrow.tape, hgrow.output, hgrow.size, fun k hk => hgrow.block k hk (by intro h; cases h)⟩; have hU5 := hU4.moreK hx5; clear e5 hU4)
    | (refine wpList_UAcellK { a with call := { a.call with s := S1, tick := S2, sec := S3 }, dat := S4, fates := xs } (.slice (some ⟨g, 0, none⟩) k cap6) 19 29 rfl _ _ rfl rfl _ (.slice (some ⟨g, 0, none⟩) k cap6) rfl hU5 rfl rfl (fun w h1 h2 => st_sl _ _ _ _ _ _ w h1 h2) ?_; clear hU5; intro W6 hU6 hk6)
    | refine wpList_load33 (by rfl) _ rfl _ rfl _ hU6.act rfl ?_
    | refine wpList_store33 rfl _ _ rfl _ _ rfl rfl _ hU6.res rfl rfl (Ac.one _ _ _ _) ?_)
  refine bodyPost_ret (res33 rfl _ _ (w.heap.size + 1) _ rfl (setRow_heap _ _ _ _ _ _ hU6.res) rfl) rfl ⟨some ⟨g, 0, none⟩, k, cap6, by rw [HF.out], ?_, hU6.ext.setRow _ _ hU6.lr⟩
  rw [HF.out]
  have h6 := ownsRow_kept hown hk6 (fun g hg h => by omega)
  have h7 := ownsRow_kept (S := (· = w.heap.size + 1)) h6 (w' := W6.setRow (w.heap.size + 1) (({ a with call := { a.call with s := S1, tick := S2, sec := S3 }, dat := S4, fates := xs } : Ac).cells (.slice (some ⟨g, 0, none⟩) k cap6)).toArray) ⟨rfl, rfl, rfl, by simp, fun k _ hk => setRow_other _ _ _ _ hk⟩ (fun g hg h => by omega)
  refine (fates_row (B := w.heap.size + 2) (xs := xs) ?_).1
  rw [hxl]
  simpa using h7
set_option maxRecDepth 100000 in
set_option maxHeartbeats 4000000 in
theorem rshort_nil (a : Ac) (p : Option Addr) (cap : Nat) (w : World) (z1 : a.call.s.length ≤ 9223372036854775807) (z2 : a.call.tick.length ≤ 9223372036854775807) (z3 : a.call.sec.length ≤ 9223372036854775807) (z4 : a.dat.length ≤ 9223372036854775807) (hnl : a.fates = []) :
    Calls Tryz.prog 12 #[.agg (a.cells (.slice p 0 cap)).toArray] w fun e w' => ∃ s n c, e = .returned (.agg (a.cut.cells (.slice s n c)).toArray) ∧ FatesAt w' (.slice s n c) a.cut.fates ∧ Ext w w' := by
  obtain ⟨S1, HS1, t1⟩ := str_cut a.call.s 2010 2010 rfl
  obtain ⟨S2, HS2, t2⟩ := str_cut a.call.tick 210 210 rfl
  obtain ⟨S3, HS3, t3⟩ := str_cut a.call.sec 20 20 rfl
  obtain ⟨S4, HS4, t4⟩ := str_cut a.dat 1030 1030 rfl
  have HF : Hid (a.cut = { a with call := { a.call with s := S1, tick := S2, sec := S3 }, dat := S4 }) := by
    unfold Hid Ac.cut
    rw [HS1.out, HS2.out, HS3.out, HS4.out]
    have : a.fates = a.fates.take 70 := by rw [hnl]; rfl
    rw [← this]
  obtain ⟨W0, hW0⟩ : ∃ W0, W0 = (w.alloc (.cells (a.cells (.slice p 0 cap)).toArray 33)).alloc (.cells ((Ac.none 0).cells (.slice none 0 0)).toArray 33) := ⟨_, rfl⟩
  have hU : UA w w.heap.size (w.heap.size + 1) a (.slice p 0 cap) W0 := by
    subst hW0
    exact ⟨two_first _ _ _, two_second _ _ _, (Ext.alloc _ _).trans (Ext.alloc _ _), by omega, by omega, by omega⟩
  have e1 : W0.cell? ⟨w.heap.size, 6, none⟩ = some (.string ⟨a.call.s.toArray⟩) := by rw [Lib.cell_of_heap hU.act]; rfl
  rw [Ac.cells_eq, acNone_cells] at hW0
  rw [Ac.cells_eq]
  have HW := Lib.hid hW0
  have m1 : (0 : Int) ≤ min (a.call.s.length : Int) 2010 := by omega
  have m2 : min (a.call.s.length : Int) 2010 ≤ (a.call.s.length : Int) := by omega
  have m3 : (0 : Int) ≤ min (a.call.tick.length : Int) 210 := by omega
  have m4 : min (a.call.tick.length : Int) 210 ≤ (a.call.tick.length : Int) := by omega
  have m5 : (0 : Int) ≤ min (a.call.sec.length : Int) 20 := by omega
  have m6 : min (a.call.sec.length : Int) 20 ≤ (a.call.sec.length : Int) := by omega
  have m7 : (0 : Int) ≤ min (a.dat.length : Int) 1030 := by omega
  have m8 : min (a.dat.length : Int) 1030 ≤ (a.dat.length : Int) := by omega
  have HNL := Lib.hid hnl
  clear hW0 hnl HS1 HS2 HS3 HS4
  go_enter Tryz.func12, Tryz.ntmps12
  go_upto_region 1 with fail
  rw [← HW.out]
  clear HW
  go_upto_region 5 with (first
    | (refine wpList_UAcell { a with call := { a.call with s := S1 } } _ 6 9 rfl _ _ rfl rfl _ (.string ⟨S1.toArray⟩) rfl hU rfl rfl (fun w h1 h2 => st_str _ _ _ _ w h1 h2) ?_; clear e1 hU; intro W1 hU1; have e2 : W1.cell? ⟨w.heap.size, 10, none⟩ = some (.string ⟨a.call.tick.toArray⟩) := by rw [Lib.cell_of_heap hU1.act]; rfl)
    | (refine wpList_UAcell { a with call := { a.call with s := S1, tick := S2 } } _ 10 9 rfl _ _ rfl rfl _ (.string ⟨S2.toArray⟩) rfl hU1 rfl rfl (fun w h1 h2 => st_str _ _ _ _ w h1 h2) ?_; clear e2 hU1; intro W2 hU2; have e3 : W2.cell? ⟨w.heap.size, 11, none⟩ = some (.string ⟨a.call.sec.toArray⟩) := by rw [Lib.cell_of_heap hU2.act]; rfl)
    | (refine wpList_UAcell { a with call := { a.call with s := S1, tick := S2, sec := S3 } } _ 11 9 rfl _ _ rfl rfl _ (.string ⟨S3.toArray⟩) rfl hU2 rfl rfl (fun w h1 h2 => st_str _ _ _ _ w h1 h2) ?_; clear e3 hU2; intro W3 hU3; have e4 : W3.cell? ⟨w.heap.size, 22, none⟩ = some (.string ⟨a.dat.toArray⟩) := by rw [Lib.cell_of_heap hU3.act]; rfl)
    | (refine wpList_UAcell { a with call := { a.call with s := S1, tick := S2, sec := S3 }, dat := S4 } _ 22 9 rfl _ _ rfl rfl _ (.string ⟨S4.toArray⟩) rfl hU3 rfl rfl (fun w h1 h2 => st_str _ _ _ _ w h1 h2) ?_; clear e4 hU3; intro W4 hU4; have e5 : W4.cell? ⟨w.heap.size, 19, none⟩ = some (.slice p 0 cap) := by rw [Lib.cell_of_heap hU4.act]; rfl))
  go_wp2_with (first
    | (refine wpList_sl0 59 rfl rfl _ _ rfl rfl rfl ?_; intro s6 c6)
    | (at_builtin; refine wpList_runs 60 rfl rfl (.slice none 0 0) _ (exec_ap0 rfl rfl rfl) ?_)
    | (refine wpList_UAcellK { a with call := { a.call with s := S1, tick := S2, sec := S3 }, dat := S4 } (.slice none 0 0) 19 29 rfl _ _ rfl rfl _ (.slice none 0 0) rfl hU4 rfl rfl (fun w h1 h2 => st_sl _ _ _ _ _ _ w h1 h2) ?_; clear e5 hU4; intro W6 hU6 hk6)
    | refine wpList_load33 (by rfl) _ rfl _ rfl _ hU6.act rfl ?_
    | refine wpList_store33 rfl _ _ rfl _ _ rfl rfl _ hU6.res rfl rfl (Ac.one _ _ _ _) ?_)
  refine bodyPost_ret (res33 rfl _ _ (w.heap.size + 1) _ rfl (setRow_heap _ _ _ _ _ _ hU6.res) rfl) rfl ⟨none, 0, 0, by rw [HF.out], ?_, hU6.ext.setRow _ _ hU6.lr⟩
  rw [HF.out]
  show FatesAt _ _ a.fates
  rw [HNL.out]
  exact FatesAt.nil _
/-- short. -/
theorem rshort_any (a : Ac) (fv : Value) (w : World) (z1 : a.call.s.length ≤ 9223372036854775807) (z2 : a.call.tick.length ≤ 9223372036854775807) (z3 : a.call.sec.length ≤ 9223372036854775807) (z4 : a.dat.length ≤ 9223372036854775807) (hA : FatesAt w fv a.fates) :
    Calls Tryz.prog 12 #[.agg (a.cells fv).toArray] w fun e w' => ∃ s n c, e = .returned (.agg (a.cut.cells (.slice s n c)).toArray) ∧ FatesAt w' (.slice s n c) a.cut.fates ∧ Ext w w' := by
  by_cases hn : a.fates = []
  · obtain ⟨p, cap, rfl, _⟩ := hA
    rw [hn]
    exact rshort_nil a p cap w z1 z2 z3 z4 hn
  · obtain ⟨p, cap, rfl, h1, h2, h3⟩ := id hA
    obtain ⟨b, q, rfl, _⟩ := h3 hn
    exact rshort_some a b q cap w z1 z2 z3 z4 hA hn
end Go.Proofs.YtikmoledbiepoaaGreatDoor

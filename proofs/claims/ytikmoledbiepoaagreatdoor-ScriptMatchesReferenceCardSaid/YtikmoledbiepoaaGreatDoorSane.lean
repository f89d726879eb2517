/- sane. -/
import Derived.Test.YtikmoledbiepoaaGreatDoorPick
import Derived.Test.YtikmoledbiepoaaGreatDoorPall
import Derived.Test.YtikmoledbiepoaaGreatDoorRsame
namespace Go.Proofs.YtikmoledbiepoaaGreatDoor
open Go.RowKit
def s1 : Ac := { Ac.none 1 with call := { Cal.ofKind 1 with loc := 1, rem := 100 } }
def s2 : Ac := { Ac.none 1 with side := 1, call := { Cal.ofKind 5 with conn := 2, stream := 1, s := [0, 255] } }
def s3 : Ac := { Ac.none 3 with fates := [0, 1, 6] }
def s4 : Ac := { Ac.none 2 with n := 5 }
def s5 : Ac := { Ac.none 4 with fr := 1, tgt := 100 }
def saneL : List Ac := [s1, s2, s3, s4, s5]
theorem pl1 : printL saneL = ([99, 97, 108, 108, 32, 99, 108, 105, 101, 110, 116, 32, 100, 105, 97, 108, 32, 49, 32, 49, 48, 48, 10, 99, 97, 108, 108, 32, 115, 101, 114, 118, 101, 114, 32, 119, 114, 105, 116, 101, 32, 50, 32, 49, 32, 48, 48, 102, 102, 10, 102, 97, 116, 101, 115, 32, 48, 32, 49, 32, 54, 10, 116, 105, 99, 107, 32, 53, 10, 105, 110, 106, 101, 99, 116, 32, 49, 32, 49, 48, 48, 32, 45, 10], 0) := by kernel_rfl
def saneS : Value := .string ⟨[99, 97, 108, 108, 32, 99, 108, 105, 101, 110, 116, 32, 100, 105, 97, 108, 32, 49, 32, 49, 48, 48, 10, 99, 97, 108, 108, 32, 115, 101, 114, 118, 101, 114, 32, 119, 114, 105, 116, 101, 32, 50, 32, 49, 32, 48, 48, 102, 102, 10, 102, 97, 116, 101, 115, 32, 48, 32, 49, 32, 54, 10, 116, 105, 99, 107, 32, 53, 10, 105, 110, 106, 101, 99, 116, 32, 49, 32, 49, 48, 48, 32, 45, 10].toArray⟩
theorem pl2 : ParseR (printL saneL).1 = .ok saneL := by kernel_rfl
theorem pl3 : ParseR [116, 105, 99, 107, 32, 49, 10, 116, 105, 99, 107, 32, 48, 49, 10] = .error 1 := by kernel_rfl
theorem pl4 : ParseR [116, 105, 99, 107, 32, 49] = .error 0 := by kernel_rfl
theorem pl5 : printL [Ac.none 0] = ([], 290) := by kernel_rfl
theorem pl6 : sameL saneL saneL = true := by kernel_rfl
theorem pl7 : s1.line.2 = true := by kernel_rfl
theorem pl8 : (Ac.none 0).line.2 = false := by kernel_rfl
theorem pl9 : s1.eqb s1 = true := by kernel_rfl
theorem pl10 : s1.eqb s2 = false := by kernel_rfl
theorem run_eqS (x y : Operand) (w : World) : (do eqGuard .eql 9 x y saneS saneS; binOp .eql 9 saneS saneS : Sem Value).run Tryz.prog w = .ok (.bool true) w := by kernel_rfl
theorem run_ix0 (g : Nat) (w : World) : (Instr.indexAt 35 (.slice (some ⟨g, 0, none⟩) 5 5) (.int .i64 0)).run Tryz.prog w = .ok (.pointer (some ⟨g, 0, none⟩)) w := by kernel_rfl
theorem run_ix1 (g : Nat) (w : World) : (Instr.indexAt 35 (.slice (some ⟨g, 0, none⟩) 5 5) (.int .i64 1)).run Tryz.prog w = .ok (.pointer (some ⟨g, 23, none⟩)) w := by kernel_rfl
theorem run_b33 (w : World) : (Instr.build 33 #[]).run Tryz.prog w = .ok (.agg ((Ac.none 0).cells (.slice none 0 0)).toArray) w := by kernel_rfl
section
variable {ρ : Operand → Value} {o : Oper} {x y : Operand} {w : World} {g : Nat}
theorem exec_eqS (ho : o.op = .binOp .eql 9 x y 9) (hx : ρ x = saneS) (hy : ρ y = saneS) : (execOp ρ o).run Tryz.prog w = .ok (.value (.bool true)) w := by
  unfold execOp
  simp only [ho, hx, hy]
  rw [Sem.run_bind, run_eqS]
  rfl
theorem exec_ix0 (ho : o.op = .indexAddr 35 x y) (hx : ρ x = .slice (some ⟨g, 0, none⟩) 5 5) (hy : ρ y = .int .i64 0) : (execOp ρ o).run Tryz.prog w = .ok (.value (.pointer (some ⟨g, 0, none⟩))) w := by
  unfold execOp
  simp only [ho, hx, hy, Sem.run_bind, run_ix0]
  rfl
theorem exec_ix1 (ho : o.op = .indexAddr 35 x y) (hx : ρ x = .slice (some ⟨g, 0, none⟩) 5 5) (hy : ρ y = .int .i64 1) : (execOp ρ o).run Tryz.prog w = .ok (.value (.pointer (some ⟨g, 23, none⟩))) w := by
  unfold execOp
  simp only [ho, hx, hy, Sem.run_bind, run_ix1]
  rfl
theorem exec_b33 (ho : o.op = .build 33 #[]) : (execOp ρ o).run Tryz.prog w = .ok (.value (.agg ((Ac.none 0).cells (.slice none 0 0)).toArray)) w := by
  unfold execOp
  simp only [ho, List.map_toArray, List.map_nil, Sem.run_bind, run_b33]
  rfl
end
theorem ent23 : Ent 23 := enters_of Tryz.func23 (by kernel_rfl) rfl
theorem ent17 : Ent 17 := enters_of Tryz.func17 (by kernel_rfl) rfl
theorem ent19 : Ent 19 := enters_of Tryz.func19 (by kernel_rfl) rfl
def nilV : Value := .slice none 0 0
def cells5 (g : Nat) : List Value := s1.cells nilV ++ s2.cells nilV ++ s3.cells (.slice (some ⟨g, 0, none⟩) 3 3) ++ s4.cells nilV ++ s5.cells nilV
theorem run_bs29 (w : World) : (Instr.buildSlice 29 3 #[(0, vI 0), (1, vI 1), (2, vI 6)]).run Tryz.prog w = .ok (.slice (some ⟨w.heap.size, 0, none⟩) 3 3) (w.alloc (.cells #[vI 0, vI 1, vI 6] 3)) := by kernel_rfl
theorem run_bs5 (w : World) (g : Nat) : (Instr.buildSlice 35 5 #[(0, .agg (s1.cells nilV).toArray), (1, .agg (s2.cells nilV).toArray), (2, .agg (s3.cells (.slice (some ⟨g, 0, none⟩) 3 3)).toArray), (3, .agg (s4.cells nilV).toArray), (4, .agg (s5.cells nilV).toArray)]).run Tryz.prog w =
    .ok (.slice (some ⟨w.heap.size, 0, none⟩) 5 5) (w.alloc (.cells (cells5 g).toArray 33)) := by kernel_rfl
section
variable {ops : Array Oper} {rest : List Oper} {o : Oper} {f : Act} {w : World} {Q : Exit → Act → World → Prop}
/-- An operation that yields a value, told by its run. -/
theorem wpList_runs (d : Nat) (_hd : o.dst = some d) (hw : Region.wanted o (yielded ops f.tmps) = true) (v : Value) (w' : World) (hr : (execOp f.eval o).run Tryz.prog w = .ok (.value v) w')
    (h : wpList Tryz.prog ops Q rest (f.put o.dst v) w') : wpList Tryz.prog ops Q (o :: rest) f w :=
  wpList_step fun K hK => by
    rw [if_pos hw]
    unfold Oper.wp
    rw [hr]
    exact hK _ _ h
theorem wpList_bs29 (hw : Region.wanted o (yielded ops f.tmps) = true) (ho : o.op = .buildSlice 29 3 #[(0, .const (vI 0)), (1, .const (vI 1)), (2, .const (vI 6))])
    (h : ∀ W g, Ext w W → W.heap[g]? = some (.cells #[vI 0, vI 1, vI 6] 3) → wpList Tryz.prog ops Q rest (f.put o.dst (.slice (some ⟨g, 0, none⟩) 3 3)) W) : wpList Tryz.prog ops Q (o :: rest) f w :=
  wpList_step fun K hK => by
    rw [if_pos hw]
    have h2 := hK _ _ (h (w.alloc (.cells #[vI 0, vI 1, vI 6] 3)) w.heap.size (Ext.alloc _ _) (alloc_new _ _))
    unfold Oper.wp execOp
    simp only [ho, List.map_toArray, List.map_cons, List.map_nil, Sem.run_bind, Act.eval, run_bs29]
    exact h2
theorem wpList_bs5 (hw : Region.wanted o (yielded ops f.tmps) = true) (a b c d e : Operand) (ho : o.op = .buildSlice 35 5 #[(0, a), (1, b), (2, c), (3, d), (4, e)]) (g : Nat)
    (ha : f.eval a = .agg (s1.cells nilV).toArray) (hb : f.eval b = .agg (s2.cells nilV).toArray) (hc : f.eval c = .agg (s3.cells (.slice (some ⟨g, 0, none⟩) 3 3)).toArray) (hd : f.eval d = .agg (s4.cells nilV).toArray) (he : f.eval e = .agg (s5.cells nilV).toArray)
    (h : ∀ W g', Ext w W → W.heap[g']? = some (.cells (cells5 g).toArray 33) → wpList Tryz.prog ops Q rest (f.put o.dst (.slice (some ⟨g', 0, none⟩) 5 5)) W) : wpList Tryz.prog ops Q (o :: rest) f w :=
  wpList_step fun K hK => by
    rw [if_pos hw]
    have h2 := hK _ _ (h (w.alloc (.cells (cells5 g).toArray 33)) w.heap.size (Ext.alloc _ _) (alloc_new _ _))
    unfold Oper.wp execOp
    simp only [ho, List.map_toArray, List.map_cons, List.map_nil, ha, hb, hc, hd, he, Sem.run_bind, run_bs5]
    exact h2
end
theorem fates3 {w : World} {g : Nat} (h : w.heap[g]? = some (.cells #[vI 0, vI 1, vI 6] 3)) : FatesAt w (.slice (some ⟨g, 0, none⟩) 3 3) [0, 1, 6] :=
  ⟨_, 3, rfl, Nat.le_refl _, by decide, fun _ => ⟨g, 0, rfl, fun j x hj => by
    rw [Lib.cell_of_heap h]
    match j, hj with
    | 0, hj => cases hj; rfl
    | 1, hj => cases hj; rfl
    | 2, hj => cases hj; rfl⟩⟩
theorem range5 {w : World} {b g : Nat} {cs pre post : List Value} (h : w.heap[b]? = some (.cells (cells5 g).toArray 33)) (e : cells5 g = pre ++ cs ++ post) : w.rangeAt b pre.length cs := fun j v hv => by
  rw [Lib.cell_of_heap h, List.getElem?_toArray, e, List.append_assoc, List.getElem?_append_right (by omega), List.getElem?_append_left, Nat.add_sub_cancel_left, hv]
  rw [Nat.add_sub_cancel_left]
  exact (List.getElem?_eq_some_iff.1 hv).1
theorem acts5 {w : World} {b g : Nat} (h : w.heap[b]? = some (.cells (cells5 g).toArray 33)) (hf : FatesAt w (.slice (some ⟨g, 0, none⟩) 3 3) [0, 1, 6]) : ActsAt w (.slice (some ⟨b, 0, none⟩) 5 5) saneL := by
  refine ⟨_, 5, rfl, Nat.le_refl _, fun _ => ⟨b, 0, rfl, fun j x hj => ?_⟩⟩
  match j, hj with
  | 0, hj => cases hj; exact ⟨none, 0, 0, range5 (pre := []) h rfl, FatesAt.nil _⟩
  | 1, hj => cases hj; exact ⟨none, 0, 0, range5 (pre := s1.cells nilV) (cs := s2.cells nilV) (post := s3.cells (.slice (some ⟨g, 0, none⟩) 3 3) ++ s4.cells nilV ++ s5.cells nilV) h rfl, FatesAt.nil _⟩
  | 2, hj => cases hj; exact ⟨_, 3, 3, range5 (pre := s1.cells nilV ++ s2.cells nilV) (cs := s3.cells (.slice (some ⟨g, 0, none⟩) 3 3)) (post := s4.cells nilV ++ s5.cells nilV) h rfl, hf⟩
  | 3, hj => cases hj; exact ⟨none, 0, 0, range5 (pre := s1.cells nilV ++ s2.cells nilV ++ s3.cells (.slice (some ⟨g, 0, none⟩) 3 3)) (cs := s4.cells nilV) (post := s5.cells nilV) h rfl, FatesAt.nil _⟩
  | 4, hj => cases hj; exact ⟨none, 0, 0, range5 (pre := s1.cells nilV ++ s2.cells nilV ++ s3.cells (.slice (some ⟨g, 0, none⟩) 3 3) ++ s4.cells nilV) (cs := s5.cells nilV) (post := []) h rfl, FatesAt.nil _⟩
theorem isI_in {k : Nat} (h : isI k = true) : k ∈ [0, 1, 2, 3, 5, 6, 7, 10, 11, 12, 13, 14, 15] := by simpa [isI] using h
theorem isS_in {k : Nat} (h : isS k = true) : k ∈ [4, 8, 9] := by simpa [isS] using h
theorem fit_of (a : Ac) (hi : ∀ k ∈ [0, 1, 2, 3, 5, 6, 7, 10, 11, 12, 13, 14, 15], -9223372036854775808 ≤ a.call.getI k ∧ a.call.getI k ≤ 9223372036854775807) (hs : ∀ k ∈ [4, 8, 9], (a.call.getS k).length ≤ 2147483648)
    (h1 : IntFit a.n) (h2 : IntFit a.fr) (h3 : IntFit a.tgt) (h4 : ∀ x ∈ a.fates, IntFit x) (h5 : a.fates.length ≤ 4294967296) (h6 : a.dat.length ≤ 2147483648) : AcFit a :=
  ⟨⟨fun k hk => hi k (isI_in hk), fun k hk => hs k (isS_in hk)⟩, h1, h2, h3, h4, h5, h6⟩
theorem fitAll : ∀ x ∈ saneL, AcFit x := by
  intro x hx
  have : x = s1 ∨ x = s2 ∨ x = s3 ∨ x = s4 ∨ x = s5 := by simpa [saneL] using hx
  rcases this with rfl | rfl | rfl | rfl | rfl <;> exact fit_of _ (by decide) (by decide) (by unfold IntFit; decide) (by unfold IntFit; decide) (by unfold IntFit; decide) (by unfold IntFit; decide) (by decide) (by decide)
theorem fitNone : AcFit (Ac.none 0) := fit_of _ (by decide) (by decide) (by unfold IntFit; decide) (by unfold IntFit; decide) (by unfold IntFit; decide) (by unfold IntFit; decide) (by decide) (by decide)
set_option maxRecDepth 100000 in
set_option maxHeartbeats 4000000 in
theorem sane_any (w : World) (hg0 : Glob w) : Calls Tryz.prog 10 #[] w fun e w' => e = .returned (.bool true) ∧ Ext w w' := by
  go_enter Tryz.func10, Tryz.ntmps10
  go_wp2_with (first
    | refine wpList_runs 15 rfl rfl (.agg s1.call.cells.toArray) w (by kernel_rfl) ?_
    | refine wpList_runs 16 rfl rfl (.agg (s1.cells nilV).toArray) w (by kernel_rfl) ?_
    | refine wpList_runs 17 rfl rfl (.agg s2.call.cells.toArray) w (by kernel_rfl) ?_
    | refine wpList_runs 18 rfl rfl (.agg (s2.cells nilV).toArray) w (by kernel_rfl) ?_
    | refine wpList_bs29 rfl rfl ?_; intro W g hx hb
      refine wpList_runs 20 rfl rfl (.agg (s3.cells (.slice (some ⟨g, 0, none⟩) 3 3)).toArray) W (by kernel_rfl) ?_
      refine wpList_runs 21 rfl rfl (.agg (s4.cells nilV).toArray) W (by kernel_rfl) ?_
      refine wpList_runs 22 rfl rfl (.agg #[vI 1, vI 100, vS []]) W (by kernel_rfl) ?_
      refine wpList_runs 23 rfl rfl (.agg (s5.cells nilV).toArray) W (by kernel_rfl) ?_
      refine wpList_bs5 rfl _ _ _ _ _ rfl g rfl rfl rfl rfl rfl ?_
      intro W2 g2 hx2 hb2)
  have x2 : Ext w W2 := hx.trans hx2
  have a2 : ActsAt W2 (.slice (some ⟨g2, 0, none⟩) 5 5) saneL := acts5 hb2 ((fates3 hb).ext hx2)
  have r1 : W2.rangeAt g2 0 (s1.cells nilV) := range5 (pre := []) hb2 rfl
  have r2 : W2.rangeAt g2 23 (s2.cells nilV) := range5 (pre := s1.cells nilV) (cs := s2.cells nilV) (post := s3.cells (.slice (some ⟨g, 0, none⟩) 3 3) ++ s4.cells nilV ++ s5.cells nilV) hb2 rfl
  clear hb hb2 hx hx2
  refine (Print_any saneL _ _ (hg0.ext x2) a2 fitAll).mono ?_
  rintro e w3 ⟨rfl, hx3⟩
  rw [pl1]
  have a3 := a2.ext hx3
  have y3 := x2.trans hx3
  have q1 := rangeAt_ext r1 hx3
  have q2 := rangeAt_ext r2 hx3
  clear a2 x2 r1 r2 hx3
  go_wp2_with fail
  refine (Parse_any _ _ (hg0.ext y3) (by decide)).mono ?_
  rintro e w4 ⟨hx4, hm⟩
  have := pl2
  rw [pl1] at this
  rw [this] at hm
  obtain ⟨v, rfl, av⟩ := hm
  have a4 := a3.ext hx4
  have y4 := y3.trans hx4
  have q3 := rangeAt_ext q1 hx4
  have q4 := rangeAt_ext q2 hx4
  clear a3 y3 q1 q2 hx4 this
  go_wp2_with fail
  refine (Parse_any [116, 105, 99, 107, 32, 49, 10, 116, 105, 99, 107, 32, 48, 49, 10] _ (hg0.ext y4) (by decide)).mono ?_
  rintro e w5 ⟨hx5, hm⟩
  rw [pl3] at hm
  have hm' : e = .returned (.tuple #[.slice none 0 0, .int .i64 1, .int .i64 290]) := hm
  subst hm'
  clear hm
  have a5 := a4.ext hx5
  have v5 := av.ext hx5
  have y5 := y4.trans hx5
  have q5 := rangeAt_ext q3 hx5
  have q6 := rangeAt_ext q4 hx5
  clear a4 av y4 q3 q4 hx5
  go_wp2_with fail
  refine (Parse_any [116, 105, 99, 107, 32, 49] _ (hg0.ext y5) (by decide)).mono ?_
  rintro e w6 ⟨hx6, hm⟩
  rw [pl4] at hm
  have hm' : e = .returned (.tuple #[.slice none 0 0, .int .i64 0, .int .i64 290]) := hm
  subst hm'
  clear hm
  have a6 := a5.ext hx6
  have v6 := v5.ext hx6
  have y6 := y5.trans hx6
  have q7 := rangeAt_ext q5 hx6
  have q8 := rangeAt_ext q6 hx6
  clear a5 v5 y5 q5 q6 hx6
  go_wp2_with (first
    | refine wpList_runs 47 rfl rfl (.agg ((Ac.none 0).cells nilV).toArray) w6 (by kernel_rfl) ?_
      refine wpList_bs35 rfl _ rfl (Ac.none 0) none 0 0 rfl ?_
      intro W7 g7 hx7 hb7)
  have a7 := a6.ext hx7
  have v7 := v6.ext hx7
  have y7 := y6.trans hx7
  have q9 := rangeAt_ext q7 hx7
  have q10 := rangeAt_ext q8 hx7
  clear a6 v6 y6 q7 q8 hx7
  refine (Print_any [Ac.none 0] _ _ (hg0.ext y7) ?_ ?_).mono ?_
  · refine ⟨_, 1, rfl, Nat.le_refl _, fun _ => ⟨g7, 0, rfl, fun j x hj => ?_⟩⟩
    match j, hj with
    | 0, hj =>
      cases hj
      refine ⟨none, 0, 0, fun j v hv => ?_, FatesAt.nil _⟩
      rw [Lib.cell_of_heap hb7, List.getElem?_toArray]
      simpa using hv
  · intro x hx
    have : x = Ac.none 0 := by simpa using hx
    rw [this]; exact fitNone
  rintro e w8 ⟨rfl, hx8⟩
  rw [pl5]
  have a8 := a7.ext hx8
  have v8 := v7.ext hx8
  have y8 := y7.trans hx8
  have q11 := rangeAt_ext q9 hx8
  have q12 := rangeAt_ext q10 hx8
  clear a7 v7 y7 q9 q10 hx8 hb7
  go_wp2_with fail
  refine wp_region_vals (fun i => [.int .i64 0, .bool true, .bool true, saneS, .bool true, .bool true, .bool true, .slice (some ⟨g2, 0, none⟩) 5 5, v, .bool true, .bool true, .bool true, .int .i64 0, .bool true, .bool true, .bool true, .int .i64 0, .bool true, .bool true, .bool true, .int .i64 1, .bool true, .bool true, .bool true, .int .i64 290, .bool true, .bool true, .bool true, .int .i64 0, .bool true, .bool true, .bool true, .int .i64 290, .bool true, .bool true, .bool true, .int .i64 290, .bool true, .bool true, .bool true, .slice (some ⟨g2, 0, none⟩) 5 5, .pointer (some ⟨g2, 0, none⟩), .agg (s1.cells nilV).toArray, .bool true, .bool true, .bool true, .agg ((Ac.none 0).cells nilV).toArray, .bool false, .bool true, .bool true, .bool true, .slice (some ⟨g2, 0, none⟩) 5 5, .pointer (some ⟨g2, 0, none⟩), .agg (s1.cells nilV).toArray, .slice (some ⟨g2, 0, none⟩) 5 5, .pointer (some ⟨g2, 0, none⟩), .agg (s1.cells nilV).toArray, .bool true, .bool true, .bool true, .slice (some ⟨g2, 0, none⟩) 5 5, .pointer (some ⟨g2, 0, none⟩), .agg (s1.cells nilV).toArray, .slice (some ⟨g2, 0, none⟩) 5 5, .pointer (some ⟨g2, 23, none⟩), .agg (s2.cells nilV).toArray, .bool false, .bool true, .bool true, .bool true].getD i undef) (fun w' => Ext w8 w') mixedOrd (by kernel_rfl) (by kernel_rfl) (by kernel_rfl) ⟨rfl, rfl, rfl, Nat.le_refl _, fun _ _ => rfl⟩ ?_ ?_
  · refine ⟨?_, ?_, ?_, ?_, ?_, ?_, ?_, ?_, ?_, ?_, ?_, ?_, ?_, ?_, ?_, ?_, ?_, ?_, ?_, ?_, ?_, ?_, ?_, ?_, ?_, ?_, ?_, ?_, ?_, ?_, ?_, ?_, ?_, ?_, ?_, ?_, ?_, ?_, ?_, ?_, ?_, ?_, ?_, ?_, ?_, ?_, ?_, ?_, ?_, ?_, ?_, ?_, ?_, ?_, ?_, ?_, ?_, ?_, ?_, ?_, ?_, ?_, ?_, ?_, ?_, ?_, ?_, ?_, ?_, ?_, trivial⟩
    · intro a' w' hs hW
      have h0 : a'.tmps[3]? = some (.int .i64 0) := hs.old 3 rfl
      exact wpOp_val rfl rfl (by simp [execOp, go_sem, h0]) ⟨rfl, hW⟩
    · intro a' w' hs hW
      have h0 : a'.tmps[52]? = some (.int .i64 0) := hs.made 0 52 rfl rfl
      exact wpOp_val rfl rfl (by simp [execOp, go_sem, h0]) ⟨rfl, hW⟩
    · intro a' w' hs hW
      have h0 : a'.tmps[53]? = some (.bool true) := hs.made 1 53 rfl rfl
      exact wpOp_val rfl rfl (by simp [execOp, go_sem, h0]) ⟨rfl, hW⟩
    · intro a' w' hs hW
      have hg : a'.tmps[54]? = some (.bool true) := hs.made 2 54 rfl rfl
      have h0 : a'.tmps[2]? = some (saneS) := hs.old 2 rfl
      exact wpOp_on_val rfl rfl rfl hg (by simp [execOp, go_sem, h0]) ⟨rfl, hW⟩
    · intro a' w' hs hW
      have hg : a'.tmps[54]? = some (.bool true) := hs.made 2 54 rfl rfl
      have h0 : a'.tmps[55]? = some (saneS) := hs.made 3 55 rfl rfl
      exact wpOp_on_val rfl rfl rfl hg (exec_eqS rfl (ev h0) (by kernel_rfl)) ⟨rfl, hW⟩
    · intro a' w' hs hW
      have h0 : a'.tmps[54]? = some (.bool true) := hs.made 2 54 rfl rfl
      have h1 : a'.tmps[56]? = some (.bool true) := hs.made 4 56 rfl rfl
      exact wpOp_val rfl rfl (by simp [execOp, go_sem, h0, h1]) ⟨rfl, hW⟩
    · intro a' w' hs hW
      have h0 : a'.tmps[57]? = some (.bool true) := hs.made 5 57 rfl rfl
      exact wpOp_val rfl rfl (by simp [execOp, go_sem, h0]) ⟨rfl, hW⟩
    · intro a' w' hs hW
      have hg : a'.tmps[58]? = some (.bool true) := hs.made 6 58 rfl rfl
      have h0 : a'.tmps[1]? = some (.slice (some ⟨g2, 0, none⟩) 5 5) := hs.old 1 rfl
      exact wpOp_on_val rfl rfl rfl hg (by simp [execOp, go_sem, h0]) ⟨rfl, hW⟩
    · intro a' w' hs hW
      have hg : a'.tmps[58]? = some (.bool true) := hs.made 6 58 rfl rfl
      have h0 : a'.tmps[4]? = some (v) := hs.old 4 rfl
      exact wpOp_on_val rfl rfl rfl hg (by simp [execOp, go_sem, h0]) ⟨rfl, hW⟩
    · intro a' w' hs hW
      have hg : a'.tmps[58]? = some (.bool true) := hs.made 6 58 rfl rfl
      have h0 : a'.tmps[59]? = some (.slice (some ⟨g2, 0, none⟩) 5 5) := hs.made 7 59 rfl rfl
      have h1 : a'.tmps[60]? = some (v) := hs.made 8 60 rfl rfl
      refine wpOp_on_call (f := 23) (args := #[.slice (some ⟨g2, 0, none⟩) 5 5, v]) rfl rfl rfl hg (exec_call rfl rfl ent23 (by simp [ev h0, ev h1])) ?_
      refine (SameAll_any saneL saneL _ _ w' (a8.ext hW) (v8.ext hW) (by decide)).mono ?_
      rintro e w'' ⟨rfl, hx'⟩
      exact ⟨_, rfl, by rw [pl6]; rfl, hW.trans hx'⟩
    · intro a' w' hs hW
      have h0 : a'.tmps[58]? = some (.bool true) := hs.made 6 58 rfl rfl
      have h1 : a'.tmps[61]? = some (.bool true) := hs.made 9 61 rfl rfl
      exact wpOp_val rfl rfl (by simp [execOp, go_sem, h0, h1]) ⟨rfl, hW⟩
    · intro a' w' hs hW
      have h0 : a'.tmps[62]? = some (.bool true) := hs.made 10 62 rfl rfl
      exact wpOp_val rfl rfl (by simp [execOp, go_sem, h0]) ⟨rfl, hW⟩
    · intro a' w' hs hW
      have hg : a'.tmps[63]? = some (.bool true) := hs.made 11 63 rfl rfl
      have h0 : a'.tmps[5]? = some (.int .i64 0) := hs.old 5 rfl
      exact wpOp_on_val rfl rfl rfl hg (by simp [execOp, go_sem, h0]) ⟨rfl, hW⟩
    · intro a' w' hs hW
      have hg : a'.tmps[63]? = some (.bool true) := hs.made 11 63 rfl rfl
      have h0 : a'.tmps[64]? = some (.int .i64 0) := hs.made 12 64 rfl rfl
      exact wpOp_on_val rfl rfl rfl hg (by simp [execOp, go_sem, h0]) ⟨rfl, hW⟩
    · intro a' w' hs hW
      have h0 : a'.tmps[63]? = some (.bool true) := hs.made 11 63 rfl rfl
      have h1 : a'.tmps[65]? = some (.bool true) := hs.made 13 65 rfl rfl
      exact wpOp_val rfl rfl (by simp [execOp, go_sem, h0, h1]) ⟨rfl, hW⟩
    · intro a' w' hs hW
      have h0 : a'.tmps[66]? = some (.bool true) := hs.made 14 66 rfl rfl
      exact wpOp_val rfl rfl (by simp [execOp, go_sem, h0]) ⟨rfl, hW⟩
    · intro a' w' hs hW
      have hg : a'.tmps[67]? = some (.bool true) := hs.made 15 67 rfl rfl
      have h0 : a'.tmps[6]? = some (.int .i64 0) := hs.old 6 rfl
      exact wpOp_on_val rfl rfl rfl hg (by simp [execOp, go_sem, h0]) ⟨rfl, hW⟩
    · intro a' w' hs hW
      have hg : a'.tmps[67]? = some (.bool true) := hs.made 15 67 rfl rfl
      have h0 : a'.tmps[68]? = some (.int .i64 0) := hs.made 16 68 rfl rfl
      exact wpOp_on_val rfl rfl rfl hg (by simp [execOp, go_sem, h0]) ⟨rfl, hW⟩
    · intro a' w' hs hW
      have h0 : a'.tmps[67]? = some (.bool true) := hs.made 15 67 rfl rfl
      have h1 : a'.tmps[69]? = some (.bool true) := hs.made 17 69 rfl rfl
      exact wpOp_val rfl rfl (by simp [execOp, go_sem, h0, h1]) ⟨rfl, hW⟩
    · intro a' w' hs hW
      have h0 : a'.tmps[70]? = some (.bool true) := hs.made 18 70 rfl rfl
      exact wpOp_val rfl rfl (by simp [execOp, go_sem, h0]) ⟨rfl, hW⟩
    · intro a' w' hs hW
      have hg : a'.tmps[71]? = some (.bool true) := hs.made 19 71 rfl rfl
      have h0 : a'.tmps[8]? = some (.int .i64 1) := hs.old 8 rfl
      exact wpOp_on_val rfl rfl rfl hg (by simp [execOp, go_sem, h0]) ⟨rfl, hW⟩
    · intro a' w' hs hW
      have hg : a'.tmps[71]? = some (.bool true) := hs.made 19 71 rfl rfl
      have h0 : a'.tmps[72]? = some (.int .i64 1) := hs.made 20 72 rfl rfl
      exact wpOp_on_val rfl rfl rfl hg (by simp [execOp, go_sem, h0]) ⟨rfl, hW⟩
    · intro a' w' hs hW
      have h0 : a'.tmps[71]? = some (.bool true) := hs.made 19 71 rfl rfl
      have h1 : a'.tmps[73]? = some (.bool true) := hs.made 21 73 rfl rfl
      exact wpOp_val rfl rfl (by simp [execOp, go_sem, h0, h1]) ⟨rfl, hW⟩
    · intro a' w' hs hW
      have h0 : a'.tmps[74]? = some (.bool true) := hs.made 22 74 rfl rfl
      exact wpOp_val rfl rfl (by simp [execOp, go_sem, h0]) ⟨rfl, hW⟩
    · intro a' w' hs hW
      have hg : a'.tmps[75]? = some (.bool true) := hs.made 23 75 rfl rfl
      have h0 : a'.tmps[9]? = some (.int .i64 290) := hs.old 9 rfl
      exact wpOp_on_val rfl rfl rfl hg (by simp [execOp, go_sem, h0]) ⟨rfl, hW⟩
    · intro a' w' hs hW
      have hg : a'.tmps[75]? = some (.bool true) := hs.made 23 75 rfl rfl
      have h0 : a'.tmps[76]? = some (.int .i64 290) := hs.made 24 76 rfl rfl
      exact wpOp_on_val rfl rfl rfl hg (by simp [execOp, go_sem, h0]) ⟨rfl, hW⟩
    · intro a' w' hs hW
      have h0 : a'.tmps[75]? = some (.bool true) := hs.made 23 75 rfl rfl
      have h1 : a'.tmps[77]? = some (.bool true) := hs.made 25 77 rfl rfl
      exact wpOp_val rfl rfl (by simp [execOp, go_sem, h0, h1]) ⟨rfl, hW⟩
    · intro a' w' hs hW
      have h0 : a'.tmps[78]? = some (.bool true) := hs.made 26 78 rfl rfl
      exact wpOp_val rfl rfl (by simp [execOp, go_sem, h0]) ⟨rfl, hW⟩
    · intro a' w' hs hW
      have hg : a'.tmps[79]? = some (.bool true) := hs.made 27 79 rfl rfl
      have h0 : a'.tmps[11]? = some (.int .i64 0) := hs.old 11 rfl
      exact wpOp_on_val rfl rfl rfl hg (by simp [execOp, go_sem, h0]) ⟨rfl, hW⟩
    · intro a' w' hs hW
      have hg : a'.tmps[79]? = some (.bool true) := hs.made 27 79 rfl rfl
      have h0 : a'.tmps[80]? = some (.int .i64 0) := hs.made 28 80 rfl rfl
      exact wpOp_on_val rfl rfl rfl hg (by simp [execOp, go_sem, h0]) ⟨rfl, hW⟩
    · intro a' w' hs hW
      have h0 : a'.tmps[79]? = some (.bool true) := hs.made 27 79 rfl rfl
      have h1 : a'.tmps[81]? = some (.bool true) := hs.made 29 81 rfl rfl
      exact wpOp_val rfl rfl (by simp [execOp, go_sem, h0, h1]) ⟨rfl, hW⟩
    · intro a' w' hs hW
      have h0 : a'.tmps[82]? = some (.bool true) := hs.made 30 82 rfl rfl
      exact wpOp_val rfl rfl (by simp [execOp, go_sem, h0]) ⟨rfl, hW⟩
    · intro a' w' hs hW
      have hg : a'.tmps[83]? = some (.bool true) := hs.made 31 83 rfl rfl
      have h0 : a'.tmps[12]? = some (.int .i64 290) := hs.old 12 rfl
      exact wpOp_on_val rfl rfl rfl hg (by simp [execOp, go_sem, h0]) ⟨rfl, hW⟩
    · intro a' w' hs hW
      have hg : a'.tmps[83]? = some (.bool true) := hs.made 31 83 rfl rfl
      have h0 : a'.tmps[84]? = some (.int .i64 290) := hs.made 32 84 rfl rfl
      exact wpOp_on_val rfl rfl rfl hg (by simp [execOp, go_sem, h0]) ⟨rfl, hW⟩
    · intro a' w' hs hW
      have h0 : a'.tmps[83]? = some (.bool true) := hs.made 31 83 rfl rfl
      have h1 : a'.tmps[85]? = some (.bool true) := hs.made 33 85 rfl rfl
      exact wpOp_val rfl rfl (by simp [execOp, go_sem, h0, h1]) ⟨rfl, hW⟩
    · intro a' w' hs hW
      have h0 : a'.tmps[86]? = some (.bool true) := hs.made 34 86 rfl rfl
      exact wpOp_val rfl rfl (by simp [execOp, go_sem, h0]) ⟨rfl, hW⟩
    · intro a' w' hs hW
      have hg : a'.tmps[87]? = some (.bool true) := hs.made 35 87 rfl rfl
      have h0 : a'.tmps[14]? = some (.int .i64 290) := hs.old 14 rfl
      exact wpOp_on_val rfl rfl rfl hg (by simp [execOp, go_sem, h0]) ⟨rfl, hW⟩
    · intro a' w' hs hW
      have hg : a'.tmps[87]? = some (.bool true) := hs.made 35 87 rfl rfl
      have h0 : a'.tmps[88]? = some (.int .i64 290) := hs.made 36 88 rfl rfl
      exact wpOp_on_val rfl rfl rfl hg (by simp [execOp, go_sem, h0]) ⟨rfl, hW⟩
    · intro a' w' hs hW
      have h0 : a'.tmps[87]? = some (.bool true) := hs.made 35 87 rfl rfl
      have h1 : a'.tmps[89]? = some (.bool true) := hs.made 37 89 rfl rfl
      exact wpOp_val rfl rfl (by simp [execOp, go_sem, h0, h1]) ⟨rfl, hW⟩
    · intro a' w' hs hW
      have h0 : a'.tmps[90]? = some (.bool true) := hs.made 38 90 rfl rfl
      exact wpOp_val rfl rfl (by simp [execOp, go_sem, h0]) ⟨rfl, hW⟩
    · intro a' w' hs hW
      have hg : a'.tmps[91]? = some (.bool true) := hs.made 39 91 rfl rfl
      have h0 : a'.tmps[1]? = some (.slice (some ⟨g2, 0, none⟩) 5 5) := hs.old 1 rfl
      exact wpOp_on_val rfl rfl rfl hg (by simp [execOp, go_sem, h0]) ⟨rfl, hW⟩
    · intro a' w' hs hW
      have hg : a'.tmps[91]? = some (.bool true) := hs.made 39 91 rfl rfl
      have h0 : a'.tmps[92]? = some (.slice (some ⟨g2, 0, none⟩) 5 5) := hs.made 40 92 rfl rfl
      exact wpOp_on_val rfl rfl rfl hg (exec_ix0 rfl (ev h0) rfl) ⟨rfl, hW⟩
    · intro a' w' hs hW
      have hg : a'.tmps[91]? = some (.bool true) := hs.made 39 91 rfl rfl
      have h0 : a'.tmps[93]? = some (.pointer (some ⟨g2, 0, none⟩)) := hs.made 41 93 rfl rfl
      exact wpOp_on_val rfl rfl rfl hg (by simp [execOp, ev h0, load33m (rangeAt_ext q11 hW)]) ⟨rfl, hW⟩
    · intro a' w' hs hW
      have hg : a'.tmps[91]? = some (.bool true) := hs.made 39 91 rfl rfl
      have h0 : a'.tmps[94]? = some (.agg (s1.cells nilV).toArray) := hs.made 42 94 rfl rfl
      refine wpOp_on_call (f := 17) (args := #[.agg (s1.cells nilV).toArray]) rfl rfl rfl hg (exec_call rfl rfl ent17 (by simp [ev h0])) ?_
      refine (Valid_any s1 nilV w' ((hg0.ext y8).ext hW) (fitAll s1 (by simp [saneL])) (FatesAt.nil _)).mono ?_
      rintro e w'' ⟨rfl, hx'⟩
      exact ⟨_, rfl, by rw [pl7]; rfl, hW.trans hx'⟩
    · intro a' w' hs hW
      have h0 : a'.tmps[91]? = some (.bool true) := hs.made 39 91 rfl rfl
      have h1 : a'.tmps[95]? = some (.bool true) := hs.made 43 95 rfl rfl
      exact wpOp_val rfl rfl (by simp [execOp, go_sem, h0, h1]) ⟨rfl, hW⟩
    · intro a' w' hs hW
      have h0 : a'.tmps[96]? = some (.bool true) := hs.made 44 96 rfl rfl
      exact wpOp_val rfl rfl (by simp [execOp, go_sem, h0]) ⟨rfl, hW⟩
    · intro a' w' hs hW
      have hg : a'.tmps[97]? = some (.bool true) := hs.made 45 97 rfl rfl
      exact wpOp_on_val rfl rfl rfl hg (exec_b33 rfl) ⟨rfl, hW⟩
    · intro a' w' hs hW
      have hg : a'.tmps[97]? = some (.bool true) := hs.made 45 97 rfl rfl
      have h0 : a'.tmps[98]? = some (.agg ((Ac.none 0).cells nilV).toArray) := hs.made 46 98 rfl rfl
      refine wpOp_on_call (f := 17) (args := #[.agg ((Ac.none 0).cells nilV).toArray]) rfl rfl rfl hg (exec_call rfl rfl ent17 (by simp [ev h0])) ?_
      refine (Valid_any (Ac.none 0) nilV w' ((hg0.ext y8).ext hW) fitNone (FatesAt.nil _)).mono ?_
      rintro e w'' ⟨rfl, hx'⟩
      exact ⟨_, rfl, by rw [pl8]; rfl, hW.trans hx'⟩
    · intro a' w' hs hW
      have hg : a'.tmps[97]? = some (.bool true) := hs.made 45 97 rfl rfl
      have h0 : a'.tmps[99]? = some (.bool false) := hs.made 47 99 rfl rfl
      exact wpOp_on_val rfl rfl rfl hg (by simp [execOp, go_sem, h0]) ⟨rfl, hW⟩
    · intro a' w' hs hW
      have h0 : a'.tmps[97]? = some (.bool true) := hs.made 45 97 rfl rfl
      have h1 : a'.tmps[100]? = some (.bool true) := hs.made 48 100 rfl rfl
      exact wpOp_val rfl rfl (by simp [execOp, go_sem, h0, h1]) ⟨rfl, hW⟩
    · intro a' w' hs hW
      have h0 : a'.tmps[101]? = some (.bool true) := hs.made 49 101 rfl rfl
      exact wpOp_val rfl rfl (by simp [execOp, go_sem, h0]) ⟨rfl, hW⟩
    · intro a' w' hs hW
      have hg : a'.tmps[102]? = some (.bool true) := hs.made 50 102 rfl rfl
      have h0 : a'.tmps[1]? = some (.slice (some ⟨g2, 0, none⟩) 5 5) := hs.old 1 rfl
      exact wpOp_on_val rfl rfl rfl hg (by simp [execOp, go_sem, h0]) ⟨rfl, hW⟩
    · intro a' w' hs hW
      have hg : a'.tmps[102]? = some (.bool true) := hs.made 50 102 rfl rfl
      have h0 : a'.tmps[103]? = some (.slice (some ⟨g2, 0, none⟩) 5 5) := hs.made 51 103 rfl rfl
      exact wpOp_on_val rfl rfl rfl hg (exec_ix0 rfl (ev h0) rfl) ⟨rfl, hW⟩
    · intro a' w' hs hW
      have hg : a'.tmps[102]? = some (.bool true) := hs.made 50 102 rfl rfl
      have h0 : a'.tmps[104]? = some (.pointer (some ⟨g2, 0, none⟩)) := hs.made 52 104 rfl rfl
      exact wpOp_on_val rfl rfl rfl hg (by simp [execOp, ev h0, load33m (rangeAt_ext q11 hW)]) ⟨rfl, hW⟩
    · intro a' w' hs hW
      have hg : a'.tmps[102]? = some (.bool true) := hs.made 50 102 rfl rfl
      have h0 : a'.tmps[1]? = some (.slice (some ⟨g2, 0, none⟩) 5 5) := hs.old 1 rfl
      exact wpOp_on_val rfl rfl rfl hg (by simp [execOp, go_sem, h0]) ⟨rfl, hW⟩
    · intro a' w' hs hW
      have hg : a'.tmps[102]? = some (.bool true) := hs.made 50 102 rfl rfl
      have h0 : a'.tmps[106]? = some (.slice (some ⟨g2, 0, none⟩) 5 5) := hs.made 54 106 rfl rfl
      exact wpOp_on_val rfl rfl rfl hg (exec_ix0 rfl (ev h0) rfl) ⟨rfl, hW⟩
    · intro a' w' hs hW
      have hg : a'.tmps[102]? = some (.bool true) := hs.made 50 102 rfl rfl
      have h0 : a'.tmps[107]? = some (.pointer (some ⟨g2, 0, none⟩)) := hs.made 55 107 rfl rfl
      exact wpOp_on_val rfl rfl rfl hg (by simp [execOp, ev h0, load33m (rangeAt_ext q11 hW)]) ⟨rfl, hW⟩
    · intro a' w' hs hW
      have hg : a'.tmps[102]? = some (.bool true) := hs.made 50 102 rfl rfl
      have h0 : a'.tmps[105]? = some (.agg (s1.cells nilV).toArray) := hs.made 53 105 rfl rfl
      have h1 : a'.tmps[108]? = some (.agg (s1.cells nilV).toArray) := hs.made 56 108 rfl rfl
      refine wpOp_on_call (f := 19) (args := #[.agg (s1.cells nilV).toArray, .agg (s1.cells nilV).toArray]) rfl rfl rfl hg (exec_call rfl rfl ent19 (by simp [ev h0, ev h1])) ?_
      refine (Same_any s1 s1 nilV nilV w' (FatesAt.nil _) (FatesAt.nil _)).mono ?_
      rintro e w'' ⟨rfl, hx'⟩
      exact ⟨_, rfl, by rw [pl9]; rfl, hW.trans hx'⟩
    · intro a' w' hs hW
      have h0 : a'.tmps[102]? = some (.bool true) := hs.made 50 102 rfl rfl
      have h1 : a'.tmps[109]? = some (.bool true) := hs.made 57 109 rfl rfl
      exact wpOp_val rfl rfl (by simp [execOp, go_sem, h0, h1]) ⟨rfl, hW⟩
    · intro a' w' hs hW
      have h0 : a'.tmps[110]? = some (.bool true) := hs.made 58 110 rfl rfl
      exact wpOp_val rfl rfl (by simp [execOp, go_sem, h0]) ⟨rfl, hW⟩
    · intro a' w' hs hW
      have hg : a'.tmps[111]? = some (.bool true) := hs.made 59 111 rfl rfl
      have h0 : a'.tmps[1]? = some (.slice (some ⟨g2, 0, none⟩) 5 5) := hs.old 1 rfl
      exact wpOp_on_val rfl rfl rfl hg (by simp [execOp, go_sem, h0]) ⟨rfl, hW⟩
    · intro a' w' hs hW
      have hg : a'.tmps[111]? = some (.bool true) := hs.made 59 111 rfl rfl
      have h0 : a'.tmps[112]? = some (.slice (some ⟨g2, 0, none⟩) 5 5) := hs.made 60 112 rfl rfl
      exact wpOp_on_val rfl rfl rfl hg (exec_ix0 rfl (ev h0) rfl) ⟨rfl, hW⟩
    · intro a' w' hs hW
      have hg : a'.tmps[111]? = some (.bool true) := hs.made 59 111 rfl rfl
      have h0 : a'.tmps[113]? = some (.pointer (some ⟨g2, 0, none⟩)) := hs.made 61 113 rfl rfl
      exact wpOp_on_val rfl rfl rfl hg (by simp [execOp, ev h0, load33m (rangeAt_ext q11 hW)]) ⟨rfl, hW⟩
    · intro a' w' hs hW
      have hg : a'.tmps[111]? = some (.bool true) := hs.made 59 111 rfl rfl
      have h0 : a'.tmps[1]? = some (.slice (some ⟨g2, 0, none⟩) 5 5) := hs.old 1 rfl
      exact wpOp_on_val rfl rfl rfl hg (by simp [execOp, go_sem, h0]) ⟨rfl, hW⟩
    · intro a' w' hs hW
      have hg : a'.tmps[111]? = some (.bool true) := hs.made 59 111 rfl rfl
      have h0 : a'.tmps[115]? = some (.slice (some ⟨g2, 0, none⟩) 5 5) := hs.made 63 115 rfl rfl
      exact wpOp_on_val rfl rfl rfl hg (exec_ix1 rfl (ev h0) rfl) ⟨rfl, hW⟩
    · intro a' w' hs hW
      have hg : a'.tmps[111]? = some (.bool true) := hs.made 59 111 rfl rfl
      have h0 : a'.tmps[116]? = some (.pointer (some ⟨g2, 23, none⟩)) := hs.made 64 116 rfl rfl
      exact wpOp_on_val rfl rfl rfl hg (by simp [execOp, ev h0, load33m (rangeAt_ext q12 hW)]) ⟨rfl, hW⟩
    · intro a' w' hs hW
      have hg : a'.tmps[111]? = some (.bool true) := hs.made 59 111 rfl rfl
      have h0 : a'.tmps[114]? = some (.agg (s1.cells nilV).toArray) := hs.made 62 114 rfl rfl
      have h1 : a'.tmps[117]? = some (.agg (s2.cells nilV).toArray) := hs.made 65 117 rfl rfl
      refine wpOp_on_call (f := 19) (args := #[.agg (s1.cells nilV).toArray, .agg (s2.cells nilV).toArray]) rfl rfl rfl hg (exec_call rfl rfl ent19 (by simp [ev h0, ev h1])) ?_
      refine (Same_any s1 s2 nilV nilV w' (FatesAt.nil _) (FatesAt.nil _)).mono ?_
      rintro e w'' ⟨rfl, hx'⟩
      exact ⟨_, rfl, by rw [pl10]; rfl, hW.trans hx'⟩
    · intro a' w' hs hW
      have hg : a'.tmps[111]? = some (.bool true) := hs.made 59 111 rfl rfl
      have h0 : a'.tmps[118]? = some (.bool false) := hs.made 66 118 rfl rfl
      exact wpOp_on_val rfl rfl rfl hg (by simp [execOp, go_sem, h0]) ⟨rfl, hW⟩
    · intro a' w' hs hW
      have h0 : a'.tmps[111]? = some (.bool true) := hs.made 59 111 rfl rfl
      have h1 : a'.tmps[119]? = some (.bool true) := hs.made 67 119 rfl rfl
      exact wpOp_val rfl rfl (by simp [execOp, go_sem, h0, h1]) ⟨rfl, hW⟩
    · intro a' w' hs hW
      have h0 : a'.tmps[120]? = some (.bool true) := hs.made 68 120 rfl rfl
      exact wpOp_val rfl rfl (by simp [execOp, go_sem, h0]) ⟨rfl, hW⟩
  · intro a' w' hs hW
    have q0 : a'.tmps[0]? = some (.bool true) := hs.made 69 0 rfl
    have hd : a'.defers = [] := hs.defers
    have hqw : Ext w w' := y8.trans hW
    clear hW
    go_wp2_with fail
    exact bodyPost_ret (v := .bool true) (by simp [results, Tryz.f10, go_sem, q0]) hd ⟨rfl, hqw⟩
end Go.Proofs.YtikmoledbiepoaaGreatDoor

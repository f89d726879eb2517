/- ScriptReadsLikeReference: the walk (printed by wip/gen_reads.py). -/
import Derived.Test.YtikmoledbiepoaaGreatDoorUnique
import Derived.Test.YtikmoledbiepoaaGreatDoorRparse
namespace Go.Proofs.YtikmoledbiepoaaGreatDoor
open Go.RowKit
set_option linter.unusedSimpArgs false
set_option linter.unusedVariables false
/-- The lines to select from. -/
def someL : List (List UInt8) := [[116, 105, 99, 107, 32, 49, 10],
  [116, 105, 99, 107, 32, 48, 10],
  [116, 105, 99, 107, 32, 50, 48, 48, 49, 10],
  [116, 105, 99, 107, 10],
  [102, 97, 116, 101, 115, 10],
  [102, 97, 116, 101, 115, 32, 50, 53, 32, 50, 54, 10],
  [105, 110, 106, 101, 99, 116, 32, 49, 32, 50, 32, 45, 10],
  [105, 110, 106, 101, 99, 116, 32, 54, 53, 53, 51, 54, 32, 50, 32, 45, 10],
  [105, 110, 106, 101, 99, 116, 32, 49, 32, 50, 32, 48, 65, 10],
  [105, 110, 106, 101, 99, 116, 32, 49, 32, 50, 32, 48, 10],
  [99, 97, 108, 108, 32, 99, 108, 105, 101, 110, 116, 32, 97, 99, 99, 101, 112, 116, 10],
  [99, 97, 108, 108, 32, 115, 101, 114, 118, 101, 114, 32, 97, 99, 99, 101, 112, 116, 32, 49, 10],
  [99, 97, 108, 108, 32, 110, 111, 98, 111, 100, 121, 32, 97, 99, 99, 101, 112, 116, 10],
  [99, 97, 108, 108, 32, 99, 108, 105, 101, 110, 116, 32, 111, 112, 101, 110, 32, 49, 32, 98, 105, 100, 105, 10],
  [99, 97, 108, 108, 32, 99, 108, 105, 101, 110, 116, 32, 111, 112, 101, 110, 32, 49, 32, 117, 110, 105, 10],
  [99, 97, 108, 108, 32, 99, 108, 105, 101, 110, 116, 32, 111, 112, 101, 110, 32, 49, 32, 48, 10],
  [99, 97, 108, 108, 32, 99, 108, 105, 101, 110, 116, 32, 119, 114, 105, 116, 101, 32, 49, 32, 50, 10],
  [99, 97, 108, 108, 32, 115, 101, 114, 118, 101, 114, 32, 114, 101, 115, 101, 116, 32, 49, 32, 50, 32, 49, 48, 55, 51, 55, 52, 49, 56, 50, 51, 10],
  [99, 97, 108, 108, 32, 115, 101, 114, 118, 101, 114, 32, 114, 101, 115, 101, 116, 32, 49, 32, 50, 32, 49, 48, 55, 51, 55, 52, 49, 56, 50, 52, 10],
  [99, 97, 108, 108, 32, 99, 108, 105, 101, 110, 116, 32, 99, 108, 111, 115, 101, 32, 49, 32, 45, 49, 10],
  [99, 97, 108, 108, 10],
  [10],
  [99, 97, 108, 108, 32, 99, 108, 105, 101, 110, 116, 32, 114, 101, 115, 117, 109, 101, 32, 49, 32, 50, 32, 55, 52, 32, 51, 48, 51, 49, 51, 50, 51, 51, 51, 52, 51, 53, 51, 54, 51, 55, 51, 56, 51, 57, 54, 49, 54, 50, 54, 51, 54, 52, 54, 53, 54, 54, 32, 48, 32, 48, 32, 48, 32, 48, 32, 48, 32, 53, 48, 10],
  [99, 97, 108, 108, 32, 99, 108, 105, 101, 110, 116, 32, 114, 101, 115, 117, 109, 101, 32, 49, 32, 50, 32, 45, 32, 51, 48, 51, 49, 51, 50, 51, 51, 51, 52, 51, 53, 51, 54, 51, 55, 51, 56, 51, 57, 54, 49, 54, 50, 54, 51, 54, 52, 54, 53, 54, 54, 32, 48, 32, 48, 32, 48, 32, 48, 32, 48, 32, 53, 48, 10],
  [99, 97, 108, 108, 32, 99, 108, 105, 101, 110, 116, 32, 114, 101, 115, 117, 109, 101, 32, 49, 32, 50, 32, 55, 52, 32, 51, 48, 51, 49, 51, 50, 51, 51, 51, 52, 51, 53, 51, 54, 51, 55, 51, 56, 51, 57, 54, 49, 54, 50, 54, 51, 54, 52, 54, 53, 54, 54, 32, 48, 32, 48, 32, 48, 32, 48, 32, 48, 32, 52, 57, 10]]
theorem someL_len : ∀ (i : Nat) (x : List UInt8), someL[i]? = some x → x.length ≤ 100 := by
  intro i x h
  have h2 := List.mem_of_getElem? h
  have : ∀ y ∈ someL, y.length ≤ 100 := by decide
  exact this x h2
theorem exec_convC {ρ : Operand → Value} {o : Oper} {x : Operand} {w : World} {g : Nat} {b : Int} {C : List UInt8} (ho : o.op = .convert 46 9 x) (hx : ρ x = .slice (some ⟨g, 0, none⟩) 1 1) (h : w.heap[g]? = some (.cells #[.int .u8 b] 5)) (hC : [UInt8.ofNat b.toNat] = C) :
    (execOp ρ o).run Tryz.prog w = .ok (.value (.string ⟨C.toArray⟩)) w := by
  rw [← hC]
  exact exec_conv1 ho hx h
theorem exec_catp {ρ : Operand → Value} {o : Oper} {x y : Operand} {w : World} {a b c : List UInt8} (ho : o.op = .binOp .add 9 x y 9) (hx : ρ x = .string ⟨a.toArray⟩) (hy : ρ y = .string ⟨b.toArray⟩) (hl : a.length + b.length ≤ 9223372036854775807) (hc : a ++ b = c) :
    (execOp ρ o).run Tryz.prog w = .ok (.value (.string ⟨c.toArray⟩)) w := by
  rw [← hc]
  exact exec_cat ho a b hx hy hl
theorem exec_slt {ρ : Operand → Value} {o : Oper} {a b : Operand} {w : World} {s : List UInt8} {k : Nat} (ho : o.op = .slice 9 a none (some b) none) (ha : ρ a = .string ⟨s.toArray⟩) (hb : ρ b = .int .i64 (k : Int)) (hk : k ≤ s.length) :
    (execOp ρ o).run Tryz.prog w = .ok (.value (.string ⟨(s.take k).toArray⟩)) w := by
  have h2 := ext_take' s k
  have i1 : (0 : Int) ≤ (k : Int) := by omega
  have i2 : (k : Int) ≤ (s.length : Int) := by omega
  simp only [Int.toNat_natCast] at h2
  simp [execOp, go_sem, ho, ha, hb, i1, i2, h2]
def nine (a b c d e f g h i : List UInt8) : Array Value := #[.string ⟨a.toArray⟩, .string ⟨b.toArray⟩, .string ⟨c.toArray⟩, .string ⟨d.toArray⟩, .string ⟨e.toArray⟩, .string ⟨f.toArray⟩, .string ⟨g.toArray⟩, .string ⟨h.toArray⟩, .string ⟨i.toArray⟩]
theorem run_bs9 (a b c d e f g h i : List UInt8) (w : World) : (Instr.buildSlice 47 9 #[(0, .string ⟨a.toArray⟩), (1, .string ⟨b.toArray⟩), (2, .string ⟨c.toArray⟩), (3, .string ⟨d.toArray⟩), (4, .string ⟨e.toArray⟩), (5, .string ⟨f.toArray⟩), (6, .string ⟨g.toArray⟩), (7, .string ⟨h.toArray⟩), (8, .string ⟨i.toArray⟩)]).run Tryz.prog w = .ok (.slice (some ⟨w.heap.size, 0, none⟩) 9 9) (w.alloc (.cells (nine a b c d e f g h i) 9)) := by kernel_rfl
theorem exec_bs9 {ρ : Operand → Value} {o : Oper} {x0 x1 x2 x3 x4 x5 x6 x7 x8 : Operand} {w : World} {a b c d e f g h i : List UInt8} (ho : o.op = .buildSlice 47 9 #[(0, x0), (1, x1), (2, x2), (3, x3), (4, x4), (5, x5), (6, x6), (7, x7), (8, x8)])
    (h0 : ρ x0 = .string ⟨a.toArray⟩) (h1 : ρ x1 = .string ⟨b.toArray⟩) (h2 : ρ x2 = .string ⟨c.toArray⟩) (h3 : ρ x3 = .string ⟨d.toArray⟩) (h4 : ρ x4 = .string ⟨e.toArray⟩) (h5 : ρ x5 = .string ⟨f.toArray⟩) (h6 : ρ x6 = .string ⟨g.toArray⟩) (h7 : ρ x7 = .string ⟨h.toArray⟩) (h8 : ρ x8 = .string ⟨i.toArray⟩) :
    (execOp ρ o).run Tryz.prog w = .ok (.value (.slice (some ⟨w.heap.size, 0, none⟩) 9 9)) (w.alloc (.cells (nine a b c d e f g h i) 9)) := by
  unfold execOp
  simp only [ho, List.map_toArray, List.map_cons, List.map_nil, h0, h1, h2, h3, h4, h5, h6, h7, h8, Sem.run_bind, run_bs9]
  rfl
/-- What the operations that make the nine texts yield. -/
def TG (T C P F : List UInt8) (k m : Nat) : Nat → Value → World → Prop
  | 0, v, _ => v = .string ⟨T.toArray⟩
  | 1, v, _ => v = .string ⟨T.toArray⟩
  | 2, v, _ => v = .int .i64 ((k : Int))
  | 3, v, _ => v = .string ⟨(T.take k).toArray⟩
  | 4, v, _ => v = .string ⟨C.toArray⟩
  | 5, v, _ => v = .string ⟨(T.take k ++ C).toArray⟩
  | 6, v, _ => v = .string ⟨T.toArray⟩
  | 7, v, _ => v = .int .i64 ((k : Int))
  | 8, v, _ => v = .string ⟨(T.drop k).toArray⟩
  | 9, v, _ => v = .string ⟨(T.take k ++ C ++ T.drop k).toArray⟩
  | 10, v, _ => v = .string ⟨T.toArray⟩
  | 11, v, _ => v = .int .i64 ((k : Int))
  | 12, v, _ => v = .string ⟨(T.take k).toArray⟩
  | 13, v, _ => v = .string ⟨C.toArray⟩
  | 14, v, _ => v = .string ⟨(T.take k ++ C).toArray⟩
  | 15, v, _ => v = .string ⟨T.toArray⟩
  | 16, v, _ => v = .int .i64 ((k : Int))
  | 17, v, _ => v = .int .i64 ((k : Int) + 1)
  | 18, v, _ => v = .string ⟨T.toArray⟩
  | 19, v, _ => v = .int .i64 ((T.length : Int))
  | 20, v, _ => v = .int .i64 ((m : Int))
  | 21, v, _ => v = .string ⟨(T.drop m).toArray⟩
  | 22, v, _ => v = .string ⟨(T.take k ++ C ++ T.drop m).toArray⟩
  | 23, v, _ => v = .string ⟨T.toArray⟩
  | 24, v, _ => v = .int .i64 ((k : Int))
  | 25, v, _ => v = .string ⟨(T.take k).toArray⟩
  | 26, v, _ => v = .string ⟨T.toArray⟩
  | 27, v, _ => v = .int .i64 ((k : Int))
  | 28, v, _ => v = .int .i64 ((k : Int) + 1)
  | 29, v, _ => v = .string ⟨T.toArray⟩
  | 30, v, _ => v = .int .i64 ((T.length : Int))
  | 31, v, _ => v = .int .i64 ((m : Int))
  | 32, v, _ => v = .string ⟨(T.drop m).toArray⟩
  | 33, v, _ => v = .string ⟨(T.take k ++ T.drop m).toArray⟩
  | 34, v, _ => v = .string ⟨T.toArray⟩
  | 35, v, _ => v = .int .i64 ((k : Int))
  | 36, v, _ => v = .string ⟨(T.take k).toArray⟩
  | 37, v, _ => v = .string ⟨P.toArray⟩
  | 38, v, _ => v = .string ⟨T.toArray⟩
  | 39, v, _ => v = .string ⟨P.toArray⟩
  | 40, v, _ => v = .string ⟨(T ++ P).toArray⟩
  | 41, v, _ => v = .string ⟨F.toArray⟩
  | 42, v, _ => v = .string ⟨P.toArray⟩
  | 43, v, _ => v = .string ⟨F.toArray⟩
  | 44, v, _ => v = .string ⟨(P ++ F).toArray⟩
  | 45, v, w => ∃ g, v = .slice (some ⟨g, 0, none⟩) 9 9 ∧ w.heap[g]? = some (.cells (nine T (T.take k ++ C ++ T.drop k) (T.take k ++ C ++ T.drop m) (T.take k ++ T.drop m) (T.take k) P (T ++ P) F (P ++ F)) 9)
  | 46, v, _ => v = .int .i64 (9)
  | 47, v, _ => v = .int .i64 (0)
  | _, _, _ => True
theorem TG.ext {T C P F : List UInt8} {k m : Nat} (j : Nat) (u : Value) (w w' : World) (hx : Ext w w') (h : TG T C P F k m j u w) : TG T C P F k m j u w' := by
  match j, h with
  | 0, h => exact h
  | 1, h => exact h
  | 2, h => exact h
  | 3, h => exact h
  | 4, h => exact h
  | 5, h => exact h
  | 6, h => exact h
  | 7, h => exact h
  | 8, h => exact h
  | 9, h => exact h
  | 10, h => exact h
  | 11, h => exact h
  | 12, h => exact h
  | 13, h => exact h
  | 14, h => exact h
  | 15, h => exact h
  | 16, h => exact h
  | 17, h => exact h
  | 18, h => exact h
  | 19, h => exact h
  | 20, h => exact h
  | 21, h => exact h
  | 22, h => exact h
  | 23, h => exact h
  | 24, h => exact h
  | 25, h => exact h
  | 26, h => exact h
  | 27, h => exact h
  | 28, h => exact h
  | 29, h => exact h
  | 30, h => exact h
  | 31, h => exact h
  | 32, h => exact h
  | 33, h => exact h
  | 34, h => exact h
  | 35, h => exact h
  | 36, h => exact h
  | 37, h => exact h
  | 38, h => exact h
  | 39, h => exact h
  | 40, h => exact h
  | 41, h => exact h
  | 42, h => exact h
  | 43, h => exact h
  | 44, h => exact h
  | 45, h =>
    obtain ⟨g, h1, h2⟩ := h
    exact ⟨g, h1, (hx.block _ (lt_of_block h2)).trans h2⟩
  | 46, h => exact h
  | 47, h => exact h
  | n + 48, _ => trivial
set_option maxRecDepth 100000 in
set_option maxHeartbeats 8000000 in
theorem reads_any (l : List Ap) (at' : Int) (b : Int) (ns : List Int) (s : List UInt8) (u v : Value) (w : World) (hg : Glob w) (hl : ApsAt w u l) (hpl : ∀ p ∈ l, ApFit p) (hat : IntFit at') (hns : FatesAt w v ns) (hnf : ∀ x ∈ ns, IntFit x) (hs : s.length ≤ 9223372036854775807) :
    Calls Tryz.prog 4 #[u, .int .i64 at', .int .u8 b, v, .string ⟨s.toArray⟩] w fun e w' => e = .returned (.bool true) ∧ Ext w w' := by
  have h20 := scrF_len l
  have hs1 := scrF_short l
  have hok := scrF_print l
  obtain ⟨sv, cv, rfl, hv1, hv2, hv3⟩ := id hns
  go_enter Tryz.func4, Tryz.ntmps4
  go_wp2_with fail
  refine (sane_any w hg).mono ?_
  rintro e w1 ⟨rfl, x1⟩
  go_wp2_with fail
  refine (ScriptFrom_any l u w1 (hl.ext x1) hpl).mono ?_
  rintro e w2 ⟨x2, u2, rfl, a2, _⟩
  have y2 := x1.trans x2
  clear x1 x2 hl
  go_wp2_with fail
  refine (rprint_any (scrF l) u2 w2 a2 (scrF_fit l) (by omega)).mono ?_
  rintro e w4 ⟨rfl, x4⟩
  rw [hok, vS_fst]
  have y4 := y2.trans x4
  clear a2 y2 x4 hok
  generalize linesOf (scrF l) = T at hs1 ⊢
  have hT0 : (0 : Int) ≤ (T.length : Int) := by omega
  obtain ⟨hk0, hk1⟩ := pickN_lt at' (n := (T.length : Int) + 1) (by omega)
  obtain ⟨k, hk⟩ : ∃ k : Nat, pickN at' ((T.length : Int) + 1) = (k : Int) := ⟨(pickN at' ((T.length : Int) + 1)).toNat, by omega⟩
  have hkT : k ≤ T.length := by omega
  clear hk0 hk1
  have HK := Lib.hid hk
  clear hk
  obtain ⟨C, hC⟩ : ∃ C, [UInt8.ofNat b.toNat] = C := ⟨_, rfl⟩
  have hCl : C.length = 1 := by rw [← hC]; rfl
  have HC := Lib.hid hC
  clear hC
  go_wp2_with fail
  refine (pickA at' ((T.length : Int) + 1) w4 hat (by omega) (by omega)).mono ?_
  rintro e w5 ⟨rfl, rfl⟩
  rw [HK.out]
  clear HK
  go_upto_block 0 with (first
    | refine wpList_runs 41 rfl rfl _ _ (exec_bs1 rfl rfl) ?_
    | refine wpList_runs 42 rfl rfl (.string ⟨C.toArray⟩) _ (exec_convC rfl rfl (alloc_new _ _) HC.out) ?_
    | refine wpList_runs 43 rfl rfl (.slice (some ⟨(w4.alloc (.cells #[.int .u8 b] 5)).heap.size, 0, none⟩) 25 25) ((w4.alloc (.cells #[.int .u8 b] 5)).alloc (.cells (someL.map vS).toArray 9)) (by kernel_rfl) ?_)
  obtain ⟨w6, hw6⟩ : ∃ w6, w6 = (w4.alloc (.cells #[.int .u8 b] 5)).alloc (.cells (someL.map vS).toArray 9) := ⟨_, rfl⟩
  have hb6 : w6.heap[w4.heap.size + 1]? = some (.cells (someL.map vS).toArray 9) := by rw [hw6]; exact two_second _ _ _
  have x6 : Ext w4 w6 := by rw [hw6]; exact (Ext.alloc _ _).trans (Ext.alloc _ _)
  rw [← hw6]
  clear hw6
  try rw [alloc_size]
  have y6 := y4.trans x6
  clear x6 y4
  have HSM := fun (i : Nat) (x : List UInt8) (h : someL[i]? = some x) => Lib.hid (show w6.cell? ⟨w4.heap.size + 1, i, none⟩ = some (.string ⟨x.toArray⟩) by
    rw [Lib.cell_of_heap hb6, List.getElem?_toArray, List.getElem?_map, h]; rfl)
  have HPK := fun (x : Int) (hx : IntFit x) (W : World) => Lib.hid (pickA x 25 W hx (by decide) (by decide))
  clear hb6
  go_cut [17, 18] from 44 to 65 (fun t i W => ∃ P : List UInt8, t = .string ⟨P.toArray⟩ ∧ P.length ≤ 1200 ∧ Ext w6 W)
  case first =>
    go_wp2_with fail
    go_loopw [17, 18] (fun t i wq => ∃ (j : Nat) (P : List UInt8), j ≤ ns.length ∧ j ≤ 12 ∧ i = .int .i64 j ∧ t = .string ⟨P.toArray⟩ ∧ P.length ≤ 100 * j ∧ Ext w6 wq) (fun _ i _ => ns.length - (intOf i).toNat)
    case atStart => exact ⟨0, [], Nat.zero_le _, Nat.zero_le _, rfl, rfl, Nat.le_refl _, Ext.refl _⟩
    case round =>
      obtain ⟨j, P, hj, hj12, rfl, rfl, hPl, hq⟩ := hrel
      have i0 : (0 : Int) ≤ (j : Int) := by omega
      by_cases hlt : j < ns.length
      · have i1 : (j : Int) < (ns.length : Int) := by omega
        by_cases h12 : j < 12
        · have i2 : (j : Int) < 12 := by omega
          obtain ⟨bb, oo, rfl, hcc⟩ := hv3 (by intro e; rw [e] at hlt; simp at hlt)
          obtain ⟨x, hxx⟩ : ∃ x, ns[j]? = some x := ⟨_, List.getElem?_eq_getElem hlt⟩
          have c2 := hcc j x hxx
          have c3 := ((y6.trans hq).cell (p := ⟨bb, oo + j, none⟩) (cell_lt c2)).trans c2
          have hxf := hnf x (List.mem_of_getElem? hxx)
          obtain ⟨hp0, hp1⟩ := pickN_lt x (n := 25) (by decide)
          obtain ⟨i, hi⟩ : ∃ i : Nat, pickN x 25 = (i : Int) := ⟨(pickN x 25).toNat, by omega⟩
          have hi25 : i < 25 := by omega
          have j0 : (0 : Int) ≤ (i : Int) := by omega
          have j1 : (i : Int) < 25 := by omega
          have HP := HPK x hxf
          rw [hi] at HP
          obtain ⟨X, hX⟩ : ∃ X, someL[i]? = some X := ⟨_, List.getElem?_eq_getElem (by exact hi25)⟩
          have hXl := someL_len i X hX
          have c4 := (HSM i X hX).out
          have c5 := (hq.cell (p := ⟨w4.heap.size + 1, i, none⟩) (cell_lt c4)).trans c4
          obtain ⟨P', hP'⟩ : ∃ P', P ++ X = P' := ⟨_, rfl⟩
          have hPl' : P'.length ≤ 100 * (j + 1) := by rw [← hP', List.length_append]; omega
          have HPP := Lib.hid hP'
          have hsum : P.length + X.length ≤ 9223372036854775807 := by omega
          clear hi hp0 hp1 c2 hxx hcc hX c4 hP' hv3
          go_wp2_with (first
            | (go_at_call 13; refine (HP _).out.mono ?_; rintro e W ⟨rfl, rfl⟩)
            | refine wpList_runs 65 rfl rfl (.string ⟨P'.toArray⟩) _ (exec_catp rfl rfl rfl hsum HPP.out) ?_)
          go_roundw
          case rel => exact ⟨j + 1, P', by omega, by omega, by go_num, rfl, hPl', hq⟩
          case measure => simp [intOf]; omega
        · have i2 : ¬ (j : Int) < 12 := by omega
          clear hv3
          go_wp2_with fail
          go_meet
          exact ⟨P, rfl, by omega, hq⟩
      · have i1 : ¬ (j : Int) < (ns.length : Int) := by omega
        clear hv3
        go_wp2_with fail
        go_meet
        exact ⟨P, rfl, by omega, hq⟩
  case rest =>
    obtain ⟨P, rfl, hP1200, hq⟩ := hcut
    have y7 := y6.trans hq
    have HOUT : Hid ((⟨s.toArray⟩ : ByteArray).extract 0 (min (s.length : Int) 200).toNat = ⟨(s.take 200).toArray⟩) := ext_take s 200
    have m1 : (0 : Int) ≤ min (s.length : Int) 200 := by omega
    have m2 : min (s.length : Int) 200 ≤ (s.length : Int) := by omega
    obtain ⟨F, hF⟩ : ∃ F, F = s.take 200 := ⟨_, rfl⟩
    have hFl : F.length ≤ 200 := by rw [hF, List.length_take]; omega
    rw [← hF] at HOUT
    have ho := HOUT.out
    obtain ⟨m, hm⟩ : ∃ m, m = min (k + 1) T.length := ⟨_, rfl⟩
    have hmT : m ≤ T.length := by omega
    have HM : Hid (min ((k : Int) + 1) (T.length : Int) = (m : Int)) := by unfold Hid; omega
    have hsum1 : IntKind.i64.wrap ((k : Int) + 1) = (k : Int) + 1 := IntWalk.i64_in _ (by omega)
    have HW1 := Lib.hid hsum1
    clear hF hm HOUT HSM HPK hv3 hsum1
    go_upto_region 12 with fail
    refine wp_region_ext (TG T C P F k m) TG.ext mixedOrd (by kernel_rfl) (by kernel_rfl) (by kernel_rfl) ?_ ?_
    · refine ⟨?_, ?_, ?_, ?_, ?_, ?_, ?_, ?_, ?_, ?_, ?_, ?_, ?_, ?_, ?_, ?_, ?_, ?_, ?_, ?_, ?_, ?_, ?_, ?_, ?_, ?_, ?_, ?_, ?_, ?_, ?_, ?_, ?_, ?_, ?_, ?_, ?_, ?_, ?_, ?_, ?_, ?_, ?_, ?_, ?_, ?_, ?_, ?_, trivial⟩
      · intro a' w' hs hW
        have h0 : a'.tmps[12]? = some (.string ⟨T.toArray⟩) := hs.old 12 rfl
        exact wpOp_val rfl rfl (by simp [execOp, go_sem, h0]) ⟨_, rfl, .inr rfl, Ext.refl _⟩
      · intro a' w' hs hW
        have h0 : a'.tmps[12]? = some (.string ⟨T.toArray⟩) := hs.old 12 rfl
        exact wpOp_val rfl rfl (by simp [execOp, go_sem, h0]) ⟨_, rfl, .inr rfl, Ext.refl _⟩
      · intro a' w' hs hW
        have h0 : a'.tmps[14]? = some (.int .i64 (k : Int)) := hs.old 14 rfl
        exact wpOp_val rfl rfl (by simp [execOp, go_sem, h0]) ⟨_, rfl, .inr rfl, Ext.refl _⟩
      · intro a' w' hs hW
        obtain ⟨v, h0, rfl⟩ := hs.made 1 72 rfl rfl
        obtain ⟨v, h1, rfl⟩ := hs.made 2 73 rfl rfl
        exact wpOp_val rfl rfl (exec_slt rfl (ev h0) (ev h1) hkT) ⟨_, rfl, .inr rfl, Ext.refl _⟩
      · intro a' w' hs hW
        have h0 : a'.tmps[15]? = some (.string ⟨C.toArray⟩) := hs.old 15 rfl
        exact wpOp_val rfl rfl (by simp [execOp, go_sem, h0]) ⟨_, rfl, .inr rfl, Ext.refl _⟩
      · intro a' w' hs hW
        obtain ⟨v, h0, rfl⟩ := hs.made 3 74 rfl rfl
        obtain ⟨v, h1, rfl⟩ := hs.made 4 75 rfl rfl
        exact wpOp_val rfl rfl (exec_cat rfl (T.take k) (C) (ev h0) (ev h1) (by (try simp only [List.length_append, List.length_take, List.length_drop]); omega)) ⟨_, rfl, .inr rfl, Ext.refl _⟩
      · intro a' w' hs hW
        have h0 : a'.tmps[12]? = some (.string ⟨T.toArray⟩) := hs.old 12 rfl
        exact wpOp_val rfl rfl (by simp [execOp, go_sem, h0]) ⟨_, rfl, .inr rfl, Ext.refl _⟩
      · intro a' w' hs hW
        have h0 : a'.tmps[14]? = some (.int .i64 (k : Int)) := hs.old 14 rfl
        exact wpOp_val rfl rfl (by simp [execOp, go_sem, h0]) ⟨_, rfl, .inr rfl, Ext.refl _⟩
      · intro a' w' hs hW
        obtain ⟨v, h0, rfl⟩ := hs.made 6 77 rfl rfl
        obtain ⟨v, h1, rfl⟩ := hs.made 7 78 rfl rfl
        exact wpOp_val rfl rfl (exec_slc0 rfl (ev h0) (ev h1) hkT rfl) ⟨_, rfl, .inr rfl, Ext.refl _⟩
      · intro a' w' hs hW
        obtain ⟨v, h0, rfl⟩ := hs.made 5 76 rfl rfl
        obtain ⟨v, h1, rfl⟩ := hs.made 8 79 rfl rfl
        exact wpOp_val rfl rfl (exec_cat rfl (T.take k ++ C) (T.drop k) (ev h0) (ev h1) (by (try simp only [List.length_append, List.length_take, List.length_drop]); omega)) ⟨_, rfl, .inr rfl, Ext.refl _⟩
      · intro a' w' hs hW
        have h0 : a'.tmps[12]? = some (.string ⟨T.toArray⟩) := hs.old 12 rfl
        exact wpOp_val rfl rfl (by simp [execOp, go_sem, h0]) ⟨_, rfl, .inr rfl, Ext.refl _⟩
      · intro a' w' hs hW
        have h0 : a'.tmps[14]? = some (.int .i64 (k : Int)) := hs.old 14 rfl
        exact wpOp_val rfl rfl (by simp [execOp, go_sem, h0]) ⟨_, rfl, .inr rfl, Ext.refl _⟩
      · intro a' w' hs hW
        obtain ⟨v, h0, rfl⟩ := hs.made 10 81 rfl rfl
        obtain ⟨v, h1, rfl⟩ := hs.made 11 82 rfl rfl
        exact wpOp_val rfl rfl (exec_slt rfl (ev h0) (ev h1) hkT) ⟨_, rfl, .inr rfl, Ext.refl _⟩
      · intro a' w' hs hW
        have h0 : a'.tmps[15]? = some (.string ⟨C.toArray⟩) := hs.old 15 rfl
        exact wpOp_val rfl rfl (by simp [execOp, go_sem, h0]) ⟨_, rfl, .inr rfl, Ext.refl _⟩
      · intro a' w' hs hW
        obtain ⟨v, h0, rfl⟩ := hs.made 12 83 rfl rfl
        obtain ⟨v, h1, rfl⟩ := hs.made 13 84 rfl rfl
        exact wpOp_val rfl rfl (exec_cat rfl (T.take k) (C) (ev h0) (ev h1) (by (try simp only [List.length_append, List.length_take, List.length_drop]); omega)) ⟨_, rfl, .inr rfl, Ext.refl _⟩
      · intro a' w' hs hW
        have h0 : a'.tmps[12]? = some (.string ⟨T.toArray⟩) := hs.old 12 rfl
        exact wpOp_val rfl rfl (by simp [execOp, go_sem, h0]) ⟨_, rfl, .inr rfl, Ext.refl _⟩
      · intro a' w' hs hW
        have h0 : a'.tmps[14]? = some (.int .i64 (k : Int)) := hs.old 14 rfl
        exact wpOp_val rfl rfl (by simp [execOp, go_sem, h0]) ⟨_, rfl, .inr rfl, Ext.refl _⟩
      · intro a' w' hs hW
        obtain ⟨v, h0, rfl⟩ := hs.made 16 87 rfl rfl
        have hw := HW1.out
        exact wpOp_val (v := .int .i64 ((k : Int) + 1)) rfl rfl (by simp [execOp, go_sem, h0, hw]) ⟨_, rfl, .inr rfl, Ext.refl _⟩
      · intro a' w' hs hW
        have h0 : a'.tmps[12]? = some (.string ⟨T.toArray⟩) := hs.old 12 rfl
        exact wpOp_val rfl rfl (by simp [execOp, go_sem, h0]) ⟨_, rfl, .inr rfl, Ext.refl _⟩
      · intro a' w' hs hW
        obtain ⟨v, h0, rfl⟩ := hs.made 18 89 rfl rfl
        exact wpOp_val rfl rfl (by simp [execOp, go_sem, h0]) ⟨_, rfl, .inr rfl, Ext.refl _⟩
      · intro a' w' hs hW
        obtain ⟨v, h0, rfl⟩ := hs.made 17 88 rfl rfl
        obtain ⟨v, h1, rfl⟩ := hs.made 19 90 rfl rfl
        have hw := HM.out
        exact wpOp_val (v := .int .i64 (m : Int)) rfl rfl (by simp [execOp, go_sem, h0, h1, hw]) ⟨_, rfl, .inr rfl, Ext.refl _⟩
      · intro a' w' hs hW
        obtain ⟨v, h0, rfl⟩ := hs.made 15 86 rfl rfl
        obtain ⟨v, h1, rfl⟩ := hs.made 20 91 rfl rfl
        exact wpOp_val rfl rfl (exec_slc0 rfl (ev h0) (ev h1) hmT rfl) ⟨_, rfl, .inr rfl, Ext.refl _⟩
      · intro a' w' hs hW
        obtain ⟨v, h0, rfl⟩ := hs.made 14 85 rfl rfl
        obtain ⟨v, h1, rfl⟩ := hs.made 21 92 rfl rfl
        exact wpOp_val rfl rfl (exec_cat rfl (T.take k ++ C) (T.drop m) (ev h0) (ev h1) (by (try simp only [List.length_append, List.length_take, List.length_drop]); omega)) ⟨_, rfl, .inr rfl, Ext.refl _⟩
      · intro a' w' hs hW
        have h0 : a'.tmps[12]? = some (.string ⟨T.toArray⟩) := hs.old 12 rfl
        exact wpOp_val rfl rfl (by simp [execOp, go_sem, h0]) ⟨_, rfl, .inr rfl, Ext.refl _⟩
      · intro a' w' hs hW
        have h0 : a'.tmps[14]? = some (.int .i64 (k : Int)) := hs.old 14 rfl
        exact wpOp_val rfl rfl (by simp [execOp, go_sem, h0]) ⟨_, rfl, .inr rfl, Ext.refl _⟩
      · intro a' w' hs hW
        obtain ⟨v, h0, rfl⟩ := hs.made 23 94 rfl rfl
        obtain ⟨v, h1, rfl⟩ := hs.made 24 95 rfl rfl
        exact wpOp_val rfl rfl (exec_slt rfl (ev h0) (ev h1) hkT) ⟨_, rfl, .inr rfl, Ext.refl _⟩
      · intro a' w' hs hW
        have h0 : a'.tmps[12]? = some (.string ⟨T.toArray⟩) := hs.old 12 rfl
        exact wpOp_val rfl rfl (by simp [execOp, go_sem, h0]) ⟨_, rfl, .inr rfl, Ext.refl _⟩
      · intro a' w' hs hW
        have h0 : a'.tmps[14]? = some (.int .i64 (k : Int)) := hs.old 14 rfl
        exact wpOp_val rfl rfl (by simp [execOp, go_sem, h0]) ⟨_, rfl, .inr rfl, Ext.refl _⟩
      · intro a' w' hs hW
        obtain ⟨v, h0, rfl⟩ := hs.made 27 98 rfl rfl
        have hw := HW1.out
        exact wpOp_val (v := .int .i64 ((k : Int) + 1)) rfl rfl (by simp [execOp, go_sem, h0, hw]) ⟨_, rfl, .inr rfl, Ext.refl _⟩
      · intro a' w' hs hW
        have h0 : a'.tmps[12]? = some (.string ⟨T.toArray⟩) := hs.old 12 rfl
        exact wpOp_val rfl rfl (by simp [execOp, go_sem, h0]) ⟨_, rfl, .inr rfl, Ext.refl _⟩
      · intro a' w' hs hW
        obtain ⟨v, h0, rfl⟩ := hs.made 29 100 rfl rfl
        exact wpOp_val rfl rfl (by simp [execOp, go_sem, h0]) ⟨_, rfl, .inr rfl, Ext.refl _⟩
      · intro a' w' hs hW
        obtain ⟨v, h0, rfl⟩ := hs.made 28 99 rfl rfl
        obtain ⟨v, h1, rfl⟩ := hs.made 30 101 rfl rfl
        have hw := HM.out
        exact wpOp_val (v := .int .i64 (m : Int)) rfl rfl (by simp [execOp, go_sem, h0, h1, hw]) ⟨_, rfl, .inr rfl, Ext.refl _⟩
      · intro a' w' hs hW
        obtain ⟨v, h0, rfl⟩ := hs.made 26 97 rfl rfl
        obtain ⟨v, h1, rfl⟩ := hs.made 31 102 rfl rfl
        exact wpOp_val rfl rfl (exec_slc0 rfl (ev h0) (ev h1) hmT rfl) ⟨_, rfl, .inr rfl, Ext.refl _⟩
      · intro a' w' hs hW
        obtain ⟨v, h0, rfl⟩ := hs.made 25 96 rfl rfl
        obtain ⟨v, h1, rfl⟩ := hs.made 32 103 rfl rfl
        exact wpOp_val rfl rfl (exec_cat rfl (T.take k) (T.drop m) (ev h0) (ev h1) (by (try simp only [List.length_append, List.length_take, List.length_drop]); omega)) ⟨_, rfl, .inr rfl, Ext.refl _⟩
      · intro a' w' hs hW
        have h0 : a'.tmps[12]? = some (.string ⟨T.toArray⟩) := hs.old 12 rfl
        exact wpOp_val rfl rfl (by simp [execOp, go_sem, h0]) ⟨_, rfl, .inr rfl, Ext.refl _⟩
      · intro a' w' hs hW
        have h0 : a'.tmps[14]? = some (.int .i64 (k : Int)) := hs.old 14 rfl
        exact wpOp_val rfl rfl (by simp [execOp, go_sem, h0]) ⟨_, rfl, .inr rfl, Ext.refl _⟩
      · intro a' w' hs hW
        obtain ⟨v, h0, rfl⟩ := hs.made 34 105 rfl rfl
        obtain ⟨v, h1, rfl⟩ := hs.made 35 106 rfl rfl
        exact wpOp_val rfl rfl (exec_slt rfl (ev h0) (ev h1) hkT) ⟨_, rfl, .inr rfl, Ext.refl _⟩
      · intro a' w' hs hW
        have h0 : a'.tmps[17]? = some (.string ⟨P.toArray⟩) := hs.old 17 rfl
        exact wpOp_val rfl rfl (by simp [execOp, go_sem, h0]) ⟨_, rfl, .inr rfl, Ext.refl _⟩
      · intro a' w' hs hW
        have h0 : a'.tmps[12]? = some (.string ⟨T.toArray⟩) := hs.old 12 rfl
        exact wpOp_val rfl rfl (by simp [execOp, go_sem, h0]) ⟨_, rfl, .inr rfl, Ext.refl _⟩
      · intro a' w' hs hW
        have h0 : a'.tmps[17]? = some (.string ⟨P.toArray⟩) := hs.old 17 rfl
        exact wpOp_val rfl rfl (by simp [execOp, go_sem, h0]) ⟨_, rfl, .inr rfl, Ext.refl _⟩
      · intro a' w' hs hW
        obtain ⟨v, h0, rfl⟩ := hs.made 38 109 rfl rfl
        obtain ⟨v, h1, rfl⟩ := hs.made 39 110 rfl rfl
        exact wpOp_val rfl rfl (exec_cat rfl (T) (P) (ev h0) (ev h1) (by (try simp only [List.length_append, List.length_take, List.length_drop]); omega)) ⟨_, rfl, .inr rfl, Ext.refl _⟩
      · intro a' w' hs hW
        have h0 : a'.tmps[19]? = some (.string ⟨F.toArray⟩) := hs.old 19 rfl
        exact wpOp_val rfl rfl (by simp [execOp, go_sem, h0]) ⟨_, rfl, .inr rfl, Ext.refl _⟩
      · intro a' w' hs hW
        have h0 : a'.tmps[17]? = some (.string ⟨P.toArray⟩) := hs.old 17 rfl
        exact wpOp_val rfl rfl (by simp [execOp, go_sem, h0]) ⟨_, rfl, .inr rfl, Ext.refl _⟩
      · intro a' w' hs hW
        have h0 : a'.tmps[19]? = some (.string ⟨F.toArray⟩) := hs.old 19 rfl
        exact wpOp_val rfl rfl (by simp [execOp, go_sem, h0]) ⟨_, rfl, .inr rfl, Ext.refl _⟩
      · intro a' w' hs hW
        obtain ⟨v, h0, rfl⟩ := hs.made 42 113 rfl rfl
        obtain ⟨v, h1, rfl⟩ := hs.made 43 114 rfl rfl
        exact wpOp_val rfl rfl (exec_cat rfl (P) (F) (ev h0) (ev h1) (by (try simp only [List.length_append, List.length_take, List.length_drop]); omega)) ⟨_, rfl, .inr rfl, Ext.refl _⟩
      · intro a' w' hs hW
        obtain ⟨v, h0, rfl⟩ := hs.made 0 71 rfl rfl
        obtain ⟨v, h1, rfl⟩ := hs.made 9 80 rfl rfl
        obtain ⟨v, h2, rfl⟩ := hs.made 22 93 rfl rfl
        obtain ⟨v, h3, rfl⟩ := hs.made 33 104 rfl rfl
        obtain ⟨v, h4, rfl⟩ := hs.made 36 107 rfl rfl
        obtain ⟨v, h5, rfl⟩ := hs.made 37 108 rfl rfl
        obtain ⟨v, h6, rfl⟩ := hs.made 40 111 rfl rfl
        obtain ⟨v, h7, rfl⟩ := hs.made 41 112 rfl rfl
        obtain ⟨v, h8, rfl⟩ := hs.made 44 115 rfl rfl
        exact wpOp_val rfl rfl (exec_bs9 rfl (ev h0) (ev h1) (ev h2) (ev h3) (ev h4) (ev h5) (ev h6) (ev h7) (ev h8)) ⟨_, rfl, .inr ⟨_, rfl, alloc_new _ _⟩, Ext.alloc _ _⟩
      · intro a' w' hs hW
        obtain ⟨v, h0, g, rfl, hgc⟩ := hs.made 45 116 rfl rfl
        exact wpOp_val (v := .int .i64 9) rfl rfl (by simp [execOp, go_sem, h0]) ⟨_, rfl, .inr rfl, Ext.refl _⟩
      · intro a' w' hs hW
        exact wpOp_val (v := .int .i64 0) rfl rfl (by simp [execOp, go_sem]) ⟨_, rfl, .inr rfl, Ext.refl _⟩
    · intro a' w' hs hW
      obtain ⟨v71, q71, _⟩ := hs.made 0 71 rfl
      obtain ⟨v72, q72, _⟩ := hs.made 1 72 rfl
      obtain ⟨v73, q73, _⟩ := hs.made 2 73 rfl
      obtain ⟨v74, q74, _⟩ := hs.made 3 74 rfl
      obtain ⟨v75, q75, _⟩ := hs.made 4 75 rfl
      obtain ⟨v76, q76, _⟩ := hs.made 5 76 rfl
      obtain ⟨v77, q77, _⟩ := hs.made 6 77 rfl
      obtain ⟨v78, q78, _⟩ := hs.made 7 78 rfl
      obtain ⟨v79, q79, _⟩ := hs.made 8 79 rfl
      obtain ⟨v80, q80, _⟩ := hs.made 9 80 rfl
      obtain ⟨v81, q81, _⟩ := hs.made 10 81 rfl
      obtain ⟨v82, q82, _⟩ := hs.made 11 82 rfl
      obtain ⟨v83, q83, _⟩ := hs.made 12 83 rfl
      obtain ⟨v84, q84, _⟩ := hs.made 13 84 rfl
      obtain ⟨v85, q85, _⟩ := hs.made 14 85 rfl
      obtain ⟨v86, q86, _⟩ := hs.made 15 86 rfl
      obtain ⟨v87, q87, _⟩ := hs.made 16 87 rfl
      obtain ⟨v88, q88, _⟩ := hs.made 17 88 rfl
      obtain ⟨v89, q89, _⟩ := hs.made 18 89 rfl
      obtain ⟨v90, q90, _⟩ := hs.made 19 90 rfl
      obtain ⟨v91, q91, _⟩ := hs.made 20 91 rfl
      obtain ⟨v92, q92, _⟩ := hs.made 21 92 rfl
      obtain ⟨v93, q93, _⟩ := hs.made 22 93 rfl
      obtain ⟨v94, q94, _⟩ := hs.made 23 94 rfl
      obtain ⟨v95, q95, _⟩ := hs.made 24 95 rfl
      obtain ⟨v96, q96, _⟩ := hs.made 25 96 rfl
      obtain ⟨v97, q97, _⟩ := hs.made 26 97 rfl
      obtain ⟨v98, q98, _⟩ := hs.made 27 98 rfl
      obtain ⟨v99, q99, _⟩ := hs.made 28 99 rfl
      obtain ⟨v100, q100, _⟩ := hs.made 29 100 rfl
      obtain ⟨v101, q101, _⟩ := hs.made 30 101 rfl
      obtain ⟨v102, q102, _⟩ := hs.made 31 102 rfl
      obtain ⟨v103, q103, _⟩ := hs.made 32 103 rfl
      obtain ⟨v104, q104, _⟩ := hs.made 33 104 rfl
      obtain ⟨v105, q105, _⟩ := hs.made 34 105 rfl
      obtain ⟨v106, q106, _⟩ := hs.made 35 106 rfl
      obtain ⟨v107, q107, _⟩ := hs.made 36 107 rfl
      obtain ⟨v108, q108, _⟩ := hs.made 37 108 rfl
      obtain ⟨v109, q109, _⟩ := hs.made 38 109 rfl
      obtain ⟨v110, q110, _⟩ := hs.made 39 110 rfl
      obtain ⟨v111, q111, _⟩ := hs.made 40 111 rfl
      obtain ⟨v112, q112, _⟩ := hs.made 41 112 rfl
      obtain ⟨v113, q113, _⟩ := hs.made 42 113 rfl
      obtain ⟨v114, q114, _⟩ := hs.made 43 114 rfl
      obtain ⟨v115, q115, _⟩ := hs.made 44 115 rfl
      obtain ⟨v, q116, g9, rfl, hg9⟩ := hs.made 45 116 rfl
      obtain ⟨v, q117, rfl⟩ := hs.made 46 117 rfl
      obtain ⟨v, q118, rfl⟩ := hs.made 47 118 rfl
      have ha := act_putAll [(71, v71), (72, v72), (73, v73), (74, v74), (75, v75), (76, v76), (77, v77), (78, v78), (79, v79), (80, v80), (81, v81), (82, v82), (83, v83), (84, v84), (85, v85), (86, v86), (87, v87), (88, v88), (89, v89), (90, v90), (91, v91), (92, v92), (93, v93), (94, v94), (95, v95), (96, v96), (97, v97), (98, v98), (99, v99), (100, v100), (101, v101), (102, v102), (103, v103), (104, v104), (105, v105), (106, v106), (107, v107), (108, v108), (109, v109), (110, v110), (111, v111), (112, v112), (113, v113), (114, v114), (115, v115), (116, .slice (some ⟨g9, 0, none⟩) 9 9), (117, .int .i64 9), (118, .int .i64 0)] hs.defers hs.size (by simp [q71, q72, q73, q74, q75, q76, q77, q78, q79, q80, q81, q82, q83, q84, q85, q86, q87, q88, q89, q90, q91, q92, q93, q94, q95, q96, q97, q98, q99, q100, q101, q102, q103, q104, q105, q106, q107, q108, q109, q110, q111, q112, q113, q114, q115, q116, q117, q118]) rfl hs.old
      clear hs q71 q72 q73 q74 q75 q76 q77 q78 q79 q80 q81 q82 q83 q84 q85 q86 q87 q88 q89 q90 q91 q92 q93 q94 q95 q96 q97 q98 q99 q100 q101 q102 q103 q104 q105 q106 q107 q108 q109 q110 q111 q112 q113 q114 q115 q116 q117 q118
      simp only [putAll, Act.put] at ha
      subst ha
      go_frame
      have y8 := y7.trans hW
      have hU : ∀ j, j < 9 → ∃ U : List UInt8, U.length ≤ 4000000000 ∧ w'.cell? ⟨g9, j, none⟩ = some (.string ⟨U.toArray⟩) := by
        intro j hj
        match j, hj with
        | 0, _ => exact ⟨T, by (try simp only [List.length_append, List.length_take, List.length_drop]); omega, by rw [Lib.cell_of_heap hg9]; rfl⟩
        | 1, _ => exact ⟨T.take k ++ C ++ T.drop k, by (try simp only [List.length_append, List.length_take, List.length_drop]); omega, by rw [Lib.cell_of_heap hg9]; rfl⟩
        | 2, _ => exact ⟨T.take k ++ C ++ T.drop m, by (try simp only [List.length_append, List.length_take, List.length_drop]); omega, by rw [Lib.cell_of_heap hg9]; rfl⟩
        | 3, _ => exact ⟨T.take k ++ T.drop m, by (try simp only [List.length_append, List.length_take, List.length_drop]); omega, by rw [Lib.cell_of_heap hg9]; rfl⟩
        | 4, _ => exact ⟨T.take k, by (try simp only [List.length_append, List.length_take, List.length_drop]); omega, by rw [Lib.cell_of_heap hg9]; rfl⟩
        | 5, _ => exact ⟨P, by (try simp only [List.length_append, List.length_take, List.length_drop]); omega, by rw [Lib.cell_of_heap hg9]; rfl⟩
        | 6, _ => exact ⟨T ++ P, by (try simp only [List.length_append, List.length_take, List.length_drop]); omega, by rw [Lib.cell_of_heap hg9]; rfl⟩
        | 7, _ => exact ⟨F, by (try simp only [List.length_append, List.length_take, List.length_drop]); omega, by rw [Lib.cell_of_heap hg9]; rfl⟩
        | 8, _ => exact ⟨P ++ F, by (try simp only [List.length_append, List.length_take, List.length_drop]); omega, by rw [Lib.cell_of_heap hg9]; rfl⟩
      have HU := Lib.hid hU
      clear hU hg9 y7 hW
      go_wp2_with fail
      go_loopw [118] (fun i wq => ∃ j : Nat, j ≤ 9 ∧ i = .int .i64 j ∧ Ext w' wq) (fun i _ => 9 - (intOf i).toNat)
      case atStart => exact ⟨0, by decide, rfl, Ext.refl _⟩
      case round =>
        obtain ⟨j, hj, rfl, hq2⟩ := hrel
        by_cases hlt : j < 9
        · obtain ⟨U, hul, hc⟩ := HU.out j hlt
          have hc' : wr.cell? ⟨g9, j, none⟩ = some (.string ⟨U.toArray⟩) := by rw [hq2.cell (p := ⟨g9, j, none⟩) (cell_lt hc)]; exact hc
          have i1 : (0 : Int) ≤ (j : Int) := by omega
          have i2 : (j : Int) < 9 := by omega
          have yr := y8.trans hq2
          clear hc
          cases hR : ParseR U with
          | error kk =>
            have HP1 : ∀ W, Glob W → Hid (Calls Tryz.prog 21 #[.string ⟨U.toArray⟩] W fun e w' => e = .returned (.tuple #[.slice none 0 0, .int .i64 (kk : Int), .int .i64 290]) ∧ Ext W w') := fun W hgW => (Parse_any U W hgW hul).mono fun e w' ⟨hx, hm⟩ => by
              rw [hR] at hm
              exact ⟨hm, hx⟩
            have HP2 : ∀ W, Hid (Calls Tryz.prog 22 #[.string ⟨U.toArray⟩] W fun e w' => e = .returned (.tuple #[.slice none 0 0, .int .i64 (kk : Int), .int .i64 290]) ∧ Ext W w') := fun W => (rparse_any U W hul).mono fun e w' ⟨hx, hm⟩ => by
              rw [hR] at hm
              exact ⟨hm, hx⟩
            have HSA := fun W => Lib.hid (SameAll_any [] [] (.slice none 0 0) (.slice none 0 0) W (ActsAt.nil W 0) (ActsAt.nil W 0) (by decide))
            clear hR
            go_wp2_with (first
              | (go_at_call 21; refine (HP1 _ (hg.ext yr)).out.mono ?_; rintro e w6' ⟨rfl, hx6⟩)
              | (go_at_call 22; refine (HP2 _).out.mono ?_; rintro e w7 ⟨rfl, hx7⟩)
              | (go_at_call 23; refine (HSA _).out.mono ?_; rintro e w8 ⟨rfl, hx8⟩; rw [show sameL [] [] = true from rfl]))
            go_roundw
            case rel => exact ⟨j + 1, hlt, by go_num, ((hq2.trans hx6).trans hx7).trans hx8⟩
            case measure => simp [intOf]; omega
          | ok ll =>
            have HP1 : ∀ W, Glob W → Hid (Calls Tryz.prog 21 #[.string ⟨U.toArray⟩] W fun e w' => (∃ v, e = .returned (.tuple #[v, .int .i64 0, .int .i64 0]) ∧ ActsAt w' v ll) ∧ Ext W w') := fun W hgW => (Parse_any U W hgW hul).mono fun e w' ⟨hx, hm⟩ => by
              rw [hR] at hm
              exact ⟨hm, hx⟩
            have HP2 : ∀ W, Hid (Calls Tryz.prog 22 #[.string ⟨U.toArray⟩] W fun e w' => (∃ v, e = .returned (.tuple #[v, .int .i64 0, .int .i64 0]) ∧ ActsAt w' v ll) ∧ Ext W w') := fun W => (rparse_any U W hul).mono fun e w' ⟨hx, hm⟩ => by
              rw [hR] at hm
              exact ⟨hm, hx⟩
            have hln := (ParseR_inv hR).2.1
            have HSA := fun W v1 v2 h1 h2 => Lib.hid (SameAll_any ll ll v1 v2 W h1 h2 (by omega))
            rw [(sameL_iff ll ll).2 rfl] at HSA
            clear hR
            go_wp2_with (first
              | (go_at_call 21; refine (HP1 _ (hg.ext yr)).out.mono ?_; rintro e w6' ⟨⟨v1, rfl, hv1'⟩, hx6⟩)
              | (go_at_call 22; refine (HP2 _).out.mono ?_; rintro e w7 ⟨⟨v2, rfl, hv2'⟩, hx7⟩; have hv3' := hv1'.ext hx7)
              | (go_at_call 23; refine (HSA _ _ _ hv3' hv2').out.mono ?_; rintro e w8 ⟨rfl, hx8⟩))
            go_roundw
            case rel => exact ⟨j + 1, hlt, by go_num, ((hq2.trans hx6).trans hx7).trans hx8⟩
            case measure => simp [intOf]; omega
        · go_wp2_with fail
          go_ret
          exact ⟨rfl, y8.trans hq2⟩
end Go.Proofs.YtikmoledbiepoaaGreatDoor

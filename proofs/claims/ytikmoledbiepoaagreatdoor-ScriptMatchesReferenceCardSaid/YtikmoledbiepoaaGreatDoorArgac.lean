/- An action that came in, opened. -/
import Derived.Test.YtikmoledbiepoaaGreatDoorRmat
import Derived.Test.YtikmoledbiepoaaGreatDoorCard
set_option linter.unusedVariables false
namespace Go.Proofs.YtikmoledbiepoaaGreatDoor
open Go.RowKit Go.ChangeShapes Go.WideShapes Go.Deep
section
variable {H : Type} {enc : TypeId × Value → H} {W : World} {base : Nat} {sp : Nat → Bool} {hd : Bool} {n : Nat} {cs : List Value} {x : DataW H × List MemPlace}
theorem list3 {l : List Value} (h : l.length = 3) : ∃ a0 a1 a2, l = [a0, a1, a2] := by
  match l, h with
  | [a0, a1, a2], _ => exact ⟨_, _, _, rfl⟩
theorem list8 {l : List Value} (h : l.length = 8) : ∃ a0 a1 a2 a3 a4 a5 a6 a7, l = [a0, a1, a2, a3, a4, a5, a6, a7] := by
  match l, h with
  | [a0, a1, a2, a3, a4, a5, a6, a7], _ => exact ⟨_, _, _, _, _, _, _, _, rfl⟩
theorem rd_params (h : DataW.trod enc Tryz.prog W base sp hd n 24 cs = some x) : ∃ p q r s t u, cs = p6 p q r s t u ∧ IntFit p ∧ IntFit q ∧ IntFit r ∧ IntFit s ∧ IntFit t ∧ IntFit u := by
  obtain ⟨xs, m, rfl, hx, hl, hxl, hf⟩ := DataW.trod_struct Tryz.underlying24 h
  have hl' : cs.length = 6 := by rw [hl]; kernel_rfl
  clear hl
  obtain ⟨c0, c1, c2, c3, c4, c5, rfl⟩ : ∃ c0 c1 c2 c3 c4 c5, cs = [c0, c1, c2, c3, c4, c5] := list6 hl'
  have hg : ∀ i, i < 6 → ∃ y, xs[i]? = some y := fun i hi => ⟨_, List.getElem?_eq_getElem (by rw [hxl]; exact hi)⟩
  obtain ⟨y, e⟩ := hg 0 (by decide)
  have f : DataW.trod enc Tryz.prog W base sp hd m 3 (([c0, c1, c2, c3, c4, c5].drop 0).take (Tryz.prog.cellsOf 3)) = xs[0]? := hf 0 _ rfl
  rw [e, cells3] at f
  obtain ⟨k0, e0, w0⟩ := rd_int (cs := [c0]) f
  clear f e y
  obtain ⟨y, e⟩ := hg 1 (by decide)
  have f : DataW.trod enc Tryz.prog W base sp hd m 3 (([c0, c1, c2, c3, c4, c5].drop 1).take (Tryz.prog.cellsOf 3)) = xs[1]? := hf 1 _ rfl
  rw [e, cells3] at f
  obtain ⟨k1, e1, w1⟩ := rd_int (cs := [c1]) f
  clear f e y
  obtain ⟨y, e⟩ := hg 2 (by decide)
  have f : DataW.trod enc Tryz.prog W base sp hd m 3 (([c0, c1, c2, c3, c4, c5].drop 2).take (Tryz.prog.cellsOf 3)) = xs[2]? := hf 2 _ rfl
  rw [e, cells3] at f
  obtain ⟨k2, e2, w2⟩ := rd_int (cs := [c2]) f
  clear f e y
  obtain ⟨y, e⟩ := hg 3 (by decide)
  have f : DataW.trod enc Tryz.prog W base sp hd m 3 (([c0, c1, c2, c3, c4, c5].drop 3).take (Tryz.prog.cellsOf 3)) = xs[3]? := hf 3 _ rfl
  rw [e, cells3] at f
  obtain ⟨k3, e3, w3⟩ := rd_int (cs := [c3]) f
  clear f e y
  obtain ⟨y, e⟩ := hg 4 (by decide)
  have f : DataW.trod enc Tryz.prog W base sp hd m 3 (([c0, c1, c2, c3, c4, c5].drop 4).take (Tryz.prog.cellsOf 3)) = xs[4]? := hf 4 _ rfl
  rw [e, cells3] at f
  obtain ⟨k4, e4, w4⟩ := rd_int (cs := [c4]) f
  clear f e y
  obtain ⟨y, e⟩ := hg 5 (by decide)
  have f : DataW.trod enc Tryz.prog W base sp hd m 3 (([c0, c1, c2, c3, c4, c5].drop 5).take (Tryz.prog.cellsOf 3)) = xs[5]? := hf 5 _ rfl
  rw [e, cells3] at f
  obtain ⟨k5, e5, w5⟩ := rd_int (cs := [c5]) f
  clear f e y
  cases e0; cases e1; cases e2; cases e3; cases e4; cases e5
  exact ⟨k0, k1, k2, k3, k4, k5, rfl, w0, w1, w2, w3, w4, w5⟩
theorem rd_session (h : DataW.trod enc Tryz.prog W base sp hd n 26 cs = some x) : ∃ T S p q r s t u, cs = ses T S p q r s t u ∧ T.length ≤ 9223372036854775807 ∧ S.length ≤ 9223372036854775807 ∧ IntFit p ∧ IntFit q ∧ IntFit r ∧ IntFit s ∧ IntFit t ∧ IntFit u := by
  obtain ⟨xs, m, rfl, hx, hl, hxl, hf⟩ := DataW.trod_struct Tryz.underlying26 h
  have hl' : cs.length = 8 := by rw [hl]; kernel_rfl
  clear hl
  obtain ⟨c0, c1, c2, c3, c4, c5, c6, c7, rfl⟩ : ∃ c0 c1 c2 c3 c4 c5 c6 c7, cs = [c0, c1, c2, c3, c4, c5, c6, c7] := list8 hl'
  have hg : ∀ i, i < 3 → ∃ y, xs[i]? = some y := fun i hi => ⟨_, List.getElem?_eq_getElem (by rw [hxl]; exact hi)⟩
  obtain ⟨y, e⟩ := hg 0 (by decide)
  have f : DataW.trod enc Tryz.prog W base sp hd m 9 (([c0, c1, c2, c3, c4, c5, c6, c7].drop 0).take (Tryz.prog.cellsOf 9)) = xs[0]? := hf 0 _ rfl
  rw [e, cells9] at f
  obtain ⟨s0, e0, w0⟩ := rd_str (cs := [c0]) f
  clear f e y
  obtain ⟨y, e⟩ := hg 1 (by decide)
  have f : DataW.trod enc Tryz.prog W base sp hd m 9 (([c0, c1, c2, c3, c4, c5, c6, c7].drop 1).take (Tryz.prog.cellsOf 9)) = xs[1]? := hf 1 _ rfl
  rw [e, cells9] at f
  obtain ⟨s1, e1, w1⟩ := rd_str (cs := [c1]) f
  clear f e y
  obtain ⟨y, e⟩ := hg 2 (by decide)
  have f : DataW.trod enc Tryz.prog W base sp hd m 24 (([c0, c1, c2, c3, c4, c5, c6, c7].drop 2).take (Tryz.prog.cellsOf 24)) = xs[2]? := hf 2 _ rfl
  rw [e, cells24] at f
  obtain ⟨g0, g1, g2, g3, g4, g5, e2, v0, v1, v2, v3, v4, v5⟩ := rd_params (cs := [c2, c3, c4, c5, c6, c7]) f
  clear f e y
  cases e0; cases e1; cases e2
  exact ⟨s0, s1, g0, g1, g2, g3, g4, g5, rfl, w0, w1, v0, v1, v2, v3, v4, v5⟩
theorem rd_callin (h : DataW.trod enc Tryz.prog W base sp hd n 28 cs = some x) : ∃ c : Cal, cs = c.cells ∧ (∀ i ∈ [0, 1, 2, 3, 5, 6, 7, 10, 11, 12, 13, 14, 15], IntFit (c.getI i)) ∧ (∀ i ∈ [4, 8, 9], (c.getS i).length ≤ 9223372036854775807) := by
  obtain ⟨xs, m, rfl, hx, hl, hxl, hf⟩ := DataW.trod_struct Tryz.underlying28 h
  have hl' : cs.length = 16 := by rw [hl]; kernel_rfl
  clear hl
  obtain ⟨c0, c1, c2, c3, c4, c5, c6, c7, c8, c9, c10, c11, c12, c13, c14, c15, rfl⟩ : ∃ c0 c1 c2 c3 c4 c5 c6 c7 c8 c9 c10 c11 c12 c13 c14 c15, cs = [c0, c1, c2, c3, c4, c5, c6, c7, c8, c9, c10, c11, c12, c13, c14, c15] := list16 hl'
  have hg : ∀ i, i < 9 → ∃ y, xs[i]? = some y := fun i hi => ⟨_, List.getElem?_eq_getElem (by rw [hxl]; exact hi)⟩
  obtain ⟨y, e⟩ := hg 0 (by decide)
  have f : DataW.trod enc Tryz.prog W base sp hd m 3 (([c0, c1, c2, c3, c4, c5, c6, c7, c8, c9, c10, c11, c12, c13, c14, c15].drop 0).take (Tryz.prog.cellsOf 3)) = xs[0]? := hf 0 _ rfl
  rw [e, cells3] at f
  obtain ⟨k0, e0, w0⟩ := rd_int (cs := [c0]) f
  clear f e y
  obtain ⟨y, e⟩ := hg 1 (by decide)
  have f : DataW.trod enc Tryz.prog W base sp hd m 3 (([c0, c1, c2, c3, c4, c5, c6, c7, c8, c9, c10, c11, c12, c13, c14, c15].drop 1).take (Tryz.prog.cellsOf 3)) = xs[1]? := hf 1 _ rfl
  rw [e, cells3] at f
  obtain ⟨k1, e1, w1⟩ := rd_int (cs := [c1]) f
  clear f e y
  obtain ⟨y, e⟩ := hg 2 (by decide)
  have f : DataW.trod enc Tryz.prog W base sp hd m 3 (([c0, c1, c2, c3, c4, c5, c6, c7, c8, c9, c10, c11, c12, c13, c14, c15].drop 2).take (Tryz.prog.cellsOf 3)) = xs[2]? := hf 2 _ rfl
  rw [e, cells3] at f
  obtain ⟨k2, e2, w2⟩ := rd_int (cs := [c2]) f
  clear f e y
  obtain ⟨y, e⟩ := hg 3 (by decide)
  have f : DataW.trod enc Tryz.prog W base sp hd m 3 (([c0, c1, c2, c3, c4, c5, c6, c7, c8, c9, c10, c11, c12, c13, c14, c15].drop 3).take (Tryz.prog.cellsOf 3)) = xs[3]? := hf 3 _ rfl
  rw [e, cells3] at f
  obtain ⟨k3, e3, w3⟩ := rd_int (cs := [c3]) f
  clear f e y
  obtain ⟨y, e⟩ := hg 4 (by decide)
  have f : DataW.trod enc Tryz.prog W base sp hd m 9 (([c0, c1, c2, c3, c4, c5, c6, c7, c8, c9, c10, c11, c12, c13, c14, c15].drop 4).take (Tryz.prog.cellsOf 9)) = xs[4]? := hf 4 _ rfl
  rw [e, cells9] at f
  obtain ⟨s4, e4, w4⟩ := rd_str (cs := [c4]) f
  clear f e y
  obtain ⟨y, e⟩ := hg 5 (by decide)
  have f : DataW.trod enc Tryz.prog W base sp hd m 3 (([c0, c1, c2, c3, c4, c5, c6, c7, c8, c9, c10, c11, c12, c13, c14, c15].drop 5).take (Tryz.prog.cellsOf 3)) = xs[5]? := hf 5 _ rfl
  rw [e, cells3] at f
  obtain ⟨k5, e5, w5⟩ := rd_int (cs := [c5]) f
  clear f e y
  obtain ⟨y, e⟩ := hg 6 (by decide)
  have f : DataW.trod enc Tryz.prog W base sp hd m 3 (([c0, c1, c2, c3, c4, c5, c6, c7, c8, c9, c10, c11, c12, c13, c14, c15].drop 6).take (Tryz.prog.cellsOf 3)) = xs[6]? := hf 6 _ rfl
  rw [e, cells3] at f
  obtain ⟨k6, e6, w6⟩ := rd_int (cs := [c6]) f
  clear f e y
  obtain ⟨y, e⟩ := hg 7 (by decide)
  have f : DataW.trod enc Tryz.prog W base sp hd m 3 (([c0, c1, c2, c3, c4, c5, c6, c7, c8, c9, c10, c11, c12, c13, c14, c15].drop 7).take (Tryz.prog.cellsOf 3)) = xs[7]? := hf 7 _ rfl
  rw [e, cells3] at f
  obtain ⟨k7, e7, w7⟩ := rd_int (cs := [c7]) f
  clear f e y
  obtain ⟨y, e⟩ := hg 8 (by decide)
  have f : DataW.trod enc Tryz.prog W base sp hd m 26 (([c0, c1, c2, c3, c4, c5, c6, c7, c8, c9, c10, c11, c12, c13, c14, c15].drop 8).take (Tryz.prog.cellsOf 26)) = xs[8]? := hf 8 _ rfl
  rw [e, cells26] at f
  obtain ⟨T, S, g0, g1, g2, g3, g4, g5, e8, w8, w9, v0, v1, v2, v3, v4, v5⟩ := rd_session (cs := [c8, c9, c10, c11, c12, c13, c14, c15]) f
  clear f e y
  cases e0; cases e1; cases e2; cases e3; cases e4; cases e5; cases e6; cases e7; cases e8
  refine ⟨⟨k0, k1, k2, k3, s4, k5, k6, k7, T, S, g0, g1, g2, g3, g4, g5⟩, rfl, fun i hi => ?_, fun i hi => ?_⟩
  · simp only [List.mem_cons, List.not_mem_nil, or_false] at hi
    rcases hi with rfl | rfl | rfl | rfl | rfl | rfl | rfl | rfl | rfl | rfl | rfl | rfl | rfl <;> assumption
  · simp only [List.mem_cons, List.not_mem_nil, or_false] at hi
    rcases hi with rfl | rfl | rfl <;> assumption
theorem rd_inj (h : DataW.trod enc Tryz.prog W base sp hd n 31 cs = some x) : ∃ (f t : Int) (d : List UInt8), cs = [vI f, vI t, vS d] ∧ IntFit f ∧ IntFit t ∧ d.length ≤ 9223372036854775807 := by
  obtain ⟨xs, m, rfl, hx, hl, hxl, hf⟩ := DataW.trod_struct Tryz.underlying31 h
  have hl' : cs.length = 3 := by rw [hl]; kernel_rfl
  clear hl
  obtain ⟨c0, c1, c2, rfl⟩ : ∃ c0 c1 c2, cs = [c0, c1, c2] := list3 hl'
  have hg : ∀ i, i < 3 → ∃ y, xs[i]? = some y := fun i hi => ⟨_, List.getElem?_eq_getElem (by rw [hxl]; exact hi)⟩
  obtain ⟨y, e⟩ := hg 0 (by decide)
  have f : DataW.trod enc Tryz.prog W base sp hd m 3 (([c0, c1, c2].drop 0).take (Tryz.prog.cellsOf 3)) = xs[0]? := hf 0 _ rfl
  rw [e, cells3] at f
  obtain ⟨k0, e0, w0⟩ := rd_int (cs := [c0]) f
  clear f e y
  obtain ⟨y, e⟩ := hg 1 (by decide)
  have f : DataW.trod enc Tryz.prog W base sp hd m 3 (([c0, c1, c2].drop 1).take (Tryz.prog.cellsOf 3)) = xs[1]? := hf 1 _ rfl
  rw [e, cells3] at f
  obtain ⟨k1, e1, w1⟩ := rd_int (cs := [c1]) f
  clear f e y
  obtain ⟨y, e⟩ := hg 2 (by decide)
  have f : DataW.trod enc Tryz.prog W base sp hd m 9 (([c0, c1, c2].drop 2).take (Tryz.prog.cellsOf 9)) = xs[2]? := hf 2 _ rfl
  rw [e, cells9] at f
  obtain ⟨s2, e2, w2⟩ := rd_str (cs := [c2]) f
  clear f e y
  cases e0; cases e1; cases e2
  exact ⟨k0, k1, s2, rfl, w0, w1, w2⟩
theorem rd_ac (h : DataW.trod enc Tryz.prog W base sp hd n 33 cs = some x) : ∃ (a : Ac) (s : Option Addr) (m c : Nat), cs = a.cells (.slice s m c) ∧ FatesAt W (.slice s m c) a.fates ∧ OddFit a := by
  obtain ⟨xs, m, rfl, hx, hl, hxl, hf⟩ := DataW.trod_struct Tryz.underlying33 h
  have hl' : cs.length = 23 := by rw [hl]; kernel_rfl
  clear hl
  obtain ⟨c0, c1, c2, c3, c4, c5, c6, c7, c8, c9, c10, c11, c12, c13, c14, c15, c16, c17, c18, c19, c20, c21, c22, rfl⟩ : ∃ c0 c1 c2 c3 c4 c5 c6 c7 c8 c9 c10 c11 c12 c13 c14 c15 c16 c17 c18 c19 c20 c21 c22, cs = [c0, c1, c2, c3, c4, c5, c6, c7, c8, c9, c10, c11, c12, c13, c14, c15, c16, c17, c18, c19, c20, c21, c22] := list23 hl'
  have hg : ∀ i, i < 6 → ∃ y, xs[i]? = some y := fun i hi => ⟨_, List.getElem?_eq_getElem (by rw [hxl]; exact hi)⟩
  obtain ⟨y, e⟩ := hg 0 (by decide)
  have f : DataW.trod enc Tryz.prog W base sp hd m 3 (([c0, c1, c2, c3, c4, c5, c6, c7, c8, c9, c10, c11, c12, c13, c14, c15, c16, c17, c18, c19, c20, c21, c22].drop 0).take (Tryz.prog.cellsOf 3)) = xs[0]? := hf 0 _ rfl
  rw [e, cells3] at f
  obtain ⟨k0, e0, w0⟩ := rd_int (cs := [c0]) f
  clear f e y
  obtain ⟨y, e⟩ := hg 1 (by decide)
  have f : DataW.trod enc Tryz.prog W base sp hd m 3 (([c0, c1, c2, c3, c4, c5, c6, c7, c8, c9, c10, c11, c12, c13, c14, c15, c16, c17, c18, c19, c20, c21, c22].drop 1).take (Tryz.prog.cellsOf 3)) = xs[1]? := hf 1 _ rfl
  rw [e, cells3] at f
  obtain ⟨k1, e1, w1⟩ := rd_int (cs := [c1]) f
  clear f e y
  obtain ⟨y, e⟩ := hg 2 (by decide)
  have f : DataW.trod enc Tryz.prog W base sp hd m 28 (([c0, c1, c2, c3, c4, c5, c6, c7, c8, c9, c10, c11, c12, c13, c14, c15, c16, c17, c18, c19, c20, c21, c22].drop 2).take (Tryz.prog.cellsOf 28)) = xs[2]? := hf 2 _ rfl
  rw [e, cells28] at f
  obtain ⟨q, e2, w2, z2⟩ := rd_callin (cs := [c2, c3, c4, c5, c6, c7, c8, c9, c10, c11, c12, c13, c14, c15, c16, c17]) f
  clear f e y
  obtain ⟨y, e⟩ := hg 3 (by decide)
  have f : DataW.trod enc Tryz.prog W base sp hd m 3 (([c0, c1, c2, c3, c4, c5, c6, c7, c8, c9, c10, c11, c12, c13, c14, c15, c16, c17, c18, c19, c20, c21, c22].drop 18).take (Tryz.prog.cellsOf 3)) = xs[3]? := hf 3 _ rfl
  rw [e, cells3] at f
  obtain ⟨k3, e3, w3⟩ := rd_int (cs := [c18]) f
  clear f e y
  obtain ⟨y, e⟩ := hg 4 (by decide)
  have f : DataW.trod enc Tryz.prog W base sp hd m 29 (([c0, c1, c2, c3, c4, c5, c6, c7, c8, c9, c10, c11, c12, c13, c14, c15, c16, c17, c18, c19, c20, c21, c22].drop 19).take (Tryz.prog.cellsOf 29)) = xs[4]? := hf 4 _ rfl
  rw [e, cells29] at f
  obtain ⟨l4, t4, m4, d4, e4, F4, w4⟩ := rd_fates (cs := [c19]) f
  clear f e y
  obtain ⟨y, e⟩ := hg 5 (by decide)
  have f : DataW.trod enc Tryz.prog W base sp hd m 31 (([c0, c1, c2, c3, c4, c5, c6, c7, c8, c9, c10, c11, c12, c13, c14, c15, c16, c17, c18, c19, c20, c21, c22].drop 20).take (Tryz.prog.cellsOf 31)) = xs[5]? := hf 5 _ rfl
  rw [e, cells31] at f
  obtain ⟨f5, t5, d5, e5, w5, z5, u5⟩ := rd_inj (cs := [c20, c21, c22]) f
  clear f e y
  cases e0; cases e1; cases e3; cases e4; cases e5
  obtain ⟨q0, q1, q2, q3, q4, q5, q6, q7, q8, q9, q10, q11, q12, q13, q14, q15⟩ := q
  cases e2
  exact ⟨⟨k0, k1, ⟨q0, q1, q2, q3, q4, q5, q6, q7, q8, q9, q10, q11, q12, q13, q14, q15⟩, k3, l4, f5, t5, d5⟩, t4, m4, d4, rfl, F4, ⟨w2, z2, w3, w5, z5, w4, u5⟩⟩
end
section
variable {H : Type} {enc : TypeId × Value → H} {W : World} {base : Nat} {sp : Nat → Bool} {hd : Bool} {v : Value} {d : DataW H} {p : List MemPlace}
set_option maxRecDepth 100000 in
/-- An action that came in. -/
theorem arg_ac (hv : Value.okWide Tryz.prog W .any base 33 v) (h : DataW.Trod enc Tryz.prog W 0 sp hd 33 v d p) : ∃ (a : Ac) (s : Option Addr) (m c : Nat), v = .agg (a.cells (.slice s m c)).toArray ∧ FatesAt W (.slice s m c) a.fates ∧ OddFit a := by
  unfold Value.okWide at hv
  rw [Tryz.underlying33] at hv
  obtain ⟨cs, rfl, _⟩ := hv
  obtain ⟨n, hn⟩ := h
  obtain ⟨q, s, m, c, e, h1⟩ := rd_ac hn
  refine ⟨q, s, m, c, ?_, h1⟩
  rw [← e]
  rfl
end
end Go.Proofs.YtikmoledbiepoaaGreatDoor

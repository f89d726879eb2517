/- ScriptConcatenation: the walk. -/
import Derived.Test.YtikmoledbiepoaaGreatDoorAppd
namespace Go.Proofs.YtikmoledbiepoaaGreatDoor
open Go.RowKit
/-- The wrong lines. -/
def wrongs : List (List UInt8) := [[], [116, 105, 99, 107], [116, 105, 99, 107, 32, 49, 32, 49], [32, 116, 105, 99, 107, 32, 49], [116, 105, 99, 107, 32, 49, 32], [84, 105, 99, 107, 32, 49], [116, 105, 99, 107, 32, 43, 49], [102, 97, 116, 101, 115, 32, 45, 49], [105, 110, 106, 101, 99, 116, 32, 49, 32, 50], [105, 110, 106, 101, 99, 116, 32, 49, 32, 50, 32, 102], [99, 97, 108, 108, 32, 99, 108, 105, 101, 110, 116], [99, 97, 108, 108, 32, 99, 108, 105, 101, 110, 116, 32, 117, 112, 100, 97, 116, 101], [99, 97, 108, 108, 32, 99, 108, 105, 101, 110, 116, 32, 117, 112, 100, 97, 116, 101, 32, 49, 32, 50], [99, 97, 108, 108, 32, 48, 32, 117, 112, 100, 97, 116, 101, 32, 49]]
theorem wrong_none : (wrongs.all fun y => (parseL y).isNone && !(y.contains 10) && decide (y.length ≤ 30)) = true := by kernel_rfl
theorem wrong_at {k : Nat} {y : List UInt8} (h : wrongs[k]? = some y) : parseL y = none ∧ (10 : UInt8) ∉ y ∧ y.length ≤ 30 := by
  have := List.all_eq_true.1 wrong_none y (List.mem_of_getElem? h)
  simp only [Bool.and_eq_true, Bool.not_eq_true', decide_eq_true_eq, Option.isNone_iff_eq_none] at this
  refine ⟨this.1.1, fun hm => ?_, this.2⟩
  have h2 := this.1.2
  rw [List.contains_iff_mem.2 hm] at h2
  cases h2
def wrongV : List Value := wrongs.map fun y => .string ⟨(y ++ [10]).toArray⟩
theorem run_bs14 (w : World) : (Instr.buildSlice 47 14 #[(0, .string ⟨#[10]⟩), (1, .string ⟨#[116, 105, 99, 107, 10]⟩), (2, .string ⟨#[116, 105, 99, 107, 32, 49, 32, 49, 10]⟩), (3, .string ⟨#[32, 116, 105, 99, 107, 32, 49, 10]⟩), (4, .string ⟨#[116, 105, 99, 107, 32, 49, 32, 10]⟩), (5, .string ⟨#[84, 105, 99, 107, 32, 49, 10]⟩), (6, .string ⟨#[116, 105, 99, 107, 32, 43, 49, 10]⟩), (7, .string ⟨#[102, 97, 116, 101, 115, 32, 45, 49, 10]⟩), (8, .string ⟨#[105, 110, 106, 101, 99, 116, 32, 49, 32, 50, 10]⟩), (9, .string ⟨#[105, 110, 106, 101, 99, 116, 32, 49, 32, 50, 32, 102, 10]⟩), (10, .string ⟨#[99, 97, 108, 108, 32, 99, 108, 105, 101, 110, 116, 10]⟩), (11, .string ⟨#[99, 97, 108, 108, 32, 99, 108, 105, 101, 110, 116, 32, 117, 112, 100, 97, 116, 101, 10]⟩), (12, .string ⟨#[99, 97, 108, 108, 32, 99, 108, 105, 101, 110, 116, 32, 117, 112, 100, 97, 116, 101, 32, 49, 32, 50, 10]⟩), (13, .string ⟨#[99, 97, 108, 108, 32, 48, 32, 117, 112, 100, 97, 116, 101, 32, 49, 10]⟩)]).run Tryz.prog w = .ok (.slice (some ⟨w.heap.size, 0, none⟩) 14 14) (w.alloc (.cells wrongV.toArray 9)) := by kernel_rfl
theorem wpList_bs14 {ops : Array Oper} {rest : List Oper} {o : Oper} {f : Act} {w : World} {Q : Exit → Act → World → Prop} (hgd : o.guard = none)
    (ho : o.op = .buildSlice 47 14 #[(0, .const (.string ⟨#[10]⟩)), (1, .const (.string ⟨#[116, 105, 99, 107, 10]⟩)), (2, .const (.string ⟨#[116, 105, 99, 107, 32, 49, 32, 49, 10]⟩)), (3, .const (.string ⟨#[32, 116, 105, 99, 107, 32, 49, 10]⟩)), (4, .const (.string ⟨#[116, 105, 99, 107, 32, 49, 32, 10]⟩)), (5, .const (.string ⟨#[84, 105, 99, 107, 32, 49, 10]⟩)), (6, .const (.string ⟨#[116, 105, 99, 107, 32, 43, 49, 10]⟩)), (7, .const (.string ⟨#[102, 97, 116, 101, 115, 32, 45, 49, 10]⟩)), (8, .const (.string ⟨#[105, 110, 106, 101, 99, 116, 32, 49, 32, 50, 10]⟩)), (9, .const (.string ⟨#[105, 110, 106, 101, 99, 116, 32, 49, 32, 50, 32, 102, 10]⟩)), (10, .const (.string ⟨#[99, 97, 108, 108, 32, 99, 108, 105, 101, 110, 116, 10]⟩)), (11, .const (.string ⟨#[99, 97, 108, 108, 32, 99, 108, 105, 101, 110, 116, 32, 117, 112, 100, 97, 116, 101, 10]⟩)), (12, .const (.string ⟨#[99, 97, 108, 108, 32, 99, 108, 105, 101, 110, 116, 32, 117, 112, 100, 97, 116, 101, 32, 49, 32, 50, 10]⟩)), (13, .const (.string ⟨#[99, 97, 108, 108, 32, 48, 32, 117, 112, 100, 97, 116, 101, 32, 49, 10]⟩))])
    (h : ∀ W g, Ext w W → W.heap[g]? = some (.cells wrongV.toArray 9) → wpList Tryz.prog ops Q rest (f.put o.dst (.slice (some ⟨g, 0, none⟩) 14 14)) W) : wpList Tryz.prog ops Q (o :: rest) f w := by
  refine wpList_plain hgd fun K hK => ?_
  have h2 := hK _ _ (h (w.alloc (.cells wrongV.toArray 9)) w.heap.size (Ext.alloc _ _) (alloc_new _ _))
  unfold Oper.wp execOp
  simp only [ho, List.map_toArray, List.map_cons, List.map_nil, Act.eval, Sem.run_bind, run_bs14]
  exact h2
theorem okL_append {a b : List Ac} (h1 : okL a = true) (h2 : okL b = true) : okL (a ++ b) = true := by
  unfold okL at h1 h2 ⊢
  rw [List.all_append, h1, h2]
  rfl
theorem vS_fst (x : List UInt8) (n : Int) : vS (x, n).1 = .string ⟨x.toArray⟩ := rfl
theorem cat_print (l m : List Ap) : printL (scrF l ++ scrF m) = (linesOf (scrF l) ++ linesOf (scrF m), 0) := by
  rw [printL_ok _ (okL_append (scrF_ok l) (scrF_ok m)) (by have := scrF_len l; have := scrF_len m; rw [List.length_append]; omega), linesOf_append]
theorem cat_wrong (l m : List Ap) {y : List UInt8} (h1 : parseL y = none) (h2 : (10 : UInt8) ∉ y) : ParseR (linesOf (scrF l) ++ (y ++ 10 :: linesOf (scrF m))) = .error (scrF l).length :=
  ParseR_wrong (scrF l) y (linesOf (scrF m)) (scrF_ok l) (Nat.le_trans (scrF_len l) (by decide)) h2 h1
theorem cat_end (l : List Ap) : ParseR (linesOf (scrF l) ++ [116, 105, 99, 107, 32, 49]) = .error (scrF l).length :=
  ParseR_unended (scrF l) _ (scrF_ok l) (Nat.le_trans (scrF_len l) (by decide)) (by decide) (by decide)
set_option maxRecDepth 100000 in
set_option maxHeartbeats 4000000 in
theorem concat_any (l m : List Ap) (which : Int) (u v : Value) (w : World) (hg : Glob w) (hl : ApsAt w u l) (hm : ApsAt w v m) (hpl : ∀ p ∈ l, ApFit p) (hpm : ∀ p ∈ m, ApFit p) (hw : IntFit which) :
    Calls Tryz.prog 7 #[u, v, .int .i64 which] w fun e w' => e = .returned (.bool true) ∧ Ext w w' := by
  have h20 := scrF_len l
  have h21 := scrF_len m
  have hs1 := scrF_short l
  have hs2 := scrF_short m
  go_enter Tryz.func7, Tryz.ntmps7
  go_wp2_with fail
  refine (sane_any w hg).mono ?_
  rintro e w1 ⟨rfl, x1⟩
  go_wp2_with fail
  refine (ScriptFrom_any l u w1 (hl.ext x1) hpl).mono ?_
  rintro e w2 ⟨x2, u2, rfl, a2, nu⟩
  have y2 := x1.trans x2
  clear x1 x2 hl
  go_wp2_with fail
  refine (ScriptFrom_any m v w2 (hm.ext y2) hpm).mono ?_
  rintro e w3 ⟨x3, v3, rfl, b3, nv⟩
  have y3 := y2.trans x3
  have a3 := a2.ext x3
  clear a2 y2 x3 hm
  go_wp2_with fail
  refine (Print_any (scrF l) u2 w3 (hg.ext y3) a3 (scrF_fit l)).mono ?_
  rintro e w4 ⟨rfl, x4⟩
  rw [scrF_print, vS_fst]
  have y4 := y3.trans x4
  have a4 := a3.ext x4
  have b4 := b3.ext x4
  clear a3 b3 y3 x4
  go_wp2_with fail
  refine (Print_any (scrF m) v3 w4 (hg.ext y4) b4 (scrF_fit m)).mono ?_
  rintro e w5 ⟨rfl, x5⟩
  rw [scrF_print, vS_fst]
  have y5 := y4.trans x5
  have a5 := a4.ext x5
  have b5 := b4.ext x5
  clear a4 b4 y4 x5
  obtain ⟨sa, capa, rfl, hca, hca2⟩ := id a5
  have NU := Lib.hid nu
  have NV := Lib.hid nv
  clear nu nv hca2
  go_wp2_with (first
    | (refine wpList_appd rfl _ _ rfl w5 (Ext.refl _) (.slice none 0 0) 0 [] rfl (World.ownsRow_nil _ _ _ _) _ (scrF l) rfl a5 NU.out (by omega) ?_; intro v6 ps w6 p1 p2 p3 x6)
    | (refine wpList_appd rfl _ _ rfl w5 x6 v6 (0 + (scrF l).length) ([] ++ ps) rfl p3 _ (scrF m) rfl b5 NV.out (by omega) ?_; intro v7 qs w7 q1 q2 q3 x7))
  have a7 : ActsAt w7 v7 (scrF l ++ scrF m) := acts_two (n := 0 + (scrF l).length + (scrF m).length) p1 p2 q1 q2 (by omega) (by rw [List.nil_append] at q3; exact q3) x7
  have y7 := y5.trans x7
  clear p1 p2 p3 q1 q2 q3 x6 x7 a5 b5 y5 NU NV
  refine (Print_any (scrF l ++ scrF m) v7 w7 (hg.ext y7) a7 (fun a ha => (List.mem_append.1 ha).elim (scrF_fit l a) (scrF_fit m a))).mono ?_
  rintro e w8 ⟨rfl, x8⟩
  rw [cat_print, vS_fst]
  have y8 := y7.trans x8
  clear a7 y7 x8
  obtain ⟨hk0, hk1⟩ := pickN_lt which (n := 14) (by decide)
  obtain ⟨k, hk⟩ : ∃ k : Nat, pickN which 14 = (k : Int) := ⟨(pickN which 14).toNat, by omega⟩
  have hk14 : k < 14 := by omega
  obtain ⟨y, hy⟩ : ∃ y, wrongs[k]? = some y := ⟨_, List.getElem?_eq_getElem (show k < wrongs.length from hk14)⟩
  obtain ⟨n1, n2, n3⟩ := wrong_at hy
  clear hk0 hk1
  go_wp2_with (refine wpList_bs14 rfl rfl ?_; intro W9 g9 x9 hb9)
  have y9 := y8.trans x9
  have c9 : W9.cell? ⟨g9, k, none⟩ = some (.string ⟨(y ++ [10]).toArray⟩) := by
    rw [Lib.cell_of_heap hb9, List.getElem?_toArray]
    unfold wrongV
    rw [List.getElem?_map, hy]
    rfl
  clear y8 x9 hb9 hy
  refine (pickA which 14 W9 hw (by decide) (by decide)).mono ?_
  rintro e w10 ⟨rfl, rfl⟩
  rw [hk]
  have k0 : (0 : Int) ≤ (k : Int) := by omega
  have k1 : (k : Int) < 14 := by omega
  clear hk
  have hyl : (y ++ [10]).length ≤ 31 := by rw [List.length_append, List.length_cons, List.length_nil]; omega
  go_wp2_with (first
    | refine wpList_cat rfl _ _ rfl (linesOf (scrF l)) (y ++ [10]) rfl rfl (by omega) ?_
    | refine wpList_cat rfl _ _ rfl (linesOf (scrF l) ++ (y ++ [10])) (linesOf (scrF m)) rfl rfl (by rw [List.length_append]; omega) ?_)
  refine (Parse_any (linesOf (scrF l) ++ (y ++ 10 :: linesOf (scrF m))) W9 (hg.ext y9) (by rw [List.length_append, List.length_append, List.length_cons]; omega)).mono ?_
  rintro e w11 ⟨x11, hm11⟩
  rw [cat_wrong l m n1 n2] at hm11
  have hm11' : e = .returned (.tuple #[.slice none 0 0, .int .i64 ((scrF l).length : Int), .int .i64 290]) := hm11
  subst hm11'
  clear hm11
  have y11 := y9.trans x11
  clear y9 x11 c9 n1 n2
  go_wp2_with (refine wpList_cat rfl _ _ rfl (linesOf (scrF l)) [116, 105, 99, 107, 32, 49] rfl rfl (by simp only [List.length_cons, List.length_nil]; omega) ?_)
  refine (Parse_any (linesOf (scrF l) ++ [116, 105, 99, 107, 32, 49]) w11 (hg.ext y11) (by rw [List.length_append]; simp only [List.length_cons, List.length_nil]; omega)).mono ?_
  rintro e w12 ⟨x12, hm12⟩
  rw [cat_end l] at hm12
  have hm12' : e = .returned (.tuple #[.slice none 0 0, .int .i64 ((scrF l).length : Int), .int .i64 290]) := hm12
  subst hm12'
  clear hm12
  have y12 := y11.trans x12
  clear y11 x12
  go_wp2_with (refine wpList_catg (by rfl) _ _ rfl (linesOf (scrF l)) (linesOf (scrF m)) rfl rfl (by omega) ?_)
  go_ret
  exact ⟨rfl, y12⟩
end Go.Proofs.YtikmoledbiepoaaGreatDoor

/- ScriptUnique: the walk. -/
import Derived.Test.YtikmoledbiepoaaGreatDoorScript
import Derived.Test.YtikmoledbiepoaaGreatDoorFits
namespace Go.Proofs.YtikmoledbiepoaaGreatDoor
open Go.RowKit
theorem vS_fst (x : List UInt8) (n : Int) : vS (x, n).1 = .string ⟨x.toArray⟩ := rfl
theorem goLines_fit : ∀ (ls : List (List UInt8)) (i : Nat) (l : List Ac), goLines i ls = .ok l → (∀ x ∈ ls, x.length ≤ 4000000000) → ∀ a ∈ l, AcFit a
  | [], i, l, h, _ => by cases h; intro a ha; cases ha
  | x :: r, i, l, h, hs => by
    cases hp : parseL x with
    | none => simp [goLines, hp] at h
    | some a =>
      simp only [goLines, hp] at h
      split at h
      · cases h
      · cases hg : goLines (i + 1) r with
        | error k => rw [hg] at h; cases h
        | ok m =>
          rw [hg] at h
          have hl : a :: m = l := by cases h; rfl
          subst hl
          have ih := goLines_fit r (i + 1) m hg fun y hy => hs y (by simp [hy])
          intro b hb
          rcases List.mem_cons.1 hb with rfl | hb
          · unfold parseL at hp
            cases hr : rdLine (spl 32 x) with
            | none => rw [hr] at hp; cases hp
            | some c =>
              rw [hr] at hp
              simp only at hp
              split at hp
              · cases hp
                exact rdLine_fit (hs x (by simp)) hr
              · cases hp
          · exact ih b hb
theorem ParseR_fit {u : List UInt8} {l : List Ac} (h : ParseR u = .ok l) (hu : u.length ≤ 4000000000) : ∀ a ∈ l, AcFit a := by
  unfold ParseR at h
  cases hg : goLines 0 (spl 10 u).dropLast with
  | error k => rw [hg] at h; cases h
  | ok m =>
    rw [hg] at h
    simp only at h
    split at h
    · have hm : m = l := by cases h; rfl
      subst hm
      exact goLines_fit _ _ _ hg fun x hx => Nat.le_trans ((spl_len 10 u).2 x (List.dropLast_subset _ hx)) hu
    · cases h
theorem conv_one (b : Int) (N : Nat) (w : World) (h : w.heap[N]? = some (.cells #[.int .u8 b] 5)) : (convert 46 9 (.slice (some ⟨N, 0, none⟩) 1 1)).run Tryz.prog w = .ok (.string ⟨[UInt8.ofNat b.toNat].toArray⟩) w := by
  rw [run_convert_bytes_string w 46 9 5 _ _ _ Tryz.und46 (by kernel_rfl) (by kernel_rfl)]
  rw [run_bytesToString w ⟨N, 0, none⟩ 1 1 [b]]
  · rfl
  · rw [run_loadCells w ⟨N, 0, none⟩ 1 (fun _ => .int .u8 b) (fun j hj => by
      have : j = 0 := by omega
      subst this
      show w.cell? ⟨N, 0, none⟩ = _
      rw [Lib.cell_of_heap h]; rfl)]
    rfl
/-- What region 4's operations yield. -/
def UG (s T : List UInt8) (k : Nat) (b : Int) : Nat → Value → World → Prop
  | 0, v, _ => v = .string ⟨s.toArray⟩
  | 1, v, _ => v = .string ⟨s.toArray⟩
  | 2, v, _ => v = .int .i64 (s.length : Int)
  | 3, v, _ => v = .int .i64 (min (s.length : Int) 200)
  | 4, v, _ => v = .string ⟨(s.take 200).toArray⟩
  | 5, v, _ => v = .string ⟨T.toArray⟩
  | 6, v, _ => v = .int .i64 (k : Int)
  | 7, v, _ => v = .string ⟨(T.take k).toArray⟩
  | 8, v, _ => v = .int .u8 b
  | 9, v, w => ∃ g, v = .slice (some ⟨g, 0, none⟩) 1 1 ∧ w.heap[g]? = some (.cells #[.int .u8 b] 5)
  | 10, v, _ => v = .string ⟨[UInt8.ofNat b.toNat].toArray⟩
  | 11, v, _ => v = .string ⟨(T.take k ++ [UInt8.ofNat b.toNat]).toArray⟩
  | 12, v, _ => v = .string ⟨T.toArray⟩
  | 13, v, _ => v = .int .i64 (k : Int)
  | 14, v, _ => v = .int .i64 ((k : Int) + 1)
  | 15, v, _ => v = .string ⟨T.toArray⟩
  | 16, v, _ => v = .int .i64 (T.length : Int)
  | 17, v, _ => v = .int .i64 (min ((k : Int) + 1) (T.length : Int))
  | 18, v, _ => v = .string ⟨(T.drop (min (k + 1) T.length)).toArray⟩
  | 19, v, _ => v = .string ⟨(T.take k ++ [UInt8.ofNat b.toNat] ++ T.drop (min (k + 1) T.length)).toArray⟩
  | 20, v, w => ∃ g, v = .slice (some ⟨g, 0, none⟩) 2 2 ∧ w.heap[g]? = some (.cells #[.string ⟨(s.take 200).toArray⟩, .string ⟨(T.take k ++ [UInt8.ofNat b.toNat] ++ T.drop (min (k + 1) T.length)).toArray⟩] 9)
  | 21, v, _ => v = .int .i64 2
  | _, v, _ => v = .int .i64 0
theorem UG.ext {s T : List UInt8} {k : Nat} {b : Int} (j : Nat) (u : Value) (w w' : World) (hx : Ext w w') (h : UG s T k b j u w) : UG s T k b j u w' := by
  match j, h with
  | 0, h => exact h
  | 1, h => exact h
  | 2, h => exact h
  | 3, h => exact h
  | 4, h => exact h
  | 5, h => exact h
  | 6, h => exact h
  | 7, h => exact h
  | 8, h => exact h
  | 9, h =>
    obtain ⟨g, h1, h2⟩ := h
    exact ⟨g, h1, by rw [hx.block _ (lt_of_block h2)]; exact h2⟩
  | 10, h => exact h
  | 11, h => exact h
  | 12, h => exact h
  | 13, h => exact h
  | 14, h => exact h
  | 15, h => exact h
  | 16, h => exact h
  | 17, h => exact h
  | 18, h => exact h
  | 19, h => exact h
  | 20, h =>
    obtain ⟨g, h1, h2⟩ := h
    exact ⟨g, h1, by rw [hx.block _ (lt_of_block h2)]; exact h2⟩
  | 21, h => exact h
  | n + 22, h => exact h
theorem ext_take' (s : List UInt8) (k : Nat) : (⟨s.toArray⟩ : ByteArray).extract 0 (k : Int).toNat = ⟨(s.take k).toArray⟩ := by
  apply ByteArray.ext
  rw [ByteArray.data_extract]
  simp
theorem ext_drop' (s : List UInt8) (k : Nat) : (⟨s.toArray⟩ : ByteArray).extract k s.length = ⟨(s.drop k).toArray⟩ := by
  apply ByteArray.ext
  rw [ByteArray.data_extract]
  simp
  exact List.take_of_length_le (by simp)
theorem run_bs2 (a b : List UInt8) (w : World) : (Instr.buildSlice 47 2 #[(0, .string ⟨a.toArray⟩), (1, .string ⟨b.toArray⟩)]).run Tryz.prog w = .ok (.slice (some ⟨w.heap.size, 0, none⟩) 2 2) (w.alloc (.cells #[.string ⟨a.toArray⟩, .string ⟨b.toArray⟩] 9)) := by kernel_rfl
theorem exec_bs2 {ρ : Operand → Value} {o : Oper} {x y : Operand} {w : World} {a b : List UInt8} (ho : o.op = .buildSlice 47 2 #[(0, x), (1, y)]) (hx : ρ x = .string ⟨a.toArray⟩) (hy : ρ y = .string ⟨b.toArray⟩) :
    (execOp ρ o).run Tryz.prog w = .ok (.value (.slice (some ⟨w.heap.size, 0, none⟩) 2 2)) (w.alloc (.cells #[.string ⟨a.toArray⟩, .string ⟨b.toArray⟩] 9)) := by
  unfold execOp
  simp only [ho, List.map_toArray, List.map_cons, List.map_nil, hx, hy, Sem.run_bind, run_bs2]
  rfl
theorem run_bs1 (b : Int) (w : World) : (Instr.buildSlice 46 1 #[(0, .int .u8 b)]).run Tryz.prog w = .ok (.slice (some ⟨w.heap.size, 0, none⟩) 1 1) (w.alloc (.cells #[.int .u8 b] 5)) := by kernel_rfl
theorem exec_bs1 {ρ : Operand → Value} {o : Oper} {x : Operand} {w : World} {b : Int} (ho : o.op = .buildSlice 46 1 #[(0, x)]) (hx : ρ x = .int .u8 b) :
    (execOp ρ o).run Tryz.prog w = .ok (.value (.slice (some ⟨w.heap.size, 0, none⟩) 1 1)) (w.alloc (.cells #[.int .u8 b] 5)) := by
  unfold execOp
  simp only [ho, List.map_toArray, List.map_cons, List.map_nil, hx, Sem.run_bind, run_bs1]
  rfl
theorem exec_conv1 {ρ : Operand → Value} {o : Oper} {x : Operand} {w : World} {g : Nat} {b : Int} (ho : o.op = .convert 46 9 x) (hx : ρ x = .slice (some ⟨g, 0, none⟩) 1 1) (h : w.heap[g]? = some (.cells #[.int .u8 b] 5)) :
    (execOp ρ o).run Tryz.prog w = .ok (.value (.string ⟨[UInt8.ofNat b.toNat].toArray⟩)) w := by
  unfold execOp
  simp only [ho, hx, Sem.run_bind, conv_one b g w h]
  rfl
set_option maxRecDepth 100000 in
set_option maxHeartbeats 4000000 in
theorem unique_any (l : List Ap) (at' : Int) (b : Int) (s : List UInt8) (u : Value) (w : World) (hg : Glob w) (hl : ApsAt w u l) (hpl : ∀ p ∈ l, ApFit p) (hat : IntFit at') (hs : s.length ≤ 9223372036854775807) :
    Calls Tryz.prog 6 #[u, .int .i64 at', .int .u8 b, .string ⟨s.toArray⟩] w fun e w' => e = .returned (.bool true) ∧ Ext w w' := by
  have h20 := scrF_len l
  have hs1 := scrF_short l
  go_enter Tryz.func6, Tryz.ntmps6
  go_wp2_with fail
  refine (sane_any w hg).mono ?_
  rintro e w1 ⟨rfl, x1⟩
  go_wp2_with fail
  refine (ScriptFrom_any l u w1 (hl.ext x1) hpl).mono ?_
  rintro e w2 ⟨x2, u2, rfl, a2, _⟩
  have y2 := x1.trans x2
  clear x1 x2 hl
  go_wp2_with fail
  refine (Print_any (scrF l) u2 w2 (hg.ext y2) a2 (scrF_fit l)).mono ?_
  rintro e w4 ⟨rfl, x4⟩
  rw [scrF_print, vS_fst]
  have y4 := y2.trans x4
  clear a2 y2 x4
  generalize linesOf (scrF l) = T at hs1 ⊢
  have hT0 : (0 : Int) ≤ (T.length : Int) := by omega
  obtain ⟨hk0, hk1⟩ := pickN_lt at' (n := (T.length : Int) + 1) (by omega)
  obtain ⟨k, hk⟩ : ∃ k : Nat, pickN at' ((T.length : Int) + 1) = (k : Int) := ⟨(pickN at' ((T.length : Int) + 1)).toNat, by omega⟩
  have hkT : k ≤ T.length := by omega
  clear hk0 hk1
  have HK := Lib.hid hk
  clear hk
  go_wp2_with fail
  refine (pickA at' ((T.length : Int) + 1) w4 hat (by omega) (by omega)).mono ?_
  rintro e w5 ⟨rfl, rfl⟩
  rw [HK.out]
  go_upto_region 4 with fail
  clear HK
  have HTS : Hid ((⟨s.toArray⟩ : ByteArray).extract 0 (min (s.length : Int) 200).toNat = ⟨(s.take 200).toArray⟩) := ext_take s 200
  refine wp_region_ext (UG s T k b) UG.ext mixedOrd (by kernel_rfl) (by kernel_rfl) (by kernel_rfl) ?_ ?_
  · refine ⟨?_, ?_, ?_, ?_, ?_, ?_, ?_, ?_, ?_, ?_, ?_, ?_, ?_, ?_, ?_, ?_, ?_, ?_, ?_, ?_, ?_, ?_, ?_, trivial⟩
    · intro a' w' hs hW
      have h0 : a'.tmps[3]? = some (.string ⟨s.toArray⟩) := hs.old 3 rfl
      exact wpOp_val rfl rfl (by simp [execOp, go_sem, h0]) ⟨_, rfl, .inr rfl, Ext.refl _⟩
    · intro a' w' hs hW
      have h0 : a'.tmps[3]? = some (.string ⟨s.toArray⟩) := hs.old 3 rfl
      exact wpOp_val rfl rfl (by simp [execOp, go_sem, h0]) ⟨_, rfl, .inr rfl, Ext.refl _⟩
    · intro a' w' hs hW
      obtain ⟨v, h0, rfl⟩ := hs.made 1 34 rfl rfl
      exact wpOp_val rfl rfl (by simp [execOp, go_sem, h0]) ⟨_, rfl, .inr rfl, Ext.refl _⟩
    · intro a' w' hs hW
      obtain ⟨v, h0, rfl⟩ := hs.made 2 35 rfl rfl
      exact wpOp_val rfl rfl (by simp [execOp, go_sem, h0]) ⟨_, rfl, .inr rfl, Ext.refl _⟩
    · intro a' w' hs hW
      obtain ⟨v, h0, rfl⟩ := hs.made 0 33 rfl rfl
      obtain ⟨v, h1, rfl⟩ := hs.made 3 36 rfl rfl
      have h2 := HTS.out
      have i1 : (0 : Int) ≤ min (s.length : Int) 200 := by omega
      have i2 : min (s.length : Int) 200 ≤ (s.length : Int) := by omega
      exact wpOp_val (v := .string ⟨(s.take 200).toArray⟩) rfl rfl (by simp [execOp, go_sem, h0, h1, i1, i2, h2]) ⟨_, rfl, .inr rfl, Ext.refl _⟩
    · intro a' w' hs hW
      have h0 : a'.tmps[10]? = some (.string ⟨T.toArray⟩) := hs.old 10 rfl
      exact wpOp_val rfl rfl (by simp [execOp, go_sem, h0]) ⟨_, rfl, .inr rfl, Ext.refl _⟩
    · intro a' w' hs hW
      have h0 : a'.tmps[12]? = some (.int .i64 (k : Int)) := hs.old 12 rfl
      exact wpOp_val rfl rfl (by simp [execOp, go_sem, h0]) ⟨_, rfl, .inr rfl, Ext.refl _⟩
    · intro a' w' hs hW
      obtain ⟨v, h0, rfl⟩ := hs.made 5 38 rfl rfl
      obtain ⟨v, h1, rfl⟩ := hs.made 6 39 rfl rfl
      have h2 := ext_take' T k
      have i1 : (0 : Int) ≤ (k : Int) := by omega
      have i2 : (k : Int) ≤ (T.length : Int) := by omega
      simp only [Int.toNat_natCast] at h2
      exact wpOp_val (v := .string ⟨(T.take k).toArray⟩) rfl rfl (by simp [execOp, go_sem, h0, h1, i1, i2, h2]) ⟨_, rfl, .inr rfl, Ext.refl _⟩
    · intro a' w' hs hW
      have h0 : a'.tmps[2]? = some (.int .u8 b) := hs.old 2 rfl
      exact wpOp_val rfl rfl (by simp [execOp, go_sem, h0]) ⟨_, rfl, .inr rfl, Ext.refl _⟩
    · intro a' w' hs hW
      obtain ⟨v, h0, rfl⟩ := hs.made 8 41 rfl rfl
      exact wpOp_val (w' := w'.alloc (.cells #[.int .u8 b] 5)) (v := .slice (some ⟨w'.heap.size, 0, none⟩) 1 1) rfl rfl (exec_bs1 rfl (ev h0)) ⟨_, rfl, .inr ⟨_, rfl, alloc_new _ _⟩, Ext.alloc _ _⟩
    · intro a' w' hs hW
      obtain ⟨v, h0, g, rfl, hgc⟩ := hs.made 9 42 rfl rfl
      exact wpOp_val rfl rfl (exec_conv1 rfl (ev h0) hgc) ⟨_, rfl, .inr rfl, Ext.refl _⟩
    · intro a' w' hs hW
      obtain ⟨v, h0, rfl⟩ := hs.made 7 40 rfl rfl
      obtain ⟨v, h1, rfl⟩ := hs.made 10 43 rfl rfl
      exact wpOp_val rfl rfl (exec_cat rfl (T.take k) [UInt8.ofNat b.toNat] (ev h0) (ev h1) (by rw [List.length_take, List.length_cons, List.length_nil]; omega)) ⟨_, rfl, .inr rfl, Ext.refl _⟩
    · intro a' w' hs hW
      have h0 : a'.tmps[10]? = some (.string ⟨T.toArray⟩) := hs.old 10 rfl
      exact wpOp_val rfl rfl (by simp [execOp, go_sem, h0]) ⟨_, rfl, .inr rfl, Ext.refl _⟩
    · intro a' w' hs hW
      have h0 : a'.tmps[12]? = some (.int .i64 (k : Int)) := hs.old 12 rfl
      exact wpOp_val rfl rfl (by simp [execOp, go_sem, h0]) ⟨_, rfl, .inr rfl, Ext.refl _⟩
    · intro a' w' hs hW
      obtain ⟨v, h0, rfl⟩ := hs.made 13 46 rfl rfl
      have hsum : IntKind.i64.wrap ((k : Int) + 1) = (k : Int) + 1 := IntWalk.i64_in _ (by omega)
      exact wpOp_val (v := .int .i64 ((k : Int) + 1)) rfl rfl (by simp [execOp, go_sem, h0, hsum]) ⟨_, rfl, .inr rfl, Ext.refl _⟩
    · intro a' w' hs hW
      have h0 : a'.tmps[10]? = some (.string ⟨T.toArray⟩) := hs.old 10 rfl
      exact wpOp_val rfl rfl (by simp [execOp, go_sem, h0]) ⟨_, rfl, .inr rfl, Ext.refl _⟩
    · intro a' w' hs hW
      obtain ⟨v, h0, rfl⟩ := hs.made 15 48 rfl rfl
      exact wpOp_val rfl rfl (by simp [execOp, go_sem, h0]) ⟨_, rfl, .inr rfl, Ext.refl _⟩
    · intro a' w' hs hW
      obtain ⟨v, h0, rfl⟩ := hs.made 14 47 rfl rfl
      obtain ⟨v, h1, rfl⟩ := hs.made 16 49 rfl rfl
      exact wpOp_val (v := .int .i64 (min ((k : Int) + 1) (T.length : Int))) rfl rfl (by simp [execOp, go_sem, h0, h1]) ⟨_, rfl, .inr rfl, Ext.refl _⟩
    · intro a' w' hs hW
      obtain ⟨v, h0, rfl⟩ := hs.made 12 45 rfl rfl
      obtain ⟨v, h1, e1⟩ := hs.made 17 50 rfl rfl
      have e2 : v = .int .i64 ((min (k + 1) T.length : Nat) : Int) := by rw [e1]; congr 1; omega
      subst e2
      have h2 := ext_drop' T (min (k + 1) T.length)
      have hd2 : min (k + 1) T.length ≤ T.length := Nat.min_le_right _ _
      obtain ⟨d, hd⟩ : ∃ d, d = min (k + 1) T.length := ⟨_, rfl⟩
      rw [← hd] at h1 h2 hd2
      have i1 : (0 : Int) ≤ (d : Int) := by omega
      have i2 : (d : Int) ≤ (T.length : Int) := by omega
      exact wpOp_val (v := .string ⟨(T.drop d).toArray⟩) rfl rfl (by clear hd; simp [execOp, go_sem, h0, h1, i1, i2, h2]) ⟨_, rfl, .inr (by show Value.string ⟨(T.drop d).toArray⟩ = .string ⟨(T.drop (min (k + 1) T.length)).toArray⟩; rw [hd]), Ext.refl _⟩
    · intro a' w' hs hW
      obtain ⟨v, h0, rfl⟩ := hs.made 11 44 rfl rfl
      obtain ⟨v, h1, rfl⟩ := hs.made 18 51 rfl rfl
      exact wpOp_val rfl rfl (exec_cat rfl (T.take k ++ [UInt8.ofNat b.toNat]) (T.drop (min (k + 1) T.length)) (ev h0) (ev h1) (by rw [List.length_append, List.length_take, List.length_drop, List.length_cons, List.length_nil]; omega)) ⟨_, rfl, .inr rfl, Ext.refl _⟩
    · intro a' w' hs hW
      obtain ⟨v, h0, rfl⟩ := hs.made 4 37 rfl rfl
      obtain ⟨v, h1, rfl⟩ := hs.made 19 52 rfl rfl
      exact wpOp_val rfl rfl (exec_bs2 rfl (ev h0) (ev h1)) ⟨_, rfl, .inr ⟨_, rfl, alloc_new _ _⟩, Ext.alloc _ _⟩
    · intro a' w' hs hW
      obtain ⟨v, h0, g, rfl, hgc⟩ := hs.made 20 53 rfl rfl
      exact wpOp_val (v := .int .i64 2) rfl rfl (by simp [execOp, go_sem, h0]) ⟨_, rfl, .inr rfl, Ext.refl _⟩
    · intro a' w' hs hW
      exact wpOp_val (v := .int .i64 0) rfl rfl (by simp [execOp, go_sem]) ⟨_, rfl, .inr rfl, Ext.refl _⟩
  · intro a' w' hs hW
    obtain ⟨v0, h0, _⟩ := hs.made 0 33 rfl
    obtain ⟨v1, h1, _⟩ := hs.made 1 34 rfl
    obtain ⟨v2, h2, _⟩ := hs.made 2 35 rfl
    obtain ⟨v3, h3, _⟩ := hs.made 3 36 rfl
    obtain ⟨v4, h4, _⟩ := hs.made 4 37 rfl
    obtain ⟨v5, h5, _⟩ := hs.made 5 38 rfl
    obtain ⟨v6, h6, _⟩ := hs.made 6 39 rfl
    obtain ⟨v7, h7, _⟩ := hs.made 7 40 rfl
    obtain ⟨v8, h8, _⟩ := hs.made 8 41 rfl
    obtain ⟨v9, h9, _⟩ := hs.made 9 42 rfl
    obtain ⟨v10, h10, _⟩ := hs.made 10 43 rfl
    obtain ⟨v11, h11, _⟩ := hs.made 11 44 rfl
    obtain ⟨v12, h12, _⟩ := hs.made 12 45 rfl
    obtain ⟨v13, h13, _⟩ := hs.made 13 46 rfl
    obtain ⟨v14, h14, _⟩ := hs.made 14 47 rfl
    obtain ⟨v15, h15, _⟩ := hs.made 15 48 rfl
    obtain ⟨v16, h16, _⟩ := hs.made 16 49 rfl
    obtain ⟨v17, h17, _⟩ := hs.made 17 50 rfl
    obtain ⟨v18, h18, _⟩ := hs.made 18 51 rfl
    obtain ⟨v19, h19, _⟩ := hs.made 19 52 rfl
    obtain ⟨v, h20, g20, rfl, hg20⟩ := hs.made 20 53 rfl
    obtain ⟨v, h21, rfl⟩ := hs.made 21 54 rfl
    obtain ⟨v, h22, rfl⟩ := hs.made 22 55 rfl
    have ha := act_putAll [(33, v0), (34, v1), (35, v2), (36, v3), (37, v4), (38, v5), (39, v6), (40, v7), (41, v8), (42, v9), (43, v10), (44, v11), (45, v12), (46, v13), (47, v14), (48, v15), (49, v16), (50, v17), (51, v18), (52, v19), (53, .slice (some ⟨g20, 0, none⟩) 2 2), (54, .int .i64 2), (55, .int .i64 0)] hs.defers hs.size (by simp [h0, h1, h2, h3, h4, h5, h6, h7, h8, h9, h10, h11, h12, h13, h14, h15, h16, h17, h18, h19, h20, h21, h22]) rfl hs.old
    clear hs h0 h1 h2 h3 h4 h5 h6 h7 h8 h9 h10 h11 h12 h13 h14 h15 h16 h17 h18 h19 h20 h21 h22 HTS
    simp only [putAll, Act.put] at ha
    subst ha
    go_frame
    have y5 := y4.trans hW
    clear y4 hW
    have hU : ∀ j, j < 2 → ∃ U : List UInt8, U.length ≤ 4000000000 ∧ w'.cell? ⟨g20, j, none⟩ = some (.string ⟨U.toArray⟩) := by
      intro j hj
      match j, hj with
      | 0, _ => exact ⟨s.take 200, by rw [List.length_take]; omega, by rw [Lib.cell_of_heap hg20]; rfl⟩
      | 1, _ => exact ⟨T.take k ++ [UInt8.ofNat b.toNat] ++ T.drop (min (k + 1) T.length), by simp only [List.length_append, List.length_take, List.length_drop, List.length_cons, List.length_nil]; omega, by rw [Lib.cell_of_heap hg20]; rfl⟩
    have HU := Lib.hid hU
    clear hU hg20
    go_wp2_with fail
    go_loopw [55] (fun i wq => ∃ j : Nat, j ≤ 2 ∧ i = .int .i64 j ∧ Ext w' wq) (fun i _ => 2 - (intOf i).toNat)
    case atStart => exact ⟨0, by decide, rfl, Ext.refl _⟩
    case round =>
      obtain ⟨j, hj, rfl, hq⟩ := hrel
      by_cases hlt : j < 2
      · obtain ⟨U, hul, hc⟩ := HU.out j hlt
        have hc' : wr.cell? ⟨g20, j, none⟩ = some (.string ⟨U.toArray⟩) := by rw [hq.cell (p := ⟨g20, j, none⟩) (cell_lt hc)]; exact hc
        have i1 : (0 : Int) ≤ (j : Int) := by omega
        have i2 : (j : Int) < 2 := by omega
        have yr := y5.trans hq
        clear hc
        go_wp2_with fail
        refine (Parse_any U wr (hg.ext yr) hul).mono ?_
        rintro e w6 ⟨x6, hm6⟩
        have q6 := hq.trans x6
        have y6 := yr.trans x6
        clear hc' yr
        cases hR : ParseR U with
        | error kk =>
          rw [hR] at hm6
          have hm6' : e = .returned (.tuple #[.slice none 0 0, .int .i64 (kk : Int), .int .i64 290]) := hm6
          subst hm6'
          clear hm6
          have hkk : ¬ (kk : Int) < 0 := by omega
          go_wp2_with fail
          go_roundw
          case rel => exact ⟨j + 1, hlt, by go_num, q6⟩
          case measure => simp [intOf]; omega
        | ok ll =>
          rw [hR] at hm6
          obtain ⟨v6, rfl, a6⟩ := hm6
          have hfit := ParseR_fit hR hul
          have hpr := ParseR_print hR
          have hok := (ParseR_inv hR).1
          have hln := (ParseR_inv hR).2.1
          have HR := Lib.hid hR
          clear hR
          go_wp2_with fail
          refine (Print_any ll v6 w6 (hg.ext y6) a6 hfit).mono ?_
          rintro e w7 ⟨rfl, x7⟩
          rw [hpr, vS_fst]
          have q7 := q6.trans x7
          have y7 := y6.trans x7
          have a7 := a6.ext x7
          clear a6 x6 q6 y6 x7 hpr
          obtain ⟨sa, cap, rfl, hc1, hc2⟩ := id a7
          have HC2 := Lib.hid hc2
          clear hc2
          go_wp2_with fail
          go_loopw [20] (fun i wq => ∃ q : Nat, q ≤ ll.length ∧ i = .int .i64 q ∧ Ext w7 wq) (fun i _ => ll.length - (intOf i).toNat)
          case atStart => exact ⟨0, Nat.zero_le _, rfl, Ext.refl _⟩
          case round =>
            obtain ⟨q, hqq, rfl, hq2⟩ := hrel
            have k0 : (0 : Int) ≤ (q : Int) := by omega
            by_cases hlt2 : q < ll.length
            · have k1 : (q : Int) < (ll.length : Int) := by omega
              obtain ⟨bb, oo, hsa, hel⟩ := HC2.out (by intro e; rw [e] at hlt2; simp at hlt2)
              subst hsa
              obtain ⟨x, hx⟩ : ∃ x, ll[q]? = some x := ⟨_, List.getElem?_eq_getElem hlt2⟩
              obtain ⟨s3, n3, c3, hr3, hf3⟩ := hel q x hx
              have hr4 := rangeAt_ext hr3 hq2
              have hxm := List.mem_of_getElem? hx
              have hxo : x.line.2 = true := List.all_eq_true.1 hok x hxm
              have hV := Valid_any x (.slice s3 n3 c3) wr (hg.ext (y7.trans hq2)) (hfit x hxm) (hf3.ext hq2)
              rw [hxo] at hV
              clear hel hr3 hf3 hx
              go_wp2_with (refine wpList_ld33m rfl _ rfl bb (oo + q * 23) (by simp [Act.eval]) x (.slice s3 n3 c3) hr4 ?_)
              refine hV.mono ?_
              rintro e w9 ⟨rfl, x9⟩
              have q9 := hq2.trans x9
              clear hV hr4 x9 hq2
              go_wp2_with fail
              go_roundw
              case rel => exact ⟨q + 1, hlt2, by go_num, q9⟩
              case measure => simp [intOf]; omega
            · have hqe : q = ll.length := by omega
              subst hqe
              go_wp2_with fail
              go_roundw
              case rel => exact ⟨j + 1, hlt, by go_num, q7.trans hq2⟩
              case measure => simp [intOf]; omega
      · go_wp2_with fail
        go_ret
        exact ⟨rfl, y5.trans hq⟩
end Go.Proofs.YtikmoledbiepoaaGreatDoor

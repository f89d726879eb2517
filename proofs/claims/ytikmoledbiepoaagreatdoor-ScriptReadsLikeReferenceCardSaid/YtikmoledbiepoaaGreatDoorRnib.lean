/- The reference's small readers: nibble, number, at. -/
import Derived.Test.YtikmoledbiepoaaGreatDoorRgue
import Derived.Test.YtikmoledbiepoaaGreatDoorRhex
namespace Go.Proofs.YtikmoledbiepoaaGreatDoor
open Go.RowKit
theorem sub_nat (c d : UInt8) (h : d.toNat ≤ c.toNat) : ((c - d).toNat : Int) = (c.toNat : Int) - d.toNat := by
  rw [UInt8.toNat_sub_of_le _ _ (by rw [UInt8.le_iff_toNat_le]; exact h)]
  omega
set_option maxHeartbeats 400000 in
theorem nib_any (c : UInt8) (w : World) : Calls Tryz.prog 79 #[vB c] w fun e w' => e = .returned (vB (rnib c)) ∧ w = w' := by
  have hc := c.toNat_lt
  have zero : vB 0 = .int .u8 0 := rfl
  have HZ := Lib.hid zero
  clear zero
  by_cases h1 : 48 ≤ c.toNat ∧ c.toNat ≤ 57
  · have e : Hid (vB (rnib c) = .int .u8 ((c.toNat : Int) - 48)) := by
      unfold Hid rnib
      rw [if_pos h1]
      unfold vB
      rw [sub_nat c 48 h1.1]
      rfl
    unfold vB at e ⊢
    obtain ⟨g1, g2⟩ : (48 : Int) ≤ (c.toNat : Int) ∧ (c.toNat : Int) ≤ 57 := by omega
    clear h1 HZ
    go_enter Tryz.func79, Tryz.ntmps79
    go_wp2_with fail
    go_ret
    exact ⟨by rw [e.out]; rfl, rfl⟩
  · by_cases h2 : 97 ≤ c.toNat ∧ c.toNat ≤ 102
    · have e : Hid (vB (rnib c) = .int .u8 ((c.toNat : Int) - 97 + 10)) := by
        unfold Hid rnib
        rw [if_neg h1, if_pos h2]
        unfold vB
        have a1 := sub_nat c 97 h2.1
        have a2 : (97 : UInt8).toNat = 97 := rfl
        rw [UInt8.toNat_add]
        congr 1
        have a3 : (10 : UInt8).toNat = 10 := rfl
        rw [a2] at a1
        rw [a3]
        omega
      unfold vB at e ⊢
      obtain ⟨g1, g2⟩ : (97 : Int) ≤ (c.toNat : Int) ∧ (c.toNat : Int) ≤ 102 := by omega
      clear h1 h2 HZ
      go_enter Tryz.func79, Tryz.ntmps79
      go_wp2_with fail
      go_ret
      exact ⟨by rw [e.out]; rfl, rfl⟩
    · have e : Hid (vB (rnib c) = .int .u8 0) := by
        unfold Hid rnib
        rw [if_neg h1, if_neg h2]
        rfl
      unfold vB at e ⊢
      clear HZ
      go_enter Tryz.func79, Tryz.ntmps79
      go_wp2
      all_goals first
        | (exfalso; omega)
        | (go_ret; exact ⟨by rw [e.out]; rfl, rfl⟩)
theorem exec_sub48 {ρ : Operand → Value} {o : Oper} {x : Operand} {w : World} {b d : UInt8} (ho : o.op = .binOp .sub 5 x (.const (.int .u8 48)) 5) (hx : ρ x = vB b) (hc : ρ (.const (.int .u8 48)) = .int .u8 48) (hd : b - 48 = d) :
    (execOp ρ o).run Tryz.prog w = .ok (.value (vB d)) w := by
  have h := b.toNat_lt
  have h1 : IntKind.u8.wrap ((b.toNat : Int) - 48) = (d.toNat : Int) := by
    rw [IntKind.wrap_u8, ← hd, UInt8.toNat_sub]
    have : (48 : UInt8).toNat = 48 := rfl
    rw [this]
    omega
  unfold vB at hx ⊢
  simp [execOp, go_sem, ho, hx, hc, h1]
set_option maxRecDepth 100000 in
set_option maxHeartbeats 1000000 in
theorem rnumber_any (s : List UInt8) (w : World) : Calls Tryz.prog 63 #[.string ⟨s.toArray⟩] w fun e w' => e = .returned (.int .i64 ((rnum s : Nat) : Int)) ∧ w = w' := by
  go_enter Tryz.func63, Tryz.ntmps63
  go_wp2_with fail
  go_loopw [3, 4] (fun n i wq => ∃ j : Nat, j ≤ s.length ∧ j ≤ 11 ∧ i = .int .i64 j ∧ n = .int .i64 ((rnumL (s.take j) : Nat) : Int) ∧ w = wq) (fun _ i _ => s.length - (intOf i).toNat)
  case atStart => exact ⟨0, Nat.zero_le _, Nat.zero_le _, rfl, rfl, rfl⟩
  case round =>
    obtain ⟨j, hj, hj11, rfl, rfl, rfl⟩ := hrel
    by_cases hlt : j < s.length
    · have hlt' : (j : Int) < (s.length : Int) := by omega
      by_cases h11 : j < 11
      · have h11' : (j : Int) < 11 := by omega
        obtain ⟨c, hc⟩ : ∃ c, s[j]? = some c := ⟨_, List.getElem?_eq_getElem hlt⟩
        have hb : rnumL (s.take j) ≤ 290000000000 := by
          have h1 := rnumL_le 10 (s.take j) (by rw [List.length_take]; omega)
          have h2 : 29 * 10 ^ 10 = 290000000000 := by decide
          omega
        obtain ⟨d, hd⟩ : ∃ d, c - 48 = d := ⟨_, rfl⟩
        have HS : Hid (rnumL (s.take (j + 1)) = 10 * rnumL (s.take j) + d.toNat) := by
          unfold Hid
          rw [List.take_add_one, hc, ← hd]
          exact rnumL_snoc _ _
        have HC := Lib.hid hc
        have HD := Lib.hid hd
        clear hc hd
        have hdl := d.toNat_lt
        generalize rnumL (s.take j) = m at hb HS ⊢
        go_wp2_with (first
          | refine wpList_runs 19 rfl rfl (vB c) _ (exec_ixs rfl rfl rfl HC.out) ?_
          | (refine wpList_runs 20 rfl rfl (vB d) _ (exec_sub48 rfl rfl rfl HD.out) ?_; unfold vB))
        go_roundw
        case rel => exact ⟨j + 1, by omega, by omega, by go_num, by rw [HS.out]; congr 1, by first | rfl | trivial⟩
        case measure => simp [intOf]; omega
      · have h11' : ¬ (j : Int) < 11 := by omega
        have HE : Hid (rnum s = rnumL (s.take j)) := by
          have : j = 11 := by omega
          subst this
          rfl
        go_wp2_with fail
        go_ret
        exact ⟨by rw [HE.out]; rfl, rfl⟩
    · have HE : Hid (rnum s = rnumL (s.take j)) := by
        unfold Hid rnum
        rw [List.take_of_length_le (by omega), List.take_of_length_le (by omega)]
      go_wp2_with fail
      go_ret
      exact ⟨by rw [HE.out]; rfl, rfl⟩
/-- A slice of strings. -/
def StrsAt (w : World) (v : Value) (l : List (List UInt8)) : Prop :=
  ∃ a cap, v = .slice a l.length cap ∧ l.length ≤ cap ∧ cap ≤ 9223372036854775807 ∧ (l ≠ [] → ∃ b o, a = some ⟨b, o, none⟩ ∧ ∀ (j : Nat) (x : List UInt8), l[j]? = some x → w.cell? ⟨b, o + j, none⟩ = some (vS x))
theorem StrsAt.ext {w w' : World} {v : Value} {l : List (List UInt8)} (h : StrsAt w v l) (hx : Ext w w') : StrsAt w' v l := by
  obtain ⟨a, cap, rfl, h1, h2, h3⟩ := h
  refine ⟨a, cap, rfl, h1, h2, fun hn => ?_⟩
  obtain ⟨b, o, rfl, hc⟩ := h3 hn
  refine ⟨b, o, rfl, fun j x hj => ?_⟩
  rw [hx.cell (p := ⟨b, o + j, none⟩) (cell_lt (hc j x hj))]
  exact hc j x hj
set_option maxHeartbeats 1000000 in
theorem rat_any (l : List (List UInt8)) (i : Nat) (v : Value) (w : World) (h : StrsAt w v l) (hi : i ≤ 4294967296) :
    Calls Tryz.prog 61 #[v, .int .i64 (i : Int)] w fun e w' => e = .returned (vS (rat l i)) ∧ w = w' := by
  obtain ⟨a, cap, rfl, h1, h2, h3⟩ := h
  by_cases hlt : i < l.length
  · obtain ⟨b, o, rfl, hc⟩ := h3 (by intro e; rw [e] at hlt; simp at hlt)
    obtain ⟨x, hx⟩ : ∃ x, l[i]? = some x := ⟨_, List.getElem?_eq_getElem hlt⟩
    have hcc := hc i x hx
    have HE : Hid (rat l i = x) := by unfold Hid rat; rw [List.getD_eq_getElem?_getD, hx]; rfl
    have i0 : (0 : Int) ≤ (i : Int) := by omega
    have i1 : (i : Int) < (l.length : Int) := by omega
    clear hx hc h3
    go_enter Tryz.func61, Tryz.ntmps61
    go_wp2_with fail
    go_ret
    exact ⟨by rw [HE.out]; rfl, rfl⟩
  · have i1 : ¬ (i : Int) < (l.length : Int) := by omega
    have HE : Hid (rat l i = []) := by unfold Hid rat; rw [List.getD_eq_getElem?_getD, List.getElem?_eq_none (by omega)]; rfl
    clear h3
    go_enter Tryz.func61, Tryz.ntmps61
    go_wp2_with fail
    go_ret
    exact ⟨by rw [HE.out]; rfl, rfl⟩
end Go.Proofs.YtikmoledbiepoaaGreatDoor
/- The reference's raw (printed by wip/gen_rraw.py). -/
namespace Go.Proofs.YtikmoledbiepoaaGreatDoor
open Go.RowKit
theorem rraw_append : ∀ (p q : List UInt8), p.length % 2 = 0 → rraw (p ++ q) = rraw p ++ rraw q
  | [], q, _ => rfl
  | [a], q, h => by simp at h
  | a :: b :: r, q, h => by
    have ih := rraw_append r q (by simp at h; omega)
    simp only [List.cons_append, rraw, ih]
theorem rraw_step {s : List UInt8} {m : Nat} {c d : UInt8} (hm : m % 2 = 0) (hc : s[m]? = some c) (hd : s[m + 1]? = some d) : rraw (s.take (m + 2)) = rraw (s.take m) ++ [16 * rnib c + rnib d] := by
  have hl := (List.getElem?_eq_some_iff.1 hd).1
  have e : s.take (m + 2) = s.take m ++ [c, d] := by
    rw [show m + 2 = m + 1 + 1 by omega, List.take_add_one, List.take_add_one, hc, hd, List.append_assoc]
    rfl
  rw [e, rraw_append _ _ (by rw [List.length_take]; omega)]
  rfl
theorem rraw_end {s : List UInt8} {m : Nat} (hm : m % 2 = 0) (h : s.length ≤ m + 1) (hl : m ≤ s.length) : rraw s = rraw (s.take m) := by
  have e := rraw_append (s.take m) (s.drop m) (by rw [List.length_take]; omega)
  rw [List.take_append_drop] at e
  have hd : (s.drop m).length ≤ 1 := by rw [List.length_drop]; omega
  have : rraw (s.drop m) = [] := by
    match s.drop m, hd with
    | [], _ => rfl
    | [_], _ => rfl
  rw [e, this, List.append_nil]
theorem ent79 : Ent 79 := enters_of Tryz.func79 (by kernel_rfl) rfl
theorem exec_mul16 {ρ : Operand → Value} {o : Oper} {x : Operand} {w : World} {b : UInt8} (ho : o.op = .binOp .mul 5 (.const (.int .u8 16)) x 5) (hx : ρ x = vB b) (hc : ρ (.const (.int .u8 16)) = .int .u8 16) :
    (execOp ρ o).run Tryz.prog w = .ok (.value (vB (16 * b))) w := by
  have h1 : IntKind.u8.wrap (16 * (b.toNat : Int)) = ((16 * b).toNat : Int) := by
    rw [IntKind.wrap_u8, UInt8.toNat_mul]
    have : (16 : UInt8).toNat = 16 := rfl
    rw [this]
    omega
  unfold vB at hx ⊢
  simp [execOp, go_sem, ho, hx, hc, h1]
theorem exec_addb {ρ : Operand → Value} {o : Oper} {x y : Operand} {w : World} {a b : UInt8} (ho : o.op = .binOp .add 5 x y 5) (hx : ρ x = vB a) (hy : ρ y = vB b) :
    (execOp ρ o).run Tryz.prog w = .ok (.value (vB (a + b))) w := by
  have h1 : IntKind.u8.wrap ((a.toNat : Int) + (b.toNat : Int)) = ((a + b).toNat : Int) := by
    rw [IntKind.wrap_u8, UInt8.toNat_add]
    omega
  unfold vB at hx hy ⊢
  simp [execOp, go_sem, ho, hx, hy, h1]
theorem run_bs1b (a : UInt8) (w : World) : (Instr.buildSlice 46 1 #[(0, vB a)]).run Tryz.prog w = .ok (.slice (some ⟨w.heap.size, 0, none⟩) 1 1) (w.alloc (.cells #[vB a] 5)) := by kernel_rfl
theorem exec_bs1b {ρ : Operand → Value} {o : Oper} {x : Operand} {w : World} {a : UInt8} (ho : o.op = .buildSlice 46 1 #[(0, x)]) (hx : ρ x = vB a) :
    (execOp ρ o).run Tryz.prog w = .ok (.value (.slice (some ⟨w.heap.size, 0, none⟩) 1 1)) (w.alloc (.cells #[vB a] 5)) := by
  unfold execOp
  simp only [ho, List.map_toArray, List.map_cons, List.map_nil, hx, Sem.run_bind, run_bs1b]
  rfl
/-- What 'append(out, 16*nibble(s[i])+nibble(s[i+1]))' yields. -/
def WG (B : Nat) (s : List UInt8) (m : Nat) (c d : UInt8) (v0 : Value) (xs : List UInt8) : Nat → Value → World → Prop
  | 0, v, _ => v = v0
  | 1, v, _ => v = .string ⟨s.toArray⟩
  | 2, v, _ => v = .int .i64 (m : Int)
  | 3, v, _ => v = vB c
  | 4, v, _ => v = vB (rnib c)
  | 5, v, _ => v = vB (16 * rnib c)
  | 6, v, _ => v = .string ⟨s.toArray⟩
  | 7, v, _ => v = .int .i64 (m : Int)
  | 8, v, _ => v = .int .i64 ((m : Int) + 1)
  | 9, v, _ => v = vB d
  | 10, v, _ => v = vB (rnib d)
  | 11, v, _ => v = vB (16 * rnib c + rnib d)
  | 12, v, w => ∃ g, v = .slice (some ⟨g, 0, none⟩) 1 1 ∧ v0.ownBlock ≠ some g ∧ w.heap[g]? = some (.cells #[vB (16 * rnib c + rnib d)] 5)
  | 13, v, w => w.ownsRow B 5 1 v (xs.length + 1) (Lib.byteCells (xs ++ [16 * rnib c + rnib d]))
  | 14, v, w => w.ownsRow B 5 1 v (xs.length + 1) (Lib.byteCells (xs ++ [16 * rnib c + rnib d]))
  | _, _, _ => True
theorem WG.ext {B : Nat} {s : List UInt8} {m : Nat} {c d : UInt8} {v0 : Value} {xs : List UInt8} (i : Nat) (v : Value) (w w' : World) (hx : Ext w w') (h : WG B s m c d v0 xs i v w) : WG B s m c d v0 xs i v w' := by
  match i, h with
  | 0, h => exact h
  | 1, h => exact h
  | 2, h => exact h
  | 3, h => exact h
  | 4, h => exact h
  | 5, h => exact h
  | 6, h => exact h
  | 7, h => exact h
  | 8, h => exact h
  | 9, h => exact h
  | 10, h => exact h
  | 11, h => exact h
  | 12, h =>
    obtain ⟨g, h1, h2, h3⟩ := h
    exact ⟨g, h1, h2, by rw [hx.block _ (lt_of_block h3)]; exact h3⟩
  | 13, h => exact ownsRow_ext h hx
  | 14, h => exact ownsRow_ext h hx
  | n + 15, _ => trivial
theorem WG.low {B : Nat} {s : List UInt8} {m : Nat} {c d : UInt8} {v0 : Value} {xs : List UInt8} {i : Nat} {v : Value} {w w' : World} (hi : i < 12) (h : WG B s m c d v0 xs i v w) : WG B s m c d v0 xs i v w' := by
  match i, hi, h with
  | 0, _, h => exact h
  | 1, _, h => exact h
  | 2, _, h => exact h
  | 3, _, h => exact h
  | 4, _, h => exact h
  | 5, _, h => exact h
  | 6, _, h => exact h
  | 7, _, h => exact h
  | 8, _, h => exact h
  | 9, _, h => exact h
  | 10, _, h => exact h
  | 11, _, h => exact h
  | n + 12, hi, _ => omega
theorem ownsRow_nil8 (w : World) (B : Nat) : w.ownsRow B 5 1 (.slice none 0 0) 0 [] := ⟨rfl, .inl ⟨rfl, rfl⟩⟩
set_option maxRecDepth 100000 in
set_option maxHeartbeats 4000000 in
theorem rraw_any (s : List UInt8) (w : World) (hs : s.length ≤ 4294967296) :
    Calls Tryz.prog 64 #[.string ⟨s.toArray⟩] w fun e w' => e = .returned (.string ⟨(rraw s).toArray⟩) ∧ Ext w w' := by
  go_enter Tryz.func64, Tryz.ntmps64
  go_wp2_with fail
  obtain ⟨i0, hi, k0, k1, k2⟩ := info_parts Tryz.info5
  go_loopw [3, 4] (fun v i wq => ∃ m : Nat, m ≤ s.length ∧ i = .int .i64 m ∧ Hid (m % 2 = 0) ∧ wq.ownsRow w.heap.size 5 1 v (rraw (s.take m)).length (Lib.byteCells (rraw (s.take m))) ∧ Ext w wq) (fun _ i _ => s.length - (intOf i).toNat)
  case atStart => exact ⟨0, Nat.zero_le _, rfl, rfl, ownsRow_nil8 _ _, Ext.refl _⟩
  case round =>
    obtain ⟨m, hm, rfl, HM, hrow, hx⟩ := hrel
    have m0 : (0 : Int) ≤ (m : Int) := by omega
    by_cases hlt : m + 1 < s.length
    · have m1 : (m : Int) + 1 < (s.length : Int) := by omega
      have m2 : (m : Int) < (s.length : Int) := by omega
      obtain ⟨c, hc⟩ : ∃ c, s[m]? = some c := ⟨_, List.getElem?_eq_getElem (by omega)⟩
      obtain ⟨d, hd⟩ : ∃ d, s[m + 1]? = some d := ⟨_, List.getElem?_eq_getElem hlt⟩
      have HST := Lib.hid (rraw_step HM.out hc hd)
      have HC := Lib.hid hc
      have HD := Lib.hid hd
      have hxl : (rraw (s.take m)).length ≤ 4294967296 := by have := rraw_len (s.take m); rw [List.length_take] at this; omega
      have e9 : ((m : Int) + 1) = ((m + 1 : Nat) : Int) := by omega
      have HE9 := Lib.hid e9
      clear hc hd e9
      generalize rraw (s.take m) = xs at hrow hxl HST
      go_upto_region 5 with fail
      refine wp_region_gen3 (WG w.heap.size s m c d u3 xs) (fun b wq => Ext w wq ∧ wr.heap.size ≤ wq.heap.size ∧ (b 13 = false → wq.ownsRow w.heap.size 5 1 u3 xs.length (Lib.byteCells xs))) mixedOrd (by kernel_rfl) (by kernel_rfl) (by kernel_rfl) ⟨hx.trans ⟨rfl, rfl, rfl, Nat.le_refl _, fun _ _ => rfl⟩, Nat.le_refl _, fun _ => hrow⟩ ?_ ?_
      · refine ⟨?_, ?_, ?_, ?_, ?_, ?_, ?_, ?_, ?_, ?_, ?_, ?_, ?_, ?_, ?_, trivial⟩
        · intro a' w' b hdf hso hs hy hW
          have h0 : a'.tmps[3]? = some u3 := hy 14 3 rfl (hso.not 14 rfl rfl)
          exact wpOp_val rfl rfl (by simp [execOp, go_sem, h0]) ⟨_, rfl, .inr rfl, hW, fun k u hb h => h⟩
        · intro a' w' b hdf hso hs hy hW
          have h0 : a'.tmps[0]? = some (.string ⟨s.toArray⟩) := hs.old 0 rfl
          exact wpOp_val rfl rfl (by simp [execOp, go_sem, h0]) ⟨_, rfl, .inr rfl, hW, fun k u hb h => h⟩
        · intro a' w' b hdf hso hs hy hW
          have h0 : a'.tmps[4]? = some (.int .i64 (m : Int)) := hs.old 4 rfl
          exact wpOp_val rfl rfl (by simp [execOp, go_sem, h0]) ⟨_, rfl, .inr rfl, hW, fun k u hb h => h⟩
        · intro a' w' b hdf hso hs hy hW
          obtain ⟨v, h0, rfl⟩ := hs.made 1 13 rfl rfl
          obtain ⟨v, h1, rfl⟩ := hs.made 2 14 rfl rfl
          exact wpOp_val rfl rfl (exec_ixs rfl (ev h0) (ev h1) HC.out) ⟨_, rfl, .inr rfl, hW, fun k u hb h => h⟩
        · intro a' w' b hdf hso hs hy hW
          obtain ⟨v, h0, rfl⟩ := hs.made 3 15 rfl rfl
          refine wpOp_call (f := 79) (args := #[vB c]) rfl rfl (exec_call rfl rfl ent79 (by simp [ev h0])) ?_
          refine (nib_any c w').mono ?_
          rintro e w'' ⟨rfl, rfl⟩
          exact ⟨_, rfl, _, rfl, .inr rfl, hW, fun k u hb h => h⟩
        · intro a' w' b hdf hso hs hy hW
          obtain ⟨v, h0, rfl⟩ := hs.made 4 16 rfl rfl
          exact wpOp_val rfl rfl (exec_mul16 rfl (ev h0) rfl) ⟨_, rfl, .inr rfl, hW, fun k u hb h => h⟩
        · intro a' w' b hdf hso hs hy hW
          have h0 : a'.tmps[0]? = some (.string ⟨s.toArray⟩) := hs.old 0 rfl
          exact wpOp_val rfl rfl (by simp [execOp, go_sem, h0]) ⟨_, rfl, .inr rfl, hW, fun k u hb h => h⟩
        · intro a' w' b hdf hso hs hy hW
          have h0 : a'.tmps[4]? = some (.int .i64 (m : Int)) := hs.old 4 rfl
          exact wpOp_val rfl rfl (by simp [execOp, go_sem, h0]) ⟨_, rfl, .inr rfl, hW, fun k u hb h => h⟩
        · intro a' w' b hdf hso hs hy hW
          obtain ⟨v, h0, rfl⟩ := hs.made 7 19 rfl rfl
          have hw : IntKind.i64.wrap ((m : Int) + 1) = (m : Int) + 1 := IntWalk.i64_in _ (by omega)
          exact wpOp_val rfl rfl (by simp [execOp, go_sem, h0, hw]) ⟨_, rfl, .inr rfl, hW, fun k u hb h => h⟩
        · intro a' w' b hdf hso hs hy hW
          obtain ⟨v, h0, rfl⟩ := hs.made 6 18 rfl rfl
          obtain ⟨v, h1, rfl⟩ := hs.made 8 20 rfl rfl
          exact wpOp_val rfl rfl (exec_ixs rfl (ev h0) (by rw [ev h1, HE9.out]) HD.out) ⟨_, rfl, .inr rfl, hW, fun k u hb h => h⟩
        · intro a' w' b hdf hso hs hy hW
          obtain ⟨v, h0, rfl⟩ := hs.made 9 21 rfl rfl
          refine wpOp_call (f := 79) (args := #[vB d]) rfl rfl (exec_call rfl rfl ent79 (by simp [ev h0])) ?_
          refine (nib_any d w').mono ?_
          rintro e w'' ⟨rfl, rfl⟩
          exact ⟨_, rfl, _, rfl, .inr rfl, hW, fun k u hb h => h⟩
        · intro a' w' b hdf hso hs hy hW
          obtain ⟨v, h0, rfl⟩ := hs.made 5 17 rfl rfl
          obtain ⟨v, h1, rfl⟩ := hs.made 10 22 rfl rfl
          exact wpOp_val rfl rfl (exec_addb rfl (ev h0) (ev h1)) ⟨_, rfl, .inr rfl, hW, fun k u hb h => h⟩
        · intro a' w' b hdf hso hs hy hW
          obtain ⟨v, h0, rfl⟩ := hs.made 11 23 rfl rfl
          exact wpOp_val (w' := w'.alloc (.cells #[vB (16 * rnib c + rnib d)] 5)) (v := .slice (some ⟨w'.heap.size, 0, none⟩) 1 1) rfl rfl (exec_bs1b rfl (ev h0)) ⟨_, rfl, .inr ⟨_, rfl, fun e => by have := (hrow.lt _ e).2; have := hW.2.1; omega, alloc_new _ _⟩, ⟨hW.1.trans (Ext.alloc _ _), Nat.le_trans hW.2.1 (Ext.alloc w' _).size, fun hb => ownsRow_ext (hW.2.2 hb) (Ext.alloc _ _)⟩, fun k u hb h => h.ext _ _ _ _ (Ext.alloc _ _)⟩
        · intro a' w' b hdf hso hs hy hW
          obtain ⟨v, h0, rfl⟩ := hs.made 0 12 rfl rfl
          obtain ⟨v, h1, g, rfl, hg2, hg3⟩ := hs.made 12 24 rfl rfl
          have hb13 : b 13 = false := hso.undone
          have hb14 : b 14 = false := hso.not 14 rfl rfl
          refine wpOp_wp rfl rfl (wp_append_lies w' _ _ 46 rfl w.heap.size 5 i0 (.int .u8 0) 1 1 Tryz.und46 hi k0 k1 k2 rfl (by omega) _ _ _ (ev h0) (hW.2.2 hb13) ⟨g, 0, none⟩ 1 1 [vB (16 * rnib c + rnib d)] (ev h1) rfl (World.news_of_block hg3) (by simp [vB, Value.oneCell']) (by omega) (by unfold maxLen; omega) (by omega) hW.1.size w'.heap.size rfl ?_)
          intro g' cap' w'' hown hgrow hat hlt2
          refine ⟨_, rfl, .inr ?_, ⟨hW.1.trans' hgrow hrow, Nat.le_trans hW.2.1 hgrow.size, (fun h => by cases h)⟩, ?_⟩
          · show World.ownsRow w'' _ _ _ _ _ _
            have e : Lib.byteCells (xs ++ [16 * rnib c + rnib d]) = Lib.byteCells xs ++ [vB (16 * rnib c + rnib d)] := by simp [Lib.byteCells, vB]
            rw [e]
            exact hown
          · intro k u hbk hG
            by_cases h12 : k < 12
            · exact hG.low h12
            · by_cases he : k = 12
              · subst he
                obtain ⟨g4, f1, f3, f4⟩ := hG
                exact ⟨g4, f1, f3, (hgrow.block g4 (lt_of_block f4) (fun e => f3 e.symm)).trans f4⟩
              · have hsz : k = 13 ∨ k = 14 ∨ ∃ n, k = n + 15 := by
                  rcases Nat.lt_or_ge k 15 with h | h
                  · omega
                  · exact .inr (.inr ⟨k - 15, by omega⟩)
                rcases hsz with rfl | rfl | ⟨n, rfl⟩
                · rw [hb13] at hbk; cases hbk
                · rw [hb14] at hbk; cases hbk
                · exact trivial
        · intro a' w' b hdf hso hs hy hW
          obtain ⟨v, h0, hv⟩ := hs.made 13 25 rfl rfl
          exact wpOp_val (v := v) rfl rfl (by simp [execOp, go_sem, h0]) ⟨_, rfl, .inr hv, hW, fun k u hb h => h⟩
      · intro a' w' b hb hs hW
        obtain ⟨v12, h12, _⟩ := hs.made 0 12 rfl
        obtain ⟨v13, h13, _⟩ := hs.made 1 13 rfl
        obtain ⟨v14, h14, _⟩ := hs.made 2 14 rfl
        obtain ⟨v15, h15, _⟩ := hs.made 3 15 rfl
        obtain ⟨v16, h16, _⟩ := hs.made 4 16 rfl
        obtain ⟨v17, h17, _⟩ := hs.made 5 17 rfl
        obtain ⟨v18, h18, _⟩ := hs.made 6 18 rfl
        obtain ⟨v19, h19, _⟩ := hs.made 7 19 rfl
        obtain ⟨v20, h20, _⟩ := hs.made 8 20 rfl
        obtain ⟨v21, h21, _⟩ := hs.made 9 21 rfl
        obtain ⟨v22, h22, _⟩ := hs.made 10 22 rfl
        obtain ⟨v23, h23, _⟩ := hs.made 11 23 rfl
        obtain ⟨v24, h24, _⟩ := hs.made 12 24 rfl
        obtain ⟨v25, h25, _⟩ := hs.made 13 25 rfl
        obtain ⟨v3, h3, hv3⟩ := hs.made 14 3 rfl
        have ha := act_putAll [(12, v12), (13, v13), (14, v14), (15, v15), (16, v16), (17, v17), (18, v18), (19, v19), (20, v20), (21, v21), (22, v22), (23, v23), (24, v24), (25, v25), (3, v3)] hs.defers hs.size (by simp [h12, h13, h14, h15, h16, h17, h18, h19, h20, h21, h22, h23, h24, h25, h3]) rfl hs.old
        clear hs h12 h13 h14 h15 h16 h17 h18 h19 h20 h21 h22 h23 h24 h25 h3
        have hrow2 : w'.ownsRow w.heap.size 5 1 v3 (rraw (s.take (m + 2))).length (Lib.byteCells (rraw (s.take (m + 2)))) := by
          rw [HST.out]
          have : (xs ++ [16 * rnib c + rnib d]).length = xs.length + 1 := by rw [List.length_append]; rfl
          rw [this]
          exact hv3
        have hx2 := hW.1
        clear hb hW hv3
        simp only [putAll, Act.put] at ha
        subst ha
        go_frame
        go_wp2_with fail
        go_roundw
        case rel => exact ⟨m + 2, by omega, by go_num, by unfold Hid; have := HM.out; omega, hrow2, hx2⟩
        case measure => simp [intOf]; omega
    · have m1 : ¬ (m : Int) + 1 < (s.length : Int) := by omega
      have HE := Lib.hid (rraw_end HM.out (by omega : s.length ≤ m + 1) hm)
      have hcv := run_string_own hrow
      go_wp2_with fail
      go_ret
      exact ⟨by rw [HE.out]; rfl, hx⟩
end Go.Proofs.YtikmoledbiepoaaGreatDoor
/- The reference's split. -/
namespace Go.Proofs.YtikmoledbiepoaaGreatDoor
open Go.RowKit
set_option linter.unusedSimpArgs false
theorem run_bs0 (w : World) : (Instr.buildSlice 47 0 #[]).run Tryz.prog w = .ok (.slice (some ⟨w.heap.size, 0, none⟩) 0 0) (w.alloc (.cells #[] 9)) := by kernel_rfl
theorem exec_bs0 {ρ : Operand → Value} {o : Oper} {w : World} (ho : o.op = .buildSlice 47 0 #[]) :
    (execOp ρ o).run Tryz.prog w = .ok (.value (.slice (some ⟨w.heap.size, 0, none⟩) 0 0)) (w.alloc (.cells #[] 9)) := by
  unfold execOp
  simp only [ho, List.map_toArray, List.map_nil, Sem.run_bind, run_bs0]
  rfl
theorem ext_mid (s : List UInt8) (k j : Nat) : (⟨s.toArray⟩ : ByteArray).extract k j = ⟨((s.drop k).take (j - k)).toArray⟩ := by
  apply ByteArray.ext
  apply Array.ext'
  rw [Lib.extract_data]
theorem exec_slc {ρ : Operand → Value} {o : Oper} {a b d : Operand} {w : World} {s x : List UInt8} {k j : Nat} (ho : o.op = .slice 9 a (some b) (some d) none) (ha : ρ a = .string ⟨s.toArray⟩) (hb : ρ b = .int .i64 (k : Int)) (hd : ρ d = .int .i64 (j : Int))
    (hk : k ≤ j) (hj : j ≤ s.length) (hx : x = (s.drop k).take (j - k)) : (execOp ρ o).run Tryz.prog w = .ok (.value (.string ⟨x.toArray⟩)) w := by
  have e := ext_mid s k j
  have k0 : (0 : Int) ≤ (k : Int) := by omega
  have k1 : (k : Int) ≤ (j : Int) := by omega
  have k2 : (j : Int) ≤ (s.length : Int) := by omega
  subst hx
  simp [execOp, go_sem, ho, ha, hb, hd, k0, k1, k2, e]
theorem exec_slc0 {ρ : Operand → Value} {o : Oper} {a b : Operand} {w : World} {s x : List UInt8} {k : Nat} (ho : o.op = .slice 9 a (some b) none none) (ha : ρ a = .string ⟨s.toArray⟩) (hb : ρ b = .int .i64 (k : Int))
    (hk : k ≤ s.length) (hx : x = s.drop k) : (execOp ρ o).run Tryz.prog w = .ok (.value (.string ⟨x.toArray⟩)) w := by
  have e := ext_drop' s k
  have k0 : (0 : Int) ≤ (k : Int) := by omega
  have k1 : (k : Int) ≤ (s.length : Int) := by omega
  subst hx
  simp [execOp, go_sem, ho, ha, hb, k0, k1, e]
theorem strs_row {w : World} {B : Nat} {v : Value} {ls : List (List UInt8)} (h : w.ownsRow B 9 1 v ls.length (ls.map vS)) : StrsAt w v ls := by
  rcases h.2 with ⟨h2, h3⟩ | ⟨g, cap, cur, he, hb, hg, hn, hc, hs, ht⟩
  · have : ls = [] := List.length_eq_zero_iff.1 h3
    subst this
    subst h2
    exact ⟨none, 0, rfl, Nat.le_refl _, by decide, fun h => absurd rfl h⟩
  · subst he
    have hm : cap ≤ 9223372036854775807 := by unfold maxLen at hc; exact hc
    refine ⟨_, _, rfl, hn, hm, fun _ => ⟨g, 0, rfl, fun j x hj => ?_⟩⟩
    rw [Nat.zero_add, Lib.cell_of_heap hg]
    have hjl : j < ls.length := (List.getElem?_eq_some_iff.1 hj).1
    have h2 : (ls.map vS)[j]? = some (vS x) := by simp [hj]
    rw [← ht, List.getElem?_take, if_pos (by omega)] at h2
    simpa using h2
theorem spl_hit {c : UInt8} {s : List UInt8} {k j : Nat} (hk : k ≤ j) (hc : s[j]? = some c) (hn : c ∉ (s.drop k).take (j - k)) : spl c (s.drop k) = (s.drop k).take (j - k) :: spl c (s.drop (j + 1)) := by
  have hl := (List.getElem?_eq_some_iff.1 hc).1
  have he := (List.getElem?_eq_some_iff.1 hc).2
  have e : s.drop k = (s.drop k).take (j - k) ++ c :: s.drop (j + 1) := by
    have h1 : (s.drop k).drop (j - k) = s.drop j := by rw [List.drop_drop, show k + (j - k) = j by omega]
    have h2 := List.take_append_drop (j - k) (s.drop k)
    rw [h1, List.drop_eq_getElem_cons hl, he] at h2
    exact h2.symm
  have h3 := spl_cut (s.drop (j + 1)) hn
  rw [← e] at h3
  exact h3
theorem spl_miss {c b : UInt8} {s : List UInt8} {k j : Nat} (hk : k ≤ j) (hb : s[j]? = some b) (hbc : b ≠ c) (hn : c ∉ (s.drop k).take (j - k)) : c ∉ (s.drop k).take (j + 1 - k) := by
  have : (s.drop k).take (j + 1 - k) = (s.drop k).take (j - k) ++ [b] := by
    rw [show j + 1 - k = (j - k) + 1 by omega, List.take_add_one]
    have : (s.drop k)[j - k]? = some b := by rw [List.getElem?_drop, show k + (j - k) = j by omega]; exact hb
    rw [this]
    rfl
  rw [this]
  intro h
  rcases List.mem_append.1 h with h | h
  · exact hn h
  · exact hbc (List.mem_singleton.1 h).symm
set_option maxRecDepth 100000 in
set_option maxHeartbeats 2000000 in
theorem rsplit_any (s : List UInt8) (c : UInt8) (w : World) (hs : s.length ≤ 4000000000) :
    Calls Tryz.prog 38 #[.string ⟨s.toArray⟩, vB c] w fun e w' => (∃ v, e = .returned v ∧ StrsAt w' v (spl c s)) ∧ Ext w w' := by
  obtain ⟨i0, hi, j0, j1, j2⟩ := info_parts Tryz.info9
  obtain ⟨W0, hW0⟩ : ∃ W0, W0 = w.alloc (.cells #[] 9) := ⟨_, rfl⟩
  have x0 : Ext w W0 := by rw [hW0]; exact Ext.alloc _ _
  have r0 : W0.ownsRow w.heap.size 9 1 (.slice (some ⟨w.heap.size, 0, none⟩) 0 0) 0 [] :=
    ⟨rfl, .inr ⟨w.heap.size, 0, #[], rfl, Nat.le_refl _, by rw [hW0]; exact alloc_new _ _, Nat.le_refl _, by decide, rfl, rfl⟩⟩
  have HW := Lib.hid hW0
  clear hW0
  unfold vB
  go_enter Tryz.func38, Tryz.ntmps38
  go_wp2_with (refine wpList_runs 8 rfl rfl _ _ (exec_bs0 rfl) ?_)
  rw [← HW.out]
  clear HW
  go_loopw [5, 6, 7] (fun v f i wq => ∃ (j k : Nat) (xs : List (List UInt8)), j ≤ s.length ∧ k ≤ j ∧ xs.length ≤ j ∧ i = .int .i64 j ∧ f = .int .i64 k ∧ Hid (spl c s = xs ++ spl c (s.drop k)) ∧ Hid (c ∉ (s.drop k).take (j - k)) ∧ wq.ownsRow w.heap.size 9 1 v xs.length (xs.map vS) ∧ Ext w wq) (fun _ _ i _ => s.length - (intOf i).toNat)
  case atStart => exact ⟨0, 0, [], Nat.zero_le _, Nat.le_refl _, Nat.le_refl _, rfl, rfl, rfl, (by unfold Hid; simp), r0, x0⟩
  case round =>
    obtain ⟨j, k, xs, hj, hk, hxs, rfl, rfl, HS, HN, hrow, hx⟩ := hrel
    by_cases hlt : j < s.length
    · have hlt' : (j : Int) < (s.length : Int) := by omega
      obtain ⟨b, hb⟩ : ∃ b, s[j]? = some b := ⟨_, List.getElem?_eq_getElem hlt⟩
      have HB := Lib.hid hb
      clear hb
      by_cases hbc : b = c
      · subst hbc
        have HT : Hid (spl b s = (xs ++ [(s.drop k).take (j - k)]) ++ spl b (s.drop (j + 1))) := by
          unfold Hid
          rw [HS.out, spl_hit hk HB.out HN.out, List.append_assoc]
          rfl
        obtain ⟨x, hxx⟩ : ∃ x, x = (s.drop k).take (j - k) := ⟨_, rfl⟩
        rw [← hxx] at HT
        have HX := Lib.hid hxx
        clear hxx HS HN
        go_wp2_with (first
          | (refine wpList_runs 17 rfl rfl (vB b) _ (exec_ixs rfl rfl rfl HB.out) ?_; unfold vB)
          | refine wpList_runs 24 rfl rfl (.string ⟨x.toArray⟩) _ (exec_slc rfl rfl rfl rfl hk hj HX.out) ?_
          | (at_builtin; go_must (refine wpList_append_own _ rfl _ _ 47 rfl w.heap.size 9 i0 (.string ⟨#[]⟩) 1 16 und47 hi j0 j1 j2 rfl (by decide) _ _ _ rfl (hrow.alloc _) ⟨wr.heap.size, 0, none⟩ 1 1 [vS x] rfl rfl ?c1 ?c2 ?c3 ?c4 ?c5 ?_)))
        case c1 =>
          intro j u hj
          match j, hj with
          | 0, hj => simp at hj; subst hj; simp [Addr.add]; rfl
          | n + 1, hj => simp at hj
        case c2 => intro u hu; simp at hu; subst hu; rfl
        case c3 => unfold maxLen; omega
        case c4 => omega
        case c5 => have := hx.size; simp; omega
        intro v5 w5 hrow5 hgrow5 _
        go_wp2_with fail
        go_roundw
        case rel =>
          refine ⟨j + 1, j + 1, xs ++ [x], by omega, by omega, by simp; omega, by go_num, by go_num, HT, (by unfold Hid; simp), ?_, ?_⟩
          · rw [List.map_append, List.length_append]; exact hrow5
          · exact Ext.trans' (hx.trans (Ext.alloc _ _)) hgrow5 hrow
        case measure => simp [intOf]; omega
      · have hne : ((b.toNat : Int) == (c.toNat : Int)) = false := by
          rw [beq_eq_false_iff_ne]
          intro e
          exact hbc (UInt8.toNat_inj.1 (by omega))
        have HM := Lib.hid (spl_miss hk HB.out hbc HN.out)
        clear hbc HN
        go_wp2_with (refine wpList_runs 17 rfl rfl (vB b) _ (exec_ixs rfl rfl rfl HB.out) ?_; unfold vB)
        go_roundw
        case rel => exact ⟨j + 1, k, xs, by omega, by omega, by omega, by go_num, rfl, HS, HM, hrow, hx⟩
        case measure => simp [intOf]; omega
    · have hje : j = s.length := by omega
      have HT : Hid (spl c s = xs ++ [s.drop k]) := by
        unfold Hid
        have h1 := HN.out
        rw [hje, List.take_of_length_le (by rw [List.length_drop]; omega)] at h1
        rw [HS.out, spl_none h1]
      have hkl : k ≤ s.length := by omega
      have hlt' : ¬ (j : Int) < (s.length : Int) := by omega
      obtain ⟨x, hxx⟩ : ∃ x, x = s.drop k := ⟨_, rfl⟩
      rw [← hxx] at HT
      have HX := Lib.hid hxx
      clear hxx HS HN hje
      go_wp2_with (first
        | refine wpList_runs 32 rfl rfl (.string ⟨x.toArray⟩) _ (exec_slc0 rfl rfl rfl hkl HX.out) ?_
        | (at_builtin; go_must (refine wpList_append_own _ rfl _ _ 47 rfl w.heap.size 9 i0 (.string ⟨#[]⟩) 1 16 und47 hi j0 j1 j2 rfl (by decide) _ _ _ rfl (hrow.alloc _) ⟨wr.heap.size, 0, none⟩ 1 1 [vS x] rfl rfl ?d1 ?d2 ?d3 ?d4 ?d5 ?_)))
      case d1 =>
        intro j u hj
        match j, hj with
        | 0, hj => simp at hj; subst hj; simp [Addr.add]; rfl
        | n + 1, hj => simp at hj
      case d2 => first | rfl | (intro u hu; simp at hu; subst hu; rfl)
      case d3 => unfold maxLen; omega
      case d4 => omega
      case d5 => have := hx.size; simp; omega
      intro v5 w5 hrow5 hgrow5 _
      go_wp2_with fail
      go_ret
      refine ⟨⟨_, rfl, ?_⟩, Ext.trans' (hx.trans (Ext.alloc _ _)) hgrow5 hrow⟩
      rw [HT.out]
      refine strs_row (B := w.heap.size) ?_
      rw [List.map_append, List.length_append]
      exact hrow5
end Go.Proofs.YtikmoledbiepoaaGreatDoor

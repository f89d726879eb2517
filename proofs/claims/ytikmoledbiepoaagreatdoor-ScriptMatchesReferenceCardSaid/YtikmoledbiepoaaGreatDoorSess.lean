/- script.session. -/
import Derived.Test.YtikmoledbiepoaaGreatDoorPar
import Derived.Lib.ItoaLen
import Derived.Lib.Join
namespace Go.Proofs.YtikmoledbiepoaaGreatDoor
open Go.RowKit
set_option maxRecDepth 100000 in
set_option maxHeartbeats 1000000 in
theorem session_any (c : Cal) (w : World) (hg : Glob w) (hfit : CalFit c) : Calls Tryz.prog 68 #[.agg c.sess.toArray] w fun e w' => e = .returned (.bool c.sessOk) ∧ Ext w w' := by
  have hs1 := hfit.strs 8 rfl
  have hs2 := hfit.strs 9 rfl
  simp only [Cal.getS] at hs1 hs2
  unfold Cal.sess vS vI
  have heq := eqSess c
  by_cases hn : c.noSess = true
  · have HS : Hid (c.sessOk = true) := by simp [Hid, Cal.sessOk, hn]
    go_enter Tryz.func68, Tryz.ntmps68
    go_wp2
    go_ret
    exact ⟨by rw [HS.out]; rfl, Ext.alloc _ _⟩
  · have hn' : c.noSess = false := by simpa using hn
    clear hn
    by_cases h1 : 1 ≤ c.tick.length
    · by_cases h2 : c.tick.length ≤ 200
      · by_cases h3 : c.sec.length = 16
        · have HS : Hid (c.sessOk = c.parOk) := by simp [Hid, Cal.sessOk, hn', h1, h2, h3]
          have h3' : ((c.sec.length : Int) == 16) = true := beq_iff_eq.2 (by omega)
          clear h3
          go_enter Tryz.func68, Tryz.ntmps68
          go_wp2_with (go_at_call 27; refine (pvalid_any c _ (hg.ext (Ext.alloc _ _))).mono ?_; rintro e w' ⟨rfl, hx⟩)
          go_ret
          exact ⟨by rw [HS.out]; rfl, (Ext.alloc _ _).trans hx⟩
        · have HS : Hid (c.sessOk = false) := by simp [Hid, Cal.sessOk, hn', h3]
          have h3' : ((c.sec.length : Int) == 16) = false := beq_eq_false_iff_ne.2 (by omega)
          clear h3
          go_enter Tryz.func68, Tryz.ntmps68
          go_wp2_with fail
          go_ret
          exact ⟨by rw [HS.out]; rfl, Ext.alloc _ _⟩
      · have HS : Hid (c.sessOk = false) := by simp [Hid, Cal.sessOk, hn', h2]
        go_enter Tryz.func68, Tryz.ntmps68
        go_wp2_with fail
        go_ret
        exact ⟨by rw [HS.out]; rfl, Ext.alloc _ _⟩
    · have HS : Hid (c.sessOk = false) := by simp [Hid, Cal.sessOk, hn', h1]
      go_enter Tryz.func68, Tryz.ntmps68
      go_wp2_with fail
      go_ret
      exact ⟨by rw [HS.out]; rfl, Ext.alloc _ _⟩
end Go.Proofs.YtikmoledbiepoaaGreatDoor
/- The look-up of a form. -/
namespace Go.Proofs.YtikmoledbiepoaaGreatDoor
open Go.RowKit
theorem u118 : Tryz.prog.underlying 118 = some (.map 3 116) := by kernel_rfl
theorem u3 : Tryz.prog.underlying 3 = some (.int .i64) := by kernel_rfl
theorem findNow_none (k : Int) : ∀ (l : List MapEntry) (i : Nat), (∀ e ∈ l, ∃ j : Int, e.key = .int .i64 j ∧ j ≠ k) → Instr.findNow (.int .i64) (.int .i64 k) l i = some none
  | [], i, _ => rfl
  | e :: r, i, hl => by
    obtain ⟨j, hj, hne⟩ := hl e (by simp)
    unfold Instr.findNow
    have : (k == j) = false := beq_eq_false_iff_ne.2 (Ne.symm hne)
    simp [hj, Instr.sameNow, this]
    exact findNow_none k r (i + 1) fun e he => hl e (by simp [he])
theorem findNow_some (k : Int) : ∀ (l : List MapEntry) (i : Nat), (∀ e ∈ l, ∃ j : Int, e.key = .int .i64 j) → (∃ e ∈ l, e.key = .int .i64 k) → ∃ n e, e ∈ l ∧ e.key = .int .i64 k ∧ Instr.findNow (.int .i64) (.int .i64 k) l i = some (some (n, e.val))
  | [], i, _, h => by obtain ⟨e, he, _⟩ := h; cases he
  | x :: r, i, hl, h => by
    obtain ⟨j, hj⟩ := hl x (by simp)
    by_cases hk : k = j
    · subst hk
      refine ⟨i, x, by simp, hj, ?_⟩
      unfold Instr.findNow
      simp [hj, Instr.sameNow]
    · obtain ⟨e, he, hek⟩ := h
      have hne : e ≠ x := fun h => by subst h; rw [hj] at hek; cases hek; exact hk rfl
      have her : e ∈ r := by
        rcases List.mem_cons.1 he with h | h
        · exact absurd h hne
        · exact h
      obtain ⟨n, e', h1, h2, h3⟩ := findNow_some k r (i + 1) (fun e he => hl e (by simp [he])) ⟨e, her, hek⟩
      refine ⟨n, e', by simp [h1], h2, ?_⟩
      unfold Instr.findNow
      have : (k == j) = false := beq_eq_false_iff_ne.2 hk
      simp [hj, Instr.sameNow, this]
      exact h3
theorem ck3 (b : Bool) (k : Int) (w : World) : (Instr.checkKey b 10000 3 (.int .i64 k)).run Tryz.prog w = .ok () w := by cases b <;> kernel_rfl
/-- The look-up of a form that is there. -/
theorem run_form {lo hi : Nat} {w : World} {bm : Nat} (h : FormsAt lo hi w bm) {k : Nat} (hk : k < 14) :
    ∃ sl, FldsAt lo hi w sl (formOf k).2 ∧ ∀ w2, (w2.heap[bm]? = w.heap[bm]?) → (Instr.lookup 118 (.map (some bm)) (.int .i64 (k : Int)) true).run Tryz.prog w2 = .ok (.tuple #[.agg #[vS (formOf k).1, sl], .bool true]) w2 := by
  obtain ⟨es, hm, _, hok, hall⟩ := h.map
  obtain ⟨n, e, he, hkey⟩ := hall k hk
  have hmem : e ∈ es.toList := by simpa using Array.mem_of_getElem? he
  obtain ⟨n', e', h1, h2, h3⟩ := findNow_some (k : Int) es.toList 0 (fun e he => by
    obtain ⟨i, hi⟩ := List.getElem?_of_mem he
    obtain ⟨k', _, hk', _⟩ := hok i e (by simpa using hi)
    exact ⟨_, hk'⟩) ⟨e, hmem, hkey⟩
  obtain ⟨i', hi'⟩ := List.getElem?_of_mem h1
  obtain ⟨k', hk', hkey', sl, hv, hsl⟩ := hok i' e' (by simpa using hi')
  have : k' = k := by
    rw [hkey'] at h2
    simp at h2
    omega
  subst this
  refine ⟨sl, hsl, fun w2 hw => ?_⟩
  have hm2 : w2.heap[bm]? = some (.map es es.size) := by rw [hw]; exact hm
  have hfk : (Instr.findKey 3 (.int .i64 (k' : Int)) es.toList).run Tryz.prog w2 = .ok (some (n', e'.val)) w2 := by
    unfold Instr.findKey
    simp [run_underlying u3, h3]
  unfold Instr.lookup
  simp [run_underlying u118, run_getObj_map hm2, ck3, hfk, hv]
/-- The look-up of one that is not. -/
theorem run_noForm {lo hi : Nat} {w : World} {bm : Nat} (h : FormsAt lo hi w bm) {k : Int} (hk : ¬ (0 ≤ k ∧ k < 14)) :
    ∀ w2, (w2.heap[bm]? = w.heap[bm]?) → (Instr.lookup 118 (.map (some bm)) (.int .i64 k) true).run Tryz.prog w2 = .ok (.tuple #[.agg #[.string ⟨#[]⟩, .slice none 0 0], .bool false]) w2 := by
  obtain ⟨es, hm, _, hok, hall⟩ := h.map
  intro w2 hw
  have hm2 : w2.heap[bm]? = some (.map es es.size) := by rw [hw]; exact hm
  have hfk : (Instr.findKey 3 (.int .i64 k) es.toList).run Tryz.prog w2 = .ok none w2 := by
    unfold Instr.findKey
    have := findNow_none k es.toList 0 (fun e he => by
      obtain ⟨i, hi⟩ := List.getElem?_of_mem he
      obtain ⟨k', hk1, hk', _⟩ := hok i e (by simpa using hi)
      exact ⟨_, hk', by omega⟩)
    simp [run_underlying u3, this]
  have hz : ∀ w, (zeroValue 116).run Tryz.prog w = .ok (.agg #[.string ⟨#[]⟩, .slice none 0 0]) w := fun w => by kernel_rfl
  unfold Instr.lookup
  simp [run_underlying u118, run_getObj_map hm2, ck3, hfk, hz]
end Go.Proofs.YtikmoledbiepoaaGreatDoor
/- The words of a call: their lengths, and what is read back step by step. -/
namespace Go.Proofs.YtikmoledbiepoaaGreatDoor
open Go.RowKit
theorem getI_other {c : Cal} {k : Nat} (h : isI k = false) : c.getI k = 0 := by
  unfold Cal.getI
  split <;> first | rfl | (exfalso; revert h; decide)
theorem getS_other {c : Cal} {k : Nat} (h : isS k = false) : c.getS k = [] := by
  unfold Cal.getS
  split <;> first | rfl | (exfalso; revert h; decide)
theorem wr_len {c : Cal} (hf : CalFit c) (f : Fld) : (wr f c).1.length ≤ 4294967296 := by
  unfold wr
  by_cases h0 : f.tag = 0
  · rw [if_pos h0]
    show (Lib.itoa (c.getI f.off)).length ≤ _
    have : (Lib.itoa (c.getI f.off)).length ≤ 21 := by
      cases hi : isI f.off with
      | true => exact Lib.itoa_length_le _ (hf.ints _ hi).1 (hf.ints _ hi).2
      | false => rw [getI_other hi]; exact Lib.itoa_length_le 0 (by decide) (by decide)
    omega
  · rw [if_neg h0]
    by_cases h1 : f.tag = 1
    · rw [if_pos h1]
      show (hexB (c.getS f.off)).length ≤ _
      cases hi : isS f.off with
      | true =>
        have := hf.strs _ hi
        unfold hexB
        split
        · decide
        · rw [hexAll_length]; omega
      | false => rw [getS_other hi]; decide
    · rw [if_neg h1]
      split
      · show wUni.length ≤ _; decide
      · show wBidi.length ≤ _; decide
theorem form_len (k : Nat) : (formOf k).2.length ≤ 10 ∧ (formOf k).1.length ≤ 100 := by
  have h : ∀ a : Fin 14, (formOf a.1).2.length ≤ 10 ∧ (formOf a.1).1.length ≤ 100 := by decide
  by_cases hk : k < 14
  · exact h ⟨k, hk⟩
  · have : formOf k = ([], []) := by
      unfold formOf
      split <;> first | omega | rfl
    rw [this]; decide
theorem joinTail_len (r : List (List UInt8)) (M : Nat) (h : ∀ s, s ∈ r → s.length ≤ M) : (Lib.joinTail [32] r).length ≤ r.length * (M + 1) := by
  induction r with
  | nil => simp [Lib.joinTail]
  | cons x r ih =>
    have h1 := ih fun s hs => h s (by simp [hs])
    have h2 := h x (by simp)
    have : (Lib.joinTail [32] (x :: r)).length = x.length + 1 + (Lib.joinTail [32] r).length := by simp [Lib.joinTail]; omega
    rw [this, List.length_cons, Nat.add_mul]
    omega
theorem words_fit {c : Cal} (hf : CalFit c) (k : Nat) : WsFit ((formOf k).2.map fun f => (wr f c).1) := by
  refine ⟨by have := (form_len k).1; simp; omega, ?_⟩
  intro s hs
  obtain ⟨f, _, rfl⟩ := List.mem_map.1 hs
  exact wr_len hf f
theorem WsFit.drop {ws : List (List UInt8)} (h : WsFit ws) (j : Nat) : WsFit (ws.drop j) :=
  ⟨by have := h.1; simp; omega, fun s hs => h.2 s (List.mem_of_mem_drop hs)⟩
theorem line_len {c : Cal} (hf : CalFit c) (k : Nat) : (Lib.join ((formOf k).1 :: (formOf k).2.map fun f => (wr f c).1) [32]).length ≤ 140737488355328 := by
  rw [Lib.join_cons, List.length_append]
  have h1 := (form_len k).2
  have h2 := joinTail_len _ _ (words_fit hf k).2
  have h3 := (form_len k).1
  rw [List.length_map] at h2
  have h4 := Nat.mul_le_mul_right (4294967296 + 1) h3
  omega
theorem copyAll_snoc {fs : List Fld} {j : Nat} {f : Fld} (h : fs[j]? = some f) (c c0 : Cal) : copyAll (fs.take (j + 1)) c c0 = copyF f c (copyAll (fs.take j) c c0) := by
  unfold copyAll
  rw [List.take_add_one, h]
  simp
theorem all_snoc {fs : List Fld} {j : Nat} {f : Fld} (h : fs[j]? = some f) (p : Fld → Bool) : (fs.take (j + 1)).all p = ((fs.take j).all p && p f) := by
  rw [List.take_add_one, h]
  simp
theorem map_snoc {α : Type} {fs : List Fld} {j : Nat} {f : Fld} (h : fs[j]? = some f) (p : Fld → α) : (fs.take (j + 1)).map p = (fs.take j).map p ++ [p f] := by
  rw [List.take_add_one, h]
  simp
end Go.Proofs.YtikmoledbiepoaaGreatDoor
/- An action, and its fates in memory. -/
namespace Go.Proofs.YtikmoledbiepoaaGreatDoor
open Go.RowKit
/-- An action. -/
structure Ac where
  kind : Int
  side : Int
  call : Cal
  n : Int
  fates : List Int
  fr : Int
  tgt : Int
  dat : List UInt8
def Ac.cells (a : Ac) (fv : Value) : List Value := [vI a.kind, vI a.side] ++ a.call.cells ++ [vI a.n, fv, vI a.fr, vI a.tgt, vS a.dat]
def Ac.inj (a b : Ac) : Bool := (a.fr == b.fr) && ((a.tgt == b.tgt) && (a.dat == b.dat))
def Ac.eqb (a b : Ac) : Bool := (a.kind == b.kind) && (a.side == b.side) && a.call.eqb b.call && (a.n == b.n) && (a.fates == b.fates) && a.inj b
/-- A slice of ints. -/
def FatesAt (w : World) (fv : Value) (l : List Int) : Prop :=
  ∃ a cap, fv = .slice a l.length cap ∧ l.length ≤ cap ∧ l.length ≤ 9223372036854775807 ∧ (l ≠ [] → ∃ b o, a = some ⟨b, o, none⟩ ∧ ∀ j x, l[j]? = some x → w.cell? ⟨b, o + j, none⟩ = some (vI x))
theorem FatesAt.nil (w : World) : FatesAt w (.slice none 0 0) [] := ⟨none, 0, rfl, Nat.le_refl _, by decide, fun h => absurd rfl h⟩
theorem cell_lt {w : World} {p : Addr} {v : Value} (h : w.cell? p = some v) : p.block < w.heap.size := World.block_lt_of_cell? w p h
theorem FatesAt.ext {w w' : World} {fv : Value} {l : List Int} (h : FatesAt w fv l) (hx : Ext w w') : FatesAt w' fv l := by
  obtain ⟨a, cap, rfl, h1, h2, h3⟩ := h
  refine ⟨a, cap, rfl, h1, h2, fun hne => ?_⟩
  obtain ⟨b, o, rfl, hc⟩ := h3 hne
  exact ⟨b, o, rfl, fun j x hj => by rw [hx.cell (p := ⟨b, o + j, none⟩) (cell_lt (hc j x hj))]; exact hc j x hj⟩
theorem fates_equal {w : World} {fv gv : Value} {l m : List Int} (h : FatesAt w fv l) (k : FatesAt w gv m) : Calls Tryz.prog 35 #[fv, gv] w fun e w' => e = .returned (.bool (l == m)) ∧ ∃ q, w' = w.drewN q := by
  obtain ⟨a, cap, rfl, h1, h2, h3⟩ := h
  obtain ⟨b, dap, rfl, k1, k2, k3⟩ := k
  by_cases hl : l = []
  · subst hl
    refine (Tryz.slices_Equal_int_empty a b cap m.length dap w k2).mono ?_
    rintro e w' ⟨rfl, rfl⟩
    refine ⟨?_, 0, rfl⟩
    cases m <;> simp
  · by_cases hm : l.length = m.length
    · have hmn : m ≠ [] := by intro e; rw [e] at hm; exact hl (List.length_eq_zero_iff.1 hm)
      obtain ⟨b1, o1, rfl, hc1⟩ := h3 hl
      obtain ⟨b2, o2, rfl, hc2⟩ := k3 hmn
      refine (Tryz.slices_Equal_int b1 o1 l.length cap b2 o2 m.length dap l m w (Nat.le_refl _) (Nat.le_refl _) h2 k2 (fun j hj => hc1 j _ (by simp [List.getElem?_eq_getElem hj])) (fun j hj => hc2 j _ (by simp [List.getElem?_eq_getElem hj]))).mono ?_
      rintro e w' ⟨rfl, h⟩
      exact ⟨by simp, h⟩
    · refine (Tryz.slices_Equal_int_lens a b l.length cap m.length dap w hm).mono ?_
      rintro e w' ⟨rfl, rfl⟩
      refine ⟨?_, 0, rfl⟩
      have : (l == m) = false := beq_eq_false_iff_ne.2 fun e => hm (by rw [e])
      rw [this]
theorem eq31 (a b : Ac) (w : World) : (binOp .eql 31 (.agg #[vI a.fr, vI a.tgt, vS a.dat]) (.agg #[vI b.fr, vI b.tgt, vS b.dat])).run Tryz.prog w = .ok (.bool (a.inj b)) w := by
  unfold Ac.inj vS vI
  rw [run_eql_struct]
  simp [go_sem]
  repeat' split
  all_goals simp_all
end Go.Proofs.YtikmoledbiepoaaGreatDoor

/- The look-up of a form. -/
import Derived.Test.YtikmoledbiepoaaGreatDoorSess
namespace Go.Proofs.YtikmoledbiepoaaGreatDoor
open Go.RowKit
theorem u118 : Tryz.prog.underlying 118 = some (.map 3 116) := by kernel_rfl
theorem u3 : Tryz.prog.underlying 3 = some (.int .i64) := by kernel_rfl
theorem findNow_none (k : Int) : ∀ (l : List MapEntry) (i : Nat), (∀ e ∈ l, ∃ j : Int, e.key = .int .i64 j ∧ j ≠ k) → Instr.findNow (.int .i64) (.int .i64 k) l i = some none
  | [], i, _ => rfl
  | e :: r, i, hl => by
    obtain ⟨j, hj, hne⟩ := hl e (by simp)
    unfold Instr.findNow
    have : (k == j) = false := beq_eq_false_iff_ne.2 (Ne.symm hne)
    simp [hj, Instr.sameNow, this]
    exact findNow_none k r (i + 1) fun e he => hl e (by simp [he])
theorem findNow_some (k : Int) : ∀ (l : List MapEntry) (i : Nat), (∀ e ∈ l, ∃ j : Int, e.key = .int .i64 j) → (∃ e ∈ l, e.key = .int .i64 k) → ∃ n e, e ∈ l ∧ e.key = .int .i64 k ∧ Instr.findNow (.int .i64) (.int .i64 k) l i = some (some (n, e.val))
  | [], i, _, h => by obtain ⟨e, he, _⟩ := h; cases he
  | x :: r, i, hl, h => by
    obtain ⟨j, hj⟩ := hl x (by simp)
    by_cases hk : k = j
    · subst hk
      refine ⟨i, x, by simp, hj, ?_⟩
      unfold Instr.findNow
      simp [hj, Instr.sameNow]
    · obtain ⟨e, he, hek⟩ := h
      have hne : e ≠ x := fun h => by subst h; rw [hj] at hek; cases hek; exact hk rfl
      have her : e ∈ r := by
        rcases List.mem_cons.1 he with h | h
        · exact absurd h hne
        · exact h
      obtain ⟨n, e', h1, h2, h3⟩ := findNow_some k r (i + 1) (fun e he => hl e (by simp [he])) ⟨e, her, hek⟩
      refine ⟨n, e', by simp [h1], h2, ?_⟩
      unfold Instr.findNow
      have : (k == j) = false := beq_eq_false_iff_ne.2 hk
      simp [hj, Instr.sameNow, this]
      exact h3
theorem ck3 (b : Bool) (k : Int) (w : World) : (Instr.checkKey b 10000 3 (.int .i64 k)).run Tryz.prog w = .ok () w := by cases b <;> kernel_rfl
/-- The look-up of a form that is there. -/
theorem run_form {lo hi : Nat} {w : World} {bm : Nat} (h : FormsAt lo hi w bm) {k : Nat} (hk : k < 14) :
    ∃ sl, FldsAt lo hi w sl (formOf k).2 ∧ ∀ w2, (w2.heap[bm]? = w.heap[bm]?) → (Instr.lookup 118 (.map (some bm)) (.int .i64 (k : Int)) true).run Tryz.prog w2 = .ok (.tuple #[.agg #[vS (formOf k).1, sl], .bool true]) w2 := by
  obtain ⟨es, hm, _, hok, hall⟩ := h.map
  obtain ⟨n, e, he, hkey⟩ := hall k hk
  have hmem : e ∈ es.toList := by simpa using Array.mem_of_getElem? he
  obtain ⟨n', e', h1, h2, h3⟩ := findNow_some (k : Int) es.toList 0 (fun e he => by
    obtain ⟨i, hi⟩ := List.getElem?_of_mem he
    obtain ⟨k', _, hk', _⟩ := hok i e (by simpa using hi)
    exact ⟨_, hk'⟩) ⟨e, hmem, hkey⟩
  obtain ⟨i', hi'⟩ := List.getElem?_of_mem h1
  obtain ⟨k', hk', hkey', sl, hv, hsl⟩ := hok i' e' (by simpa using hi')
  have : k' = k := by
    rw [hkey'] at h2
    simp at h2
    omega
  subst this
  refine ⟨sl, hsl, fun w2 hw => ?_⟩
  have hm2 : w2.heap[bm]? = some (.map es es.size) := by rw [hw]; exact hm
  have hfk : (Instr.findKey 3 (.int .i64 (k' : Int)) es.toList).run Tryz.prog w2 = .ok (some (n', e'.val)) w2 := by
    unfold Instr.findKey
    simp [run_underlying u3, h3]
  unfold Instr.lookup
  simp [run_underlying u118, run_getObj_map hm2, ck3, hfk, hv]
/-- The look-up of one that is not. -/
theorem run_noForm {lo hi : Nat} {w : World} {bm : Nat} (h : FormsAt lo hi w bm) {k : Int} (hk : ¬ (0 ≤ k ∧ k < 14)) :
    ∀ w2, (w2.heap[bm]? = w.heap[bm]?) → (Instr.lookup 118 (.map (some bm)) (.int .i64 k) true).run Tryz.prog w2 = .ok (.tuple #[.agg #[.string ⟨#[]⟩, .slice none 0 0], .bool false]) w2 := by
  obtain ⟨es, hm, _, hok, hall⟩ := h.map
  intro w2 hw
  have hm2 : w2.heap[bm]? = some (.map es es.size) := by rw [hw]; exact hm
  have hfk : (Instr.findKey 3 (.int .i64 k) es.toList).run Tryz.prog w2 = .ok none w2 := by
    unfold Instr.findKey
    have := findNow_none k es.toList 0 (fun e he => by
      obtain ⟨i, hi⟩ := List.getElem?_of_mem he
      obtain ⟨k', hk1, hk', _⟩ := hok i e (by simpa using hi)
      exact ⟨_, hk', by omega⟩)
    simp [run_underlying u3, this]
  have hz : ∀ w, (zeroValue 116).run Tryz.prog w = .ok (.agg #[.string ⟨#[]⟩, .slice none 0 0]) w := fun w => by kernel_rfl
  unfold Instr.lookup
  simp [run_underlying u118, run_getObj_map hm2, ck3, hfk, hz]
end Go.Proofs.YtikmoledbiepoaaGreatDoor

/- Slices of actions joined; strings joined under a guard. -/
import Derived.Test.YtikmoledbiepoaaGreatDoorScript
import Derived.Test.YtikmoledbiepoaaGreatDoorFits
import Derived.Laws.AppendOwnNone
namespace Go.Proofs.YtikmoledbiepoaaGreatDoor
open Go.RowKit
/-- The elements of a slice of actions, with their fates' slices. -/
theorem acts_pts : ∀ (l : List Ac) (w : World) (b o : Nat), (∀ (j : Nat) (x : Ac), l[j]? = some x → ∃ s n c, w.rangeAt b (o + j * 23) (x.cells (.slice s n c)) ∧ FatesAt w (.slice s n c) x.fates) →
    ∃ ps : List Pt, ps.map (·.a) = l ∧ (∀ j u, (flatP ps)[j]? = some u → w.cell? ⟨b, o + j, none⟩ = some u) ∧ ∀ p ∈ ps, FatesAt w p.v p.a.fates
  | [], _, _, _, _ => ⟨[], rfl, fun j u h => by simp [flatP] at h, by simp⟩
  | x :: r, w, b, o, h => by
    obtain ⟨s, n, c, hr, hf⟩ := h 0 x rfl
    obtain ⟨ps, h1, h2, h3⟩ := acts_pts r w b (o + 23) (fun j y hj => by
      obtain ⟨s, n, c, hr, hf⟩ := h (j + 1) y hj
      refine ⟨s, n, c, ?_, hf⟩
      rw [show o + 23 + j * 23 = o + (j + 1) * 23 by omega]
      exact hr)
    have hlen : (x.cells (.slice s n c)).length = 23 := rfl
    refine ⟨⟨x, s, n, c⟩ :: ps, by rw [List.map_cons, h1], fun j u hj => ?_, fun p hp => ?_⟩
    · have e : flatP (⟨x, s, n, c⟩ :: ps) = x.cells (.slice s n c) ++ flatP ps := by simp [flatP, Pt.cells, Pt.v]
      rw [e] at hj
      rcases Nat.lt_or_ge j 23 with hlt | hge
      · rw [List.getElem?_append_left (by rw [hlen]; exact hlt)] at hj
        have := hr j u hj
        simpa using this
      · rw [List.getElem?_append_right (by rw [hlen]; exact hge), hlen] at hj
        have := h2 (j - 23) u hj
        rw [show o + 23 + (j - 23) = o + j by omega] at this
        exact this
    · rcases List.mem_cons.1 hp with rfl | hp
      · exact hf
      · exact h3 p hp
theorem flatP_append (ps qs : List Pt) : flatP (ps ++ qs) = flatP ps ++ flatP qs := by simp [flatP]
theorem flatP_one (ps : List Pt) : ∀ u ∈ flatP ps, u.oneCell' = true := fun u hu => by
  obtain ⟨p, _, hp⟩ := List.mem_flatMap.1 hu
  exact Array.all_eq_true_iff_forall_mem.1 (Ac.one p.a p.s p.n p.c) u (by rw [List.mem_toArray]; exact hp)
section
variable {ops : Array Oper} {rest : List Oper} {o : Oper} {f : Act} {w : World} {Q : Exit → Act → World → Prop}
theorem wpList_appd (hgd : o.guard = none) (s x : Operand) (ho : o.op = .call { callee := .builtin .append, args := #[s, x], argTypes := #[35, 35] }) (w0 : World) (hx0 : Ext w0 w) (v : Value) (n : Nat) (ps : List Pt) (hs : f.eval s = v) (hown : w.ownsRow w0.heap.size 33 23 v n (flatP ps))
    (u : Value) (l : List Ac) (hx : f.eval x = u) (hu : ActsAt w0 u l) (hnil : l = [] → u = .slice none 0 0) (hb1 : n + l.length ≤ 1000)
    (h : ∀ (v' : Value) (qs : List Pt) (w' : World), qs.map (·.a) = l → (∀ q ∈ qs, FatesAt w0 q.v q.a.fates) → w'.ownsRow w0.heap.size 33 23 v' (n + l.length) (flatP (ps ++ qs)) → Ext w0 w' → wpList Tryz.prog ops Q rest (f.put o.dst v') w') : wpList Tryz.prog ops Q (o :: rest) f w := by
  obtain ⟨i0, hi, j0, j1, j2⟩ := info_parts Tryz.info33
  by_cases hl : l = []
  · subst hl
    refine wpList_append_own_none hgd s x 35 ho w0.heap.size 33 i0 23 und35 hi v n (flatP ps) hs hown (by rw [hx, hnil rfl]) ?_
    refine h v [] w rfl (by simp) ?_ hx0
    rw [List.append_nil]
    exact hown
  · obtain ⟨a, cap, rfl, hc1, hc2⟩ := hu
    obtain ⟨b, o', rfl, hel⟩ := hc2 hl
    obtain ⟨qs, h1, h2, h3⟩ := acts_pts l w0 b o' hel
    have hql : qs.length = l.length := by rw [← h1, List.length_map]
    refine wpList_append_lies w hgd s x 35 ho w0.heap.size 33 i0 _ 23 232 und35 hi j0 j1 j2 rfl (by decide) v n (flatP ps) hs hown ⟨b, o', none⟩ l.length cap (flatP qs) hx (by rw [flatP_len, hql]) (fun j u hj => ?_) (flatP_one qs) (List.length_pos_iff.2 hl) (by unfold maxLen; omega) (by omega) hx0.size _ rfl ?_
    · rw [Go.WideShapes.add_plain]
      have := h2 j u hj
      rw [hx0.cell (p := ⟨b, o' + j, none⟩) (cell_lt this)]
      exact this
    · intro g cap2 w' hown' hgrow hat hlt
      refine h _ qs w' h1 h3 (by rw [flatP_append]; exact hown') (Below.trans hx0 ⟨hgrow.os, hgrow.tape, hgrow.output, hgrow.size, fun k hk => hgrow.block k (Nat.lt_of_lt_of_le hk hx0.size) (fun e => ?_)⟩)
      have := (hown.lt k e.symm).1
      omega
theorem acts_two {w0 w : World} {v : Value} {n : Nat} {ps qs : List Pt} {l m : List Ac} (p1 : ps.map (·.a) = l) (p2 : ∀ q ∈ ps, FatesAt w0 q.v q.a.fates) (q1 : qs.map (·.a) = m) (q2 : ∀ q ∈ qs, FatesAt w0 q.v q.a.fates) (hn : n = l.length + m.length) (h : w.ownsRow w0.heap.size 33 23 v n (flatP (ps ++ qs))) (hx : Ext w0 w) : ActsAt w v (l ++ m) := by
  have hlen : (ps ++ qs).length = n := by rw [List.length_append, hn, ← p1, ← q1, List.length_map, List.length_map]
  have := acts_row (w := w) (B := w0.heap.size) (v := v) (ps := ps ++ qs) (by rw [hlen]; exact h) (fun p hp => by
    rcases List.mem_append.1 hp with hp | hp
    · exact (p2 p hp).ext hx
    · exact (q2 p hp).ext hx)
  rw [List.map_append, p1, q1] at this
  exact this
theorem wpList_catg (hw : Region.wanted o (yielded ops f.tmps) = true) (x y : Operand) (ho : o.op = .binOp .add 9 x y 9) (a b : List UInt8) (hx : f.eval x = .string ⟨a.toArray⟩) (hy : f.eval y = .string ⟨b.toArray⟩) (hl : a.length + b.length ≤ 9223372036854775807)
    (h : wpList Tryz.prog ops Q rest (f.put o.dst (.string ⟨(a ++ b).toArray⟩)) w) : wpList Tryz.prog ops Q (o :: rest) f w :=
  wpList_step fun K hK => by
    rw [if_pos hw]
    have h2 := hK _ _ h
    unfold Oper.wp
    rw [exec_cat ho a b hx hy hl]
    exact h2
end
end Go.Proofs.YtikmoledbiepoaaGreatDoor

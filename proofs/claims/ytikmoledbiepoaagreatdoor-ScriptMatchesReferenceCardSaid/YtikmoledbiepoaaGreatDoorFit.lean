/- script.parse: the deferred function. -/
import Derived.Test.YtikmoledbiepoaaGreatDoorRcall
import Derived.Defers
import Derived.Recover
namespace Go.Proofs.YtikmoledbiepoaaGreatDoor
open Go.RowKit
set_option maxRecDepth 100000 in
set_option maxHeartbeats 1000000 in
theorem catch_idle (pa po : Nat) (w : World) :
    CallsD Tryz.prog 55 #[.pointer (some ⟨pa, 0, none⟩), .pointer (some ⟨po, 0, none⟩)] .returning w fun e u' w' => e = .returned (.tuple #[]) ∧ u' = .returning ∧ w' = w := by
  refine callsD_of_wpS Tryz.func55 rfl fun c₀ cs hu => ?_
  simp only [Tryz.ntmps55, List.size_toArray, List.length_cons, List.length_nil, Nat.reduceAdd, Nat.reduceSub, Array.replicate_succ, Array.replicate_zero, List.push_toArray, List.append_toArray, List.nil_append, List.cons_append]
  apply wpS_seq
  apply wpS_region
  simp [wpOpsS, go_sem, recoverD, hu, Exit.thenS]
  refine wpS_of_wp ?_
  go_wp2_with fail
  cases c₀
  simp_all [bodyPostS, results, Tryz.results55]
theorem assert97 (w : World) : (Instr.typeAssert (.iface 97 (.agg #[])) 20 97 true).run Tryz.prog w = .ok (.tuple #[.agg #[], .bool true]) w := by kernel_rfl
set_option maxRecDepth 100000 in
set_option maxHeartbeats 1000000 in
theorem catch_panicking (pa po : Nat) (w : World) (old : Array Value) (b : Bool) (ha : w.heap[pa]? = some (.cells old 33)) (hs : old.size = 23) (hb : w.heap[po]? = some (.cells #[.bool b] 4)) (hne : pa ≠ po) :
    CallsD Tryz.prog 55 #[.pointer (some ⟨pa, 0, none⟩), .pointer (some ⟨po, 0, none⟩)] (.panicking [{ v := .iface 97 (.agg #[]), recovered := false }]) w fun e u' w' =>
      e = .returned (.tuple #[]) ∧ u' = .panicking [{ v := .iface 97 (.agg #[]), recovered := true }] ∧ w'.heap[pa]? = some (.cells ((Ac.none 0).cells (.slice none 0 0)).toArray 33) ∧ w'.heap[po]? = some (.cells #[.bool false] 4) ∧ Kept (fun y => y = pa ∨ y = po) w w' := by
  have hta := assert97
  refine callsD_of_wpS Tryz.func55 rfl fun c₀ cs hu => ?_
  simp only [Tryz.ntmps55, List.size_toArray, List.length_cons, List.length_nil, Nat.reduceAdd, Nat.reduceSub, Array.replicate_succ, Array.replicate_zero, List.push_toArray, List.append_toArray, List.nil_append, List.cons_append]
  apply wpS_seq
  apply wpS_region
  simp [wpOpsS, go_sem, recoverD, hu, Exit.thenS]
  refine wpS_of_wp ?_
  have hbw : ((w.alloc (.cells #[] 97)).setRow pa ((Ac.none 0).cells (.slice none 0 0)).toArray).heap[po]? = some (.cells #[.bool b] 4) := by
    rw [setRow_other _ _ _ _ (Ne.symm hne), alloc_old _ _ (lt_of_block hb)]; exact hb
  have c1 : ((w.alloc (.cells #[] 97)).setRow pa ((Ac.none 0).cells (.slice none 0 0)).toArray).cell? ⟨po, 0, none⟩ = some (.bool b) := by rw [Lib.cell_of_heap hbw]; rfl
  have c2 : ((w.alloc (.cells #[] 97)).setRow pa ((Ac.none 0).cells (.slice none 0 0)).toArray).frozen? ⟨po, 0, none⟩ = false := Lib.frozen_of_heap hbw 0
  go_wp2_with (refine wpList_store33 rfl _ _ rfl pa ((Ac.none 0).cells (.slice none 0 0)).toArray rfl rfl _ ((alloc_old _ _ (lt_of_block ha)).trans ha) hs rfl (Ac.one _ _ _ _) ?_)
  have hpa : ((w.alloc (.cells #[] 97)).setRow pa ((Ac.none 0).cells (.slice none 0 0)).toArray).heap[pa]? = some (.cells ((Ac.none 0).cells (.slice none 0 0)).toArray 33) := setRow_heap _ _ _ _ _ _ ((alloc_old _ _ (lt_of_block ha)).trans ha)
  have hk : Kept (fun y => y = pa ∨ y = po) w (((w.alloc (.cells #[] 97)).setRow pa ((Ac.none 0).cells (.slice none 0 0)).toArray).setCell ⟨po, 0, none⟩ (.bool false)) := by
    refine ⟨rfl, rfl, rfl, by simp [World.setCell], fun k hk hn => ?_⟩
    rw [Below.heap_setCell _ _ _ _ (fun e => hn (.inr e)), setRow_other _ _ _ _ (fun e => hn (.inl e)), alloc_old _ _ hk]
  exact ⟨rfl, _, rfl, .tuple #[], results_none rfl _ _ _, rfl, rfl, by rw [Below.heap_setCell _ _ _ _ hne]; exact hpa, by rw [heap_setCell_self hbw]; rfl, hk⟩
end Go.Proofs.YtikmoledbiepoaaGreatDoor
/- What is read fits. -/
namespace Go.Proofs.YtikmoledbiepoaaGreatDoor
open Go.RowKit
theorem numOf_fit {w : List UInt8} {v : Int} (h : numOf w = some v) : IntFit v ∧ 0 ≤ v := by
  unfold numOf at h
  cases ha : Lib.atoiAll w
  · rename_i u
    rw [ha] at h
    simp only at h
    split at h
    · cases h
    · cases h
      rename_i hn
      refine ⟨⟨by omega, ?_⟩, by omega⟩
      unfold Lib.atoiAll at ha
      cases w with
      | nil => cases ha
      | cons c r =>
        simp only at ha
        split at ha
        · cases ha
        · cases ha
        · rename_i m hm
          split at ha
          · cases ha
          · rename_i h1
            split at ha
            · cases ha
            · split at ha
              · injection ha with ha; omega
              · injection ha with ha; omega
  · rw [ha] at h; cases h
  · rw [ha] at h; cases h
theorem pairs_len : ∀ (n : Nat) (w l : List UInt8), w.length ≤ n → pairs w = some l → 2 * l.length ≤ w.length
  | 0, w, l, hn, h => by
    have : w = [] := List.length_eq_zero_iff.1 (by omega)
    subst this
    simp [pairs] at h
    subst h; simp
  | n + 1, w, l, hn, h => by
    match w, h with
    | [], h => simp [pairs] at h; subst h; simp
    | [x], h => simp [pairs] at h; subst h; simp
    | x :: y :: r, h =>
      unfold pairs at h
      split at h
      · rename_i a b l' h1 h2 h3
        cases h
        have := pairs_len n r l' (by simp at hn; omega) h3
        simp; omega
      · cases h
theorem txtOf_len {w l : List UInt8} (h : txtOf w = some l) : 2 * l.length ≤ w.length := by
  unfold txtOf at h
  split at h
  · cases h; simp
  · cases hp : pairs w with
    | none => rw [hp] at h; cases h
    | some l' =>
      rw [hp] at h
      simp only at h
      split at h
      · cases h; exact pairs_len w.length w l (Nat.le_refl _) hp
      · cases h
theorem CalFit.setI {c : Cal} (h : CalFit c) (k : Nat) {v : Int} (hv : IntFit v) : CalFit (c.setI k v) := by
  refine ⟨fun j hj => ?_, fun j hj => ?_⟩
  · have h0 := h.ints j hj
    unfold Cal.setI
    split <;> (rcases isI_cases hj with rfl | rfl | rfl | rfl | rfl | rfl | rfl | rfl | rfl | rfl | rfl | rfl | rfl <;> first | exact hv | exact h0)
  · have h0 := h.strs j hj
    unfold Cal.setI
    split <;> (rcases isS_cases hj with rfl | rfl | rfl <;> exact h0)
theorem CalFit.setS {c : Cal} (h : CalFit c) (k : Nat) {v : List UInt8} (hv : v.length ≤ 2147483648) : CalFit (c.setS k v) := by
  refine ⟨fun j hj => ?_, fun j hj => ?_⟩
  · have h0 := h.ints j hj
    unfold Cal.setS
    split <;> (rcases isI_cases hj with rfl | rfl | rfl | rfl | rfl | rfl | rfl | rfl | rfl | rfl | rfl | rfl | rfl <;> exact h0)
  · have h0 := h.strs j hj
    unfold Cal.setS
    split <;> (rcases isS_cases hj with rfl | rfl | rfl <;> first | exact hv | exact h0)
theorem fit0 : IntFit 0 := by constructor <;> decide
theorem CalFit.ofKind {k : Int} (h : IntFit k) : CalFit (Cal.ofKind k) := by
  refine ⟨fun j hj => ?_, fun j hj => ?_⟩
  · rcases isI_cases hj with rfl | rfl | rfl | rfl | rfl | rfl | rfl | rfl | rfl | rfl | rfl | rfl | rfl <;> first | exact h | exact fit0
  · rcases isS_cases hj with rfl | rfl | rfl <;> (show (0 : Nat) ≤ 2147483648; decide)
/-- Words none of which is longer than 4000000000 bytes. -/
def Short (ws : List (List UInt8)) : Prop := ∀ x ∈ ws, x.length ≤ 4000000000
theorem rd_cal {f : Fld} {ws r : List (List UInt8)} {c c' : Cal} (h : rd f ws c = some (r, c')) (hw : Short ws) (hc : CalFit c) : Short r ∧ CalFit c' := by
  cases ws with
  | nil => cases h
  | cons x t =>
    have ht : Short t := fun y hy => hw y (by simp [hy])
    have hx := hw x (by simp)
    unfold rd at h
    simp only at h
    split at h
    · cases hn : numOf x with
      | none => rw [hn] at h; cases h
      | some v => rw [hn] at h; cases h; exact ⟨ht, hc.setI _ (numOf_fit hn).1⟩
    · split at h
      · cases hn : txtOf x with
        | none => rw [hn] at h; cases h
        | some v => rw [hn] at h; cases h; exact ⟨ht, hc.setS _ (by have := txtOf_len hn; omega)⟩
      · split at h
        · cases h; exact ⟨ht, hc⟩
        · split at h
          · cases h; exact ⟨ht, hc.setI 3 (v := 1) (by constructor <;> decide)⟩
          · cases h
theorem rdAll_cal : ∀ (fs : List Fld) (ws r : List (List UInt8)) (c c' : Cal), rdAll fs ws c = some (r, c') → Short ws → CalFit c → CalFit c'
  | [], ws, r, c, c', h, _, hc => by cases h; exact hc
  | f :: fs, ws, r, c, c', h, hw, hc => by
    unfold rdAll at h
    cases hr : rd f ws c with
    | none => rw [hr] at h; cases h
    | some y =>
      obtain ⟨r1, c1⟩ := y
      rw [hr] at h
      obtain ⟨h1, h2⟩ := rd_cal hr hw hc
      exact rdAll_cal fs r1 r c1 c' h h1 h2
theorem numAll_fit : ∀ (ws : List (List UInt8)) (l : List Int), numAll ws = some l → (∀ x ∈ l, IntFit x) ∧ l.length = ws.length
  | [], l, h => by cases h; simp
  | s :: r, l, h => by
    unfold numAll at h
    cases hn : numOf s with
    | none => rw [hn] at h; cases h
    | some v =>
      rw [hn] at h
      simp only at h
      cases hr : numAll r with
      | none => rw [hr] at h; cases h
      | some l' =>
        rw [hr] at h
        cases h
        obtain ⟨h1, h2⟩ := numAll_fit r l' hr
        exact ⟨fun x hx => by rcases List.mem_cons.1 hx with rfl | hx; exact (numOf_fit hn).1; exact h1 x hx, by simp [h2]⟩
theorem keyOf_lt {x : List UInt8} {k : Nat} (h : keyOf x = some k) : k < 14 ∧ (formOf k).1 = x := by
  unfold keyOf at h
  have h1 := List.mem_of_find?_eq_some h
  have h2 := List.find?_some h
  exact ⟨List.mem_range.1 h1, by simpa using h2⟩
theorem nextNum_some {ws r : List (List UInt8)} {v : Int} (h : nextNum ws = some (r, v)) : ∃ x, ws = x :: r ∧ numOf x = some v := by
  cases ws with
  | nil => cases h
  | cons s t =>
    simp only [nextNum] at h
    cases hn : numOf s with
    | none => rw [hn] at h; cases h
    | some x => rw [hn] at h; cases h; exact ⟨s, rfl, hn⟩
theorem nextTxt_some {ws r : List (List UInt8)} {v : List UInt8} (h : nextTxt ws = some (r, v)) : ∃ x, ws = x :: r ∧ txtOf x = some v := by
  cases ws with
  | nil => cases h
  | cons s t =>
    simp only [nextTxt] at h
    cases hn : txtOf s with
    | none => rw [hn] at h; cases h
    | some x => rw [hn] at h; cases h; exact ⟨s, rfl, hn⟩
theorem rdCall_fit {ws : List (List UInt8)} {a : Ac} (h : rdCall ws = some a) (hw : Short ws) : AcFit a := by
  unfold rdCall at h
  cases ws with
  | nil => cases h
  | cons s r =>
    simp only at h
    cases hsd : sideOf s with
    | none => rw [hsd] at h; cases h
    | some sd =>
      rw [hsd] at h
      simp only at h
      cases r with
      | nil => cases h
      | cons x r2 =>
        simp only at h
        cases hk : keyOf x with
        | none => rw [hk] at h; cases h
        | some k =>
          rw [hk] at h
          simp only at h
          cases hr : rdAll (formOf k).2 r2 (Cal.ofKind (max (k : Int) 1)) with
          | none => rw [hr] at h; cases h
          | some y =>
            rw [hr] at h
            cases h
            have hk14 := (keyOf_lt hk).1
            have hc := rdAll_cal _ _ y.1 _ y.2 hr (fun z hz => hw z (by simp [hz])) (CalFit.ofKind (by constructor <;> omega))
            exact ⟨hc, fit0, fit0, fit0, by simp [Ac.none], by simp [Ac.none], by simp [Ac.none]⟩
theorem none_call : CalFit (Cal.ofKind 0) := CalFit.ofKind fit0
theorem rdLine_fit {s : List UInt8} {a : Ac} (hs : s.length ≤ 4000000000) (h : rdLine (spl 32 s) = some a) : AcFit a := by
  obtain ⟨h1, h2⟩ := spl_len 32 s
  have hw : Short (spl 32 s) := fun x hx => Nat.le_trans (h2 x hx) hs
  have hlen : (spl 32 s).length ≤ 4000000001 := by omega
  generalize spl 32 s = ws at h hw hlen
  cases ws with
  | nil => cases h
  | cons x r =>
    have hr : Short r := fun y hy => hw y (by simp [hy])
    rw [rdLine_cons] at h
    split at h
    · exact rdCall_fit h hr
    · split at h
      · unfold rdTick at h
        cases hn : nextNum r with
        | none => rw [hn] at h; cases h
        | some y =>
          rw [hn] at h
          cases h
          obtain ⟨z, _, hz⟩ := nextNum_some (r := y.1) (v := y.2) hn
          exact ⟨none_call, (numOf_fit hz).1, fit0, fit0, by simp [Ac.none], by simp [Ac.none], by simp [Ac.none]⟩
      · split at h
        · unfold rdFates at h
          cases hn : numAll r with
          | none => rw [hn] at h; cases h
          | some l =>
            rw [hn] at h
            cases h
            obtain ⟨g1, g2⟩ := numAll_fit r l hn
            refine ⟨none_call, fit0, fit0, fit0, g1, ?_, by simp [Ac.none]⟩
            show l.length ≤ _
            simp at hlen; omega
        · split at h
          · unfold rdInject at h
            cases hn : nextNum r with
            | none => rw [hn] at h; cases h
            | some y =>
              obtain ⟨r1, v1⟩ := y
              rw [hn] at h
              simp only at h
              obtain ⟨z1, rfl, hz1⟩ := nextNum_some hn
              cases hn2 : nextNum r1 with
              | none => rw [hn2] at h; cases h
              | some y2 =>
                obtain ⟨r2, v2⟩ := y2
                rw [hn2] at h
                simp only at h
                obtain ⟨z2, rfl, hz2⟩ := nextNum_some hn2
                cases hn3 : nextTxt r2 with
                | none => rw [hn3] at h; cases h
                | some y3 =>
                  obtain ⟨r3, v3⟩ := y3
                  rw [hn3] at h
                  cases h
                  obtain ⟨z3, rfl, hz3⟩ := nextTxt_some hn3
                  have := hr z3 (by simp)
                  exact ⟨none_call, fit0, (numOf_fit hz1).1, (numOf_fit hz2).1, by simp [Ac.none], by simp [Ac.none], by have := txtOf_len hz3; show v3.length ≤ _; omega⟩
          · cases h
end Go.Proofs.YtikmoledbiepoaaGreatDoor

/- params.check and params.Valid: the range over the iterator of a set of parameters. -/
import Derived.Test.YtikmoledbiepoaaGreatDoorIter
namespace Go.Proofs.YtikmoledbiepoaaGreatDoor
open Go.RowKit Go.Shelf
attribute [local go_sem] Oper.semAt_some
set_option maxHeartbeats 400000 in
theorem values_any (c : Cal) (w : World) : Calls Tryz.prog 66 #[.agg (parCells c)] w fun e w' => e = .returned (.func (.func 80) #[] #[.pointer (some ⟨w.heap.size, 0, none⟩)]) ∧ w' = w.alloc (.cells (parCells c) 24) := by
  have hmf := mkFn
  unfold parCells
  go_enter Tryz.func66, Tryz.ntmps66
  go_wp2
  go_ret
  exact ⟨rfl, rfl⟩
/-- A block of cells is one's own. -/
theorem cells_own (B : Nat) (cs : Array Value) (t : TypeId) (X Y : World) (row : Option Nat) (hs : X.heap[B]? = some (.cells cs t)) (hg : X.grownBy Y row) (hr : ∀ r, row = some r → ∃ o : Obj, X.heap[r]? = some o ∧ o.isCells = false) : Y.heap[B]? = some (.cells cs t) := by
  rw [hg.block B (lt_of_block hs) (fun e => by obtain ⟨o, ho, hc⟩ := hr B e.symm; rw [hs] at ho; cases ho; cases hc)]
  exact hs
def okAll (l : List Fd) : Bool := l.all Fd.ok
theorem all_snocB {pre : List Fd} {x : Fd} : okAll (pre ++ [x]) = (okAll pre && x.ok) := by simp [okAll]
def parRes (c : Cal) (tp : TypeId) (p : Value) : Value := if c.parOk = true then .nilIface else .iface tp p
set_option maxRecDepth 100000 in
set_option maxHeartbeats 4000000 in
theorem check_any (c : Cal) (w : World) (tp : TypeId) (p : Value) (hz : 1 ≤ w.heap.size) (hg : w.cell? ⟨0, 0, none⟩ = some (.iface tp p)) : Calls Tryz.prog 42 #[.agg (parCells c)] w fun e w' => e = .returned (parRes c tp p) ∧ Ext w w' := by
  refine (callsIn_wide (n := 6)).1 ?_
  refine callsIn_of_wp_marks Tryz.func42 rfl trivial ?_ rfl
  simp only [Tryz.ntmps42, List.size_toArray, List.length_cons, List.length_nil, Nat.reduceAdd, Nat.reduceSub, Array.replicate_succ, Array.replicate_zero, List.push_toArray, List.append_toArray, List.nil_append, List.cons_append]
  have hv := fun W => values_any c W
  unfold parCells at hv ⊢
  gi_wp2_with (refine ⟨trivial, ?_⟩; gi_at_call 66; refine (callsIn_wide.2 (hv _)).mono ?_; rintro e w' ⟨rfl, rfl⟩)
  clear hv
  obtain ⟨W0, hW0⟩ : ∃ W0, ((w.alloc (.cells (parCells c) 24)).alloc (.cells #[.nilIface] 71)).alloc (.cells (parCells c) 24) = W0 := ⟨_, rfl⟩
  have hsz : w.heap.size + 3 ≤ W0.heap.size := by rw [← hW0]; simp
  have hB0 : Below w.heap.size w W0 := by rw [← hW0]; exact ((Ext.alloc _ _).trans (Ext.alloc _ _)).trans (Ext.alloc _ _)
  have bR : Boxed W0 (w.heap.size + 1) 71 .nilIface := by
    have h := (Boxed.new (w.alloc (.cells (parCells c) 24)) 71 .nilIface).alloc (.cells (parCells c) 24)
    rw [hW0] at h; simpa using h
  have bP : W0.heap[w.heap.size + 2]? = some (.cells (parCells c) 24) := by
    have h := alloc_new ((w.alloc (.cells (parCells c) 24)).alloc (.cells #[.nilIface] 71)) (.cells (parCells c) 24)
    rw [hW0] at h; simpa using h
  have hW0' := hW0
  unfold parCells at hW0'
  rw [hW0']
  clear hW0 hW0'
  refine wpIn_rangeFunc_ownH rfl (by omega) (gf := 80) (lb := #[.pointer (some ⟨w.heap.size + 2, 0, none⟩)]) rfl trivial (enters_of Tryz.func80 (by kernel_rfl) rfl)
    (values_stops 5 (by omega) (w.heap.size + 2) W0.heap.size c W0 bP (by omega) (Nat.le_refl _)) belowK_t (belowK_b (Nat.le_refl _)) (Below.refl _ _) (fun _ => rfl)
    (fun pre W => okAll pre = true ∧ Below W0.heap.size W0 W)
    (fun k pre W => ((k = .ret ∧ okAll pre = false) ∧ Boxed W (w.heap.size + 1) 71 (.iface tp p)) ∧ Below w.heap.size w W)
    (OwnFrom.and (ownFrom_pure _ _) (ownFrom_below (Nat.le_refl _) (Nat.le_refl _)))
    (fun k => OwnFrom.and (OwnFrom.and (ownFrom_pure _ _) (Own.from (boxed_own _ _ _) _)) (ownFrom_below (Nat.le_refl _) (by omega)))
    ⟨rfl, Below.refl _ _⟩
    (fun x a' W => ∃ Bx, w.heap.size + 1 < Bx ∧ W.heap[Bx]? = some (.cells #[.func (.func x.f) #[] #[], .int .i64 x.lo, .int .i64 x.hi, .bool x.lim] 113) ∧ a' = { tmps := #[.agg (parCells c), .pointer (some ⟨w.heap.size, 0, none⟩), .pointer (some ⟨w.heap.size + 1, 0, none⟩), .pointer (some ⟨Bx, 0, none⟩), .int .i64 x.n, .agg (parCells c), .func (.func 80) #[] #[.pointer (some ⟨w.heap.size + 2, 0, none⟩)], x.agg, .int .i64 x.n, undef, undef, undef, undef, undef, undef, undef, undef, undef, undef, undef], defers := [] })
    (fun x a' _ X Y row hs hg hr => by obtain ⟨Bx, h1, h2, h3⟩ := hs; exact ⟨Bx, h1, cells_own Bx _ 113 X Y row h2 hg (fun r e => (hr r e).2), h3⟩)
    ?assign ?body ?done ?stop
  case assign =>
    rintro l pre x W K ⟨hall, hB1⟩ hK
    have hs1 := hB1.size
    unfold Fd.encs Fd.agg
    gi_wp2
    exact hK _ _ ((KeepsOthers.alloc _ _).from _) ((Below.refl _ W).alloc hs1 _) ⟨hall, hB1.alloc hs1 _⟩ ⟨W.heap.size, by omega, alloc_new _ _, rfl⟩
  case body =>
    rintro l pre x a' W hl ⟨r, hr⟩ ⟨hall, hB1⟩ ⟨Bx, hBx, bX, rfl⟩ hlt
    have hs1 := hB1.size
    have bR1 : Boxed W (w.heap.size + 1) 71 .nilIface := (hB1.block _ (by omega)).trans bR
    have cR := bR1.cell
    have fR := bR1.frozen
    have c1 : W.cell? ⟨Bx, 1, none⟩ = some (.int .i64 x.lo) := by rw [Lib.cell_of_heap bX]; rfl
    have c2 : W.cell? ⟨Bx, 2, none⟩ = some (.int .i64 x.hi) := by rw [Lib.cell_of_heap bX]; rfl
    have hBw : Below w.heap.size w W := hB0.trans (hB1.mono (by omega))
    have cg : W.cell? ⟨0, 0, none⟩ = some (.iface tp p) := by rw [hBw.cell (p := ⟨0, 0, none⟩) hz]; exact hg
    clear bX
    by_cases h1 : x.n < x.lo
    · have H1 : Hid (okAll (pre ++ [x]) = false) := by
        unfold Hid; rw [all_snocB]
        have : x.ok = false := by simp [Fd.ok]; omega
        rw [this, Bool.and_false]
      gi_wp2
      exact ⟨(KeepsOthers.setCell _ _ _).from _, ⟨⟨rfl, H1.out⟩, bR1.set _⟩, hBw.setCell (p := ⟨w.heap.size + 1, 0, none⟩) (by simp) _⟩
    · by_cases h2 : x.hi < x.n
      · have H1 : Hid (okAll (pre ++ [x]) = false) := by
          unfold Hid; rw [all_snocB]
          have : x.ok = false := by simp [Fd.ok]; omega
          rw [this, Bool.and_false]
        gi_wp2
        exact ⟨(KeepsOthers.setCell _ _ _).from _, ⟨⟨rfl, H1.out⟩, bR1.set _⟩, hBw.setCell (p := ⟨w.heap.size + 1, 0, none⟩) (by simp) _⟩
      · have H1 : Hid (okAll (pre ++ [x]) = true) := by
          unfold Hid; rw [all_snocB, hall]
          simp [Fd.ok]; omega
        gi_wp2
        exact ⟨KeepsFrom.refl _ _, Below.refl _ _, H1.out, hB1⟩
  case done =>
    rintro D ys W hD rfl ⟨hall, hB1⟩ hK
    have hs1 := hB1.size
    have bR1 : Boxed W (w.heap.size + 1) 71 .nilIface := (hB1.block _ (by omega)).trans bR
    have cR := bR1.cell
    have fR := bR1.frozen
    have hBw : Below w.heap.size w W := hB0.trans (hB1.mono (by omega))
    have HP : Hid (c.parOk = true) := by unfold Hid; rw [parOk_eq]; exact hall
    gi_wp2
    have hK' := (KeepsOthers.setCell W ⟨w.heap.size + 1, 0, none⟩ .nilIface).same D _ hK rfl
    refine ⟨by simp, .inl ⟨_, _, rfl, run_takeDeferred hK', ?_⟩⟩
    have hc5 := cell_kept (bR1.set .nilIface).cell (grownBy_putObj' _ D (.deferred none)) (fun r e => by cases e; exact ⟨_, hK', rfl⟩)
    refine ⟨.nilIface, ?_, by unfold parRes; rw [if_pos HP.out], (hBw.setCell (p := ⟨w.heap.size + 1, 0, none⟩) (by simp) _).trans (belowK_b (w := w) (Nat.le_refl _) _ D _ _ (by omega) hK' rfl rfl)⟩
    simp [results, Tryz.f42, go_sem, hc5]
  case stop =>
    rintro D k pre W hD hpre ⟨⟨⟨rfl, hno⟩, bR1⟩, hBw⟩ hK
    have HP : Hid (¬ c.parOk = true) := by
      unfold Hid; rw [parOk_eq]
      intro h
      obtain ⟨r, hr⟩ := hpre
      rw [← hr, List.all_append, show pre.all Fd.ok = false from hno] at h
      cases h
    gi_wp2
    refine ⟨by simp, .inl ⟨_, _, rfl, run_takeDeferred hK, ?_⟩⟩
    have hc5 := cell_kept bR1.cell (grownBy_putObj' _ D (.deferred none)) (fun r e => by cases e; exact ⟨_, hK, rfl⟩)
    refine ⟨.iface tp p, ?_, by unfold parRes; rw [if_neg HP.out], hBw.trans (belowK_b (w := w) (Nat.le_refl _) W D _ _ (by omega) hK rfl rfl)⟩
    simp [results, Tryz.f42, go_sem, hc5]
set_option maxHeartbeats 400000 in
theorem pvalid_any (c : Cal) (w : World) (hg : Glob w) : Calls Tryz.prog 27 #[.agg #[.int .i64 c.p0, .int .i64 c.p1, .int .i64 c.p2, .int .i64 c.p3, .int .i64 c.p4, .int .i64 c.p5]] w fun e w' => e = .returned (.bool c.parOk) ∧ Ext w w' := by
  obtain ⟨tp, p, hp⟩ := hg.perr
  have hz := hg.size
  have hc := check_any c (w.alloc (.cells (parCells c) 24)) tp p (by simp) (by rw [(Ext.alloc w (.cells (parCells c) 24)).cell (p := ⟨0, 0, none⟩) (by show 0 < w.heap.size; omega)]; exact hp)
  have hxa := Ext.alloc w (.cells (parCells c) 24)
  unfold parCells at hc hxa
  go_enter Tryz.func27, Tryz.ntmps27
  cases ho : c.parOk with
  | true =>
    unfold parRes at hc
    rw [ho] at hc
    go_wp2_with (go_at_call 42; refine hc.mono ?_; rintro e w' ⟨rfl, hx⟩)
    go_ret
    exact ⟨rfl, hxa.trans hx⟩
  | false =>
    unfold parRes at hc
    rw [ho] at hc
    go_wp2_with (go_at_call 42; refine hc.mono ?_; rintro e w' ⟨rfl, hx⟩)
    go_ret
    exact ⟨rfl, hxa.trans hx⟩
end Go.Proofs.YtikmoledbiepoaaGreatDoor

/- script.line. -/
import Derived.Test.YtikmoledbiepoaaGreatDoorRows3
namespace Go.Proofs.YtikmoledbiepoaaGreatDoor
open Go.RowKit
/-- At the switch's end. -/
def LineCut (a : Ac) (fv : Value) (w : World) (s5 s6 : Value) (w' : World) : Prop :=
  ∃ gv, s5 = vS a.text ∧ s6 = .bool a.ok ∧ w'.heap[w.heap.size]? = some (.cells (a.cells fv).toArray 33) ∧ w'.heap[w.heap.size + 1]? = some (.cells (a.want.cells gv).toArray 33) ∧
    FatesAt w' gv a.want.fates ∧ Below w.heap.size w w' ∧ ¬ (a.kind = 1 ∧ inR a.side 1 = false)
/-- While the side and the call are being stored. -/
def W5 (a : Ac) (fv : Value) (w : World) (b5 b7 : Bool) (w' : World) : Prop :=
  w'.heap[w.heap.size]? = some (.cells (a.cells fv).toArray 33) ∧ w'.heap[w.heap.size + 1]? = some (.cells (({ Ac.none a.kind with side := if b5 = true then a.side else 0, call := if b7 = true then a.call else Cal.ofKind 0 } : Ac).cells (.slice none 0 0)).toArray 33) ∧ Ext w w'
theorem within_inR (a b : Int) (w : World) : Calls Tryz.prog 44 #[.int .i64 a, .int .i64 b] w fun e w' => e = .returned (.bool (inR a b)) ∧ w = w' := within_any a b w
theorem call_len {c : Cal} (hf : CalFit c) : c.line.1.length ≤ 140737488355328 := by
  unfold Cal.line
  split
  · exact line_len hf _
  · simp
theorem fate_len (l : List Int) (h : ∀ x ∈ l, IntFit x) : (fateW l).length ≤ 22 * l.length := by
  induction l with
  | nil => simp [fateW]
  | cons x r ih =>
    have h1 := ih fun y hy => h y (by simp [hy])
    have h2 := Lib.itoa_length_le x (h x (by simp)).1 (h x (by simp)).2
    unfold fateW at h1 ⊢
    rw [List.flatMap_cons, List.length_append, List.length_cons, List.length_cons]
    omega
theorem fate_snoc {l : List Int} {j : Nat} {x : Int} (h : l[j]? = some x) : fateW (l.take (j + 1)) = fateW (l.take j) ++ ([32] ++ Lib.itoa x) := by
  unfold fateW
  rw [List.take_add_one, h]
  simp
theorem fates_all_snoc {l : List Int} {j : Nat} {x : Int} (h : l[j]? = some x) : ((l.take (j + 1)).all fun y => inR y 25) = (((l.take j).all fun y => inR y 25) && inR x 25) := by
  rw [List.take_add_one, h]
  simp
theorem side0 (w : World) : (Instr.index 87 (.agg #[.string ⟨#[99, 108, 105, 101, 110, 116, 32]⟩, .string ⟨#[115, 101, 114, 118, 101, 114, 32]⟩]) (.int .i64 0)).run Tryz.prog w = .ok (.string ⟨#[99, 108, 105, 101, 110, 116, 32]⟩) w := by kernel_rfl
theorem side1 (w : World) : (Instr.index 87 (.agg #[.string ⟨#[99, 108, 105, 101, 110, 116, 32]⟩, .string ⟨#[115, 101, 114, 118, 101, 114, 32]⟩]) (.int .i64 1)).run Tryz.prog w = .ok (.string ⟨#[115, 101, 114, 118, 101, 114, 32]⟩) w := by kernel_rfl
def fatesOk (l : List Int) (j : Nat) : Bool := decide (l.length ≤ 64) && (l.take j).all fun y => inR y 25
set_option maxRecDepth 100000 in
set_option maxHeartbeats 4000000 in
theorem line_any (a : Ac) (fv : Value) (w : World) (hg : Glob w) (hfit : AcFit a) (hA : FatesAt w fv a.fates) :
    Calls Tryz.prog 28 #[.agg (a.cells fv).toArray] w fun e w' => e = .returned (.tuple #[vS a.line.1, .bool a.line.2]) ∧ Ext w w' := by
  obtain ⟨s1, n1, rfl, hA'⟩ := id hA
  rw [Ac.cells_eq]
  go_enter Tryz.func28, Tryz.ntmps28
  go_upto_region 1 with fail
  go_cut [4] (fun s4 w1 => s4 = .pointer (some ⟨w.heap.size + 1, 0, none⟩) ∧ w1.heap[w.heap.size]? = some (.cells (a.cells (.slice s1 a.fates.length n1)).toArray 33) ∧ w1.heap[w.heap.size + 1]? = some (.cells ((Ac.none a.kind).cells (.slice none 0 0)).toArray 33) ∧ Ext w w1)
  case first =>
    go_wp2_with (refine wpList_store33 rfl _ _ rfl (w.heap.size + 1) ((Ac.none a.kind).cells (.slice none 0 0)).toArray rfl rfl _ (two_second _ _ _) rfl rfl (Ac.one _ _ _ _) ?_)
    go_meet
    refine ⟨by simp, ?_, ?_, ?_⟩
    · rw [setRow_other _ _ _ _ (by omega)]; exact two_first _ _ _
    · exact setRow_heap _ _ _ _ _ _ (two_second _ _ _)
    · exact ((Ext.alloc _ _).trans (Ext.alloc _ _)).setRow _ _ (by omega)
  case rest =>
    obtain ⟨rfl, hb1, hb4, hx1⟩ := hcut
    have k1 : wc.cell? ⟨w.heap.size, 0, none⟩ = some (.int .i64 a.kind) := by rw [Lib.cell_of_heap hb1]; rfl
    go_upto_block 0 with fail
    go_cut [5, 6] (fun s5 s6 w' => LineCut a (.slice s1 a.fates.length n1) w s5 s6 w')
    case first =>
      by_cases e1 : a.kind = 1
      · have b1 : (a.kind == 1) = true := beq_iff_eq.2 e1
        have HW : Hid (a.want = { Ac.none a.kind with side := a.side, call := a.call } ∧ a.text = wCall ++ sideW a.side ++ a.call.line.1 ∧ a.ok = a.call.line.2) := by
          unfold Hid Ac.want Ac.text Ac.ok
          rw [if_pos e1, if_pos e1, if_pos e1]
          exact ⟨rfl, rfl, rfl⟩
        have HK := Lib.hid e1
        clear e1
        go_upto_region 5 with fail
        refine wp_region_flags (fun i => [Value.pointer (some ⟨w.heap.size, 1, none⟩), .int .i64 a.side, Value.pointer (some ⟨w.heap.size, 2, none⟩), .agg a.call.cells.toArray, Value.pointer (some ⟨w.heap.size + 1, 1, none⟩), undef, Value.pointer (some ⟨w.heap.size + 1, 2, none⟩), undef].getD i undef) (fun b w' => W5 a (.slice s1 a.fates.length n1) w (b 5) (b 7) w') mixedOrd (by kernel_rfl) (by kernel_rfl) (by kernel_rfl) ⟨hb1, hb4, ⟨hx1.os, hx1.tape, hx1.output, hx1.size, hx1.block⟩⟩ ?_ ?_
        · refine ⟨?_, ?_, ?_, ?_, ?_, ?_, ?_, ?_, trivial⟩
          · intro a' w' b hb hs hW
            have h0 : a'.tmps[1]? = some (Value.pointer (some ⟨w.heap.size, 0, none⟩)) := hs.old 1 rfl
            exact wpOp_val rfl rfl (by simp [execOp, go_sem, h0]) ⟨rfl, hW⟩
          · intro a' w' b hb hs hW
            have h0 : a'.tmps[16]? = some (Value.pointer (some ⟨w.heap.size, 1, none⟩)) := hs.made 0 16 rfl rfl
            have e0 : w'.cell? ⟨w.heap.size, 1, none⟩ = some (.int .i64 a.side) := by rw [Lib.cell_of_heap hW.1]; rfl
            exact wpOp_val rfl rfl (by simp [execOp, go_sem, h0, e0]) ⟨rfl, hW⟩
          · intro a' w' b hb hs hW
            have h0 : a'.tmps[1]? = some (Value.pointer (some ⟨w.heap.size, 0, none⟩)) := hs.old 1 rfl
            exact wpOp_val rfl rfl (by simp [execOp, go_sem, h0]) ⟨rfl, hW⟩
          · intro a' w' b hb hs hW
            have h0 : a'.tmps[18]? = some (Value.pointer (some ⟨w.heap.size, 2, none⟩)) := hs.made 2 18 rfl rfl
            exact wpOp_val rfl rfl (by simp [execOp, ev h0, load28 (ac_call hW.1)]) ⟨rfl, hW⟩
          · intro a' w' b hb hs hW
            have h0 : a'.tmps[4]? = some (Value.pointer (some ⟨w.heap.size + 1, 0, none⟩)) := hs.old 4 rfl
            exact wpOp_val rfl rfl (by simp [execOp, go_sem, h0]) ⟨rfl, hW⟩
          · intro a' w' b hb hs hW
            have h0 : a'.tmps[20]? = some (Value.pointer (some ⟨w.heap.size + 1, 1, none⟩)) := hs.made 4 20 rfl rfl
            have h1 : a'.tmps[17]? = some (.int .i64 a.side) := hs.made 1 17 rfl rfl
            have e0 : w'.cell? ⟨w.heap.size + 1, 1, none⟩ = some (.int .i64 (if b 5 = true then a.side else 0)) := by rw [Lib.cell_of_heap hW.2.1]; rfl
            have e1 : w'.frozen? ⟨w.heap.size + 1, 1, none⟩ = false := Lib.frozen_of_heap hW.2.1 1
            refine wpOp_skip (w' := w'.setCell ⟨w.heap.size + 1, 1, none⟩ (.int .i64 a.side)) rfl rfl (by simp [execOp, go_sem, h0, h1, e0, e1]) ⟨rfl, ?_, ?_, hW.2.2.setCell (p := ⟨w.heap.size + 1, 1, none⟩) (by simp) _⟩
            · rw [Below.heap_setCell _ _ _ _ (by simp)]; exact hW.1
            · rw [heap_setCell_self hW.2.1]; rfl
          · intro a' w' b hb hs hW
            have h0 : a'.tmps[4]? = some (Value.pointer (some ⟨w.heap.size + 1, 0, none⟩)) := hs.old 4 rfl
            exact wpOp_val rfl rfl (by simp [execOp, go_sem, h0]) ⟨rfl, hW⟩
          · intro a' w' b hb hs hW
            have h0 : a'.tmps[21]? = some (Value.pointer (some ⟨w.heap.size + 1, 2, none⟩)) := hs.made 6 21 rfl rfl
            have h1 : a'.tmps[19]? = some (.agg a.call.cells.toArray) := hs.made 3 19 rfl rfl
            have hst := store28 (o := 2) a.call hW.2.1 (by simp [Ac.cells, Cal.cells_length])
            refine wpOp_skip (w' := w'.setCells (w.heap.size + 1) 2 a.call.cells) rfl rfl (by simp [execOp, ev h0, ev h1, hst]) ⟨rfl, ?_, ?_, Ext.setCells (by omega) _ _ _ hW.2.2⟩
            · rw [setCells_other (by omega)]; exact hW.1
            · rw [heap_setCells_self _ _ _ _ hW.2.1, put_call]; rfl
        · intro a' w' b hb hs hW
          have q16 : a'.tmps[16]? = some (Value.pointer (some ⟨w.heap.size, 1, none⟩)) := hs.made 0 16 rfl
          have q17 : a'.tmps[17]? = some (.int .i64 a.side) := hs.made 1 17 rfl
          have q18 : a'.tmps[18]? = some (Value.pointer (some ⟨w.heap.size, 2, none⟩)) := hs.made 2 18 rfl
          have q19 : a'.tmps[19]? = some (.agg a.call.cells.toArray) := hs.made 3 19 rfl
          have q20 : a'.tmps[20]? = some (Value.pointer (some ⟨w.heap.size + 1, 1, none⟩)) := hs.made 4 20 rfl
          have q21 : a'.tmps[21]? = some (Value.pointer (some ⟨w.heap.size + 1, 2, none⟩)) := hs.made 6 21 rfl
          have ha := act_putAll [(16, Value.pointer (some ⟨w.heap.size, 1, none⟩)), (17, .int .i64 a.side), (18, Value.pointer (some ⟨w.heap.size, 2, none⟩)), (19, .agg a.call.cells.toArray), (20, Value.pointer (some ⟨w.heap.size + 1, 1, none⟩)), (21, Value.pointer (some ⟨w.heap.size + 1, 2, none⟩))] hs.defers hs.size (by simp [q16, q17, q18, q19, q20, q21]) rfl hs.old
          clear hs q16 q17 q18 q19 q20 q21
          simp only [putAll, Act.put] at ha
          subst ha
          go_frame
          have hW5 : W5 a (.slice s1 a.fates.length n1) w true true w' := by have h := hW; rw [hb 5 (by decide), hb 7 (by decide)] at h; exact h
          clear hW hb hb1 hb4 hx1 k1
          obtain ⟨hb1, hb4, hx1⟩ := hW5
          have hcl := callLine_any a.call w' (hg.ext hx1) hfit.call
          have hrc := ac_call hb1
          go_wp2_with (refine wpList_ld28 rfl _ rfl w.heap.size 2 rfl a.call hrc ?_)
          refine hcl.mono ?_
          rintro e w3 ⟨rfl, hx3⟩
          clear hcl hrc
          have hc1 : w3.heap[w.heap.size]? = some (.cells (a.cells (.slice s1 a.fates.length n1)).toArray 33) := by rw [hx3.block _ (lt_of_block hb1)]; exact hb1
          have hc4 := (hx3.block _ (lt_of_block hb4)).trans hb4
          have hxw : Ext w w3 := hx1.trans hx3
          clear hb1 hb4 hx3 hx1
          cases hin : inR a.side 1 with
          | false =>
            have HL : Hid (a.line = ([], false)) := by unfold Hid Ac.line; rw [if_pos ⟨HK.out, hin⟩]
            have c1 : w3.cell? ⟨w.heap.size, 1, none⟩ = some (.int .i64 a.side) := by rw [Lib.cell_of_heap hc1]; rfl
            go_wp2_with (go_at_call 44; refine (within_inR _ _ _).mono ?_; rintro e w4 ⟨rfl, rfl⟩)
            go_ret2
            exact ⟨by rw [HL.out]; rfl, hxw⟩
          | true =>
            have hsd : a.side = 0 ∨ a.side = 1 := by
              have h := hin
              simp [inR] at h
              omega
            have hcl := call_len hfit.call
            have HN : Hid (¬ (a.kind = 1 ∧ inR a.side 1 = false)) := fun h => by rw [hin] at h; cases h.2
            rcases hsd with hsd | hsd
            · have c1 : w3.cell? ⟨w.heap.size, 1, none⟩ = some (.int .i64 0) := by rw [Lib.cell_of_heap hc1, ← hsd]; rfl
              rw [hsd] at hin
              have hix := side0
              have hcat2 : (([99, 97, 108, 108, 32] : List UInt8) ++ [99, 108, 105, 101, 110, 116, 32]).length + a.call.line.1.length ≤ 9223372036854775807 := by
                simp; omega
              have HT : Hid (a.text = [99, 97, 108, 108, 32] ++ [99, 108, 105, 101, 110, 116, 32] ++ a.call.line.1) := by unfold Hid; rw [HW.out.2.1, hsd]; rfl
              unfold vS
              clear hsd
              go_wp2_with (first | (go_at_call 44; refine (within_inR _ _ _).mono ?_; rintro e w4 ⟨rfl, rfl⟩) | refine wpList_cat rfl _ _ rfl [99, 97, 108, 108, 32] [99, 108, 105, 101, 110, 116, 32] rfl rfl (by decide) ?_ | refine wpList_cat rfl _ _ rfl ([99, 97, 108, 108, 32] ++ [99, 108, 105, 101, 110, 116, 32]) a.call.line.1 rfl rfl hcat2 ?_)
              go_meet
              exact ⟨.slice none 0 0, by rw [HT.out]; simp [vS], by rw [HW.out.2.2], hc1, by rw [HW.out.1]; exact hc4, by rw [HW.out.1]; exact FatesAt.nil _, hxw, HN.out⟩
            · have c1 : w3.cell? ⟨w.heap.size, 1, none⟩ = some (.int .i64 1) := by rw [Lib.cell_of_heap hc1, ← hsd]; rfl
              rw [hsd] at hin
              have hix := side1
              have hcat2 : (([99, 97, 108, 108, 32] : List UInt8) ++ [115, 101, 114, 118, 101, 114, 32]).length + a.call.line.1.length ≤ 9223372036854775807 := by
                simp; omega
              have HT : Hid (a.text = [99, 97, 108, 108, 32] ++ [115, 101, 114, 118, 101, 114, 32] ++ a.call.line.1) := by unfold Hid; rw [HW.out.2.1, hsd]; rfl
              unfold vS
              clear hsd
              go_wp2_with (first | (go_at_call 44; refine (within_inR _ _ _).mono ?_; rintro e w4 ⟨rfl, rfl⟩) | refine wpList_cat rfl _ _ rfl [99, 97, 108, 108, 32] [115, 101, 114, 118, 101, 114, 32] rfl rfl (by decide) ?_ | refine wpList_cat rfl _ _ rfl ([99, 97, 108, 108, 32] ++ [115, 101, 114, 118, 101, 114, 32]) a.call.line.1 rfl rfl hcat2 ?_)
              go_meet
              exact ⟨.slice none 0 0, by rw [HT.out]; simp [vS], by rw [HW.out.2.2], hc1, by rw [HW.out.1]; exact hc4, by rw [HW.out.1]; exact FatesAt.nil _, hxw, HN.out⟩
      · by_cases e2 : a.kind = 2
        · have b1 : (a.kind == 1) = false := beq_eq_false_iff_ne.2 e1
          have b2 : (a.kind == 2) = true := beq_iff_eq.2 e2
          obtain ⟨hn1, hn2⟩ := hfit.n
          have k2 : wc.cell? ⟨w.heap.size, 18, none⟩ = some (.int .i64 a.n) := by rw [Lib.cell_of_heap hb1]; rfl
          have k3 : wc.cell? ⟨w.heap.size + 1, 18, none⟩ = some (.int .i64 0) := by rw [Lib.cell_of_heap hb4]; rfl
          have k4 : wc.frozen? ⟨w.heap.size + 1, 18, none⟩ = false := Lib.frozen_of_heap hb4 18
          have HW : Hid (a.want = { Ac.none a.kind with n := a.n } ∧ a.text = wTick ++ Lib.itoa a.n ∧ a.ok = (decide (1 ≤ a.n) && decide (a.n ≤ 2000))) := by
            unfold Hid Ac.want Ac.text Ac.ok
            rw [e2]
            exact ⟨rfl, rfl, rfl⟩
          have HN : Hid (¬ (a.kind = 1 ∧ inR a.side 1 = false)) := fun h => e1 h.1
          clear e1 e2
          go_upto_region 12 with fail
          obtain ⟨w2, hw2⟩ : ∃ w2, w2 = wc.setCell ⟨w.heap.size + 1, 18, none⟩ (.int .i64 a.n) := ⟨_, rfl⟩
          rw [← hw2]
          have hc1 : w2.heap[w.heap.size]? = some (.cells (a.cells (.slice s1 a.fates.length n1)).toArray 33) := by
            rw [hw2, Below.heap_setCell _ _ _ _ (by simp)]; exact hb1
          have hc4 : w2.heap[w.heap.size + 1]? = some (.cells ({ Ac.none a.kind with n := a.n }.cells (.slice none 0 0)).toArray 33) := by
            rw [hw2, heap_setCell_self hb4]; rfl
          have hx2 : Ext w w2 := by
            rw [hw2]
            exact hx1.setCell (p := ⟨w.heap.size + 1, 18, none⟩) (by simp) _
          have m2 : w2.cell? ⟨w.heap.size, 18, none⟩ = some (.int .i64 a.n) := by rw [Lib.cell_of_heap hc1]; rfl
          have hlt := lt_of_block hc1
          have hcat : wTick.length + (Lib.itoa a.n).length ≤ 9223372036854775807 := (by have := Lib.itoa_length_le a.n hn1 hn2; have : wTick.length = 5 := rfl; omega)
          have hlt4 := lt_of_block hc4
          clear hw2 hb1 hb4 k1 k2 k3 k4 hx1 hA' b1 b2
          by_cases h1n : 1 ≤ a.n
          · have hb1n : decide (1 ≤ a.n) = true := decide_eq_true h1n
            refine wp_region_vals (fun i => [Value.pointer (some ⟨w.heap.size, 18, none⟩), .int .i64 a.n, .string ⟨(Lib.itoa a.n).toArray⟩, .string ⟨(wTick ++ Lib.itoa a.n).toArray⟩, Value.pointer (some ⟨w.heap.size, 18, none⟩), .int .i64 a.n, .bool true, .bool true, Value.pointer (some ⟨w.heap.size, 18, none⟩), .int .i64 a.n, .bool (decide (a.n ≤ 2000)), .bool (decide (a.n ≤ 2000)), .string ⟨(wTick ++ Lib.itoa a.n).toArray⟩, .bool (decide (a.n ≤ 2000))].getD i undef) (fun w' => Ext w2 w') mixedOrd (by kernel_rfl) (by kernel_rfl) (by kernel_rfl) ⟨rfl, rfl, rfl, Nat.le_refl _, fun _ _ => rfl⟩ ?_ ?_
            · refine ⟨?_, ?_, ?_, ?_, ?_, ?_, ?_, ?_, ?_, ?_, ?_, ?_, ?_, ?_, trivial⟩
              · intro a' w' hs hW
                have h0 : a'.tmps[1]? = some (Value.pointer (some ⟨w.heap.size, 0, none⟩)) := hs.old 1 rfl
                exact wpOp_val rfl rfl (by simp [execOp, go_sem, h0]) ⟨rfl, hW⟩
              · intro a' w' hs hW
                have h0 : a'.tmps[44]? = some (Value.pointer (some ⟨w.heap.size, 18, none⟩)) := hs.made 0 44 rfl rfl
                have e0 : w'.cell? ⟨w.heap.size, 18, none⟩ = some (.int .i64 a.n) := by rw [hW.cell (p := ⟨w.heap.size, 18, none⟩) hlt]; exact m2
                exact wpOp_val rfl rfl (by simp [execOp, go_sem, h0, e0]) ⟨rfl, hW⟩
              · intro a' w' hs hW
                have h0 : a'.tmps[45]? = some (.int .i64 a.n) := hs.made 1 45 rfl rfl
                refine wpOp_call (f := 45) (args := #[.int .i64 a.n]) rfl rfl (exec_call rfl rfl ent45 (by simp [ev h0])) ?_
                refine (Itoa_any _ w' ((hg.ext hx2).ext hW) hn1 hn2).mono ?_
                rintro e w'' ⟨rfl, hx⟩
                exact ⟨_, rfl, rfl, hW.trans hx⟩
              · intro a' w' hs hW
                have h0 : a'.tmps[46]? = some (.string ⟨(Lib.itoa a.n).toArray⟩) := hs.made 2 46 rfl rfl
                exact wpOp_val rfl rfl (exec_cat rfl (wTick) (Lib.itoa a.n) rfl (ev h0) hcat) ⟨rfl, hW⟩
              · intro a' w' hs hW
                have h0 : a'.tmps[1]? = some (Value.pointer (some ⟨w.heap.size, 0, none⟩)) := hs.old 1 rfl
                exact wpOp_val rfl rfl (by simp [execOp, go_sem, h0]) ⟨rfl, hW⟩
              · intro a' w' hs hW
                have h0 : a'.tmps[48]? = some (Value.pointer (some ⟨w.heap.size, 18, none⟩)) := hs.made 4 48 rfl rfl
                have e0 : w'.cell? ⟨w.heap.size, 18, none⟩ = some (.int .i64 a.n) := by rw [hW.cell (p := ⟨w.heap.size, 18, none⟩) hlt]; exact m2
                exact wpOp_val rfl rfl (by simp [execOp, go_sem, h0, e0]) ⟨rfl, hW⟩
              · intro a' w' hs hW
                have h0 : a'.tmps[49]? = some (.int .i64 a.n) := hs.made 5 49 rfl rfl
                exact wpOp_val rfl rfl (by simp [execOp, go_sem, h0, hb1n]) ⟨rfl, hW⟩
              · intro a' w' hs hW
                have h0 : a'.tmps[50]? = some (.bool true) := hs.made 6 50 rfl rfl
                exact wpOp_val rfl rfl (by simp [execOp, go_sem, h0]) ⟨rfl, hW⟩
              · intro a' w' hs hW
                have hg : a'.tmps[51]? = some (.bool true) := hs.made 7 51 rfl rfl
                have h0 : a'.tmps[1]? = some (Value.pointer (some ⟨w.heap.size, 0, none⟩)) := hs.old 1 rfl
                exact wpOp_on_val rfl rfl rfl hg (by simp [execOp, go_sem, h0]) ⟨rfl, hW⟩
              · intro a' w' hs hW
                have hg : a'.tmps[51]? = some (.bool true) := hs.made 7 51 rfl rfl
                have h0 : a'.tmps[52]? = some (Value.pointer (some ⟨w.heap.size, 18, none⟩)) := hs.made 8 52 rfl rfl
                have e0 : w'.cell? ⟨w.heap.size, 18, none⟩ = some (.int .i64 a.n) := by rw [hW.cell (p := ⟨w.heap.size, 18, none⟩) hlt]; exact m2
                exact wpOp_on_val rfl rfl rfl hg (by simp [execOp, go_sem, h0, e0]) ⟨rfl, hW⟩
              · intro a' w' hs hW
                have hg : a'.tmps[51]? = some (.bool true) := hs.made 7 51 rfl rfl
                have h0 : a'.tmps[53]? = some (.int .i64 a.n) := hs.made 9 53 rfl rfl
                exact wpOp_on_val rfl rfl rfl hg (by simp [execOp, go_sem, h0]) ⟨rfl, hW⟩
              · intro a' w' hs hW
                have h0 : a'.tmps[51]? = some (.bool true) := hs.made 7 51 rfl rfl
                have h1 : a'.tmps[54]? = some (.bool (decide (a.n ≤ 2000))) := hs.made 10 54 rfl rfl
                exact wpOp_val rfl rfl (by simp [execOp, go_sem, h0, h1]) ⟨rfl, hW⟩
              · intro a' w' hs hW
                have h0 : a'.tmps[47]? = some (.string ⟨(wTick ++ Lib.itoa a.n).toArray⟩) := hs.made 3 47 rfl rfl
                exact wpOp_val rfl rfl (by simp [execOp, go_sem, h0]) ⟨rfl, hW⟩
              · intro a' w' hs hW
                have h0 : a'.tmps[55]? = some (.bool (decide (a.n ≤ 2000))) := hs.made 11 55 rfl rfl
                exact wpOp_val rfl rfl (by simp [execOp, go_sem, h0]) ⟨rfl, hW⟩
            · intro a' w' hs hW
              have q44 : a'.tmps[44]? = some (Value.pointer (some ⟨w.heap.size, 18, none⟩)) := hs.made 0 44 rfl
              have q45 : a'.tmps[45]? = some (.int .i64 a.n) := hs.made 1 45 rfl
              have q46 : a'.tmps[46]? = some (.string ⟨(Lib.itoa a.n).toArray⟩) := hs.made 2 46 rfl
              have q47 : a'.tmps[47]? = some (.string ⟨(wTick ++ Lib.itoa a.n).toArray⟩) := hs.made 3 47 rfl
              have q48 : a'.tmps[48]? = some (Value.pointer (some ⟨w.heap.size, 18, none⟩)) := hs.made 4 48 rfl
              have q49 : a'.tmps[49]? = some (.int .i64 a.n) := hs.made 5 49 rfl
              have q50 : a'.tmps[50]? = some (.bool true) := hs.made 6 50 rfl
              have q51 : a'.tmps[51]? = some (.bool true) := hs.made 7 51 rfl
              have q52 : a'.tmps[52]? = some (Value.pointer (some ⟨w.heap.size, 18, none⟩)) := hs.made 8 52 rfl
              have q53 : a'.tmps[53]? = some (.int .i64 a.n) := hs.made 9 53 rfl
              have q54 : a'.tmps[54]? = some (.bool (decide (a.n ≤ 2000))) := hs.made 10 54 rfl
              have q55 : a'.tmps[55]? = some (.bool (decide (a.n ≤ 2000))) := hs.made 11 55 rfl
              have q5 : a'.tmps[5]? = some (.string ⟨(wTick ++ Lib.itoa a.n).toArray⟩) := hs.made 12 5 rfl
              have q6 : a'.tmps[6]? = some (.bool (decide (a.n ≤ 2000))) := hs.made 13 6 rfl
              have ha := act_putAll [(44, Value.pointer (some ⟨w.heap.size, 18, none⟩)), (45, .int .i64 a.n), (46, .string ⟨(Lib.itoa a.n).toArray⟩), (47, .string ⟨(wTick ++ Lib.itoa a.n).toArray⟩), (48, Value.pointer (some ⟨w.heap.size, 18, none⟩)), (49, .int .i64 a.n), (50, .bool true), (51, .bool true), (52, Value.pointer (some ⟨w.heap.size, 18, none⟩)), (53, .int .i64 a.n), (54, .bool (decide (a.n ≤ 2000))), (55, .bool (decide (a.n ≤ 2000))), (5, .string ⟨(wTick ++ Lib.itoa a.n).toArray⟩), (6, .bool (decide (a.n ≤ 2000)))] hs.defers hs.size (by simp [q44, q45, q46, q47, q48, q49, q50, q51, q52, q53, q54, q55, q5, q6]) rfl hs.old
              clear hs q44 q45 q46 q47 q48 q49 q50 q51 q52 q53 q54 q55 q5 q6
              simp only [putAll, Act.put] at ha
              subst ha
              go_frame
              go_wp2_with fail
              go_meet
              exact ⟨.slice none 0 0, by rw [HW.out.2.1]; rfl, by rw [HW.out.2.2, hb1n, Bool.true_and], (hW.block _ hlt).trans hc1, by rw [HW.out.1]; exact (hW.block _ hlt4).trans hc4, by rw [HW.out.1]; exact FatesAt.nil _, hx2.trans hW, HN.out⟩
          · have hb1n : decide (1 ≤ a.n) = false := decide_eq_false h1n
            refine wp_region_vals (fun i => [Value.pointer (some ⟨w.heap.size, 18, none⟩), .int .i64 a.n, .string ⟨(Lib.itoa a.n).toArray⟩, .string ⟨(wTick ++ Lib.itoa a.n).toArray⟩, Value.pointer (some ⟨w.heap.size, 18, none⟩), .int .i64 a.n, .bool false, .bool false, undef, undef, undef, .bool false, .string ⟨(wTick ++ Lib.itoa a.n).toArray⟩, .bool false].getD i undef) (fun w' => Ext w2 w') mixedOrd (by kernel_rfl) (by kernel_rfl) (by kernel_rfl) ⟨rfl, rfl, rfl, Nat.le_refl _, fun _ _ => rfl⟩ ?_ ?_
            · refine ⟨?_, ?_, ?_, ?_, ?_, ?_, ?_, ?_, ?_, ?_, ?_, ?_, ?_, ?_, trivial⟩
              · intro a' w' hs hW
                have h0 : a'.tmps[1]? = some (Value.pointer (some ⟨w.heap.size, 0, none⟩)) := hs.old 1 rfl
                exact wpOp_val rfl rfl (by simp [execOp, go_sem, h0]) ⟨rfl, hW⟩
              · intro a' w' hs hW
                have h0 : a'.tmps[44]? = some (Value.pointer (some ⟨w.heap.size, 18, none⟩)) := hs.made 0 44 rfl rfl
                have e0 : w'.cell? ⟨w.heap.size, 18, none⟩ = some (.int .i64 a.n) := by rw [hW.cell (p := ⟨w.heap.size, 18, none⟩) hlt]; exact m2
                exact wpOp_val rfl rfl (by simp [execOp, go_sem, h0, e0]) ⟨rfl, hW⟩
              · intro a' w' hs hW
                have h0 : a'.tmps[45]? = some (.int .i64 a.n) := hs.made 1 45 rfl rfl
                refine wpOp_call (f := 45) (args := #[.int .i64 a.n]) rfl rfl (exec_call rfl rfl ent45 (by simp [ev h0])) ?_
                refine (Itoa_any _ w' ((hg.ext hx2).ext hW) hn1 hn2).mono ?_
                rintro e w'' ⟨rfl, hx⟩
                exact ⟨_, rfl, rfl, hW.trans hx⟩
              · intro a' w' hs hW
                have h0 : a'.tmps[46]? = some (.string ⟨(Lib.itoa a.n).toArray⟩) := hs.made 2 46 rfl rfl
                exact wpOp_val rfl rfl (exec_cat rfl (wTick) (Lib.itoa a.n) rfl (ev h0) hcat) ⟨rfl, hW⟩
              · intro a' w' hs hW
                have h0 : a'.tmps[1]? = some (Value.pointer (some ⟨w.heap.size, 0, none⟩)) := hs.old 1 rfl
                exact wpOp_val rfl rfl (by simp [execOp, go_sem, h0]) ⟨rfl, hW⟩
              · intro a' w' hs hW
                have h0 : a'.tmps[48]? = some (Value.pointer (some ⟨w.heap.size, 18, none⟩)) := hs.made 4 48 rfl rfl
                have e0 : w'.cell? ⟨w.heap.size, 18, none⟩ = some (.int .i64 a.n) := by rw [hW.cell (p := ⟨w.heap.size, 18, none⟩) hlt]; exact m2
                exact wpOp_val rfl rfl (by simp [execOp, go_sem, h0, e0]) ⟨rfl, hW⟩
              · intro a' w' hs hW
                have h0 : a'.tmps[49]? = some (.int .i64 a.n) := hs.made 5 49 rfl rfl
                exact wpOp_val rfl rfl (by simp [execOp, go_sem, h0, hb1n]) ⟨rfl, hW⟩
              · intro a' w' hs hW
                have h0 : a'.tmps[50]? = some (.bool false) := hs.made 6 50 rfl rfl
                exact wpOp_val rfl rfl (by simp [execOp, go_sem, h0]) ⟨rfl, hW⟩
              · intro a' w' hs hW
                have hg : a'.tmps[51]? = some (.bool false) := hs.made 7 51 rfl rfl
                exact wpOp_off rfl rfl rfl hg (by decide) ⟨rfl, hW⟩
              · intro a' w' hs hW
                have hg : a'.tmps[51]? = some (.bool false) := hs.made 7 51 rfl rfl
                exact wpOp_off rfl rfl rfl hg (by decide) ⟨rfl, hW⟩
              · intro a' w' hs hW
                have hg : a'.tmps[51]? = some (.bool false) := hs.made 7 51 rfl rfl
                exact wpOp_off rfl rfl rfl hg (by decide) ⟨rfl, hW⟩
              · intro a' w' hs hW
                have h0 : a'.tmps[51]? = some (.bool false) := hs.made 7 51 rfl rfl
                have h1 : a'.tmps[54]? = some (undef) := hs.made 10 54 rfl rfl
                exact wpOp_val rfl rfl (by simp [execOp, go_sem, h0, h1]) ⟨rfl, hW⟩
              · intro a' w' hs hW
                have h0 : a'.tmps[47]? = some (.string ⟨(wTick ++ Lib.itoa a.n).toArray⟩) := hs.made 3 47 rfl rfl
                exact wpOp_val rfl rfl (by simp [execOp, go_sem, h0]) ⟨rfl, hW⟩
              · intro a' w' hs hW
                have h0 : a'.tmps[55]? = some (.bool false) := hs.made 11 55 rfl rfl
                exact wpOp_val rfl rfl (by simp [execOp, go_sem, h0]) ⟨rfl, hW⟩
            · intro a' w' hs hW
              have q44 : a'.tmps[44]? = some (Value.pointer (some ⟨w.heap.size, 18, none⟩)) := hs.made 0 44 rfl
              have q45 : a'.tmps[45]? = some (.int .i64 a.n) := hs.made 1 45 rfl
              have q46 : a'.tmps[46]? = some (.string ⟨(Lib.itoa a.n).toArray⟩) := hs.made 2 46 rfl
              have q47 : a'.tmps[47]? = some (.string ⟨(wTick ++ Lib.itoa a.n).toArray⟩) := hs.made 3 47 rfl
              have q48 : a'.tmps[48]? = some (Value.pointer (some ⟨w.heap.size, 18, none⟩)) := hs.made 4 48 rfl
              have q49 : a'.tmps[49]? = some (.int .i64 a.n) := hs.made 5 49 rfl
              have q50 : a'.tmps[50]? = some (.bool false) := hs.made 6 50 rfl
              have q51 : a'.tmps[51]? = some (.bool false) := hs.made 7 51 rfl
              have q52 : a'.tmps[52]? = some (undef) := hs.made 8 52 rfl
              have q53 : a'.tmps[53]? = some (undef) := hs.made 9 53 rfl
              have q54 : a'.tmps[54]? = some (undef) := hs.made 10 54 rfl
              have q55 : a'.tmps[55]? = some (.bool false) := hs.made 11 55 rfl
              have q5 : a'.tmps[5]? = some (.string ⟨(wTick ++ Lib.itoa a.n).toArray⟩) := hs.made 12 5 rfl
              have q6 : a'.tmps[6]? = some (.bool false) := hs.made 13 6 rfl
              have ha := act_putAll [(44, Value.pointer (some ⟨w.heap.size, 18, none⟩)), (45, .int .i64 a.n), (46, .string ⟨(Lib.itoa a.n).toArray⟩), (47, .string ⟨(wTick ++ Lib.itoa a.n).toArray⟩), (48, Value.pointer (some ⟨w.heap.size, 18, none⟩)), (49, .int .i64 a.n), (50, .bool false), (51, .bool false), (52, undef), (53, undef), (54, undef), (55, .bool false), (5, .string ⟨(wTick ++ Lib.itoa a.n).toArray⟩), (6, .bool false)] hs.defers hs.size (by simp [q44, q45, q46, q47, q48, q49, q50, q51, q52, q53, q54, q55, q5, q6]) rfl hs.old
              clear hs q44 q45 q46 q47 q48 q49 q50 q51 q52 q53 q54 q55 q5 q6
              simp only [putAll, Act.put] at ha
              subst ha
              go_frame
              go_wp2_with fail
              go_meet
              exact ⟨.slice none 0 0, by rw [HW.out.2.1]; rfl, by rw [HW.out.2.2, hb1n, Bool.false_and], (hW.block _ hlt).trans hc1, by rw [HW.out.1]; exact (hW.block _ hlt4).trans hc4, by rw [HW.out.1]; exact FatesAt.nil _, hx2.trans hW, HN.out⟩
        · by_cases e3 : a.kind = 3
          · have b1 : (a.kind == 1) = false := beq_eq_false_iff_ne.2 e1
            have b2 : (a.kind == 2) = false := beq_eq_false_iff_ne.2 e2
            have b3 : (a.kind == 3) = true := beq_iff_eq.2 e3
            have HW : Hid (a.want = { Ac.none a.kind with fates := a.fates } ∧ a.text = wFates ++ fateW a.fates ∧ a.ok = fatesOk a.fates a.fates.length) := by
              unfold Hid Ac.want Ac.text Ac.ok fatesOk
              rw [e3, List.take_length]
              exact ⟨rfl, rfl, rfl⟩
            have HN : Hid (¬ (a.kind = 1 ∧ inR a.side 1 = false)) := fun h => e1 h.1
            have k2 : wc.cell? ⟨w.heap.size, 19, none⟩ = some (.slice s1 a.fates.length n1) := by rw [Lib.cell_of_heap hb1]; rfl
            have k3 : wc.cell? ⟨w.heap.size + 1, 19, none⟩ = some (.slice none 0 0) := by rw [Lib.cell_of_heap hb4]; rfl
            have k4 : wc.frozen? ⟨w.heap.size + 1, 19, none⟩ = false := Lib.frozen_of_heap hb4 19
            clear e1 e2 e3
            go_upto_region 15 with fail
            obtain ⟨w2, hw2⟩ : ∃ w2, w2 = wc.setCell ⟨w.heap.size + 1, 19, none⟩ (.slice s1 a.fates.length n1) := ⟨_, rfl⟩
            rw [← hw2]
            have hc1 : w2.heap[w.heap.size]? = some (.cells (a.cells (.slice s1 a.fates.length n1)).toArray 33) := by
              rw [hw2, Below.heap_setCell _ _ _ _ (by simp)]; exact hb1
            have hc4 : w2.heap[w.heap.size + 1]? = some (.cells ({ Ac.none a.kind with fates := a.fates }.cells (.slice s1 a.fates.length n1)).toArray 33) := by
              rw [hw2, heap_setCell_self hb4]; rfl
            have hx2 : Ext w w2 := by
              rw [hw2]
              exact hx1.setCell (p := ⟨w.heap.size + 1, 19, none⟩) (by simp) _
            have m2 : w2.cell? ⟨w.heap.size, 19, none⟩ = some (.slice s1 a.fates.length n1) := by rw [Lib.cell_of_heap hc1]; rfl
            have hlt := lt_of_block hc1
            have hlt4 := lt_of_block hc4
            have hA2 : FatesAt w2 (.slice s1 a.fates.length n1) a.fates := hA.ext hx2
            have hfew := hfit.few
            clear hw2 hb1 hb4 k1 k2 k3 k4 hx1 hA' b1 b2 b3
            go_quiet (fail)
            go_wp2_with fail
            go_loopw [5, 6, 68] (fun t ok i wq => ∃ j : Nat, j ≤ a.fates.length ∧ i = .int .i64 j ∧ t = .string ⟨(wFates ++ fateW (a.fates.take j)).toArray⟩ ∧ ok = .bool (fatesOk a.fates j) ∧ Below w2.heap.size w2 wq)
              (fun _ _ i _ => a.fates.length - (intOf i).toNat)
            case atStart => exact ⟨0, by omega, rfl, rfl, by unfold fatesOk; simp; omega, Ext.drewN _ _⟩
            case round =>
              obtain ⟨j, hj, rfl, rfl, rfl, hbq⟩ := hrel
              have hq : Ext w2 wr := hbq
              by_cases hltj : j < a.fates.length
              · obtain ⟨x, hx⟩ : ∃ x, a.fates[j]? = some x := ⟨_, List.getElem?_eq_getElem hltj⟩
                obtain ⟨s1', n1', he, _, hmax, hcell⟩ := hA2
                cases he
                obtain ⟨b, o, rfl, hc⟩ := hcell (by intro e; rw [e] at hltj; simp at hltj)
                have hcj : wr.cell? ⟨b, o + j, none⟩ = some (.int .i64 x) := by rw [hq.cell (p := ⟨b, o + j, none⟩) (cell_lt (hc j x hx))]; exact hc j x hx
                have hxf := hfit.fates x (List.mem_of_getElem? hx)
                have l1 := Lib.itoa_length_le x hxf.1 hxf.2
                have l2 := fate_len (a.fates.take j) (fun y hy => hfit.fates y (List.mem_of_mem_take hy))
                have hl1 : ([32] : List UInt8).length + (Lib.itoa x).length ≤ 9223372036854775807 := by simp; omega
                have hl2 : (wFates ++ fateW (a.fates.take j)).length + ([32] ++ Lib.itoa x).length ≤ 9223372036854775807 := by
                  have h5 : wFates.length = 5 := rfl
                  simp at l2 ⊢
                  omega
                have HS : Hid (wFates ++ fateW (a.fates.take (j + 1)) = wFates ++ fateW (a.fates.take j) ++ ([32] ++ Lib.itoa x) ∧ fatesOk a.fates (j + 1) = (fatesOk a.fates j && inR x 25)) := by
                  unfold Hid fatesOk
                  rw [fate_snoc hx, fates_all_snoc hx, List.append_assoc, Bool.and_assoc]
                  exact ⟨rfl, rfl⟩
                have hI := Itoa_any x wr ((hg.ext hx2).ext hq) hxf.1 hxf.2
                clear l1 l2 hx hc hcell
                go_wp2_with fail
                refine hI.mono ?_
                rintro e w4 ⟨rfl, hx4⟩
                clear hI hcj
                unfold vS
                generalize fatesOk a.fates j = okj at HS ⊢
                cases okj with
                | true =>
                  go_wp2_with (first | (go_at_call 44; refine (within_inR _ _ _).mono ?_; rintro e w5 ⟨rfl, rfl⟩) | refine wpList_cat rfl _ _ rfl [32] (Lib.itoa x) rfl rfl hl1 ?_ | refine wpList_cat rfl _ _ rfl (wFates ++ fateW (a.fates.take j)) ([32] ++ Lib.itoa x) rfl rfl hl2 ?_)
                  go_roundw
                  case rel => exact ⟨j + 1, by omega, by go_num, by rw [HS.out.1]; simp, by rw [HS.out.2]; simp, hq.trans hx4⟩
                  case measure => simp [intOf]; omega
                | false =>
                  go_wp2_with (first | refine wpList_cat rfl _ _ rfl [32] (Lib.itoa x) rfl rfl hl1 ?_ | refine wpList_cat rfl _ _ rfl (wFates ++ fateW (a.fates.take j)) ([32] ++ Lib.itoa x) rfl rfl hl2 ?_)
                  go_roundw
                  case rel => exact ⟨j + 1, by omega, by go_num, by rw [HS.out.1]; simp, by rw [HS.out.2]; simp, hq.trans hx4⟩
                  case measure => simp [intOf]; omega
              · have hjl : j = a.fates.length := by omega
                have HT : Hid (a.text = wFates ++ fateW (a.fates.take j) ∧ a.ok = fatesOk a.fates j) := by
                  unfold Hid; rw [HW.out.2.1, HW.out.2.2, hjl, List.take_length]; exact ⟨rfl, rfl⟩
                clear hjl
                go_wp2_with fail
                go_meet
                exact ⟨.slice s1 a.fates.length n1, by rw [HT.out.1]; rfl, by rw [HT.out.2], (hq.block _ hlt).trans hc1, by rw [HW.out.1]; exact (hq.block _ hlt4).trans hc4, by rw [HW.out.1]; exact hA2.ext hq, hx2.trans hq, HN.out⟩
          · by_cases e4 : a.kind = 4
            · have b1 : (a.kind == 1) = false := beq_eq_false_iff_ne.2 e1
              have b2 : (a.kind == 2) = false := beq_eq_false_iff_ne.2 e2
              have b3 : (a.kind == 3) = false := beq_eq_false_iff_ne.2 e3
              have b4 : (a.kind == 4) = true := beq_iff_eq.2 e4
              have HW : Hid (a.want = { Ac.none a.kind with fr := a.fr, tgt := a.tgt, dat := a.dat } ∧ a.text = wInject ++ Lib.itoa a.fr ++ [32] ++ Lib.itoa a.tgt ++ [32] ++ hexB a.dat ∧ a.ok = (inR a.fr 65535 && inR a.tgt 65535 && decide (a.dat.length ≤ 1024))) := by
                unfold Hid Ac.want Ac.text Ac.ok
                rw [e4]
                exact ⟨rfl, rfl, rfl⟩
              have HN : Hid (¬ (a.kind = 1 ∧ inR a.side 1 = false)) := fun h => e1 h.1
              have hri := ac_inj hb1
              unfold vI vS at hri
              clear e1 e2 e3 e4
              go_upto_region 24 with (first | refine wpList_ld31 rfl _ rfl w.heap.size 20 rfl _ _ _ hri ?_ | refine wpList_st31 rfl _ _ rfl (w.heap.size + 1) 20 rfl (.int .i64 a.fr) (.int .i64 a.tgt) (.string ⟨a.dat.toArray⟩) rfl hb4 (by simp [Ac.cells, Cal.cells_length]) (by simp [Value.oneCell']) ?_)
              obtain ⟨w2, hw2⟩ : ∃ w2, w2 = wc.setCells (w.heap.size + 1) 20 [.int .i64 a.fr, .int .i64 a.tgt, .string ⟨a.dat.toArray⟩] := ⟨_, rfl⟩
              rw [← hw2]
              have hc1 : w2.heap[w.heap.size]? = some (.cells (a.cells (.slice s1 a.fates.length n1)).toArray 33) := by
                rw [hw2, setCells_other (by omega)]; exact hb1
              have hc4 : w2.heap[w.heap.size + 1]? = some (.cells ({ Ac.none a.kind with fr := a.fr, tgt := a.tgt, dat := a.dat }.cells (.slice none 0 0)).toArray 33) := by
                rw [hw2, heap_setCells_self _ _ _ _ hb4, put_inj]
              have hx2 : Ext w w2 := by rw [hw2]; exact Ext.setCells (by omega) _ _ _ hx1
              have m20 : w2.cell? ⟨w.heap.size, 20, none⟩ = some (.int .i64 a.fr) := by rw [Lib.cell_of_heap hc1]; rfl
              have m21 : w2.cell? ⟨w.heap.size, 21, none⟩ = some (.int .i64 a.tgt) := by rw [Lib.cell_of_heap hc1]; rfl
              have m22 : w2.cell? ⟨w.heap.size, 22, none⟩ = some (.string ⟨a.dat.toArray⟩) := by rw [Lib.cell_of_heap hc1]; rfl
              have hlt := lt_of_block hc1
              have hlt4 := lt_of_block hc4
              have l1 := Lib.itoa_length_le a.fr hfit.fr.1 hfit.fr.2
              have l2 := Lib.itoa_length_le a.tgt hfit.tgt.1 hfit.tgt.2
              have l3 := hexB_length a.dat
              have l4 := hfit.dat
              have l0 : wInject.length = 7 := rfl
              have hk1 : wInject.length + (Lib.itoa a.fr).length ≤ 9223372036854775807 := (by omega)
              have hk2 : (wInject ++ Lib.itoa a.fr).length + ([32] : List UInt8).length ≤ 9223372036854775807 := by simp; omega
              have hk3 : (wInject ++ Lib.itoa a.fr ++ [32]).length + (Lib.itoa a.tgt : List UInt8).length ≤ 9223372036854775807 := by simp; omega
              have hk4 : (wInject ++ Lib.itoa a.fr ++ [32] ++ Lib.itoa a.tgt).length + ([32] : List UInt8).length ≤ 9223372036854775807 := by simp; omega
              have hk5 : (wInject ++ Lib.itoa a.fr ++ [32] ++ Lib.itoa a.tgt ++ [32]).length + (hexB a.dat : List UInt8).length ≤ 9223372036854775807 := by simp; omega
              clear hw2 hb1 hb4 k1 hx1 hA' b1 b2 b3 b4 l0 l1 l2 l3 l4 hri
              refine wp_region_vals (fun i => [Value.pointer (some ⟨w.heap.size, 20, none⟩), Value.pointer (some ⟨w.heap.size, 20, none⟩), .int .i64 a.fr, .string ⟨(Lib.itoa a.fr).toArray⟩, .string ⟨(wInject ++ Lib.itoa a.fr).toArray⟩, .string ⟨(wInject ++ Lib.itoa a.fr ++ [32]).toArray⟩, Value.pointer (some ⟨w.heap.size, 20, none⟩), Value.pointer (some ⟨w.heap.size, 21, none⟩), .int .i64 a.tgt, .string ⟨(Lib.itoa a.tgt).toArray⟩, .string ⟨(wInject ++ Lib.itoa a.fr ++ [32] ++ Lib.itoa a.tgt).toArray⟩, .string ⟨(wInject ++ Lib.itoa a.fr ++ [32] ++ Lib.itoa a.tgt ++ [32]).toArray⟩, Value.pointer (some ⟨w.heap.size, 20, none⟩), Value.pointer (some ⟨w.heap.size, 22, none⟩), .string ⟨a.dat.toArray⟩, .string ⟨(hexB a.dat).toArray⟩, .string ⟨(wInject ++ Lib.itoa a.fr ++ [32] ++ Lib.itoa a.tgt ++ [32] ++ hexB a.dat).toArray⟩, .string ⟨(wInject ++ Lib.itoa a.fr ++ [32] ++ Lib.itoa a.tgt ++ [32] ++ hexB a.dat).toArray⟩].getD i undef) (fun w' => Ext w2 w') mixedOrd (by kernel_rfl) (by kernel_rfl) (by kernel_rfl) ⟨rfl, rfl, rfl, Nat.le_refl _, fun _ _ => rfl⟩ ?_ ?_
              · refine ⟨?_, ?_, ?_, ?_, ?_, ?_, ?_, ?_, ?_, ?_, ?_, ?_, ?_, ?_, ?_, ?_, ?_, ?_, trivial⟩
                · intro a' w' hs hW
                  have h0 : a'.tmps[1]? = some (Value.pointer (some ⟨w.heap.size, 0, none⟩)) := hs.old 1 rfl
                  exact wpOp_val rfl rfl (by simp [execOp, go_sem, h0]) ⟨rfl, hW⟩
                · intro a' w' hs hW
                  have h0 : a'.tmps[88]? = some (Value.pointer (some ⟨w.heap.size, 20, none⟩)) := hs.made 0 88 rfl rfl
                  exact wpOp_val rfl rfl (by simp [execOp, go_sem, h0]) ⟨rfl, hW⟩
                · intro a' w' hs hW
                  have h0 : a'.tmps[89]? = some (Value.pointer (some ⟨w.heap.size, 20, none⟩)) := hs.made 1 89 rfl rfl
                  have e0 : w'.cell? ⟨w.heap.size, 20, none⟩ = some (.int .i64 a.fr) := by rw [hW.cell (p := ⟨w.heap.size, 20, none⟩) hlt]; exact m20
                  exact wpOp_val rfl rfl (by simp [execOp, go_sem, h0, e0]) ⟨rfl, hW⟩
                · intro a' w' hs hW
                  have h0 : a'.tmps[90]? = some (.int .i64 a.fr) := hs.made 2 90 rfl rfl
                  refine wpOp_call (f := 45) (args := #[.int .i64 a.fr]) rfl rfl (exec_call rfl rfl ent45 (by simp [ev h0])) ?_
                  refine (Itoa_any _ w' ((hg.ext hx2).ext hW) hfit.fr.1 hfit.fr.2).mono ?_
                  rintro e w'' ⟨rfl, hx⟩
                  exact ⟨_, rfl, rfl, hW.trans hx⟩
                · intro a' w' hs hW
                  have h0 : a'.tmps[91]? = some (.string ⟨(Lib.itoa a.fr).toArray⟩) := hs.made 3 91 rfl rfl
                  exact wpOp_val rfl rfl (exec_cat rfl (wInject) (Lib.itoa a.fr) rfl (ev h0) hk1) ⟨rfl, hW⟩
                · intro a' w' hs hW
                  have h0 : a'.tmps[92]? = some (.string ⟨(wInject ++ Lib.itoa a.fr).toArray⟩) := hs.made 4 92 rfl rfl
                  exact wpOp_val rfl rfl (exec_cat rfl (wInject ++ Lib.itoa a.fr) ([32]) (ev h0) rfl hk2) ⟨rfl, hW⟩
                · intro a' w' hs hW
                  have h0 : a'.tmps[1]? = some (Value.pointer (some ⟨w.heap.size, 0, none⟩)) := hs.old 1 rfl
                  exact wpOp_val rfl rfl (by simp [execOp, go_sem, h0]) ⟨rfl, hW⟩
                · intro a' w' hs hW
                  have h0 : a'.tmps[94]? = some (Value.pointer (some ⟨w.heap.size, 20, none⟩)) := hs.made 6 94 rfl rfl
                  exact wpOp_val rfl rfl (by simp [execOp, go_sem, h0]) ⟨rfl, hW⟩
                · intro a' w' hs hW
                  have h0 : a'.tmps[95]? = some (Value.pointer (some ⟨w.heap.size, 21, none⟩)) := hs.made 7 95 rfl rfl
                  have e0 : w'.cell? ⟨w.heap.size, 21, none⟩ = some (.int .i64 a.tgt) := by rw [hW.cell (p := ⟨w.heap.size, 21, none⟩) hlt]; exact m21
                  exact wpOp_val rfl rfl (by simp [execOp, go_sem, h0, e0]) ⟨rfl, hW⟩
                · intro a' w' hs hW
                  have h0 : a'.tmps[96]? = some (.int .i64 a.tgt) := hs.made 8 96 rfl rfl
                  refine wpOp_call (f := 45) (args := #[.int .i64 a.tgt]) rfl rfl (exec_call rfl rfl ent45 (by simp [ev h0])) ?_
                  refine (Itoa_any _ w' ((hg.ext hx2).ext hW) hfit.tgt.1 hfit.tgt.2).mono ?_
                  rintro e w'' ⟨rfl, hx⟩
                  exact ⟨_, rfl, rfl, hW.trans hx⟩
                · intro a' w' hs hW
                  have h0 : a'.tmps[93]? = some (.string ⟨(wInject ++ Lib.itoa a.fr ++ [32]).toArray⟩) := hs.made 5 93 rfl rfl
                  have h1 : a'.tmps[97]? = some (.string ⟨(Lib.itoa a.tgt).toArray⟩) := hs.made 9 97 rfl rfl
                  exact wpOp_val rfl rfl (exec_cat rfl (wInject ++ Lib.itoa a.fr ++ [32]) (Lib.itoa a.tgt) (ev h0) (ev h1) hk3) ⟨rfl, hW⟩
                · intro a' w' hs hW
                  have h0 : a'.tmps[98]? = some (.string ⟨(wInject ++ Lib.itoa a.fr ++ [32] ++ Lib.itoa a.tgt).toArray⟩) := hs.made 10 98 rfl rfl
                  exact wpOp_val rfl rfl (exec_cat rfl (wInject ++ Lib.itoa a.fr ++ [32] ++ Lib.itoa a.tgt) ([32]) (ev h0) rfl hk4) ⟨rfl, hW⟩
                · intro a' w' hs hW
                  have h0 : a'.tmps[1]? = some (Value.pointer (some ⟨w.heap.size, 0, none⟩)) := hs.old 1 rfl
                  exact wpOp_val rfl rfl (by simp [execOp, go_sem, h0]) ⟨rfl, hW⟩
                · intro a' w' hs hW
                  have h0 : a'.tmps[100]? = some (Value.pointer (some ⟨w.heap.size, 20, none⟩)) := hs.made 12 100 rfl rfl
                  exact wpOp_val rfl rfl (by simp [execOp, go_sem, h0]) ⟨rfl, hW⟩
                · intro a' w' hs hW
                  have h0 : a'.tmps[101]? = some (Value.pointer (some ⟨w.heap.size, 22, none⟩)) := hs.made 13 101 rfl rfl
                  have e0 : w'.cell? ⟨w.heap.size, 22, none⟩ = some (.string ⟨a.dat.toArray⟩) := by rw [hW.cell (p := ⟨w.heap.size, 22, none⟩) hlt]; exact m22
                  exact wpOp_val rfl rfl (by simp [execOp, go_sem, h0, e0]) ⟨rfl, hW⟩
                · intro a' w' hs hW
                  have h0 : a'.tmps[102]? = some (.string ⟨a.dat.toArray⟩) := hs.made 14 102 rfl rfl
                  refine wpOp_call (f := 46) (args := #[.string ⟨a.dat.toArray⟩]) rfl rfl (exec_call rfl rfl ent46 (by simp [ev h0])) ?_
                  refine (hex_any _ w' (by have := hfit.dat; omega)).mono ?_
                  rintro e w'' ⟨rfl, hx⟩
                  exact ⟨_, rfl, rfl, hW.trans hx⟩
                · intro a' w' hs hW
                  have h0 : a'.tmps[99]? = some (.string ⟨(wInject ++ Lib.itoa a.fr ++ [32] ++ Lib.itoa a.tgt ++ [32]).toArray⟩) := hs.made 11 99 rfl rfl
                  have h1 : a'.tmps[103]? = some (.string ⟨(hexB a.dat).toArray⟩) := hs.made 15 103 rfl rfl
                  exact wpOp_val rfl rfl (exec_cat rfl (wInject ++ Lib.itoa a.fr ++ [32] ++ Lib.itoa a.tgt ++ [32]) (hexB a.dat) (ev h0) (ev h1) hk5) ⟨rfl, hW⟩
                · intro a' w' hs hW
                  have h0 : a'.tmps[104]? = some (.string ⟨(wInject ++ Lib.itoa a.fr ++ [32] ++ Lib.itoa a.tgt ++ [32] ++ hexB a.dat).toArray⟩) := hs.made 16 104 rfl rfl
                  exact wpOp_val rfl rfl (by simp [execOp, go_sem, h0]) ⟨rfl, hW⟩
              · intro a' w' hs hW
                have q88 : a'.tmps[88]? = some (Value.pointer (some ⟨w.heap.size, 20, none⟩)) := hs.made 0 88 rfl
                have q89 : a'.tmps[89]? = some (Value.pointer (some ⟨w.heap.size, 20, none⟩)) := hs.made 1 89 rfl
                have q90 : a'.tmps[90]? = some (.int .i64 a.fr) := hs.made 2 90 rfl
                have q91 : a'.tmps[91]? = some (.string ⟨(Lib.itoa a.fr).toArray⟩) := hs.made 3 91 rfl
                have q92 : a'.tmps[92]? = some (.string ⟨(wInject ++ Lib.itoa a.fr).toArray⟩) := hs.made 4 92 rfl
                have q93 : a'.tmps[93]? = some (.string ⟨(wInject ++ Lib.itoa a.fr ++ [32]).toArray⟩) := hs.made 5 93 rfl
                have q94 : a'.tmps[94]? = some (Value.pointer (some ⟨w.heap.size, 20, none⟩)) := hs.made 6 94 rfl
                have q95 : a'.tmps[95]? = some (Value.pointer (some ⟨w.heap.size, 21, none⟩)) := hs.made 7 95 rfl
                have q96 : a'.tmps[96]? = some (.int .i64 a.tgt) := hs.made 8 96 rfl
                have q97 : a'.tmps[97]? = some (.string ⟨(Lib.itoa a.tgt).toArray⟩) := hs.made 9 97 rfl
                have q98 : a'.tmps[98]? = some (.string ⟨(wInject ++ Lib.itoa a.fr ++ [32] ++ Lib.itoa a.tgt).toArray⟩) := hs.made 10 98 rfl
                have q99 : a'.tmps[99]? = some (.string ⟨(wInject ++ Lib.itoa a.fr ++ [32] ++ Lib.itoa a.tgt ++ [32]).toArray⟩) := hs.made 11 99 rfl
                have q100 : a'.tmps[100]? = some (Value.pointer (some ⟨w.heap.size, 20, none⟩)) := hs.made 12 100 rfl
                have q101 : a'.tmps[101]? = some (Value.pointer (some ⟨w.heap.size, 22, none⟩)) := hs.made 13 101 rfl
                have q102 : a'.tmps[102]? = some (.string ⟨a.dat.toArray⟩) := hs.made 14 102 rfl
                have q103 : a'.tmps[103]? = some (.string ⟨(hexB a.dat).toArray⟩) := hs.made 15 103 rfl
                have q104 : a'.tmps[104]? = some (.string ⟨(wInject ++ Lib.itoa a.fr ++ [32] ++ Lib.itoa a.tgt ++ [32] ++ hexB a.dat).toArray⟩) := hs.made 16 104 rfl
                have q5 : a'.tmps[5]? = some (.string ⟨(wInject ++ Lib.itoa a.fr ++ [32] ++ Lib.itoa a.tgt ++ [32] ++ hexB a.dat).toArray⟩) := hs.made 17 5 rfl
                have ha := act_putAll [(88, Value.pointer (some ⟨w.heap.size, 20, none⟩)), (89, Value.pointer (some ⟨w.heap.size, 20, none⟩)), (90, .int .i64 a.fr), (91, .string ⟨(Lib.itoa a.fr).toArray⟩), (92, .string ⟨(wInject ++ Lib.itoa a.fr).toArray⟩), (93, .string ⟨(wInject ++ Lib.itoa a.fr ++ [32]).toArray⟩), (94, Value.pointer (some ⟨w.heap.size, 20, none⟩)), (95, Value.pointer (some ⟨w.heap.size, 21, none⟩)), (96, .int .i64 a.tgt), (97, .string ⟨(Lib.itoa a.tgt).toArray⟩), (98, .string ⟨(wInject ++ Lib.itoa a.fr ++ [32] ++ Lib.itoa a.tgt).toArray⟩), (99, .string ⟨(wInject ++ Lib.itoa a.fr ++ [32] ++ Lib.itoa a.tgt ++ [32]).toArray⟩), (100, Value.pointer (some ⟨w.heap.size, 20, none⟩)), (101, Value.pointer (some ⟨w.heap.size, 22, none⟩)), (102, .string ⟨a.dat.toArray⟩), (103, .string ⟨(hexB a.dat).toArray⟩), (104, .string ⟨(wInject ++ Lib.itoa a.fr ++ [32] ++ Lib.itoa a.tgt ++ [32] ++ hexB a.dat).toArray⟩), (5, .string ⟨(wInject ++ Lib.itoa a.fr ++ [32] ++ Lib.itoa a.tgt ++ [32] ++ hexB a.dat).toArray⟩)] hs.defers hs.size (by simp [q88, q89, q90, q91, q92, q93, q94, q95, q96, q97, q98, q99, q100, q101, q102, q103, q104, q5]) rfl hs.old
                clear hs q88 q89 q90 q91 q92 q93 q94 q95 q96 q97 q98 q99 q100 q101 q102 q103 q104 q5
                simp only [putAll, Act.put] at ha
                subst ha
                go_frame
                clear hk1 hk2 hk3 hk4 hk5
                have p20 : w'.cell? ⟨w.heap.size, 20, none⟩ = some (.int .i64 a.fr) := by rw [hW.cell (p := ⟨w.heap.size, 20, none⟩) hlt]; exact m20
                have p21 : w'.cell? ⟨w.heap.size, 21, none⟩ = some (.int .i64 a.tgt) := by rw [hW.cell (p := ⟨w.heap.size, 21, none⟩) hlt]; exact m21
                have p22 : w'.cell? ⟨w.heap.size, 22, none⟩ = some (.string ⟨a.dat.toArray⟩) := by rw [hW.cell (p := ⟨w.heap.size, 22, none⟩) hlt]; exact m22
                have hd1 : w'.heap[w.heap.size]? = _ := (hW.block _ hlt).trans hc1
                have hd4 : w'.heap[w.heap.size + 1]? = _ := (hW.block _ hlt4).trans hc4
                have hxw := hx2.trans hW
                clear m20 m21 m22 hc1 hc4 hlt hlt4 hW hx2
                cases hi1 : inR a.fr 65535 with
                | false =>
                  go_wp2_with (go_at_call 44; refine (within_inR _ _ _).mono ?_; rintro e w4 ⟨rfl, rfl⟩)
                  go_meet
                  exact ⟨.slice none 0 0, by rw [HW.out.2.1]; simp [vS], by rw [HW.out.2.2, hi1]; rfl, hd1, by rw [HW.out.1]; exact hd4, by rw [HW.out.1]; exact FatesAt.nil _, hxw, HN.out⟩
                | true =>
                  cases hi2 : inR a.tgt 65535 with
                  | false =>
                    go_wp2_with (go_at_call 44; refine (within_inR _ _ _).mono ?_; rintro e w4 ⟨rfl, rfl⟩)
                    go_meet
                    exact ⟨.slice none 0 0, by rw [HW.out.2.1]; simp [vS], by rw [HW.out.2.2, hi1, hi2]; rfl, hd1, by rw [HW.out.1]; exact hd4, by rw [HW.out.1]; exact FatesAt.nil _, hxw, HN.out⟩
                  | true =>
                    go_wp2_with (go_at_call 44; refine (within_inR _ _ _).mono ?_; rintro e w4 ⟨rfl, rfl⟩)
                    go_meet
                    exact ⟨.slice none 0 0, by rw [HW.out.2.1]; simp [vS], by rw [HW.out.2.2, hi1, hi2]; simp; omega, hd1, by rw [HW.out.1]; exact hd4, by rw [HW.out.1]; exact FatesAt.nil _, hxw, HN.out⟩
            · have b1 : (a.kind == 1) = false := beq_eq_false_iff_ne.2 e1
              have b2 : (a.kind == 2) = false := beq_eq_false_iff_ne.2 e2
              have b3 : (a.kind == 3) = false := beq_eq_false_iff_ne.2 e3
              have b4 : (a.kind == 4) = false := beq_eq_false_iff_ne.2 e4
              have HW : Hid (a.want = Ac.none a.kind ∧ a.text = [] ∧ a.ok = false) := by
                unfold Hid Ac.want Ac.text Ac.ok
                rw [if_neg e1, if_neg e2, if_neg e3, if_neg e4, if_neg e1, if_neg e2, if_neg e3, if_neg e4, if_neg e1, if_neg e2, if_neg e3, if_neg e4]
                exact ⟨rfl, rfl, rfl⟩
              have HN : Hid (¬ (a.kind = 1 ∧ inR a.side 1 = false)) := fun h => e1 h.1
              clear e1 e2 e3 e4
              go_wp2_with fail
              go_meet
              exact ⟨.slice none 0 0, by rw [HW.out.2.1]; rfl, by rw [HW.out.2.2], hb1, by rw [HW.out.1]; exact hb4, by rw [HW.out.1]; exact FatesAt.nil _, hx1, HN.out⟩
    case rest =>
      obtain ⟨gv, rfl, rfl, hc1, hc4, hfa, hbw, hnk⟩ := hcut
      obtain ⟨s2, n2, rfl, hfa'⟩ := id hfa
      have hA2 : FatesAt wc (.slice s1 a.fates.length n1) a.fates := hA.ext hbw
      have hS := Same_any a a.want _ _ wc hA2 hfa
      rw [Ac.cells_eq, Ac.cells_eq] at hS
      have hL : a.line = (a.text, a.ok && a.eqb a.want) := by unfold Ac.line; rw [if_neg hnk]
      have HL := Lib.hid hL
      clear hL hfa' hA' hA2 hfa hnk hA hb1 hb4
      rw [Ac.cells_eq] at hc1 hc4
      unfold vS
      cases ho : a.ok with
      | true =>
        go_wp2_with (first
          | refine wpList_load33 (by rfl) _ rfl w.heap.size rfl _ hc1 rfl ?_
          | refine wpList_load33 (by rfl) _ rfl (w.heap.size + 1) rfl _ hc4 rfl ?_)
        refine hS.mono ?_
        rintro e w5 ⟨rfl, hx5⟩
        go_wp2_with fail
        go_ret2
        exact ⟨by rw [HL.out, ho]; rfl, (show Ext w _ from hbw).trans hx5⟩
      | false =>
        go_wp2_with fail
        go_ret2
        exact ⟨by rw [HL.out, ho]; rfl, hbw⟩
end Go.Proofs.YtikmoledbiepoaaGreatDoor

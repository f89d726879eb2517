/- script.parse: the deferred function. -/
import Derived.Test.YtikmoledbiepoaaGreatDoorRcall
import Derived.Defers
import Derived.Recover
namespace Go.Proofs.YtikmoledbiepoaaGreatDoor
open Go.RowKit
set_option maxRecDepth 100000 in
set_option maxHeartbeats 1000000 in
theorem catch_idle (pa po : Nat) (w : World) :
    CallsD Tryz.prog 55 #[.pointer (some ⟨pa, 0, none⟩), .pointer (some ⟨po, 0, none⟩)] .returning w fun e u' w' => e = .returned (.tuple #[]) ∧ u' = .returning ∧ w' = w := by
  refine callsD_of_wpS Tryz.func55 rfl fun c₀ cs hu => ?_
  simp only [Tryz.ntmps55, List.size_toArray, List.length_cons, List.length_nil, Nat.reduceAdd, Nat.reduceSub, Array.replicate_succ, Array.replicate_zero, List.push_toArray, List.append_toArray, List.nil_append, List.cons_append]
  apply wpS_seq
  apply wpS_region
  simp [wpOpsS, go_sem, recoverD, hu, Exit.thenS]
  refine wpS_of_wp ?_
  go_wp2_with fail
  cases c₀
  simp_all [bodyPostS, results, Tryz.results55]
theorem assert97 (w : World) : (Instr.typeAssert (.iface 97 (.agg #[])) 20 97 true).run Tryz.prog w = .ok (.tuple #[.agg #[], .bool true]) w := by kernel_rfl
set_option maxRecDepth 100000 in
set_option maxHeartbeats 1000000 in
theorem catch_panicking (pa po : Nat) (w : World) (old : Array Value) (b : Bool) (ha : w.heap[pa]? = some (.cells old 33)) (hs : old.size = 23) (hb : w.heap[po]? = some (.cells #[.bool b] 4)) (hne : pa ≠ po) :
    CallsD Tryz.prog 55 #[.pointer (some ⟨pa, 0, none⟩), .pointer (some ⟨po, 0, none⟩)] (.panicking [{ v := .iface 97 (.agg #[]), recovered := false }]) w fun e u' w' =>
      e = .returned (.tuple #[]) ∧ u' = .panicking [{ v := .iface 97 (.agg #[]), recovered := true }] ∧ w'.heap[pa]? = some (.cells ((Ac.none 0).cells (.slice none 0 0)).toArray 33) ∧ w'.heap[po]? = some (.cells #[.bool false] 4) ∧ Kept (fun y => y = pa ∨ y = po) w w' := by
  have hta := assert97
  refine callsD_of_wpS Tryz.func55 rfl fun c₀ cs hu => ?_
  simp only [Tryz.ntmps55, List.size_toArray, List.length_cons, List.length_nil, Nat.reduceAdd, Nat.reduceSub, Array.replicate_succ, Array.replicate_zero, List.push_toArray, List.append_toArray, List.nil_append, List.cons_append]
  apply wpS_seq
  apply wpS_region
  simp [wpOpsS, go_sem, recoverD, hu, Exit.thenS]
  refine wpS_of_wp ?_
  have hbw : ((w.alloc (.cells #[] 97)).setRow pa ((Ac.none 0).cells (.slice none 0 0)).toArray).heap[po]? = some (.cells #[.bool b] 4) := by
    rw [setRow_other _ _ _ _ (Ne.symm hne), alloc_old _ _ (lt_of_block hb)]; exact hb
  have c1 : ((w.alloc (.cells #[] 97)).setRow pa ((Ac.none 0).cells (.slice none 0 0)).toArray).cell? ⟨po, 0, none⟩ = some (.bool b) := by rw [Lib.cell_of_heap hbw]; rfl
  have c2 : ((w.alloc (.cells #[] 97)).setRow pa ((Ac.none 0).cells (.slice none 0 0)).toArray).frozen? ⟨po, 0, none⟩ = false := Lib.frozen_of_heap hbw 0
  go_wp2_with (refine wpList_store33 rfl _ _ rfl pa ((Ac.none 0).cells (.slice none 0 0)).toArray rfl rfl _ ((alloc_old _ _ (lt_of_block ha)).trans ha) hs rfl (Ac.one _ _ _ _) ?_)
  have hpa : ((w.alloc (.cells #[] 97)).setRow pa ((Ac.none 0).cells (.slice none 0 0)).toArray).heap[pa]? = some (.cells ((Ac.none 0).cells (.slice none 0 0)).toArray 33) := setRow_heap _ _ _ _ _ _ ((alloc_old _ _ (lt_of_block ha)).trans ha)
  have hk : Kept (fun y => y = pa ∨ y = po) w (((w.alloc (.cells #[] 97)).setRow pa ((Ac.none 0).cells (.slice none 0 0)).toArray).setCell ⟨po, 0, none⟩ (.bool false)) := by
    refine ⟨rfl, rfl, rfl, by simp [World.setCell], fun k hk hn => ?_⟩
    rw [Below.heap_setCell _ _ _ _ (fun e => hn (.inr e)), setRow_other _ _ _ _ (fun e => hn (.inl e)), alloc_old _ _ hk]
  exact ⟨rfl, _, rfl, .tuple #[], results_none rfl _ _ _, rfl, rfl, by rw [Below.heap_setCell _ _ _ _ hne]; exact hpa, by rw [heap_setCell_self hbw]; rfl, hk⟩
end Go.Proofs.YtikmoledbiepoaaGreatDoor

/- The reference's guessCall (printed by wip/gen_rgc.py). -/
import Derived.Test.YtikmoledbiepoaaGreatDoorRnib
import Derived.Test.YtikmoledbiepoaaGreatDoorRgue
namespace Go.Proofs.YtikmoledbiepoaaGreatDoor
open Go.RowKit
set_option linter.unusedSimpArgs false
set_option linter.unusedVariables false
/-- What at yields. -/
def AtIs (l : List (List UInt8)) (n : Int) (x : List UInt8) : Prop := ∃ i : Nat, n = (i : Int) ∧ i ≤ 4294967296 ∧ rat l i = x
theorem at_is (l : List (List UInt8)) (v : Value) (n : Int) (x : List UInt8) (h : AtIs l n x) (w : World) (hv : StrsAt w v l) : Calls Tryz.prog 61 #[v, .int .i64 n] w fun e w' => e = .returned (.string ⟨x.toArray⟩) ∧ w = w' := by
  obtain ⟨i, rfl, hi, rfl⟩ := h
  exact rat_any l i v w hv hi
theorem run_bs0i (w : World) : (Instr.buildSlice 29 0 #[]).run Tryz.prog w = .ok (.slice (some ⟨w.heap.size, 0, none⟩) 0 0) (w.alloc (.cells #[] 3)) := by kernel_rfl
theorem exec_bs0i {ρ : Operand → Value} {o : Oper} {w : World} (ho : o.op = .buildSlice 29 0 #[]) :
    (execOp ρ o).run Tryz.prog w = .ok (.value (.slice (some ⟨w.heap.size, 0, none⟩) 0 0)) (w.alloc (.cells #[] 3)) := by
  unfold execOp
  simp only [ho, List.map_toArray, List.map_nil, Sem.run_bind, run_bs0i]
  rfl
theorem zero28 : (Cal.ofKind 0).cells.toArray = #[.int .i64 0, .int .i64 0, .int .i64 0, .int .i64 0, .string ⟨#[]⟩, .int .i64 0, .int .i64 0, .int .i64 0, .string ⟨#[]⟩, .string ⟨#[]⟩, .int .i64 0, .int .i64 0, .int .i64 0, .int .i64 0, .int .i64 0, .int .i64 0] := rfl
/-- The numbers that the words 1, 2, .. spell. -/
def ns (l : List (List UInt8)) (k : Nat) : List Int := (List.range k).map fun j => rn l (j + 1)
theorem ns_len (l : List (List UInt8)) (k : Nat) : (ns l k).length = k := by simp [ns]
theorem ns_succ (l : List (List UInt8)) (k : Nat) : ns l (k + 1) = ns l k ++ [rn l (k + 1)] := by simp [ns, List.range_succ]
theorem ns_get (l : List (List UInt8)) {k i : Nat} (h : i < k) : (ns l k)[i]? = some (rn l (i + 1)) := by simp [ns, h]
/-- The world while guessCall goes on: the result behind w, the numbers at block g. -/
structure GW (w : World) (g : Nat) (l : List (List UInt8)) (c : Cal) (W : World) : Prop where
  res : W.heap[w.heap.size]? = some (.cells c.cells.toArray 28)
  row : ∀ i : Nat, i < 10 → W.cell? ⟨g, i, none⟩ = some (.int .i64 (rn l (i + 1)))
  ext : Ext w W
  lt : w.heap.size < g
theorem GW.more {w W W' : World} {g : Nat} {l : List (List UInt8)} {c : Cal} (h : GW w g l c W) (hx : Ext W W') : GW w g l c W' :=
  ⟨(hx.block _ (lt_of_block h.res)).trans h.res, fun i hi => (hx.cell (p := ⟨g, i, none⟩) (cell_lt (h.row i hi))).trans (h.row i hi), h.ext.trans hx, h.lt⟩
theorem GW.store {w W : World} {g : Nat} {l : List (List UInt8)} {c : Cal} (h : GW w g l c W) (c' : Cal) : GW w g l c' (W.setRow w.heap.size c'.cells.toArray) := by
  have hk : Kept (· = w.heap.size) W (W.setRow w.heap.size c'.cells.toArray) := ⟨rfl, rfl, rfl, by simp, fun k _ hk => setRow_other _ _ _ _ hk⟩
  refine ⟨setRow_heap _ _ _ _ _ _ h.res, fun i hi => ?_, h.ext.setRow _ _ (Nat.le_refl _), h.lt⟩
  rw [hk.cell (p := ⟨g, i, none⟩) (cell_lt (h.row i hi)) (by have := h.lt; show ¬ g = w.heap.size; omega)]
  exact h.row i hi
theorem own_row10 {w W : World} {v : Value} {xs : List Int} {l : List (List UInt8)} (h : W.ownsRow (w.heap.size + 1) 3 1 v xs.length (xs.map vI)) (hx : xs = ns l 10) (hr : W.heap[w.heap.size]? = some (.cells (Cal.ofKind 0).cells.toArray 28)) (he : Ext w W) :
    ∃ g cap, v = .slice (some ⟨g, 0, none⟩) 10 cap ∧ GW w g l (Cal.ofKind 0) W := by
  have hl : xs.length = 10 := by rw [hx, ns_len]
  rcases h.2 with ⟨h2, h3⟩ | ⟨g, cap, cur, rfl, hb, hg, hn, hc, hs, ht⟩
  · omega
  · refine ⟨g, cap, by rw [hl], hr, fun i hi => ?_, he, by omega⟩
    rw [Lib.cell_of_heap hg]
    have h2 : (xs.map vI)[i]? = some (vI (rn l (i + 1))) := by rw [List.getElem?_map, hx, ns_get l hi]; rfl
    rw [← ht, List.getElem?_take, if_pos (by omega)] at h2
    simpa [vI] using h2
theorem run_bg1 (y0 : Int) (y1 : Int) (w : World) : (Instr.build 28 #[(0, .int .i64 1), (6, .int .i64 y0), (7, .int .i64 y1)]).run Tryz.prog w = .ok (.agg ({ Cal.ofKind 1 with loc := y0, rem := y1 } : Cal).cells.toArray) w := by kernel_rfl
theorem exec_bg1 {ρ : Operand → Value} {o : Oper} {z x0 x1 : Operand} {w : World} {y0 : Int} {y1 : Int} (ho : o.op = .build 28 #[(0, z), (6, x0), (7, x1)]) (hz : ρ z = .int .i64 1) (h0 : ρ x0 = .int .i64 y0) (h1 : ρ x1 = .int .i64 y1) :
    (execOp ρ o).run Tryz.prog w = .ok (.value (.agg ({ Cal.ofKind 1 with loc := y0, rem := y1 } : Cal).cells.toArray)) w := by
  unfold execOp
  simp only [ho, List.map_toArray, List.map_cons, List.map_nil, hz, h0, h1, Sem.run_bind, run_bg1]
  rfl
theorem run_bg4 (y0 : Int) (w : World) : (Instr.build 28 #[(0, .int .i64 4), (1, .int .i64 y0)]).run Tryz.prog w = .ok (.agg ({ Cal.ofKind 4 with conn := y0 } : Cal).cells.toArray) w := by kernel_rfl
theorem exec_bg4 {ρ : Operand → Value} {o : Oper} {z x0 : Operand} {w : World} {y0 : Int} (ho : o.op = .build 28 #[(0, z), (1, x0)]) (hz : ρ z = .int .i64 4) (h0 : ρ x0 = .int .i64 y0) :
    (execOp ρ o).run Tryz.prog w = .ok (.value (.agg ({ Cal.ofKind 4 with conn := y0 } : Cal).cells.toArray)) w := by
  unfold execOp
  simp only [ho, List.map_toArray, List.map_cons, List.map_nil, hz, h0, Sem.run_bind, run_bg4]
  rfl
theorem run_bg5 (y0 : Int) (y1 : Int) (y2 : List UInt8) (w : World) : (Instr.build 28 #[(0, .int .i64 5), (1, .int .i64 y0), (2, .int .i64 y1), (4, .string ⟨y2.toArray⟩)]).run Tryz.prog w = .ok (.agg ({ Cal.ofKind 5 with conn := y0, stream := y1, s := y2 } : Cal).cells.toArray) w := by kernel_rfl
theorem exec_bg5 {ρ : Operand → Value} {o : Oper} {z x0 x1 x2 : Operand} {w : World} {y0 : Int} {y1 : Int} {y2 : List UInt8} (ho : o.op = .build 28 #[(0, z), (1, x0), (2, x1), (4, x2)]) (hz : ρ z = .int .i64 5) (h0 : ρ x0 = .int .i64 y0) (h1 : ρ x1 = .int .i64 y1) (h2 : ρ x2 = .string ⟨y2.toArray⟩) :
    (execOp ρ o).run Tryz.prog w = .ok (.value (.agg ({ Cal.ofKind 5 with conn := y0, stream := y1, s := y2 } : Cal).cells.toArray)) w := by
  unfold execOp
  simp only [ho, List.map_toArray, List.map_cons, List.map_nil, hz, h0, h1, h2, Sem.run_bind, run_bg5]
  rfl
theorem run_bg6 (y0 : Int) (y1 : Int) (w : World) : (Instr.build 28 #[(0, .int .i64 6), (1, .int .i64 y0), (2, .int .i64 y1)]).run Tryz.prog w = .ok (.agg ({ Cal.ofKind 6 with conn := y0, stream := y1 } : Cal).cells.toArray) w := by kernel_rfl
theorem exec_bg6 {ρ : Operand → Value} {o : Oper} {z x0 x1 : Operand} {w : World} {y0 : Int} {y1 : Int} (ho : o.op = .build 28 #[(0, z), (1, x0), (2, x1)]) (hz : ρ z = .int .i64 6) (h0 : ρ x0 = .int .i64 y0) (h1 : ρ x1 = .int .i64 y1) :
    (execOp ρ o).run Tryz.prog w = .ok (.value (.agg ({ Cal.ofKind 6 with conn := y0, stream := y1 } : Cal).cells.toArray)) w := by
  unfold execOp
  simp only [ho, List.map_toArray, List.map_cons, List.map_nil, hz, h0, h1, Sem.run_bind, run_bg6]
  rfl
theorem run_bg7 (y0 : Int) (y1 : Int) (y2 : Int) (w : World) : (Instr.build 28 #[(0, .int .i64 7), (1, .int .i64 y0), (2, .int .i64 y1), (5, .int .i64 y2)]).run Tryz.prog w = .ok (.agg ({ Cal.ofKind 7 with conn := y0, stream := y1, code := y2 } : Cal).cells.toArray) w := by kernel_rfl
theorem exec_bg7 {ρ : Operand → Value} {o : Oper} {z x0 x1 x2 : Operand} {w : World} {y0 : Int} {y1 : Int} {y2 : Int} (ho : o.op = .build 28 #[(0, z), (1, x0), (2, x1), (5, x2)]) (hz : ρ z = .int .i64 7) (h0 : ρ x0 = .int .i64 y0) (h1 : ρ x1 = .int .i64 y1) (h2 : ρ x2 = .int .i64 y2) :
    (execOp ρ o).run Tryz.prog w = .ok (.value (.agg ({ Cal.ofKind 7 with conn := y0, stream := y1, code := y2 } : Cal).cells.toArray)) w := by
  unfold execOp
  simp only [ho, List.map_toArray, List.map_cons, List.map_nil, hz, h0, h1, h2, Sem.run_bind, run_bg7]
  rfl
theorem run_bg8 (y0 : Int) (y1 : Int) (y2 : Int) (w : World) : (Instr.build 28 #[(0, .int .i64 8), (1, .int .i64 y0), (2, .int .i64 y1), (5, .int .i64 y2)]).run Tryz.prog w = .ok (.agg ({ Cal.ofKind 8 with conn := y0, stream := y1, code := y2 } : Cal).cells.toArray) w := by kernel_rfl
theorem exec_bg8 {ρ : Operand → Value} {o : Oper} {z x0 x1 x2 : Operand} {w : World} {y0 : Int} {y1 : Int} {y2 : Int} (ho : o.op = .build 28 #[(0, z), (1, x0), (2, x1), (5, x2)]) (hz : ρ z = .int .i64 8) (h0 : ρ x0 = .int .i64 y0) (h1 : ρ x1 = .int .i64 y1) (h2 : ρ x2 = .int .i64 y2) :
    (execOp ρ o).run Tryz.prog w = .ok (.value (.agg ({ Cal.ofKind 8 with conn := y0, stream := y1, code := y2 } : Cal).cells.toArray)) w := by
  unfold execOp
  simp only [ho, List.map_toArray, List.map_cons, List.map_nil, hz, h0, h1, h2, Sem.run_bind, run_bg8]
  rfl
theorem run_bg9 (y0 : Int) (y1 : Int) (y2 : Int) (w : World) : (Instr.build 28 #[(0, .int .i64 9), (1, .int .i64 y0), (2, .int .i64 y1), (3, .int .i64 y2)]).run Tryz.prog w = .ok (.agg ({ Cal.ofKind 9 with conn := y0, stream := y1, n := y2 } : Cal).cells.toArray) w := by kernel_rfl
theorem exec_bg9 {ρ : Operand → Value} {o : Oper} {z x0 x1 x2 : Operand} {w : World} {y0 : Int} {y1 : Int} {y2 : Int} (ho : o.op = .build 28 #[(0, z), (1, x0), (2, x1), (3, x2)]) (hz : ρ z = .int .i64 9) (h0 : ρ x0 = .int .i64 y0) (h1 : ρ x1 = .int .i64 y1) (h2 : ρ x2 = .int .i64 y2) :
    (execOp ρ o).run Tryz.prog w = .ok (.value (.agg ({ Cal.ofKind 9 with conn := y0, stream := y1, n := y2 } : Cal).cells.toArray)) w := by
  unfold execOp
  simp only [ho, List.map_toArray, List.map_cons, List.map_nil, hz, h0, h1, h2, Sem.run_bind, run_bg9]
  rfl
theorem run_bg10 (y0 : Int) (y1 : Int) (w : World) : (Instr.build 28 #[(0, .int .i64 10), (1, .int .i64 y0), (5, .int .i64 y1)]).run Tryz.prog w = .ok (.agg ({ Cal.ofKind 10 with conn := y0, code := y1 } : Cal).cells.toArray) w := by kernel_rfl
theorem exec_bg10 {ρ : Operand → Value} {o : Oper} {z x0 x1 : Operand} {w : World} {y0 : Int} {y1 : Int} (ho : o.op = .build 28 #[(0, z), (1, x0), (5, x1)]) (hz : ρ z = .int .i64 10) (h0 : ρ x0 = .int .i64 y0) (h1 : ρ x1 = .int .i64 y1) :
    (execOp ρ o).run Tryz.prog w = .ok (.value (.agg ({ Cal.ofKind 10 with conn := y0, code := y1 } : Cal).cells.toArray)) w := by
  unfold execOp
  simp only [ho, List.map_toArray, List.map_cons, List.map_nil, hz, h0, h1, Sem.run_bind, run_bg10]
  rfl
theorem run_bg11 (y0 : Int) (w : World) : (Instr.build 28 #[(0, .int .i64 11), (1, .int .i64 y0)]).run Tryz.prog w = .ok (.agg ({ Cal.ofKind 11 with conn := y0 } : Cal).cells.toArray) w := by kernel_rfl
theorem exec_bg11 {ρ : Operand → Value} {o : Oper} {z x0 : Operand} {w : World} {y0 : Int} (ho : o.op = .build 28 #[(0, z), (1, x0)]) (hz : ρ z = .int .i64 11) (h0 : ρ x0 = .int .i64 y0) :
    (execOp ρ o).run Tryz.prog w = .ok (.value (.agg ({ Cal.ofKind 11 with conn := y0 } : Cal).cells.toArray)) w := by
  unfold execOp
  simp only [ho, List.map_toArray, List.map_cons, List.map_nil, hz, h0, Sem.run_bind, run_bg11]
  rfl
theorem run_bg12 (y0 : Int) (y1 : Int) (w : World) : (Instr.build 28 #[(0, .int .i64 12), (1, .int .i64 y0), (6, .int .i64 y1)]).run Tryz.prog w = .ok (.agg ({ Cal.ofKind 12 with conn := y0, loc := y1 } : Cal).cells.toArray) w := by kernel_rfl
theorem exec_bg12 {ρ : Operand → Value} {o : Oper} {z x0 x1 : Operand} {w : World} {y0 : Int} {y1 : Int} (ho : o.op = .build 28 #[(0, z), (1, x0), (6, x1)]) (hz : ρ z = .int .i64 12) (h0 : ρ x0 = .int .i64 y0) (h1 : ρ x1 = .int .i64 y1) :
    (execOp ρ o).run Tryz.prog w = .ok (.value (.agg ({ Cal.ofKind 12 with conn := y0, loc := y1 } : Cal).cells.toArray)) w := by
  unfold execOp
  simp only [ho, List.map_toArray, List.map_cons, List.map_nil, hz, h0, h1, Sem.run_bind, run_bg12]
  rfl
theorem run_bg13 (y0 : Int) (w : World) : (Instr.build 28 #[(0, .int .i64 13), (1, .int .i64 y0)]).run Tryz.prog w = .ok (.agg ({ Cal.ofKind 13 with conn := y0 } : Cal).cells.toArray) w := by kernel_rfl
theorem exec_bg13 {ρ : Operand → Value} {o : Oper} {z x0 : Operand} {w : World} {y0 : Int} (ho : o.op = .build 28 #[(0, z), (1, x0)]) (hz : ρ z = .int .i64 13) (h0 : ρ x0 = .int .i64 y0) :
    (execOp ρ o).run Tryz.prog w = .ok (.value (.agg ({ Cal.ofKind 13 with conn := y0 } : Cal).cells.toArray)) w := by
  unfold execOp
  simp only [ho, List.map_toArray, List.map_cons, List.map_nil, hz, h0, Sem.run_bind, run_bg13]
  rfl
theorem rat_len {l : List (List UInt8)} (h : ∀ x ∈ l, x.length ≤ 4294967296) (i : Nat) : (rat l i).length ≤ 4294967296 := by
  unfold rat
  rw [List.getD_eq_getElem?_getD]
  cases hx : l[i]? with
  | none => simp
  | some x => exact h x (List.mem_of_getElem? hx)
theorem ent61 : Ent 61 := enters_of Tryz.func61 (by kernel_rfl) rfl
theorem ent64 : Ent 64 := enters_of Tryz.func64 (by kernel_rfl) rfl
set_option maxRecDepth 100000 in
set_option maxHeartbeats 4000000 in
theorem rgc_1 (l : List (List UInt8)) (v : Value) (w : World) (hv : StrsAt w v l) (hll : ∀ x ∈ l, x.length ≤ 4294967296) (hx0 : rat l 0 = [100, 105, 97, 108]) : Calls Tryz.prog 62 #[v] w fun e w' => e = .returned (.agg (rgk 1 l).cells.toArray) ∧ Ext w w' := by
  have HZ := Lib.hid (show AtIs l 0 [100, 105, 97, 108] from ⟨0, rfl, by decide, hx0⟩)
  have HL3 := Lib.hid (rat_len hll 3)
  have HL4 := Lib.hid (rat_len hll 4)
  clear hx0 hll
  obtain ⟨W0, hW0⟩ : ∃ W0, W0 = (w.alloc (.cells (Cal.ofKind 0).cells.toArray 28)).alloc (.cells #[] 3) := ⟨_, rfl⟩
  have x0 : Ext w W0 := by rw [hW0]; exact (Ext.alloc _ _).trans (Ext.alloc _ _)
  have hb0 : W0.heap[w.heap.size]? = some (.cells (Cal.ofKind 0).cells.toArray 28) := by rw [hW0]; exact two_first _ _ _
  have r0 : W0.ownsRow (w.heap.size + 1) 3 1 (.slice (some ⟨w.heap.size + 1, 0, none⟩) 0 0) 0 [] :=
    ⟨rfl, .inr ⟨w.heap.size + 1, 0, #[], rfl, Nat.le_refl _, by rw [hW0]; exact two_second _ _ _, Nat.le_refl _, by decide, rfl, rfl⟩⟩
  rw [zero28] at hW0
  have HW := Lib.hid hW0
  clear hW0
  obtain ⟨i0, hi, j0, j1, j2⟩ := info_parts Tryz.info3
  go_enter Tryz.func62, Tryz.ntmps62
  go_wp2_with (first
    | refine wpList_runs 6 rfl rfl _ _ (exec_bs0i rfl) ?_)
  have hsz : (w.alloc (.cells (#[.int .i64 0, .int .i64 0, .int .i64 0, .int .i64 0, .string ⟨#[]⟩, .int .i64 0, .int .i64 0, .int .i64 0, .string ⟨#[]⟩, .string ⟨#[]⟩, .int .i64 0, .int .i64 0, .int .i64 0, .int .i64 0, .int .i64 0, .int .i64 0] : Array Value) 28)).heap.size = w.heap.size + 1 := by simp
  try rw [hsz]
  clear hsz
  rw [← HW.out]
  clear HW
  go_loopw [3, 4] (fun u i wq => ∃ (m : Nat) (xs : List Int), 1 ≤ m ∧ m ≤ 11 ∧ i = .int .i64 m ∧ xs.length ≤ 10 ∧ Hid (xs = ns l (m - 1)) ∧ wq.ownsRow (w.heap.size + 1) 3 1 u xs.length (xs.map vI) ∧ wq.heap[w.heap.size]? = some (.cells (Cal.ofKind 0).cells.toArray 28) ∧ Ext w wq) (fun _ i _ => 20 - (intOf i).toNat)
  case atStart => exact ⟨1, [], Nat.le_refl _, by decide, rfl, by simp, rfl, r0, hb0, x0⟩
  case round =>
    obtain ⟨m, xs, hm1, hm11, rfl, hxl, HXS, hrow, hres, hx⟩ := hrel
    have hvr := hv.ext hx
    by_cases hle : m ≤ 10
    · have hle' : (m : Int) ≤ 10 := by omega
      have HA := Lib.hid (show AtIs l (m : Int) (rat l m) from ⟨m, rfl, by omega, rfl⟩)
      obtain ⟨y, hy⟩ : ∃ y, y = rat l m := ⟨_, rfl⟩
      obtain ⟨N, hN⟩ : ∃ N : Int, N = ((rnum y : Nat) : Int) := ⟨_, rfl⟩
      have HN := fun W => Lib.hid (rnumber_any y W)
      rw [← hN] at HN
      rw [← hy] at HA
      have HS : Hid (xs ++ [N] = ns l (m + 1 - 1)) := by
        unfold Hid
        rw [show m + 1 - 1 = (m - 1) + 1 by omega, ns_succ, show m - 1 + 1 = m by omega, HXS.out, hN, hy]
        rfl
      clear hy hN HXS
      go_wp2_with (first
        | (go_at_call 61; refine (at_is l v _ _ HA.out _ hvr).mono ?_; rintro e W ⟨rfl, rfl⟩)
        | (go_at_call 63; refine (HN _).out.mono ?_; rintro e W ⟨rfl, rfl⟩)
        | (at_builtin; go_must (refine wpList_append_own _ rfl _ _ 29 rfl (w.heap.size + 1) 3 i0 (.int .i64 0) 1 8 und29 hi j0 j1 j2 rfl (by decide) _ _ _ rfl (hrow.alloc _) ⟨wr.heap.size, 0, none⟩ 1 1 [vI N] rfl rfl ?c1 ?c2 ?c3 ?c4 ?c5 ?_)))
      case c1 =>
        intro j u hj
        match j, hj with
        | 0, hj => simp at hj; subst hj; first | rfl | (simp [Addr.add]; rfl) | (simp [Addr.add])
        | n + 1, hj => simp at hj
      case c2 => first | rfl | (intro u hu; simp at hu; subst hu; rfl)
      case c3 => unfold maxLen; omega
      case c4 => omega
      case c5 => have := lt_of_block hres; rw [alloc_size]; omega
      intro v5 w5 hrow5 hgrow5 _
      go_wp2_with fail
      go_roundw
      case rel =>
        have hax : Ext wr (wr.alloc (.cells #[vI N] 3)) := Ext.alloc _ _
        have hrl := lt_of_block hres
        refine ⟨m + 1, xs ++ [N], by omega, by omega, by go_num, ?_, HS, ?_, ?_, ?_⟩
        · have := congrArg List.length HS.out
          rw [ns_len] at this
          omega
        · rw [List.map_append, List.length_append]; exact hrow5
        · have hne : u3.ownBlock ≠ some w.heap.size := fun e => by have := (hrow.lt _ e).1; omega
          exact (hgrow5.block _ (by simp; omega) hne.symm).trans ((hax.block _ hrl).trans hres)
        · have hx2 := hx.trans hax
          exact ⟨hgrow5.os.trans hx2.os, hgrow5.tape.trans hx2.tape, hgrow5.output.trans hx2.output, Nat.le_trans hx2.size hgrow5.size, fun k hk => (hgrow5.block k (Nat.lt_of_lt_of_le hk hx2.size) (fun e => by have := (hrow.lt k e.symm).1; omega)).trans (hx2.block k hk)⟩
      case measure => simp [intOf]; omega
    · have hle' : ¬ (m : Int) ≤ 10 := by omega
      have hxs := HXS.out
      rw [show m - 1 = 10 by omega] at hxs
      obtain ⟨g, cap, rfl, hG⟩ := own_row10 hrow hxs hres hx
      clear hxs HXS hrow hres hx i0 hi j0 j1 j2 x0 hb0 r0 hxl hm1 hm11
      go_upto_region 8 with (first | (go_at_call 61; refine (at_is l v _ _ HZ.out _ hvr).mono ?_; rintro e W ⟨rfl, rfl⟩))
      refine wp_region_flags (fun i => [Value.slice (some ⟨g, 0, none⟩) 10 cap, Value.pointer (some ⟨g, 0, none⟩), Value.int .i64 (rn l 1), Value.slice (some ⟨g, 0, none⟩) 10 cap, Value.pointer (some ⟨g, 1, none⟩), Value.int .i64 (rn l 2), Value.agg (rgk 1 l).cells.toArray, undef].getD i undef) (fun b W' => GW w g l (if b 7 = true then rgk 1 l else Cal.ofKind 0) W') mixedOrd (by kernel_rfl) (by kernel_rfl) (by kernel_rfl) (hG.more ⟨rfl, rfl, rfl, Nat.le_refl _, fun _ _ => rfl⟩) ?_ ?_
      · refine ⟨?_, ?_, ?_, ?_, ?_, ?_, ?_, ?_, trivial⟩
        · intro a' w' b hb hs hW
          have h0 : a'.tmps[3]? = some (.slice (some ⟨g, 0, none⟩) 10 cap) := hs.old 3 rfl
          exact wpOp_val rfl rfl (by simp [execOp, go_sem, h0]) ⟨rfl, hW⟩
        · intro a' w' b hb hs hW
          have h0 : a'.tmps[22]? = some (.slice (some ⟨g, 0, none⟩) 10 cap) := hs.made 0 22 rfl rfl
          exact wpOp_val rfl rfl (by simp [execOp, go_sem, h0]) ⟨rfl, hW⟩
        · intro a' w' b hb hs hW
          have h0 : a'.tmps[23]? = some (.pointer (some ⟨g, 0, none⟩)) := hs.made 1 23 rfl rfl
          have e0 := hW.row 0 (by decide)
          exact wpOp_val rfl rfl (by simp [execOp, go_sem, h0, e0]) ⟨rfl, hW⟩
        · intro a' w' b hb hs hW
          have h0 : a'.tmps[3]? = some (.slice (some ⟨g, 0, none⟩) 10 cap) := hs.old 3 rfl
          exact wpOp_val rfl rfl (by simp [execOp, go_sem, h0]) ⟨rfl, hW⟩
        · intro a' w' b hb hs hW
          have h0 : a'.tmps[25]? = some (.slice (some ⟨g, 0, none⟩) 10 cap) := hs.made 3 25 rfl rfl
          exact wpOp_val rfl rfl (by simp [execOp, go_sem, h0]) ⟨rfl, hW⟩
        · intro a' w' b hb hs hW
          have h0 : a'.tmps[26]? = some (.pointer (some ⟨g, 1, none⟩)) := hs.made 4 26 rfl rfl
          have e0 := hW.row 1 (by decide)
          exact wpOp_val rfl rfl (by simp [execOp, go_sem, h0, e0]) ⟨rfl, hW⟩
        · intro a' w' b hb hs hW
          have h0 : a'.tmps[24]? = some (.int .i64 (rn l 1)) := hs.made 2 24 rfl rfl
          have h1 : a'.tmps[27]? = some (.int .i64 (rn l 2)) := hs.made 5 27 rfl rfl
          exact wpOp_val rfl rfl (exec_bg1 rfl rfl (ev h0) (ev h1)) ⟨rfl, hW⟩
        · intro a' w' b hb hs hW
          have h0 : a'.tmps[2]? = some (.pointer (some ⟨w.heap.size, 0, none⟩)) := hs.old 2 rfl
          have h1 : a'.tmps[28]? = some (.agg (rgk 1 l).cells.toArray) := hs.made 6 28 rfl rfl
          rw [hb] at hW
          exact wpOp_wp rfl rfl (wp_store_row 28 _ _ rfl w.heap.size (rgk 1 l).cells.toArray (ev h0) (ev h1) 28 _ hW.res (by kernel_rfl) rfl (cal_one _) ⟨rfl, hW.store (rgk 1 l)⟩)
      · intro a' w' b hb hs hW
        rw [hb 7 (by decide)] at hW
        obtain ⟨v22, q22⟩ : ∃ u, a'.tmps[22]? = some u := ⟨_, hs.made 0 22 rfl⟩
        obtain ⟨v23, q23⟩ : ∃ u, a'.tmps[23]? = some u := ⟨_, hs.made 1 23 rfl⟩
        obtain ⟨v24, q24⟩ : ∃ u, a'.tmps[24]? = some u := ⟨_, hs.made 2 24 rfl⟩
        obtain ⟨v25, q25⟩ : ∃ u, a'.tmps[25]? = some u := ⟨_, hs.made 3 25 rfl⟩
        obtain ⟨v26, q26⟩ : ∃ u, a'.tmps[26]? = some u := ⟨_, hs.made 4 26 rfl⟩
        obtain ⟨v27, q27⟩ : ∃ u, a'.tmps[27]? = some u := ⟨_, hs.made 5 27 rfl⟩
        obtain ⟨v28, q28⟩ : ∃ u, a'.tmps[28]? = some u := ⟨_, hs.made 6 28 rfl⟩
        have ha := act_putAll [(22, v22), (23, v23), (24, v24), (25, v25), (26, v26), (27, v27), (28, v28)] hs.defers hs.size (by simp [q22, q23, q24, q25, q26, q27, q28]) rfl hs.old
        clear hs q22 q23 q24 q25 q26 q27 q28
        simp only [putAll, Act.put] at ha
        subst ha
        go_frame
        go_wp2_with fail
        exact bodyPost_ret (res28 rfl _ _ w.heap.size _ rfl hW.res rfl) rfl ⟨rfl, hW.ext⟩
set_option maxRecDepth 100000 in
set_option maxHeartbeats 4000000 in
theorem rgc_6 (l : List (List UInt8)) (v : Value) (w : World) (hv : StrsAt w v l) (hll : ∀ x ∈ l, x.length ≤ 4294967296) (hx0 : rat l 0 = [102, 105, 110, 105, 115, 104]) : Calls Tryz.prog 62 #[v] w fun e w' => e = .returned (.agg (rgk 6 l).cells.toArray) ∧ Ext w w' := by
  have HZ := Lib.hid (show AtIs l 0 [102, 105, 110, 105, 115, 104] from ⟨0, rfl, by decide, hx0⟩)
  have HL3 := Lib.hid (rat_len hll 3)
  have HL4 := Lib.hid (rat_len hll 4)
  clear hx0 hll
  obtain ⟨W0, hW0⟩ : ∃ W0, W0 = (w.alloc (.cells (Cal.ofKind 0).cells.toArray 28)).alloc (.cells #[] 3) := ⟨_, rfl⟩
  have x0 : Ext w W0 := by rw [hW0]; exact (Ext.alloc _ _).trans (Ext.alloc _ _)
  have hb0 : W0.heap[w.heap.size]? = some (.cells (Cal.ofKind 0).cells.toArray 28) := by rw [hW0]; exact two_first _ _ _
  have r0 : W0.ownsRow (w.heap.size + 1) 3 1 (.slice (some ⟨w.heap.size + 1, 0, none⟩) 0 0) 0 [] :=
    ⟨rfl, .inr ⟨w.heap.size + 1, 0, #[], rfl, Nat.le_refl _, by rw [hW0]; exact two_second _ _ _, Nat.le_refl _, by decide, rfl, rfl⟩⟩
  rw [zero28] at hW0
  have HW := Lib.hid hW0
  clear hW0
  obtain ⟨i0, hi, j0, j1, j2⟩ := info_parts Tryz.info3
  go_enter Tryz.func62, Tryz.ntmps62
  go_wp2_with (first
    | refine wpList_runs 6 rfl rfl _ _ (exec_bs0i rfl) ?_)
  have hsz : (w.alloc (.cells (#[.int .i64 0, .int .i64 0, .int .i64 0, .int .i64 0, .string ⟨#[]⟩, .int .i64 0, .int .i64 0, .int .i64 0, .string ⟨#[]⟩, .string ⟨#[]⟩, .int .i64 0, .int .i64 0, .int .i64 0, .int .i64 0, .int .i64 0, .int .i64 0] : Array Value) 28)).heap.size = w.heap.size + 1 := by simp
  try rw [hsz]
  clear hsz
  rw [← HW.out]
  clear HW
  go_loopw [3, 4] (fun u i wq => ∃ (m : Nat) (xs : List Int), 1 ≤ m ∧ m ≤ 11 ∧ i = .int .i64 m ∧ xs.length ≤ 10 ∧ Hid (xs = ns l (m - 1)) ∧ wq.ownsRow (w.heap.size + 1) 3 1 u xs.length (xs.map vI) ∧ wq.heap[w.heap.size]? = some (.cells (Cal.ofKind 0).cells.toArray 28) ∧ Ext w wq) (fun _ i _ => 20 - (intOf i).toNat)
  case atStart => exact ⟨1, [], Nat.le_refl _, by decide, rfl, by simp, rfl, r0, hb0, x0⟩
  case round =>
    obtain ⟨m, xs, hm1, hm11, rfl, hxl, HXS, hrow, hres, hx⟩ := hrel
    have hvr := hv.ext hx
    by_cases hle : m ≤ 10
    · have hle' : (m : Int) ≤ 10 := by omega
      have HA := Lib.hid (show AtIs l (m : Int) (rat l m) from ⟨m, rfl, by omega, rfl⟩)
      obtain ⟨y, hy⟩ : ∃ y, y = rat l m := ⟨_, rfl⟩
      obtain ⟨N, hN⟩ : ∃ N : Int, N = ((rnum y : Nat) : Int) := ⟨_, rfl⟩
      have HN := fun W => Lib.hid (rnumber_any y W)
      rw [← hN] at HN
      rw [← hy] at HA
      have HS : Hid (xs ++ [N] = ns l (m + 1 - 1)) := by
        unfold Hid
        rw [show m + 1 - 1 = (m - 1) + 1 by omega, ns_succ, show m - 1 + 1 = m by omega, HXS.out, hN, hy]
        rfl
      clear hy hN HXS
      go_wp2_with (first
        | (go_at_call 61; refine (at_is l v _ _ HA.out _ hvr).mono ?_; rintro e W ⟨rfl, rfl⟩)
        | (go_at_call 63; refine (HN _).out.mono ?_; rintro e W ⟨rfl, rfl⟩)
        | (at_builtin; go_must (refine wpList_append_own _ rfl _ _ 29 rfl (w.heap.size + 1) 3 i0 (.int .i64 0) 1 8 und29 hi j0 j1 j2 rfl (by decide) _ _ _ rfl (hrow.alloc _) ⟨wr.heap.size, 0, none⟩ 1 1 [vI N] rfl rfl ?c1 ?c2 ?c3 ?c4 ?c5 ?_)))
      case c1 =>
        intro j u hj
        match j, hj with
        | 0, hj => simp at hj; subst hj; first | rfl | (simp [Addr.add]; rfl) | (simp [Addr.add])
        | n + 1, hj => simp at hj
      case c2 => first | rfl | (intro u hu; simp at hu; subst hu; rfl)
      case c3 => unfold maxLen; omega
      case c4 => omega
      case c5 => have := lt_of_block hres; rw [alloc_size]; omega
      intro v5 w5 hrow5 hgrow5 _
      go_wp2_with fail
      go_roundw
      case rel =>
        have hax : Ext wr (wr.alloc (.cells #[vI N] 3)) := Ext.alloc _ _
        have hrl := lt_of_block hres
        refine ⟨m + 1, xs ++ [N], by omega, by omega, by go_num, ?_, HS, ?_, ?_, ?_⟩
        · have := congrArg List.length HS.out
          rw [ns_len] at this
          omega
        · rw [List.map_append, List.length_append]; exact hrow5
        · have hne : u3.ownBlock ≠ some w.heap.size := fun e => by have := (hrow.lt _ e).1; omega
          exact (hgrow5.block _ (by simp; omega) hne.symm).trans ((hax.block _ hrl).trans hres)
        · have hx2 := hx.trans hax
          exact ⟨hgrow5.os.trans hx2.os, hgrow5.tape.trans hx2.tape, hgrow5.output.trans hx2.output, Nat.le_trans hx2.size hgrow5.size, fun k hk => (hgrow5.block k (Nat.lt_of_lt_of_le hk hx2.size) (fun e => by have := (hrow.lt k e.symm).1; omega)).trans (hx2.block k hk)⟩
      case measure => simp [intOf]; omega
    · have hle' : ¬ (m : Int) ≤ 10 := by omega
      have hxs := HXS.out
      rw [show m - 1 = 10 by omega] at hxs
      obtain ⟨g, cap, rfl, hG⟩ := own_row10 hrow hxs hres hx
      clear hxs HXS hrow hres hx i0 hi j0 j1 j2 x0 hb0 r0 hxl hm1 hm11
      go_upto_region 23 with (first | (go_at_call 61; refine (at_is l v _ _ HZ.out _ hvr).mono ?_; rintro e W ⟨rfl, rfl⟩))
      refine wp_region_flags (fun i => [Value.slice (some ⟨g, 0, none⟩) 10 cap, Value.pointer (some ⟨g, 0, none⟩), Value.int .i64 (rn l 1), Value.slice (some ⟨g, 0, none⟩) 10 cap, Value.pointer (some ⟨g, 1, none⟩), Value.int .i64 (rn l 2), Value.agg (rgk 6 l).cells.toArray, undef].getD i undef) (fun b W' => GW w g l (if b 7 = true then rgk 6 l else Cal.ofKind 0) W') mixedOrd (by kernel_rfl) (by kernel_rfl) (by kernel_rfl) (hG.more ⟨rfl, rfl, rfl, Nat.le_refl _, fun _ _ => rfl⟩) ?_ ?_
      · refine ⟨?_, ?_, ?_, ?_, ?_, ?_, ?_, ?_, trivial⟩
        · intro a' w' b hb hs hW
          have h0 : a'.tmps[3]? = some (.slice (some ⟨g, 0, none⟩) 10 cap) := hs.old 3 rfl
          exact wpOp_val rfl rfl (by simp [execOp, go_sem, h0]) ⟨rfl, hW⟩
        · intro a' w' b hb hs hW
          have h0 : a'.tmps[101]? = some (.slice (some ⟨g, 0, none⟩) 10 cap) := hs.made 0 101 rfl rfl
          exact wpOp_val rfl rfl (by simp [execOp, go_sem, h0]) ⟨rfl, hW⟩
        · intro a' w' b hb hs hW
          have h0 : a'.tmps[102]? = some (.pointer (some ⟨g, 0, none⟩)) := hs.made 1 102 rfl rfl
          have e0 := hW.row 0 (by decide)
          exact wpOp_val rfl rfl (by simp [execOp, go_sem, h0, e0]) ⟨rfl, hW⟩
        · intro a' w' b hb hs hW
          have h0 : a'.tmps[3]? = some (.slice (some ⟨g, 0, none⟩) 10 cap) := hs.old 3 rfl
          exact wpOp_val rfl rfl (by simp [execOp, go_sem, h0]) ⟨rfl, hW⟩
        · intro a' w' b hb hs hW
          have h0 : a'.tmps[104]? = some (.slice (some ⟨g, 0, none⟩) 10 cap) := hs.made 3 104 rfl rfl
          exact wpOp_val rfl rfl (by simp [execOp, go_sem, h0]) ⟨rfl, hW⟩
        · intro a' w' b hb hs hW
          have h0 : a'.tmps[105]? = some (.pointer (some ⟨g, 1, none⟩)) := hs.made 4 105 rfl rfl
          have e0 := hW.row 1 (by decide)
          exact wpOp_val rfl rfl (by simp [execOp, go_sem, h0, e0]) ⟨rfl, hW⟩
        · intro a' w' b hb hs hW
          have h0 : a'.tmps[103]? = some (.int .i64 (rn l 1)) := hs.made 2 103 rfl rfl
          have h1 : a'.tmps[106]? = some (.int .i64 (rn l 2)) := hs.made 5 106 rfl rfl
          exact wpOp_val rfl rfl (exec_bg6 rfl rfl (ev h0) (ev h1)) ⟨rfl, hW⟩
        · intro a' w' b hb hs hW
          have h0 : a'.tmps[2]? = some (.pointer (some ⟨w.heap.size, 0, none⟩)) := hs.old 2 rfl
          have h1 : a'.tmps[107]? = some (.agg (rgk 6 l).cells.toArray) := hs.made 6 107 rfl rfl
          rw [hb] at hW
          exact wpOp_wp rfl rfl (wp_store_row 28 _ _ rfl w.heap.size (rgk 6 l).cells.toArray (ev h0) (ev h1) 28 _ hW.res (by kernel_rfl) rfl (cal_one _) ⟨rfl, hW.store (rgk 6 l)⟩)
      · intro a' w' b hb hs hW
        rw [hb 7 (by decide)] at hW
        obtain ⟨v101, q101⟩ : ∃ u, a'.tmps[101]? = some u := ⟨_, hs.made 0 101 rfl⟩
        obtain ⟨v102, q102⟩ : ∃ u, a'.tmps[102]? = some u := ⟨_, hs.made 1 102 rfl⟩
        obtain ⟨v103, q103⟩ : ∃ u, a'.tmps[103]? = some u := ⟨_, hs.made 2 103 rfl⟩
        obtain ⟨v104, q104⟩ : ∃ u, a'.tmps[104]? = some u := ⟨_, hs.made 3 104 rfl⟩
        obtain ⟨v105, q105⟩ : ∃ u, a'.tmps[105]? = some u := ⟨_, hs.made 4 105 rfl⟩
        obtain ⟨v106, q106⟩ : ∃ u, a'.tmps[106]? = some u := ⟨_, hs.made 5 106 rfl⟩
        obtain ⟨v107, q107⟩ : ∃ u, a'.tmps[107]? = some u := ⟨_, hs.made 6 107 rfl⟩
        have ha := act_putAll [(101, v101), (102, v102), (103, v103), (104, v104), (105, v105), (106, v106), (107, v107)] hs.defers hs.size (by simp [q101, q102, q103, q104, q105, q106, q107]) rfl hs.old
        clear hs q101 q102 q103 q104 q105 q106 q107
        simp only [putAll, Act.put] at ha
        subst ha
        go_frame
        go_wp2_with fail
        exact bodyPost_ret (res28 rfl _ _ w.heap.size _ rfl hW.res rfl) rfl ⟨rfl, hW.ext⟩
set_option maxRecDepth 100000 in
set_option maxHeartbeats 4000000 in
theorem rgc_7 (l : List (List UInt8)) (v : Value) (w : World) (hv : StrsAt w v l) (hll : ∀ x ∈ l, x.length ≤ 4294967296) (hx0 : rat l 0 = [114, 101, 115, 101, 116]) : Calls Tryz.prog 62 #[v] w fun e w' => e = .returned (.agg (rgk 7 l).cells.toArray) ∧ Ext w w' := by
  have HZ := Lib.hid (show AtIs l 0 [114, 101, 115, 101, 116] from ⟨0, rfl, by decide, hx0⟩)
  have HL3 := Lib.hid (rat_len hll 3)
  have HL4 := Lib.hid (rat_len hll 4)
  clear hx0 hll
  obtain ⟨W0, hW0⟩ : ∃ W0, W0 = (w.alloc (.cells (Cal.ofKind 0).cells.toArray 28)).alloc (.cells #[] 3) := ⟨_, rfl⟩
  have x0 : Ext w W0 := by rw [hW0]; exact (Ext.alloc _ _).trans (Ext.alloc _ _)
  have hb0 : W0.heap[w.heap.size]? = some (.cells (Cal.ofKind 0).cells.toArray 28) := by rw [hW0]; exact two_first _ _ _
  have r0 : W0.ownsRow (w.heap.size + 1) 3 1 (.slice (some ⟨w.heap.size + 1, 0, none⟩) 0 0) 0 [] :=
    ⟨rfl, .inr ⟨w.heap.size + 1, 0, #[], rfl, Nat.le_refl _, by rw [hW0]; exact two_second _ _ _, Nat.le_refl _, by decide, rfl, rfl⟩⟩
  rw [zero28] at hW0
  have HW := Lib.hid hW0
  clear hW0
  obtain ⟨i0, hi, j0, j1, j2⟩ := info_parts Tryz.info3
  go_enter Tryz.func62, Tryz.ntmps62
  go_wp2_with (first
    | refine wpList_runs 6 rfl rfl _ _ (exec_bs0i rfl) ?_)
  have hsz : (w.alloc (.cells (#[.int .i64 0, .int .i64 0, .int .i64 0, .int .i64 0, .string ⟨#[]⟩, .int .i64 0, .int .i64 0, .int .i64 0, .string ⟨#[]⟩, .string ⟨#[]⟩, .int .i64 0, .int .i64 0, .int .i64 0, .int .i64 0, .int .i64 0, .int .i64 0] : Array Value) 28)).heap.size = w.heap.size + 1 := by simp
  try rw [hsz]
  clear hsz
  rw [← HW.out]
  clear HW
  go_loopw [3, 4] (fun u i wq => ∃ (m : Nat) (xs : List Int), 1 ≤ m ∧ m ≤ 11 ∧ i = .int .i64 m ∧ xs.length ≤ 10 ∧ Hid (xs = ns l (m - 1)) ∧ wq.ownsRow (w.heap.size + 1) 3 1 u xs.length (xs.map vI) ∧ wq.heap[w.heap.size]? = some (.cells (Cal.ofKind 0).cells.toArray 28) ∧ Ext w wq) (fun _ i _ => 20 - (intOf i).toNat)
  case atStart => exact ⟨1, [], Nat.le_refl _, by decide, rfl, by simp, rfl, r0, hb0, x0⟩
  case round =>
    obtain ⟨m, xs, hm1, hm11, rfl, hxl, HXS, hrow, hres, hx⟩ := hrel
    have hvr := hv.ext hx
    by_cases hle : m ≤ 10
    · have hle' : (m : Int) ≤ 10 := by omega
      have HA := Lib.hid (show AtIs l (m : Int) (rat l m) from ⟨m, rfl, by omega, rfl⟩)
      obtain ⟨y, hy⟩ : ∃ y, y = rat l m := ⟨_, rfl⟩
      obtain ⟨N, hN⟩ : ∃ N : Int, N = ((rnum y : Nat) : Int) := ⟨_, rfl⟩
      have HN := fun W => Lib.hid (rnumber_any y W)
      rw [← hN] at HN
      rw [← hy] at HA
      have HS : Hid (xs ++ [N] = ns l (m + 1 - 1)) := by
        unfold Hid
        rw [show m + 1 - 1 = (m - 1) + 1 by omega, ns_succ, show m - 1 + 1 = m by omega, HXS.out, hN, hy]
        rfl
      clear hy hN HXS
      go_wp2_with (first
        | (go_at_call 61; refine (at_is l v _ _ HA.out _ hvr).mono ?_; rintro e W ⟨rfl, rfl⟩)
        | (go_at_call 63; refine (HN _).out.mono ?_; rintro e W ⟨rfl, rfl⟩)
        | (at_builtin; go_must (refine wpList_append_own _ rfl _ _ 29 rfl (w.heap.size + 1) 3 i0 (.int .i64 0) 1 8 und29 hi j0 j1 j2 rfl (by decide) _ _ _ rfl (hrow.alloc _) ⟨wr.heap.size, 0, none⟩ 1 1 [vI N] rfl rfl ?c1 ?c2 ?c3 ?c4 ?c5 ?_)))
      case c1 =>
        intro j u hj
        match j, hj with
        | 0, hj => simp at hj; subst hj; first | rfl | (simp [Addr.add]; rfl) | (simp [Addr.add])
        | n + 1, hj => simp at hj
      case c2 => first | rfl | (intro u hu; simp at hu; subst hu; rfl)
      case c3 => unfold maxLen; omega
      case c4 => omega
      case c5 => have := lt_of_block hres; rw [alloc_size]; omega
      intro v5 w5 hrow5 hgrow5 _
      go_wp2_with fail
      go_roundw
      case rel =>
        have hax : Ext wr (wr.alloc (.cells #[vI N] 3)) := Ext.alloc _ _
        have hrl := lt_of_block hres
        refine ⟨m + 1, xs ++ [N], by omega, by omega, by go_num, ?_, HS, ?_, ?_, ?_⟩
        · have := congrArg List.length HS.out
          rw [ns_len] at this
          omega
        · rw [List.map_append, List.length_append]; exact hrow5
        · have hne : u3.ownBlock ≠ some w.heap.size := fun e => by have := (hrow.lt _ e).1; omega
          exact (hgrow5.block _ (by simp; omega) hne.symm).trans ((hax.block _ hrl).trans hres)
        · have hx2 := hx.trans hax
          exact ⟨hgrow5.os.trans hx2.os, hgrow5.tape.trans hx2.tape, hgrow5.output.trans hx2.output, Nat.le_trans hx2.size hgrow5.size, fun k hk => (hgrow5.block k (Nat.lt_of_lt_of_le hk hx2.size) (fun e => by have := (hrow.lt k e.symm).1; omega)).trans (hx2.block k hk)⟩
      case measure => simp [intOf]; omega
    · have hle' : ¬ (m : Int) ≤ 10 := by omega
      have hxs := HXS.out
      rw [show m - 1 = 10 by omega] at hxs
      obtain ⟨g, cap, rfl, hG⟩ := own_row10 hrow hxs hres hx
      clear hxs HXS hrow hres hx i0 hi j0 j1 j2 x0 hb0 r0 hxl hm1 hm11
      go_upto_region 25 with (first | (go_at_call 61; refine (at_is l v _ _ HZ.out _ hvr).mono ?_; rintro e W ⟨rfl, rfl⟩))
      refine wp_region_flags (fun i => [Value.slice (some ⟨g, 0, none⟩) 10 cap, Value.pointer (some ⟨g, 0, none⟩), Value.int .i64 (rn l 1), Value.slice (some ⟨g, 0, none⟩) 10 cap, Value.pointer (some ⟨g, 1, none⟩), Value.int .i64 (rn l 2), Value.slice (some ⟨g, 0, none⟩) 10 cap, Value.pointer (some ⟨g, 2, none⟩), Value.int .i64 (rn l 3), Value.agg (rgk 7 l).cells.toArray, undef].getD i undef) (fun b W' => GW w g l (if b 10 = true then rgk 7 l else Cal.ofKind 0) W') mixedOrd (by kernel_rfl) (by kernel_rfl) (by kernel_rfl) (hG.more ⟨rfl, rfl, rfl, Nat.le_refl _, fun _ _ => rfl⟩) ?_ ?_
      · refine ⟨?_, ?_, ?_, ?_, ?_, ?_, ?_, ?_, ?_, ?_, ?_, trivial⟩
        · intro a' w' b hb hs hW
          have h0 : a'.tmps[3]? = some (.slice (some ⟨g, 0, none⟩) 10 cap) := hs.old 3 rfl
          exact wpOp_val rfl rfl (by simp [execOp, go_sem, h0]) ⟨rfl, hW⟩
        · intro a' w' b hb hs hW
          have h0 : a'.tmps[110]? = some (.slice (some ⟨g, 0, none⟩) 10 cap) := hs.made 0 110 rfl rfl
          exact wpOp_val rfl rfl (by simp [execOp, go_sem, h0]) ⟨rfl, hW⟩
        · intro a' w' b hb hs hW
          have h0 : a'.tmps[111]? = some (.pointer (some ⟨g, 0, none⟩)) := hs.made 1 111 rfl rfl
          have e0 := hW.row 0 (by decide)
          exact wpOp_val rfl rfl (by simp [execOp, go_sem, h0, e0]) ⟨rfl, hW⟩
        · intro a' w' b hb hs hW
          have h0 : a'.tmps[3]? = some (.slice (some ⟨g, 0, none⟩) 10 cap) := hs.old 3 rfl
          exact wpOp_val rfl rfl (by simp [execOp, go_sem, h0]) ⟨rfl, hW⟩
        · intro a' w' b hb hs hW
          have h0 : a'.tmps[113]? = some (.slice (some ⟨g, 0, none⟩) 10 cap) := hs.made 3 113 rfl rfl
          exact wpOp_val rfl rfl (by simp [execOp, go_sem, h0]) ⟨rfl, hW⟩
        · intro a' w' b hb hs hW
          have h0 : a'.tmps[114]? = some (.pointer (some ⟨g, 1, none⟩)) := hs.made 4 114 rfl rfl
          have e0 := hW.row 1 (by decide)
          exact wpOp_val rfl rfl (by simp [execOp, go_sem, h0, e0]) ⟨rfl, hW⟩
        · intro a' w' b hb hs hW
          have h0 : a'.tmps[3]? = some (.slice (some ⟨g, 0, none⟩) 10 cap) := hs.old 3 rfl
          exact wpOp_val rfl rfl (by simp [execOp, go_sem, h0]) ⟨rfl, hW⟩
        · intro a' w' b hb hs hW
          have h0 : a'.tmps[116]? = some (.slice (some ⟨g, 0, none⟩) 10 cap) := hs.made 6 116 rfl rfl
          exact wpOp_val rfl rfl (by simp [execOp, go_sem, h0]) ⟨rfl, hW⟩
        · intro a' w' b hb hs hW
          have h0 : a'.tmps[117]? = some (.pointer (some ⟨g, 2, none⟩)) := hs.made 7 117 rfl rfl
          have e0 := hW.row 2 (by decide)
          exact wpOp_val rfl rfl (by simp [execOp, go_sem, h0, e0]) ⟨rfl, hW⟩
        · intro a' w' b hb hs hW
          have h0 : a'.tmps[112]? = some (.int .i64 (rn l 1)) := hs.made 2 112 rfl rfl
          have h1 : a'.tmps[115]? = some (.int .i64 (rn l 2)) := hs.made 5 115 rfl rfl
          have h2 : a'.tmps[118]? = some (.int .i64 (rn l 3)) := hs.made 8 118 rfl rfl
          exact wpOp_val rfl rfl (exec_bg7 rfl rfl (ev h0) (ev h1) (ev h2)) ⟨rfl, hW⟩
        · intro a' w' b hb hs hW
          have h0 : a'.tmps[2]? = some (.pointer (some ⟨w.heap.size, 0, none⟩)) := hs.old 2 rfl
          have h1 : a'.tmps[119]? = some (.agg (rgk 7 l).cells.toArray) := hs.made 9 119 rfl rfl
          rw [hb] at hW
          exact wpOp_wp rfl rfl (wp_store_row 28 _ _ rfl w.heap.size (rgk 7 l).cells.toArray (ev h0) (ev h1) 28 _ hW.res (by kernel_rfl) rfl (cal_one _) ⟨rfl, hW.store (rgk 7 l)⟩)
      · intro a' w' b hb hs hW
        rw [hb 10 (by decide)] at hW
        obtain ⟨v110, q110⟩ : ∃ u, a'.tmps[110]? = some u := ⟨_, hs.made 0 110 rfl⟩
        obtain ⟨v111, q111⟩ : ∃ u, a'.tmps[111]? = some u := ⟨_, hs.made 1 111 rfl⟩
        obtain ⟨v112, q112⟩ : ∃ u, a'.tmps[112]? = some u := ⟨_, hs.made 2 112 rfl⟩
        obtain ⟨v113, q113⟩ : ∃ u, a'.tmps[113]? = some u := ⟨_, hs.made 3 113 rfl⟩
        obtain ⟨v114, q114⟩ : ∃ u, a'.tmps[114]? = some u := ⟨_, hs.made 4 114 rfl⟩
        obtain ⟨v115, q115⟩ : ∃ u, a'.tmps[115]? = some u := ⟨_, hs.made 5 115 rfl⟩
        obtain ⟨v116, q116⟩ : ∃ u, a'.tmps[116]? = some u := ⟨_, hs.made 6 116 rfl⟩
        obtain ⟨v117, q117⟩ : ∃ u, a'.tmps[117]? = some u := ⟨_, hs.made 7 117 rfl⟩
        obtain ⟨v118, q118⟩ : ∃ u, a'.tmps[118]? = some u := ⟨_, hs.made 8 118 rfl⟩
        obtain ⟨v119, q119⟩ : ∃ u, a'.tmps[119]? = some u := ⟨_, hs.made 9 119 rfl⟩
        have ha := act_putAll [(110, v110), (111, v111), (112, v112), (113, v113), (114, v114), (115, v115), (116, v116), (117, v117), (118, v118), (119, v119)] hs.defers hs.size (by simp [q110, q111, q112, q113, q114, q115, q116, q117, q118, q119]) rfl hs.old
        clear hs q110 q111 q112 q113 q114 q115 q116 q117 q118 q119
        simp only [putAll, Act.put] at ha
        subst ha
        go_frame
        go_wp2_with fail
        exact bodyPost_ret (res28 rfl _ _ w.heap.size _ rfl hW.res rfl) rfl ⟨rfl, hW.ext⟩
set_option maxRecDepth 100000 in
set_option maxHeartbeats 4000000 in
theorem rgc_8 (l : List (List UInt8)) (v : Value) (w : World) (hv : StrsAt w v l) (hll : ∀ x ∈ l, x.length ≤ 4294967296) (hx0 : rat l 0 = [115, 116, 111, 112]) : Calls Tryz.prog 62 #[v] w fun e w' => e = .returned (.agg (rgk 8 l).cells.toArray) ∧ Ext w w' := by
  have HZ := Lib.hid (show AtIs l 0 [115, 116, 111, 112] from ⟨0, rfl, by decide, hx0⟩)
  have HL3 := Lib.hid (rat_len hll 3)
  have HL4 := Lib.hid (rat_len hll 4)
  clear hx0 hll
  obtain ⟨W0, hW0⟩ : ∃ W0, W0 = (w.alloc (.cells (Cal.ofKind 0).cells.toArray 28)).alloc (.cells #[] 3) := ⟨_, rfl⟩
  have x0 : Ext w W0 := by rw [hW0]; exact (Ext.alloc _ _).trans (Ext.alloc _ _)
  have hb0 : W0.heap[w.heap.size]? = some (.cells (Cal.ofKind 0).cells.toArray 28) := by rw [hW0]; exact two_first _ _ _
  have r0 : W0.ownsRow (w.heap.size + 1) 3 1 (.slice (some ⟨w.heap.size + 1, 0, none⟩) 0 0) 0 [] :=
    ⟨rfl, .inr ⟨w.heap.size + 1, 0, #[], rfl, Nat.le_refl _, by rw [hW0]; exact two_second _ _ _, Nat.le_refl _, by decide, rfl, rfl⟩⟩
  rw [zero28] at hW0
  have HW := Lib.hid hW0
  clear hW0
  obtain ⟨i0, hi, j0, j1, j2⟩ := info_parts Tryz.info3
  go_enter Tryz.func62, Tryz.ntmps62
  go_wp2_with (first
    | refine wpList_runs 6 rfl rfl _ _ (exec_bs0i rfl) ?_)
  have hsz : (w.alloc (.cells (#[.int .i64 0, .int .i64 0, .int .i64 0, .int .i64 0, .string ⟨#[]⟩, .int .i64 0, .int .i64 0, .int .i64 0, .string ⟨#[]⟩, .string ⟨#[]⟩, .int .i64 0, .int .i64 0, .int .i64 0, .int .i64 0, .int .i64 0, .int .i64 0] : Array Value) 28)).heap.size = w.heap.size + 1 := by simp
  try rw [hsz]
  clear hsz
  rw [← HW.out]
  clear HW
  go_loopw [3, 4] (fun u i wq => ∃ (m : Nat) (xs : List Int), 1 ≤ m ∧ m ≤ 11 ∧ i = .int .i64 m ∧ xs.length ≤ 10 ∧ Hid (xs = ns l (m - 1)) ∧ wq.ownsRow (w.heap.size + 1) 3 1 u xs.length (xs.map vI) ∧ wq.heap[w.heap.size]? = some (.cells (Cal.ofKind 0).cells.toArray 28) ∧ Ext w wq) (fun _ i _ => 20 - (intOf i).toNat)
  case atStart => exact ⟨1, [], Nat.le_refl _, by decide, rfl, by simp, rfl, r0, hb0, x0⟩
  case round =>
    obtain ⟨m, xs, hm1, hm11, rfl, hxl, HXS, hrow, hres, hx⟩ := hrel
    have hvr := hv.ext hx
    by_cases hle : m ≤ 10
    · have hle' : (m : Int) ≤ 10 := by omega
      have HA := Lib.hid (show AtIs l (m : Int) (rat l m) from ⟨m, rfl, by omega, rfl⟩)
      obtain ⟨y, hy⟩ : ∃ y, y = rat l m := ⟨_, rfl⟩
      obtain ⟨N, hN⟩ : ∃ N : Int, N = ((rnum y : Nat) : Int) := ⟨_, rfl⟩
      have HN := fun W => Lib.hid (rnumber_any y W)
      rw [← hN] at HN
      rw [← hy] at HA
      have HS : Hid (xs ++ [N] = ns l (m + 1 - 1)) := by
        unfold Hid
        rw [show m + 1 - 1 = (m - 1) + 1 by omega, ns_succ, show m - 1 + 1 = m by omega, HXS.out, hN, hy]
        rfl
      clear hy hN HXS
      go_wp2_with (first
        | (go_at_call 61; refine (at_is l v _ _ HA.out _ hvr).mono ?_; rintro e W ⟨rfl, rfl⟩)
        | (go_at_call 63; refine (HN _).out.mono ?_; rintro e W ⟨rfl, rfl⟩)
        | (at_builtin; go_must (refine wpList_append_own _ rfl _ _ 29 rfl (w.heap.size + 1) 3 i0 (.int .i64 0) 1 8 und29 hi j0 j1 j2 rfl (by decide) _ _ _ rfl (hrow.alloc _) ⟨wr.heap.size, 0, none⟩ 1 1 [vI N] rfl rfl ?c1 ?c2 ?c3 ?c4 ?c5 ?_)))
      case c1 =>
        intro j u hj
        match j, hj with
        | 0, hj => simp at hj; subst hj; first | rfl | (simp [Addr.add]; rfl) | (simp [Addr.add])
        | n + 1, hj => simp at hj
      case c2 => first | rfl | (intro u hu; simp at hu; subst hu; rfl)
      case c3 => unfold maxLen; omega
      case c4 => omega
      case c5 => have := lt_of_block hres; rw [alloc_size]; omega
      intro v5 w5 hrow5 hgrow5 _
      go_wp2_with fail
      go_roundw
      case rel =>
        have hax : Ext wr (wr.alloc (.cells #[vI N] 3)) := Ext.alloc _ _
        have hrl := lt_of_block hres
        refine ⟨m + 1, xs ++ [N], by omega, by omega, by go_num, ?_, HS, ?_, ?_, ?_⟩
        · have := congrArg List.length HS.out
          rw [ns_len] at this
          omega
        · rw [List.map_append, List.length_append]; exact hrow5
        · have hne : u3.ownBlock ≠ some w.heap.size := fun e => by have := (hrow.lt _ e).1; omega
          exact (hgrow5.block _ (by simp; omega) hne.symm).trans ((hax.block _ hrl).trans hres)
        · have hx2 := hx.trans hax
          exact ⟨hgrow5.os.trans hx2.os, hgrow5.tape.trans hx2.tape, hgrow5.output.trans hx2.output, Nat.le_trans hx2.size hgrow5.size, fun k hk => (hgrow5.block k (Nat.lt_of_lt_of_le hk hx2.size) (fun e => by have := (hrow.lt k e.symm).1; omega)).trans (hx2.block k hk)⟩
      case measure => simp [intOf]; omega
    · have hle' : ¬ (m : Int) ≤ 10 := by omega
      have hxs := HXS.out
      rw [show m - 1 = 10 by omega] at hxs
      obtain ⟨g, cap, rfl, hG⟩ := own_row10 hrow hxs hres hx
      clear hxs HXS hrow hres hx i0 hi j0 j1 j2 x0 hb0 r0 hxl hm1 hm11
      go_upto_region 27 with (first | (go_at_call 61; refine (at_is l v _ _ HZ.out _ hvr).mono ?_; rintro e W ⟨rfl, rfl⟩))
      refine wp_region_flags (fun i => [Value.slice (some ⟨g, 0, none⟩) 10 cap, Value.pointer (some ⟨g, 0, none⟩), Value.int .i64 (rn l 1), Value.slice (some ⟨g, 0, none⟩) 10 cap, Value.pointer (some ⟨g, 1, none⟩), Value.int .i64 (rn l 2), Value.slice (some ⟨g, 0, none⟩) 10 cap, Value.pointer (some ⟨g, 2, none⟩), Value.int .i64 (rn l 3), Value.agg (rgk 8 l).cells.toArray, undef].getD i undef) (fun b W' => GW w g l (if b 10 = true then rgk 8 l else Cal.ofKind 0) W') mixedOrd (by kernel_rfl) (by kernel_rfl) (by kernel_rfl) (hG.more ⟨rfl, rfl, rfl, Nat.le_refl _, fun _ _ => rfl⟩) ?_ ?_
      · refine ⟨?_, ?_, ?_, ?_, ?_, ?_, ?_, ?_, ?_, ?_, ?_, trivial⟩
        · intro a' w' b hb hs hW
          have h0 : a'.tmps[3]? = some (.slice (some ⟨g, 0, none⟩) 10 cap) := hs.old 3 rfl
          exact wpOp_val rfl rfl (by simp [execOp, go_sem, h0]) ⟨rfl, hW⟩
        · intro a' w' b hb hs hW
          have h0 : a'.tmps[122]? = some (.slice (some ⟨g, 0, none⟩) 10 cap) := hs.made 0 122 rfl rfl
          exact wpOp_val rfl rfl (by simp [execOp, go_sem, h0]) ⟨rfl, hW⟩
        · intro a' w' b hb hs hW
          have h0 : a'.tmps[123]? = some (.pointer (some ⟨g, 0, none⟩)) := hs.made 1 123 rfl rfl
          have e0 := hW.row 0 (by decide)
          exact wpOp_val rfl rfl (by simp [execOp, go_sem, h0, e0]) ⟨rfl, hW⟩
        · intro a' w' b hb hs hW
          have h0 : a'.tmps[3]? = some (.slice (some ⟨g, 0, none⟩) 10 cap) := hs.old 3 rfl
          exact wpOp_val rfl rfl (by simp [execOp, go_sem, h0]) ⟨rfl, hW⟩
        · intro a' w' b hb hs hW
          have h0 : a'.tmps[125]? = some (.slice (some ⟨g, 0, none⟩) 10 cap) := hs.made 3 125 rfl rfl
          exact wpOp_val rfl rfl (by simp [execOp, go_sem, h0]) ⟨rfl, hW⟩
        · intro a' w' b hb hs hW
          have h0 : a'.tmps[126]? = some (.pointer (some ⟨g, 1, none⟩)) := hs.made 4 126 rfl rfl
          have e0 := hW.row 1 (by decide)
          exact wpOp_val rfl rfl (by simp [execOp, go_sem, h0, e0]) ⟨rfl, hW⟩
        · intro a' w' b hb hs hW
          have h0 : a'.tmps[3]? = some (.slice (some ⟨g, 0, none⟩) 10 cap) := hs.old 3 rfl
          exact wpOp_val rfl rfl (by simp [execOp, go_sem, h0]) ⟨rfl, hW⟩
        · intro a' w' b hb hs hW
          have h0 : a'.tmps[128]? = some (.slice (some ⟨g, 0, none⟩) 10 cap) := hs.made 6 128 rfl rfl
          exact wpOp_val rfl rfl (by simp [execOp, go_sem, h0]) ⟨rfl, hW⟩
        · intro a' w' b hb hs hW
          have h0 : a'.tmps[129]? = some (.pointer (some ⟨g, 2, none⟩)) := hs.made 7 129 rfl rfl
          have e0 := hW.row 2 (by decide)
          exact wpOp_val rfl rfl (by simp [execOp, go_sem, h0, e0]) ⟨rfl, hW⟩
        · intro a' w' b hb hs hW
          have h0 : a'.tmps[124]? = some (.int .i64 (rn l 1)) := hs.made 2 124 rfl rfl
          have h1 : a'.tmps[127]? = some (.int .i64 (rn l 2)) := hs.made 5 127 rfl rfl
          have h2 : a'.tmps[130]? = some (.int .i64 (rn l 3)) := hs.made 8 130 rfl rfl
          exact wpOp_val rfl rfl (exec_bg8 rfl rfl (ev h0) (ev h1) (ev h2)) ⟨rfl, hW⟩
        · intro a' w' b hb hs hW
          have h0 : a'.tmps[2]? = some (.pointer (some ⟨w.heap.size, 0, none⟩)) := hs.old 2 rfl
          have h1 : a'.tmps[131]? = some (.agg (rgk 8 l).cells.toArray) := hs.made 9 131 rfl rfl
          rw [hb] at hW
          exact wpOp_wp rfl rfl (wp_store_row 28 _ _ rfl w.heap.size (rgk 8 l).cells.toArray (ev h0) (ev h1) 28 _ hW.res (by kernel_rfl) rfl (cal_one _) ⟨rfl, hW.store (rgk 8 l)⟩)
      · intro a' w' b hb hs hW
        rw [hb 10 (by decide)] at hW
        obtain ⟨v122, q122⟩ : ∃ u, a'.tmps[122]? = some u := ⟨_, hs.made 0 122 rfl⟩
        obtain ⟨v123, q123⟩ : ∃ u, a'.tmps[123]? = some u := ⟨_, hs.made 1 123 rfl⟩
        obtain ⟨v124, q124⟩ : ∃ u, a'.tmps[124]? = some u := ⟨_, hs.made 2 124 rfl⟩
        obtain ⟨v125, q125⟩ : ∃ u, a'.tmps[125]? = some u := ⟨_, hs.made 3 125 rfl⟩
        obtain ⟨v126, q126⟩ : ∃ u, a'.tmps[126]? = some u := ⟨_, hs.made 4 126 rfl⟩
        obtain ⟨v127, q127⟩ : ∃ u, a'.tmps[127]? = some u := ⟨_, hs.made 5 127 rfl⟩
        obtain ⟨v128, q128⟩ : ∃ u, a'.tmps[128]? = some u := ⟨_, hs.made 6 128 rfl⟩
        obtain ⟨v129, q129⟩ : ∃ u, a'.tmps[129]? = some u := ⟨_, hs.made 7 129 rfl⟩
        obtain ⟨v130, q130⟩ : ∃ u, a'.tmps[130]? = some u := ⟨_, hs.made 8 130 rfl⟩
        obtain ⟨v131, q131⟩ : ∃ u, a'.tmps[131]? = some u := ⟨_, hs.made 9 131 rfl⟩
        have ha := act_putAll [(122, v122), (123, v123), (124, v124), (125, v125), (126, v126), (127, v127), (128, v128), (129, v129), (130, v130), (131, v131)] hs.defers hs.size (by simp [q122, q123, q124, q125, q126, q127, q128, q129, q130, q131]) rfl hs.old
        clear hs q122 q123 q124 q125 q126 q127 q128 q129 q130 q131
        simp only [putAll, Act.put] at ha
        subst ha
        go_frame
        go_wp2_with fail
        exact bodyPost_ret (res28 rfl _ _ w.heap.size _ rfl hW.res rfl) rfl ⟨rfl, hW.ext⟩
set_option maxRecDepth 100000 in
set_option maxHeartbeats 4000000 in
theorem rgc_9 (l : List (List UInt8)) (v : Value) (w : World) (hv : StrsAt w v l) (hll : ∀ x ∈ l, x.length ≤ 4294967296) (hx0 : rat l 0 = [114, 101, 97, 100]) : Calls Tryz.prog 62 #[v] w fun e w' => e = .returned (.agg (rgk 9 l).cells.toArray) ∧ Ext w w' := by
  have HZ := Lib.hid (show AtIs l 0 [114, 101, 97, 100] from ⟨0, rfl, by decide, hx0⟩)
  have HL3 := Lib.hid (rat_len hll 3)
  have HL4 := Lib.hid (rat_len hll 4)
  clear hx0 hll
  obtain ⟨W0, hW0⟩ : ∃ W0, W0 = (w.alloc (.cells (Cal.ofKind 0).cells.toArray 28)).alloc (.cells #[] 3) := ⟨_, rfl⟩
  have x0 : Ext w W0 := by rw [hW0]; exact (Ext.alloc _ _).trans (Ext.alloc _ _)
  have hb0 : W0.heap[w.heap.size]? = some (.cells (Cal.ofKind 0).cells.toArray 28) := by rw [hW0]; exact two_first _ _ _
  have r0 : W0.ownsRow (w.heap.size + 1) 3 1 (.slice (some ⟨w.heap.size + 1, 0, none⟩) 0 0) 0 [] :=
    ⟨rfl, .inr ⟨w.heap.size + 1, 0, #[], rfl, Nat.le_refl _, by rw [hW0]; exact two_second _ _ _, Nat.le_refl _, by decide, rfl, rfl⟩⟩
  rw [zero28] at hW0
  have HW := Lib.hid hW0
  clear hW0
  obtain ⟨i0, hi, j0, j1, j2⟩ := info_parts Tryz.info3
  go_enter Tryz.func62, Tryz.ntmps62
  go_wp2_with (first
    | refine wpList_runs 6 rfl rfl _ _ (exec_bs0i rfl) ?_)
  have hsz : (w.alloc (.cells (#[.int .i64 0, .int .i64 0, .int .i64 0, .int .i64 0, .string ⟨#[]⟩, .int .i64 0, .int .i64 0, .int .i64 0, .string ⟨#[]⟩, .string ⟨#[]⟩, .int .i64 0, .int .i64 0, .int .i64 0, .int .i64 0, .int .i64 0, .int .i64 0] : Array Value) 28)).heap.size = w.heap.size + 1 := by simp
  try rw [hsz]
  clear hsz
  rw [← HW.out]
  clear HW
  go_loopw [3, 4] (fun u i wq => ∃ (m : Nat) (xs : List Int), 1 ≤ m ∧ m ≤ 11 ∧ i = .int .i64 m ∧ xs.length ≤ 10 ∧ Hid (xs = ns l (m - 1)) ∧ wq.ownsRow (w.heap.size + 1) 3 1 u xs.length (xs.map vI) ∧ wq.heap[w.heap.size]? = some (.cells (Cal.ofKind 0).cells.toArray 28) ∧ Ext w wq) (fun _ i _ => 20 - (intOf i).toNat)
  case atStart => exact ⟨1, [], Nat.le_refl _, by decide, rfl, by simp, rfl, r0, hb0, x0⟩
  case round =>
    obtain ⟨m, xs, hm1, hm11, rfl, hxl, HXS, hrow, hres, hx⟩ := hrel
    have hvr := hv.ext hx
    by_cases hle : m ≤ 10
    · have hle' : (m : Int) ≤ 10 := by omega
      have HA := Lib.hid (show AtIs l (m : Int) (rat l m) from ⟨m, rfl, by omega, rfl⟩)
      obtain ⟨y, hy⟩ : ∃ y, y = rat l m := ⟨_, rfl⟩
      obtain ⟨N, hN⟩ : ∃ N : Int, N = ((rnum y : Nat) : Int) := ⟨_, rfl⟩
      have HN := fun W => Lib.hid (rnumber_any y W)
      rw [← hN] at HN
      rw [← hy] at HA
      have HS : Hid (xs ++ [N] = ns l (m + 1 - 1)) := by
        unfold Hid
        rw [show m + 1 - 1 = (m - 1) + 1 by omega, ns_succ, show m - 1 + 1 = m by omega, HXS.out, hN, hy]
        rfl
      clear hy hN HXS
      go_wp2_with (first
        | (go_at_call 61; refine (at_is l v _ _ HA.out _ hvr).mono ?_; rintro e W ⟨rfl, rfl⟩)
        | (go_at_call 63; refine (HN _).out.mono ?_; rintro e W ⟨rfl, rfl⟩)
        | (at_builtin; go_must (refine wpList_append_own _ rfl _ _ 29 rfl (w.heap.size + 1) 3 i0 (.int .i64 0) 1 8 und29 hi j0 j1 j2 rfl (by decide) _ _ _ rfl (hrow.alloc _) ⟨wr.heap.size, 0, none⟩ 1 1 [vI N] rfl rfl ?c1 ?c2 ?c3 ?c4 ?c5 ?_)))
      case c1 =>
        intro j u hj
        match j, hj with
        | 0, hj => simp at hj; subst hj; first | rfl | (simp [Addr.add]; rfl) | (simp [Addr.add])
        | n + 1, hj => simp at hj
      case c2 => first | rfl | (intro u hu; simp at hu; subst hu; rfl)
      case c3 => unfold maxLen; omega
      case c4 => omega
      case c5 => have := lt_of_block hres; rw [alloc_size]; omega
      intro v5 w5 hrow5 hgrow5 _
      go_wp2_with fail
      go_roundw
      case rel =>
        have hax : Ext wr (wr.alloc (.cells #[vI N] 3)) := Ext.alloc _ _
        have hrl := lt_of_block hres
        refine ⟨m + 1, xs ++ [N], by omega, by omega, by go_num, ?_, HS, ?_, ?_, ?_⟩
        · have := congrArg List.length HS.out
          rw [ns_len] at this
          omega
        · rw [List.map_append, List.length_append]; exact hrow5
        · have hne : u3.ownBlock ≠ some w.heap.size := fun e => by have := (hrow.lt _ e).1; omega
          exact (hgrow5.block _ (by simp; omega) hne.symm).trans ((hax.block _ hrl).trans hres)
        · have hx2 := hx.trans hax
          exact ⟨hgrow5.os.trans hx2.os, hgrow5.tape.trans hx2.tape, hgrow5.output.trans hx2.output, Nat.le_trans hx2.size hgrow5.size, fun k hk => (hgrow5.block k (Nat.lt_of_lt_of_le hk hx2.size) (fun e => by have := (hrow.lt k e.symm).1; omega)).trans (hx2.block k hk)⟩
      case measure => simp [intOf]; omega
    · have hle' : ¬ (m : Int) ≤ 10 := by omega
      have hxs := HXS.out
      rw [show m - 1 = 10 by omega] at hxs
      obtain ⟨g, cap, rfl, hG⟩ := own_row10 hrow hxs hres hx
      clear hxs HXS hrow hres hx i0 hi j0 j1 j2 x0 hb0 r0 hxl hm1 hm11
      go_upto_region 29 with (first | (go_at_call 61; refine (at_is l v _ _ HZ.out _ hvr).mono ?_; rintro e W ⟨rfl, rfl⟩))
      refine wp_region_flags (fun i => [Value.slice (some ⟨g, 0, none⟩) 10 cap, Value.pointer (some ⟨g, 0, none⟩), Value.int .i64 (rn l 1), Value.slice (some ⟨g, 0, none⟩) 10 cap, Value.pointer (some ⟨g, 1, none⟩), Value.int .i64 (rn l 2), Value.slice (some ⟨g, 0, none⟩) 10 cap, Value.pointer (some ⟨g, 2, none⟩), Value.int .i64 (rn l 3), Value.agg (rgk 9 l).cells.toArray, undef].getD i undef) (fun b W' => GW w g l (if b 10 = true then rgk 9 l else Cal.ofKind 0) W') mixedOrd (by kernel_rfl) (by kernel_rfl) (by kernel_rfl) (hG.more ⟨rfl, rfl, rfl, Nat.le_refl _, fun _ _ => rfl⟩) ?_ ?_
      · refine ⟨?_, ?_, ?_, ?_, ?_, ?_, ?_, ?_, ?_, ?_, ?_, trivial⟩
        · intro a' w' b hb hs hW
          have h0 : a'.tmps[3]? = some (.slice (some ⟨g, 0, none⟩) 10 cap) := hs.old 3 rfl
          exact wpOp_val rfl rfl (by simp [execOp, go_sem, h0]) ⟨rfl, hW⟩
        · intro a' w' b hb hs hW
          have h0 : a'.tmps[134]? = some (.slice (some ⟨g, 0, none⟩) 10 cap) := hs.made 0 134 rfl rfl
          exact wpOp_val rfl rfl (by simp [execOp, go_sem, h0]) ⟨rfl, hW⟩
        · intro a' w' b hb hs hW
          have h0 : a'.tmps[135]? = some (.pointer (some ⟨g, 0, none⟩)) := hs.made 1 135 rfl rfl
          have e0 := hW.row 0 (by decide)
          exact wpOp_val rfl rfl (by simp [execOp, go_sem, h0, e0]) ⟨rfl, hW⟩
        · intro a' w' b hb hs hW
          have h0 : a'.tmps[3]? = some (.slice (some ⟨g, 0, none⟩) 10 cap) := hs.old 3 rfl
          exact wpOp_val rfl rfl (by simp [execOp, go_sem, h0]) ⟨rfl, hW⟩
        · intro a' w' b hb hs hW
          have h0 : a'.tmps[137]? = some (.slice (some ⟨g, 0, none⟩) 10 cap) := hs.made 3 137 rfl rfl
          exact wpOp_val rfl rfl (by simp [execOp, go_sem, h0]) ⟨rfl, hW⟩
        · intro a' w' b hb hs hW
          have h0 : a'.tmps[138]? = some (.pointer (some ⟨g, 1, none⟩)) := hs.made 4 138 rfl rfl
          have e0 := hW.row 1 (by decide)
          exact wpOp_val rfl rfl (by simp [execOp, go_sem, h0, e0]) ⟨rfl, hW⟩
        · intro a' w' b hb hs hW
          have h0 : a'.tmps[3]? = some (.slice (some ⟨g, 0, none⟩) 10 cap) := hs.old 3 rfl
          exact wpOp_val rfl rfl (by simp [execOp, go_sem, h0]) ⟨rfl, hW⟩
        · intro a' w' b hb hs hW
          have h0 : a'.tmps[140]? = some (.slice (some ⟨g, 0, none⟩) 10 cap) := hs.made 6 140 rfl rfl
          exact wpOp_val rfl rfl (by simp [execOp, go_sem, h0]) ⟨rfl, hW⟩
        · intro a' w' b hb hs hW
          have h0 : a'.tmps[141]? = some (.pointer (some ⟨g, 2, none⟩)) := hs.made 7 141 rfl rfl
          have e0 := hW.row 2 (by decide)
          exact wpOp_val rfl rfl (by simp [execOp, go_sem, h0, e0]) ⟨rfl, hW⟩
        · intro a' w' b hb hs hW
          have h0 : a'.tmps[136]? = some (.int .i64 (rn l 1)) := hs.made 2 136 rfl rfl
          have h1 : a'.tmps[139]? = some (.int .i64 (rn l 2)) := hs.made 5 139 rfl rfl
          have h2 : a'.tmps[142]? = some (.int .i64 (rn l 3)) := hs.made 8 142 rfl rfl
          exact wpOp_val rfl rfl (exec_bg9 rfl rfl (ev h0) (ev h1) (ev h2)) ⟨rfl, hW⟩
        · intro a' w' b hb hs hW
          have h0 : a'.tmps[2]? = some (.pointer (some ⟨w.heap.size, 0, none⟩)) := hs.old 2 rfl
          have h1 : a'.tmps[143]? = some (.agg (rgk 9 l).cells.toArray) := hs.made 9 143 rfl rfl
          rw [hb] at hW
          exact wpOp_wp rfl rfl (wp_store_row 28 _ _ rfl w.heap.size (rgk 9 l).cells.toArray (ev h0) (ev h1) 28 _ hW.res (by kernel_rfl) rfl (cal_one _) ⟨rfl, hW.store (rgk 9 l)⟩)
      · intro a' w' b hb hs hW
        rw [hb 10 (by decide)] at hW
        obtain ⟨v134, q134⟩ : ∃ u, a'.tmps[134]? = some u := ⟨_, hs.made 0 134 rfl⟩
        obtain ⟨v135, q135⟩ : ∃ u, a'.tmps[135]? = some u := ⟨_, hs.made 1 135 rfl⟩
        obtain ⟨v136, q136⟩ : ∃ u, a'.tmps[136]? = some u := ⟨_, hs.made 2 136 rfl⟩
        obtain ⟨v137, q137⟩ : ∃ u, a'.tmps[137]? = some u := ⟨_, hs.made 3 137 rfl⟩
        obtain ⟨v138, q138⟩ : ∃ u, a'.tmps[138]? = some u := ⟨_, hs.made 4 138 rfl⟩
        obtain ⟨v139, q139⟩ : ∃ u, a'.tmps[139]? = some u := ⟨_, hs.made 5 139 rfl⟩
        obtain ⟨v140, q140⟩ : ∃ u, a'.tmps[140]? = some u := ⟨_, hs.made 6 140 rfl⟩
        obtain ⟨v141, q141⟩ : ∃ u, a'.tmps[141]? = some u := ⟨_, hs.made 7 141 rfl⟩
        obtain ⟨v142, q142⟩ : ∃ u, a'.tmps[142]? = some u := ⟨_, hs.made 8 142 rfl⟩
        obtain ⟨v143, q143⟩ : ∃ u, a'.tmps[143]? = some u := ⟨_, hs.made 9 143 rfl⟩
        have ha := act_putAll [(134, v134), (135, v135), (136, v136), (137, v137), (138, v138), (139, v139), (140, v140), (141, v141), (142, v142), (143, v143)] hs.defers hs.size (by simp [q134, q135, q136, q137, q138, q139, q140, q141, q142, q143]) rfl hs.old
        clear hs q134 q135 q136 q137 q138 q139 q140 q141 q142 q143
        simp only [putAll, Act.put] at ha
        subst ha
        go_frame
        go_wp2_with fail
        exact bodyPost_ret (res28 rfl _ _ w.heap.size _ rfl hW.res rfl) rfl ⟨rfl, hW.ext⟩
set_option maxRecDepth 100000 in
set_option maxHeartbeats 4000000 in
theorem rgc_10 (l : List (List UInt8)) (v : Value) (w : World) (hv : StrsAt w v l) (hll : ∀ x ∈ l, x.length ≤ 4294967296) (hx0 : rat l 0 = [99, 108, 111, 115, 101]) : Calls Tryz.prog 62 #[v] w fun e w' => e = .returned (.agg (rgk 10 l).cells.toArray) ∧ Ext w w' := by
  have HZ := Lib.hid (show AtIs l 0 [99, 108, 111, 115, 101] from ⟨0, rfl, by decide, hx0⟩)
  have HL3 := Lib.hid (rat_len hll 3)
  have HL4 := Lib.hid (rat_len hll 4)
  clear hx0 hll
  obtain ⟨W0, hW0⟩ : ∃ W0, W0 = (w.alloc (.cells (Cal.ofKind 0).cells.toArray 28)).alloc (.cells #[] 3) := ⟨_, rfl⟩
  have x0 : Ext w W0 := by rw [hW0]; exact (Ext.alloc _ _).trans (Ext.alloc _ _)
  have hb0 : W0.heap[w.heap.size]? = some (.cells (Cal.ofKind 0).cells.toArray 28) := by rw [hW0]; exact two_first _ _ _
  have r0 : W0.ownsRow (w.heap.size + 1) 3 1 (.slice (some ⟨w.heap.size + 1, 0, none⟩) 0 0) 0 [] :=
    ⟨rfl, .inr ⟨w.heap.size + 1, 0, #[], rfl, Nat.le_refl _, by rw [hW0]; exact two_second _ _ _, Nat.le_refl _, by decide, rfl, rfl⟩⟩
  rw [zero28] at hW0
  have HW := Lib.hid hW0
  clear hW0
  obtain ⟨i0, hi, j0, j1, j2⟩ := info_parts Tryz.info3
  go_enter Tryz.func62, Tryz.ntmps62
  go_wp2_with (first
    | refine wpList_runs 6 rfl rfl _ _ (exec_bs0i rfl) ?_)
  have hsz : (w.alloc (.cells (#[.int .i64 0, .int .i64 0, .int .i64 0, .int .i64 0, .string ⟨#[]⟩, .int .i64 0, .int .i64 0, .int .i64 0, .string ⟨#[]⟩, .string ⟨#[]⟩, .int .i64 0, .int .i64 0, .int .i64 0, .int .i64 0, .int .i64 0, .int .i64 0] : Array Value) 28)).heap.size = w.heap.size + 1 := by simp
  try rw [hsz]
  clear hsz
  rw [← HW.out]
  clear HW
  go_loopw [3, 4] (fun u i wq => ∃ (m : Nat) (xs : List Int), 1 ≤ m ∧ m ≤ 11 ∧ i = .int .i64 m ∧ xs.length ≤ 10 ∧ Hid (xs = ns l (m - 1)) ∧ wq.ownsRow (w.heap.size + 1) 3 1 u xs.length (xs.map vI) ∧ wq.heap[w.heap.size]? = some (.cells (Cal.ofKind 0).cells.toArray 28) ∧ Ext w wq) (fun _ i _ => 20 - (intOf i).toNat)
  case atStart => exact ⟨1, [], Nat.le_refl _, by decide, rfl, by simp, rfl, r0, hb0, x0⟩
  case round =>
    obtain ⟨m, xs, hm1, hm11, rfl, hxl, HXS, hrow, hres, hx⟩ := hrel
    have hvr := hv.ext hx
    by_cases hle : m ≤ 10
    · have hle' : (m : Int) ≤ 10 := by omega
      have HA := Lib.hid (show AtIs l (m : Int) (rat l m) from ⟨m, rfl, by omega, rfl⟩)
      obtain ⟨y, hy⟩ : ∃ y, y = rat l m := ⟨_, rfl⟩
      obtain ⟨N, hN⟩ : ∃ N : Int, N = ((rnum y : Nat) : Int) := ⟨_, rfl⟩
      have HN := fun W => Lib.hid (rnumber_any y W)
      rw [← hN] at HN
      rw [← hy] at HA
      have HS : Hid (xs ++ [N] = ns l (m + 1 - 1)) := by
        unfold Hid
        rw [show m + 1 - 1 = (m - 1) + 1 by omega, ns_succ, show m - 1 + 1 = m by omega, HXS.out, hN, hy]
        rfl
      clear hy hN HXS
      go_wp2_with (first
        | (go_at_call 61; refine (at_is l v _ _ HA.out _ hvr).mono ?_; rintro e W ⟨rfl, rfl⟩)
        | (go_at_call 63; refine (HN _).out.mono ?_; rintro e W ⟨rfl, rfl⟩)
        | (at_builtin; go_must (refine wpList_append_own _ rfl _ _ 29 rfl (w.heap.size + 1) 3 i0 (.int .i64 0) 1 8 und29 hi j0 j1 j2 rfl (by decide) _ _ _ rfl (hrow.alloc _) ⟨wr.heap.size, 0, none⟩ 1 1 [vI N] rfl rfl ?c1 ?c2 ?c3 ?c4 ?c5 ?_)))
      case c1 =>
        intro j u hj
        match j, hj with
        | 0, hj => simp at hj; subst hj; first | rfl | (simp [Addr.add]; rfl) | (simp [Addr.add])
        | n + 1, hj => simp at hj
      case c2 => first | rfl | (intro u hu; simp at hu; subst hu; rfl)
      case c3 => unfold maxLen; omega
      case c4 => omega
      case c5 => have := lt_of_block hres; rw [alloc_size]; omega
      intro v5 w5 hrow5 hgrow5 _
      go_wp2_with fail
      go_roundw
      case rel =>
        have hax : Ext wr (wr.alloc (.cells #[vI N] 3)) := Ext.alloc _ _
        have hrl := lt_of_block hres
        refine ⟨m + 1, xs ++ [N], by omega, by omega, by go_num, ?_, HS, ?_, ?_, ?_⟩
        · have := congrArg List.length HS.out
          rw [ns_len] at this
          omega
        · rw [List.map_append, List.length_append]; exact hrow5
        · have hne : u3.ownBlock ≠ some w.heap.size := fun e => by have := (hrow.lt _ e).1; omega
          exact (hgrow5.block _ (by simp; omega) hne.symm).trans ((hax.block _ hrl).trans hres)
        · have hx2 := hx.trans hax
          exact ⟨hgrow5.os.trans hx2.os, hgrow5.tape.trans hx2.tape, hgrow5.output.trans hx2.output, Nat.le_trans hx2.size hgrow5.size, fun k hk => (hgrow5.block k (Nat.lt_of_lt_of_le hk hx2.size) (fun e => by have := (hrow.lt k e.symm).1; omega)).trans (hx2.block k hk)⟩
      case measure => simp [intOf]; omega
    · have hle' : ¬ (m : Int) ≤ 10 := by omega
      have hxs := HXS.out
      rw [show m - 1 = 10 by omega] at hxs
      obtain ⟨g, cap, rfl, hG⟩ := own_row10 hrow hxs hres hx
      clear hxs HXS hrow hres hx i0 hi j0 j1 j2 x0 hb0 r0 hxl hm1 hm11
      go_upto_region 31 with (first | (go_at_call 61; refine (at_is l v _ _ HZ.out _ hvr).mono ?_; rintro e W ⟨rfl, rfl⟩))
      refine wp_region_flags (fun i => [Value.slice (some ⟨g, 0, none⟩) 10 cap, Value.pointer (some ⟨g, 0, none⟩), Value.int .i64 (rn l 1), Value.slice (some ⟨g, 0, none⟩) 10 cap, Value.pointer (some ⟨g, 1, none⟩), Value.int .i64 (rn l 2), Value.agg (rgk 10 l).cells.toArray, undef].getD i undef) (fun b W' => GW w g l (if b 7 = true then rgk 10 l else Cal.ofKind 0) W') mixedOrd (by kernel_rfl) (by kernel_rfl) (by kernel_rfl) (hG.more ⟨rfl, rfl, rfl, Nat.le_refl _, fun _ _ => rfl⟩) ?_ ?_
      · refine ⟨?_, ?_, ?_, ?_, ?_, ?_, ?_, ?_, trivial⟩
        · intro a' w' b hb hs hW
          have h0 : a'.tmps[3]? = some (.slice (some ⟨g, 0, none⟩) 10 cap) := hs.old 3 rfl
          exact wpOp_val rfl rfl (by simp [execOp, go_sem, h0]) ⟨rfl, hW⟩
        · intro a' w' b hb hs hW
          have h0 : a'.tmps[146]? = some (.slice (some ⟨g, 0, none⟩) 10 cap) := hs.made 0 146 rfl rfl
          exact wpOp_val rfl rfl (by simp [execOp, go_sem, h0]) ⟨rfl, hW⟩
        · intro a' w' b hb hs hW
          have h0 : a'.tmps[147]? = some (.pointer (some ⟨g, 0, none⟩)) := hs.made 1 147 rfl rfl
          have e0 := hW.row 0 (by decide)
          exact wpOp_val rfl rfl (by simp [execOp, go_sem, h0, e0]) ⟨rfl, hW⟩
        · intro a' w' b hb hs hW
          have h0 : a'.tmps[3]? = some (.slice (some ⟨g, 0, none⟩) 10 cap) := hs.old 3 rfl
          exact wpOp_val rfl rfl (by simp [execOp, go_sem, h0]) ⟨rfl, hW⟩
        · intro a' w' b hb hs hW
          have h0 : a'.tmps[149]? = some (.slice (some ⟨g, 0, none⟩) 10 cap) := hs.made 3 149 rfl rfl
          exact wpOp_val rfl rfl (by simp [execOp, go_sem, h0]) ⟨rfl, hW⟩
        · intro a' w' b hb hs hW
          have h0 : a'.tmps[150]? = some (.pointer (some ⟨g, 1, none⟩)) := hs.made 4 150 rfl rfl
          have e0 := hW.row 1 (by decide)
          exact wpOp_val rfl rfl (by simp [execOp, go_sem, h0, e0]) ⟨rfl, hW⟩
        · intro a' w' b hb hs hW
          have h0 : a'.tmps[148]? = some (.int .i64 (rn l 1)) := hs.made 2 148 rfl rfl
          have h1 : a'.tmps[151]? = some (.int .i64 (rn l 2)) := hs.made 5 151 rfl rfl
          exact wpOp_val rfl rfl (exec_bg10 rfl rfl (ev h0) (ev h1)) ⟨rfl, hW⟩
        · intro a' w' b hb hs hW
          have h0 : a'.tmps[2]? = some (.pointer (some ⟨w.heap.size, 0, none⟩)) := hs.old 2 rfl
          have h1 : a'.tmps[152]? = some (.agg (rgk 10 l).cells.toArray) := hs.made 6 152 rfl rfl
          rw [hb] at hW
          exact wpOp_wp rfl rfl (wp_store_row 28 _ _ rfl w.heap.size (rgk 10 l).cells.toArray (ev h0) (ev h1) 28 _ hW.res (by kernel_rfl) rfl (cal_one _) ⟨rfl, hW.store (rgk 10 l)⟩)
      · intro a' w' b hb hs hW
        rw [hb 7 (by decide)] at hW
        obtain ⟨v146, q146⟩ : ∃ u, a'.tmps[146]? = some u := ⟨_, hs.made 0 146 rfl⟩
        obtain ⟨v147, q147⟩ : ∃ u, a'.tmps[147]? = some u := ⟨_, hs.made 1 147 rfl⟩
        obtain ⟨v148, q148⟩ : ∃ u, a'.tmps[148]? = some u := ⟨_, hs.made 2 148 rfl⟩
        obtain ⟨v149, q149⟩ : ∃ u, a'.tmps[149]? = some u := ⟨_, hs.made 3 149 rfl⟩
        obtain ⟨v150, q150⟩ : ∃ u, a'.tmps[150]? = some u := ⟨_, hs.made 4 150 rfl⟩
        obtain ⟨v151, q151⟩ : ∃ u, a'.tmps[151]? = some u := ⟨_, hs.made 5 151 rfl⟩
        obtain ⟨v152, q152⟩ : ∃ u, a'.tmps[152]? = some u := ⟨_, hs.made 6 152 rfl⟩
        have ha := act_putAll [(146, v146), (147, v147), (148, v148), (149, v149), (150, v150), (151, v151), (152, v152)] hs.defers hs.size (by simp [q146, q147, q148, q149, q150, q151, q152]) rfl hs.old
        clear hs q146 q147 q148 q149 q150 q151 q152
        simp only [putAll, Act.put] at ha
        subst ha
        go_frame
        go_wp2_with fail
        exact bodyPost_ret (res28 rfl _ _ w.heap.size _ rfl hW.res rfl) rfl ⟨rfl, hW.ext⟩
set_option maxRecDepth 100000 in
set_option maxHeartbeats 4000000 in
theorem rgc_12 (l : List (List UInt8)) (v : Value) (w : World) (hv : StrsAt w v l) (hll : ∀ x ∈ l, x.length ≤ 4294967296) (hx0 : rat l 0 = [109, 105, 103, 114, 97, 116, 101]) : Calls Tryz.prog 62 #[v] w fun e w' => e = .returned (.agg (rgk 12 l).cells.toArray) ∧ Ext w w' := by
  have HZ := Lib.hid (show AtIs l 0 [109, 105, 103, 114, 97, 116, 101] from ⟨0, rfl, by decide, hx0⟩)
  have HL3 := Lib.hid (rat_len hll 3)
  have HL4 := Lib.hid (rat_len hll 4)
  clear hx0 hll
  obtain ⟨W0, hW0⟩ : ∃ W0, W0 = (w.alloc (.cells (Cal.ofKind 0).cells.toArray 28)).alloc (.cells #[] 3) := ⟨_, rfl⟩
  have x0 : Ext w W0 := by rw [hW0]; exact (Ext.alloc _ _).trans (Ext.alloc _ _)
  have hb0 : W0.heap[w.heap.size]? = some (.cells (Cal.ofKind 0).cells.toArray 28) := by rw [hW0]; exact two_first _ _ _
  have r0 : W0.ownsRow (w.heap.size + 1) 3 1 (.slice (some ⟨w.heap.size + 1, 0, none⟩) 0 0) 0 [] :=
    ⟨rfl, .inr ⟨w.heap.size + 1, 0, #[], rfl, Nat.le_refl _, by rw [hW0]; exact two_second _ _ _, Nat.le_refl _, by decide, rfl, rfl⟩⟩
  rw [zero28] at hW0
  have HW := Lib.hid hW0
  clear hW0
  obtain ⟨i0, hi, j0, j1, j2⟩ := info_parts Tryz.info3
  go_enter Tryz.func62, Tryz.ntmps62
  go_wp2_with (first
    | refine wpList_runs 6 rfl rfl _ _ (exec_bs0i rfl) ?_)
  have hsz : (w.alloc (.cells (#[.int .i64 0, .int .i64 0, .int .i64 0, .int .i64 0, .string ⟨#[]⟩, .int .i64 0, .int .i64 0, .int .i64 0, .string ⟨#[]⟩, .string ⟨#[]⟩, .int .i64 0, .int .i64 0, .int .i64 0, .int .i64 0, .int .i64 0, .int .i64 0] : Array Value) 28)).heap.size = w.heap.size + 1 := by simp
  try rw [hsz]
  clear hsz
  rw [← HW.out]
  clear HW
  go_loopw [3, 4] (fun u i wq => ∃ (m : Nat) (xs : List Int), 1 ≤ m ∧ m ≤ 11 ∧ i = .int .i64 m ∧ xs.length ≤ 10 ∧ Hid (xs = ns l (m - 1)) ∧ wq.ownsRow (w.heap.size + 1) 3 1 u xs.length (xs.map vI) ∧ wq.heap[w.heap.size]? = some (.cells (Cal.ofKind 0).cells.toArray 28) ∧ Ext w wq) (fun _ i _ => 20 - (intOf i).toNat)
  case atStart => exact ⟨1, [], Nat.le_refl _, by decide, rfl, by simp, rfl, r0, hb0, x0⟩
  case round =>
    obtain ⟨m, xs, hm1, hm11, rfl, hxl, HXS, hrow, hres, hx⟩ := hrel
    have hvr := hv.ext hx
    by_cases hle : m ≤ 10
    · have hle' : (m : Int) ≤ 10 := by omega
      have HA := Lib.hid (show AtIs l (m : Int) (rat l m) from ⟨m, rfl, by omega, rfl⟩)
      obtain ⟨y, hy⟩ : ∃ y, y = rat l m := ⟨_, rfl⟩
      obtain ⟨N, hN⟩ : ∃ N : Int, N = ((rnum y : Nat) : Int) := ⟨_, rfl⟩
      have HN := fun W => Lib.hid (rnumber_any y W)
      rw [← hN] at HN
      rw [← hy] at HA
      have HS : Hid (xs ++ [N] = ns l (m + 1 - 1)) := by
        unfold Hid
        rw [show m + 1 - 1 = (m - 1) + 1 by omega, ns_succ, show m - 1 + 1 = m by omega, HXS.out, hN, hy]
        rfl
      clear hy hN HXS
      go_wp2_with (first
        | (go_at_call 61; refine (at_is l v _ _ HA.out _ hvr).mono ?_; rintro e W ⟨rfl, rfl⟩)
        | (go_at_call 63; refine (HN _).out.mono ?_; rintro e W ⟨rfl, rfl⟩)
        | (at_builtin; go_must (refine wpList_append_own _ rfl _ _ 29 rfl (w.heap.size + 1) 3 i0 (.int .i64 0) 1 8 und29 hi j0 j1 j2 rfl (by decide) _ _ _ rfl (hrow.alloc _) ⟨wr.heap.size, 0, none⟩ 1 1 [vI N] rfl rfl ?c1 ?c2 ?c3 ?c4 ?c5 ?_)))
      case c1 =>
        intro j u hj
        match j, hj with
        | 0, hj => simp at hj; subst hj; first | rfl | (simp [Addr.add]; rfl) | (simp [Addr.add])
        | n + 1, hj => simp at hj
      case c2 => first | rfl | (intro u hu; simp at hu; subst hu; rfl)
      case c3 => unfold maxLen; omega
      case c4 => omega
      case c5 => have := lt_of_block hres; rw [alloc_size]; omega
      intro v5 w5 hrow5 hgrow5 _
      go_wp2_with fail
      go_roundw
      case rel =>
        have hax : Ext wr (wr.alloc (.cells #[vI N] 3)) := Ext.alloc _ _
        have hrl := lt_of_block hres
        refine ⟨m + 1, xs ++ [N], by omega, by omega, by go_num, ?_, HS, ?_, ?_, ?_⟩
        · have := congrArg List.length HS.out
          rw [ns_len] at this
          omega
        · rw [List.map_append, List.length_append]; exact hrow5
        · have hne : u3.ownBlock ≠ some w.heap.size := fun e => by have := (hrow.lt _ e).1; omega
          exact (hgrow5.block _ (by simp; omega) hne.symm).trans ((hax.block _ hrl).trans hres)
        · have hx2 := hx.trans hax
          exact ⟨hgrow5.os.trans hx2.os, hgrow5.tape.trans hx2.tape, hgrow5.output.trans hx2.output, Nat.le_trans hx2.size hgrow5.size, fun k hk => (hgrow5.block k (Nat.lt_of_lt_of_le hk hx2.size) (fun e => by have := (hrow.lt k e.symm).1; omega)).trans (hx2.block k hk)⟩
      case measure => simp [intOf]; omega
    · have hle' : ¬ (m : Int) ≤ 10 := by omega
      have hxs := HXS.out
      rw [show m - 1 = 10 by omega] at hxs
      obtain ⟨g, cap, rfl, hG⟩ := own_row10 hrow hxs hres hx
      clear hxs HXS hrow hres hx i0 hi j0 j1 j2 x0 hb0 r0 hxl hm1 hm11
      go_upto_region 35 with (first | (go_at_call 61; refine (at_is l v _ _ HZ.out _ hvr).mono ?_; rintro e W ⟨rfl, rfl⟩))
      refine wp_region_flags (fun i => [Value.slice (some ⟨g, 0, none⟩) 10 cap, Value.pointer (some ⟨g, 0, none⟩), Value.int .i64 (rn l 1), Value.slice (some ⟨g, 0, none⟩) 10 cap, Value.pointer (some ⟨g, 1, none⟩), Value.int .i64 (rn l 2), Value.agg (rgk 12 l).cells.toArray, undef].getD i undef) (fun b W' => GW w g l (if b 7 = true then rgk 12 l else Cal.ofKind 0) W') mixedOrd (by kernel_rfl) (by kernel_rfl) (by kernel_rfl) (hG.more ⟨rfl, rfl, rfl, Nat.le_refl _, fun _ _ => rfl⟩) ?_ ?_
      · refine ⟨?_, ?_, ?_, ?_, ?_, ?_, ?_, ?_, trivial⟩
        · intro a' w' b hb hs hW
          have h0 : a'.tmps[3]? = some (.slice (some ⟨g, 0, none⟩) 10 cap) := hs.old 3 rfl
          exact wpOp_val rfl rfl (by simp [execOp, go_sem, h0]) ⟨rfl, hW⟩
        · intro a' w' b hb hs hW
          have h0 : a'.tmps[161]? = some (.slice (some ⟨g, 0, none⟩) 10 cap) := hs.made 0 161 rfl rfl
          exact wpOp_val rfl rfl (by simp [execOp, go_sem, h0]) ⟨rfl, hW⟩
        · intro a' w' b hb hs hW
          have h0 : a'.tmps[162]? = some (.pointer (some ⟨g, 0, none⟩)) := hs.made 1 162 rfl rfl
          have e0 := hW.row 0 (by decide)
          exact wpOp_val rfl rfl (by simp [execOp, go_sem, h0, e0]) ⟨rfl, hW⟩
        · intro a' w' b hb hs hW
          have h0 : a'.tmps[3]? = some (.slice (some ⟨g, 0, none⟩) 10 cap) := hs.old 3 rfl
          exact wpOp_val rfl rfl (by simp [execOp, go_sem, h0]) ⟨rfl, hW⟩
        · intro a' w' b hb hs hW
          have h0 : a'.tmps[164]? = some (.slice (some ⟨g, 0, none⟩) 10 cap) := hs.made 3 164 rfl rfl
          exact wpOp_val rfl rfl (by simp [execOp, go_sem, h0]) ⟨rfl, hW⟩
        · intro a' w' b hb hs hW
          have h0 : a'.tmps[165]? = some (.pointer (some ⟨g, 1, none⟩)) := hs.made 4 165 rfl rfl
          have e0 := hW.row 1 (by decide)
          exact wpOp_val rfl rfl (by simp [execOp, go_sem, h0, e0]) ⟨rfl, hW⟩
        · intro a' w' b hb hs hW
          have h0 : a'.tmps[163]? = some (.int .i64 (rn l 1)) := hs.made 2 163 rfl rfl
          have h1 : a'.tmps[166]? = some (.int .i64 (rn l 2)) := hs.made 5 166 rfl rfl
          exact wpOp_val rfl rfl (exec_bg12 rfl rfl (ev h0) (ev h1)) ⟨rfl, hW⟩
        · intro a' w' b hb hs hW
          have h0 : a'.tmps[2]? = some (.pointer (some ⟨w.heap.size, 0, none⟩)) := hs.old 2 rfl
          have h1 : a'.tmps[167]? = some (.agg (rgk 12 l).cells.toArray) := hs.made 6 167 rfl rfl
          rw [hb] at hW
          exact wpOp_wp rfl rfl (wp_store_row 28 _ _ rfl w.heap.size (rgk 12 l).cells.toArray (ev h0) (ev h1) 28 _ hW.res (by kernel_rfl) rfl (cal_one _) ⟨rfl, hW.store (rgk 12 l)⟩)
      · intro a' w' b hb hs hW
        rw [hb 7 (by decide)] at hW
        obtain ⟨v161, q161⟩ : ∃ u, a'.tmps[161]? = some u := ⟨_, hs.made 0 161 rfl⟩
        obtain ⟨v162, q162⟩ : ∃ u, a'.tmps[162]? = some u := ⟨_, hs.made 1 162 rfl⟩
        obtain ⟨v163, q163⟩ : ∃ u, a'.tmps[163]? = some u := ⟨_, hs.made 2 163 rfl⟩
        obtain ⟨v164, q164⟩ : ∃ u, a'.tmps[164]? = some u := ⟨_, hs.made 3 164 rfl⟩
        obtain ⟨v165, q165⟩ : ∃ u, a'.tmps[165]? = some u := ⟨_, hs.made 4 165 rfl⟩
        obtain ⟨v166, q166⟩ : ∃ u, a'.tmps[166]? = some u := ⟨_, hs.made 5 166 rfl⟩
        obtain ⟨v167, q167⟩ : ∃ u, a'.tmps[167]? = some u := ⟨_, hs.made 6 167 rfl⟩
        have ha := act_putAll [(161, v161), (162, v162), (163, v163), (164, v164), (165, v165), (166, v166), (167, v167)] hs.defers hs.size (by simp [q161, q162, q163, q164, q165, q166, q167]) rfl hs.old
        clear hs q161 q162 q163 q164 q165 q166 q167
        simp only [putAll, Act.put] at ha
        subst ha
        go_frame
        go_wp2_with fail
        exact bodyPost_ret (res28 rfl _ _ w.heap.size _ rfl hW.res rfl) rfl ⟨rfl, hW.ext⟩
set_option maxRecDepth 100000 in
set_option maxHeartbeats 4000000 in
theorem rgc_5 (l : List (List UInt8)) (v : Value) (w : World) (hv : StrsAt w v l) (hll : ∀ x ∈ l, x.length ≤ 4294967296) (hx0 : rat l 0 = [119, 114, 105, 116, 101]) : Calls Tryz.prog 62 #[v] w fun e w' => e = .returned (.agg (rgk 5 l).cells.toArray) ∧ Ext w w' := by
  have HZ := Lib.hid (show AtIs l 0 [119, 114, 105, 116, 101] from ⟨0, rfl, by decide, hx0⟩)
  have HL3 := Lib.hid (rat_len hll 3)
  have HL4 := Lib.hid (rat_len hll 4)
  clear hx0 hll
  obtain ⟨W0, hW0⟩ : ∃ W0, W0 = (w.alloc (.cells (Cal.ofKind 0).cells.toArray 28)).alloc (.cells #[] 3) := ⟨_, rfl⟩
  have x0 : Ext w W0 := by rw [hW0]; exact (Ext.alloc _ _).trans (Ext.alloc _ _)
  have hb0 : W0.heap[w.heap.size]? = some (.cells (Cal.ofKind 0).cells.toArray 28) := by rw [hW0]; exact two_first _ _ _
  have r0 : W0.ownsRow (w.heap.size + 1) 3 1 (.slice (some ⟨w.heap.size + 1, 0, none⟩) 0 0) 0 [] :=
    ⟨rfl, .inr ⟨w.heap.size + 1, 0, #[], rfl, Nat.le_refl _, by rw [hW0]; exact two_second _ _ _, Nat.le_refl _, by decide, rfl, rfl⟩⟩
  rw [zero28] at hW0
  have HW := Lib.hid hW0
  clear hW0
  obtain ⟨i0, hi, j0, j1, j2⟩ := info_parts Tryz.info3
  go_enter Tryz.func62, Tryz.ntmps62
  go_wp2_with (first
    | refine wpList_runs 6 rfl rfl _ _ (exec_bs0i rfl) ?_)
  have hsz : (w.alloc (.cells (#[.int .i64 0, .int .i64 0, .int .i64 0, .int .i64 0, .string ⟨#[]⟩, .int .i64 0, .int .i64 0, .int .i64 0, .string ⟨#[]⟩, .string ⟨#[]⟩, .int .i64 0, .int .i64 0, .int .i64 0, .int .i64 0, .int .i64 0, .int .i64 0] : Array Value) 28)).heap.size = w.heap.size + 1 := by simp
  try rw [hsz]
  clear hsz
  rw [← HW.out]
  clear HW
  go_loopw [3, 4] (fun u i wq => ∃ (m : Nat) (xs : List Int), 1 ≤ m ∧ m ≤ 11 ∧ i = .int .i64 m ∧ xs.length ≤ 10 ∧ Hid (xs = ns l (m - 1)) ∧ wq.ownsRow (w.heap.size + 1) 3 1 u xs.length (xs.map vI) ∧ wq.heap[w.heap.size]? = some (.cells (Cal.ofKind 0).cells.toArray 28) ∧ Ext w wq) (fun _ i _ => 20 - (intOf i).toNat)
  case atStart => exact ⟨1, [], Nat.le_refl _, by decide, rfl, by simp, rfl, r0, hb0, x0⟩
  case round =>
    obtain ⟨m, xs, hm1, hm11, rfl, hxl, HXS, hrow, hres, hx⟩ := hrel
    have hvr := hv.ext hx
    by_cases hle : m ≤ 10
    · have hle' : (m : Int) ≤ 10 := by omega
      have HA := Lib.hid (show AtIs l (m : Int) (rat l m) from ⟨m, rfl, by omega, rfl⟩)
      obtain ⟨y, hy⟩ : ∃ y, y = rat l m := ⟨_, rfl⟩
      obtain ⟨N, hN⟩ : ∃ N : Int, N = ((rnum y : Nat) : Int) := ⟨_, rfl⟩
      have HN := fun W => Lib.hid (rnumber_any y W)
      rw [← hN] at HN
      rw [← hy] at HA
      have HS : Hid (xs ++ [N] = ns l (m + 1 - 1)) := by
        unfold Hid
        rw [show m + 1 - 1 = (m - 1) + 1 by omega, ns_succ, show m - 1 + 1 = m by omega, HXS.out, hN, hy]
        rfl
      clear hy hN HXS
      go_wp2_with (first
        | (go_at_call 61; refine (at_is l v _ _ HA.out _ hvr).mono ?_; rintro e W ⟨rfl, rfl⟩)
        | (go_at_call 63; refine (HN _).out.mono ?_; rintro e W ⟨rfl, rfl⟩)
        | (at_builtin; go_must (refine wpList_append_own _ rfl _ _ 29 rfl (w.heap.size + 1) 3 i0 (.int .i64 0) 1 8 und29 hi j0 j1 j2 rfl (by decide) _ _ _ rfl (hrow.alloc _) ⟨wr.heap.size, 0, none⟩ 1 1 [vI N] rfl rfl ?c1 ?c2 ?c3 ?c4 ?c5 ?_)))
      case c1 =>
        intro j u hj
        match j, hj with
        | 0, hj => simp at hj; subst hj; first | rfl | (simp [Addr.add]; rfl) | (simp [Addr.add])
        | n + 1, hj => simp at hj
      case c2 => first | rfl | (intro u hu; simp at hu; subst hu; rfl)
      case c3 => unfold maxLen; omega
      case c4 => omega
      case c5 => have := lt_of_block hres; rw [alloc_size]; omega
      intro v5 w5 hrow5 hgrow5 _
      go_wp2_with fail
      go_roundw
      case rel =>
        have hax : Ext wr (wr.alloc (.cells #[vI N] 3)) := Ext.alloc _ _
        have hrl := lt_of_block hres
        refine ⟨m + 1, xs ++ [N], by omega, by omega, by go_num, ?_, HS, ?_, ?_, ?_⟩
        · have := congrArg List.length HS.out
          rw [ns_len] at this
          omega
        · rw [List.map_append, List.length_append]; exact hrow5
        · have hne : u3.ownBlock ≠ some w.heap.size := fun e => by have := (hrow.lt _ e).1; omega
          exact (hgrow5.block _ (by simp; omega) hne.symm).trans ((hax.block _ hrl).trans hres)
        · have hx2 := hx.trans hax
          exact ⟨hgrow5.os.trans hx2.os, hgrow5.tape.trans hx2.tape, hgrow5.output.trans hx2.output, Nat.le_trans hx2.size hgrow5.size, fun k hk => (hgrow5.block k (Nat.lt_of_lt_of_le hk hx2.size) (fun e => by have := (hrow.lt k e.symm).1; omega)).trans (hx2.block k hk)⟩
      case measure => simp [intOf]; omega
    · have hle' : ¬ (m : Int) ≤ 10 := by omega
      have hxs := HXS.out
      rw [show m - 1 = 10 by omega] at hxs
      obtain ⟨g, cap, rfl, hG⟩ := own_row10 hrow hxs hres hx
      clear hxs HXS hrow hres hx i0 hi j0 j1 j2 x0 hb0 r0 hxl hm1 hm11
      go_upto_region 21 with (first | (go_at_call 61; refine (at_is l v _ _ HZ.out _ hvr).mono ?_; rintro e W ⟨rfl, rfl⟩))
      refine wp_region_flags (fun i => [Value.slice (some ⟨g, 0, none⟩) 10 cap, Value.pointer (some ⟨g, 0, none⟩), Value.int .i64 (rn l 1), Value.slice (some ⟨g, 0, none⟩) 10 cap, Value.pointer (some ⟨g, 1, none⟩), Value.int .i64 (rn l 2), v, Value.string ⟨(rat l 3).toArray⟩, Value.string ⟨(rraw (rat l 3)).toArray⟩, Value.agg (rgk 5 l).cells.toArray, undef].getD i undef) (fun b W' => GW w g l (if b 10 = true then rgk 5 l else Cal.ofKind 0) W') mixedOrd (by kernel_rfl) (by kernel_rfl) (by kernel_rfl) (hG.more ⟨rfl, rfl, rfl, Nat.le_refl _, fun _ _ => rfl⟩) ?_ ?_
      · refine ⟨?_, ?_, ?_, ?_, ?_, ?_, ?_, ?_, ?_, ?_, ?_, trivial⟩
        · intro a' w' b hb hs hW
          have h0 : a'.tmps[3]? = some (.slice (some ⟨g, 0, none⟩) 10 cap) := hs.old 3 rfl
          exact wpOp_val rfl rfl (by simp [execOp, go_sem, h0]) ⟨rfl, hW⟩
        · intro a' w' b hb hs hW
          have h0 : a'.tmps[89]? = some (.slice (some ⟨g, 0, none⟩) 10 cap) := hs.made 0 89 rfl rfl
          exact wpOp_val rfl rfl (by simp [execOp, go_sem, h0]) ⟨rfl, hW⟩
        · intro a' w' b hb hs hW
          have h0 : a'.tmps[90]? = some (.pointer (some ⟨g, 0, none⟩)) := hs.made 1 90 rfl rfl
          have e0 := hW.row 0 (by decide)
          exact wpOp_val rfl rfl (by simp [execOp, go_sem, h0, e0]) ⟨rfl, hW⟩
        · intro a' w' b hb hs hW
          have h0 : a'.tmps[3]? = some (.slice (some ⟨g, 0, none⟩) 10 cap) := hs.old 3 rfl
          exact wpOp_val rfl rfl (by simp [execOp, go_sem, h0]) ⟨rfl, hW⟩
        · intro a' w' b hb hs hW
          have h0 : a'.tmps[92]? = some (.slice (some ⟨g, 0, none⟩) 10 cap) := hs.made 3 92 rfl rfl
          exact wpOp_val rfl rfl (by simp [execOp, go_sem, h0]) ⟨rfl, hW⟩
        · intro a' w' b hb hs hW
          have h0 : a'.tmps[93]? = some (.pointer (some ⟨g, 1, none⟩)) := hs.made 4 93 rfl rfl
          have e0 := hW.row 1 (by decide)
          exact wpOp_val rfl rfl (by simp [execOp, go_sem, h0, e0]) ⟨rfl, hW⟩
        · intro a' w' b hb hs hW
          have h0 : a'.tmps[0]? = some (v) := hs.old 0 rfl
          exact wpOp_val rfl rfl (by simp [execOp, go_sem, h0]) ⟨rfl, hW⟩
        · intro a' w' b hb hs hW
          have h0 : a'.tmps[95]? = some (v) := hs.made 6 95 rfl rfl
          refine wpOp_call (f := 61) (args := #[v, .int .i64 3]) rfl rfl (exec_call rfl rfl ent61 (by simp [ev h0, evc])) ?_
          refine (at_is l v _ _ ⟨3, rfl, by decide, rfl⟩ w' (hv.ext hW.ext)).mono ?_
          rintro e w'' ⟨rfl, rfl⟩
          exact ⟨_, rfl, rfl, hW⟩
        · intro a' w' b hb hs hW
          have h0 : a'.tmps[96]? = some (.string ⟨(rat l 3).toArray⟩) := hs.made 7 96 rfl rfl
          refine wpOp_call (f := 64) (args := #[.string ⟨(rat l 3).toArray⟩]) rfl rfl (exec_call rfl rfl ent64 (by simp [ev h0])) ?_
          refine (rraw_any (rat l 3) w' HL3.out).mono ?_
          rintro e w'' ⟨rfl, hxx⟩
          exact ⟨_, rfl, rfl, hW.more hxx⟩
        · intro a' w' b hb hs hW
          have h0 : a'.tmps[91]? = some (.int .i64 (rn l 1)) := hs.made 2 91 rfl rfl
          have h1 : a'.tmps[94]? = some (.int .i64 (rn l 2)) := hs.made 5 94 rfl rfl
          have h2 : a'.tmps[97]? = some (.string ⟨(rraw (rat l 3)).toArray⟩) := hs.made 8 97 rfl rfl
          exact wpOp_val rfl rfl (exec_bg5 rfl rfl (ev h0) (ev h1) (ev h2)) ⟨rfl, hW⟩
        · intro a' w' b hb hs hW
          have h0 : a'.tmps[2]? = some (.pointer (some ⟨w.heap.size, 0, none⟩)) := hs.old 2 rfl
          have h1 : a'.tmps[98]? = some (.agg (rgk 5 l).cells.toArray) := hs.made 9 98 rfl rfl
          rw [hb] at hW
          exact wpOp_wp rfl rfl (wp_store_row 28 _ _ rfl w.heap.size (rgk 5 l).cells.toArray (ev h0) (ev h1) 28 _ hW.res (by kernel_rfl) rfl (cal_one _) ⟨rfl, hW.store (rgk 5 l)⟩)
      · intro a' w' b hb hs hW
        rw [hb 10 (by decide)] at hW
        obtain ⟨v89, q89⟩ : ∃ u, a'.tmps[89]? = some u := ⟨_, hs.made 0 89 rfl⟩
        obtain ⟨v90, q90⟩ : ∃ u, a'.tmps[90]? = some u := ⟨_, hs.made 1 90 rfl⟩
        obtain ⟨v91, q91⟩ : ∃ u, a'.tmps[91]? = some u := ⟨_, hs.made 2 91 rfl⟩
        obtain ⟨v92, q92⟩ : ∃ u, a'.tmps[92]? = some u := ⟨_, hs.made 3 92 rfl⟩
        obtain ⟨v93, q93⟩ : ∃ u, a'.tmps[93]? = some u := ⟨_, hs.made 4 93 rfl⟩
        obtain ⟨v94, q94⟩ : ∃ u, a'.tmps[94]? = some u := ⟨_, hs.made 5 94 rfl⟩
        obtain ⟨v95, q95⟩ : ∃ u, a'.tmps[95]? = some u := ⟨_, hs.made 6 95 rfl⟩
        obtain ⟨v96, q96⟩ : ∃ u, a'.tmps[96]? = some u := ⟨_, hs.made 7 96 rfl⟩
        obtain ⟨v97, q97⟩ : ∃ u, a'.tmps[97]? = some u := ⟨_, hs.made 8 97 rfl⟩
        obtain ⟨v98, q98⟩ : ∃ u, a'.tmps[98]? = some u := ⟨_, hs.made 9 98 rfl⟩
        have ha := act_putAll [(89, v89), (90, v90), (91, v91), (92, v92), (93, v93), (94, v94), (95, v95), (96, v96), (97, v97), (98, v98)] hs.defers hs.size (by simp [q89, q90, q91, q92, q93, q94, q95, q96, q97, q98]) rfl hs.old
        clear hs q89 q90 q91 q92 q93 q94 q95 q96 q97 q98
        simp only [putAll, Act.put] at ha
        subst ha
        go_frame
        go_wp2_with fail
        exact bodyPost_ret (res28 rfl _ _ w.heap.size _ rfl hW.res rfl) rfl ⟨rfl, hW.ext⟩
end Go.Proofs.YtikmoledbiepoaaGreatDoor
/- The reference's guessCall, the other forms (printed by wip/gen_rgd.py). -/
namespace Go.Proofs.YtikmoledbiepoaaGreatDoor
open Go.RowKit
set_option linter.unusedSimpArgs false
set_option linter.unusedVariables false
theorem run_bz (k : Int) (w : World) : (Instr.build 28 #[(0, .int .i64 k)]).run Tryz.prog w = .ok (.agg (Cal.ofKind k).cells.toArray) w := by kernel_rfl
theorem run_be (w : World) : (Instr.build 28 #[]).run Tryz.prog w = .ok (.agg (Cal.ofKind 0).cells.toArray) w := by kernel_rfl
theorem exec_be {ρ : Operand → Value} {o : Oper} {w : World} (ho : o.op = .build 28 #[]) : (execOp ρ o).run Tryz.prog w = .ok (.value (.agg (Cal.ofKind 0).cells.toArray)) w := by
  unfold execOp
  simp only [ho, List.map_toArray, List.map_nil, Sem.run_bind, run_be]
  rfl
theorem exec_bz {ρ : Operand → Value} {o : Oper} {x : Operand} {w : World} {k : Int} (ho : o.op = .build 28 #[(0, x)]) (hx : ρ x = .int .i64 k) :
    (execOp ρ o).run Tryz.prog w = .ok (.value (.agg (Cal.ofKind k).cells.toArray)) w := by
  unfold execOp
  simp only [ho, List.map_toArray, List.map_cons, List.map_nil, hx, Sem.run_bind, run_bz]
  rfl
theorem load24b {w : World} {S : Nat} {p q r s t u : Int} (h : w.heap[S]? = some (.cells (p6 p q r s t u).toArray 24)) : (Instr.loadAt 24 (.pointer (some ⟨S, 0, none⟩))).run Tryz.prog w = .ok (.agg (p6 p q r s t u).toArray) w :=
  load24 (fun j v hv => by rw [Lib.cell_of_heap h, Nat.zero_add]; simpa using hv)
theorem run_bg3 (y0 : Int) (w : World) : (Instr.build 28 #[(0, .int .i64 3), (1, .int .i64 y0)]).run Tryz.prog w = .ok (.agg ({ Cal.ofKind 3 with conn := y0 } : Cal).cells.toArray) w := by kernel_rfl
theorem exec_bg3 {ρ : Operand → Value} {o : Oper} {z x0 : Operand} {w : World} {y0 : Int} (ho : o.op = .build 28 #[(0, z), (1, x0)]) (hz : ρ z = .int .i64 3) (h0 : ρ x0 = .int .i64 y0) :
    (execOp ρ o).run Tryz.prog w = .ok (.value (.agg ({ Cal.ofKind 3 with conn := y0 } : Cal).cells.toArray)) w := by
  unfold execOp
  simp only [ho, List.map_toArray, List.map_cons, List.map_nil, hz, h0, Sem.run_bind, run_bg3]
  rfl
theorem run_bg3u (y0 : Int) (y1 : Int) (w : World) : (Instr.build 28 #[(0, .int .i64 3), (1, .int .i64 y0), (3, .int .i64 y1)]).run Tryz.prog w = .ok (.agg ({ Cal.ofKind 3 with conn := y0, n := y1 } : Cal).cells.toArray) w := by kernel_rfl
theorem exec_bg3u {ρ : Operand → Value} {o : Oper} {z x0 x1 : Operand} {w : World} {y0 : Int} {y1 : Int} (ho : o.op = .build 28 #[(0, z), (1, x0), (3, x1)]) (hz : ρ z = .int .i64 3) (h0 : ρ x0 = .int .i64 y0) (h1 : ρ x1 = .int .i64 y1) :
    (execOp ρ o).run Tryz.prog w = .ok (.value (.agg ({ Cal.ofKind 3 with conn := y0, n := y1 } : Cal).cells.toArray)) w := by
  unfold execOp
  simp only [ho, List.map_toArray, List.map_cons, List.map_nil, hz, h0, h1, Sem.run_bind, run_bg3u]
  rfl
theorem run_bg0s (T S : List UInt8) (p q r s t u : Int) (w : World) : (Instr.build 26 #[(0, .string ⟨T.toArray⟩), (1, .string ⟨S.toArray⟩), (2, .agg (p6 p q r s t u).toArray)]).run Tryz.prog w = .ok (.agg (ses T S p q r s t u).toArray) w := by kernel_rfl
theorem run_bg0c (a b : Int) (T S : List UInt8) (p q r s t u : Int) (w : World) : (Instr.build 28 #[(0, .int .i64 1), (6, .int .i64 a), (7, .int .i64 b), (8, .agg (ses T S p q r s t u).toArray)]).run Tryz.prog w = .ok (.agg (⟨1, 0, 0, 0, [], 0, a, b, T, S, p, q, r, s, t, u⟩ : Cal).cells.toArray) w := by kernel_rfl
theorem run_bg0p (p q r s t u : Int) (w : World) : (Instr.build 24 #[(0, .int .i64 p), (1, .int .i64 q), (2, .int .i64 r), (3, .int .i64 s), (4, .int .i64 t), (5, .int .i64 u)]).run Tryz.prog w = .ok (.agg (p6 p q r s t u).toArray) w := by kernel_rfl
theorem exec_bg0p {ρ : Operand → Value} {o : Oper} {x0 x1 x2 x3 x4 x5 : Operand} {w : World} {p q r s t u : Int} (ho : o.op = .build 24 #[(0, x0), (1, x1), (2, x2), (3, x3), (4, x4), (5, x5)])
    (h0 : ρ x0 = .int .i64 p) (h1 : ρ x1 = .int .i64 q) (h2 : ρ x2 = .int .i64 r) (h3 : ρ x3 = .int .i64 s) (h4 : ρ x4 = .int .i64 t) (h5 : ρ x5 = .int .i64 u) :
    (execOp ρ o).run Tryz.prog w = .ok (.value (.agg (p6 p q r s t u).toArray)) w := by
  unfold execOp
  simp only [ho, List.map_toArray, List.map_cons, List.map_nil, h0, h1, h2, h3, h4, h5, Sem.run_bind, run_bg0p]
  rfl
theorem exec_bg0s {ρ : Operand → Value} {o : Oper} {x0 x1 x2 : Operand} {w : World} {T S : List UInt8} {p q r s t u : Int} (ho : o.op = .build 26 #[(0, x0), (1, x1), (2, x2)])
    (h0 : ρ x0 = .string ⟨T.toArray⟩) (h1 : ρ x1 = .string ⟨S.toArray⟩) (h2 : ρ x2 = .agg (p6 p q r s t u).toArray) :
    (execOp ρ o).run Tryz.prog w = .ok (.value (.agg (ses T S p q r s t u).toArray)) w := by
  unfold execOp
  simp only [ho, List.map_toArray, List.map_cons, List.map_nil, h0, h1, h2, Sem.run_bind, run_bg0s]
  rfl
theorem exec_bg0c {ρ : Operand → Value} {o : Oper} {z x0 x1 x2 : Operand} {w : World} {a b : Int} {T S : List UInt8} {p q r s t u : Int} (ho : o.op = .build 28 #[(0, z), (6, x0), (7, x1), (8, x2)]) (hz : ρ z = .int .i64 1)
    (h0 : ρ x0 = .int .i64 a) (h1 : ρ x1 = .int .i64 b) (h2 : ρ x2 = .agg (ses T S p q r s t u).toArray) :
    (execOp ρ o).run Tryz.prog w = .ok (.value (.agg (⟨1, 0, 0, 0, [], 0, a, b, T, S, p, q, r, s, t, u⟩ : Cal).cells.toArray)) w := by
  unfold execOp
  simp only [ho, List.map_toArray, List.map_cons, List.map_nil, hz, h0, h1, h2, Sem.run_bind, run_bg0c]
  rfl
set_option maxRecDepth 100000 in
set_option maxHeartbeats 4000000 in
theorem rgc_2 (l : List (List UInt8)) (v : Value) (w : World) (hv : StrsAt w v l) (hll : ∀ x ∈ l, x.length ≤ 4294967296) (hx0 : rat l 0 = [97, 99, 99, 101, 112, 116]) : Calls Tryz.prog 62 #[v] w fun e w' => e = .returned (.agg (rgk 2 l).cells.toArray) ∧ Ext w w' := by
  have HZ := Lib.hid (show AtIs l 0 [97, 99, 99, 101, 112, 116] from ⟨0, rfl, by decide, hx0⟩)
  have HL3 := Lib.hid (rat_len hll 3)
  have HL4 := Lib.hid (rat_len hll 4)
  clear hx0 hll
  obtain ⟨W0, hW0⟩ : ∃ W0, W0 = (w.alloc (.cells (Cal.ofKind 0).cells.toArray 28)).alloc (.cells #[] 3) := ⟨_, rfl⟩
  have x0 : Ext w W0 := by rw [hW0]; exact (Ext.alloc _ _).trans (Ext.alloc _ _)
  have hb0 : W0.heap[w.heap.size]? = some (.cells (Cal.ofKind 0).cells.toArray 28) := by rw [hW0]; exact two_first _ _ _
  have r0 : W0.ownsRow (w.heap.size + 1) 3 1 (.slice (some ⟨w.heap.size + 1, 0, none⟩) 0 0) 0 [] :=
    ⟨rfl, .inr ⟨w.heap.size + 1, 0, #[], rfl, Nat.le_refl _, by rw [hW0]; exact two_second _ _ _, Nat.le_refl _, by decide, rfl, rfl⟩⟩
  rw [zero28] at hW0
  have HW := Lib.hid hW0
  clear hW0
  obtain ⟨i0, hi, j0, j1, j2⟩ := info_parts Tryz.info3
  go_enter Tryz.func62, Tryz.ntmps62
  go_wp2_with (first
    | refine wpList_runs 6 rfl rfl _ _ (exec_bs0i rfl) ?_)
  have hsz : (w.alloc (.cells (#[.int .i64 0, .int .i64 0, .int .i64 0, .int .i64 0, .string ⟨#[]⟩, .int .i64 0, .int .i64 0, .int .i64 0, .string ⟨#[]⟩, .string ⟨#[]⟩, .int .i64 0, .int .i64 0, .int .i64 0, .int .i64 0, .int .i64 0, .int .i64 0] : Array Value) 28)).heap.size = w.heap.size + 1 := by simp
  try rw [hsz]
  clear hsz
  rw [← HW.out]
  clear HW
  go_loopw [3, 4] (fun u i wq => ∃ (m : Nat) (xs : List Int), 1 ≤ m ∧ m ≤ 11 ∧ i = .int .i64 m ∧ xs.length ≤ 10 ∧ Hid (xs = ns l (m - 1)) ∧ wq.ownsRow (w.heap.size + 1) 3 1 u xs.length (xs.map vI) ∧ wq.heap[w.heap.size]? = some (.cells (Cal.ofKind 0).cells.toArray 28) ∧ Ext w wq) (fun _ i _ => 20 - (intOf i).toNat)
  case atStart => exact ⟨1, [], Nat.le_refl _, by decide, rfl, by simp, rfl, r0, hb0, x0⟩
  case round =>
    obtain ⟨m, xs, hm1, hm11, rfl, hxl, HXS, hrow, hres, hx⟩ := hrel
    have hvr := hv.ext hx
    by_cases hle : m ≤ 10
    · have hle' : (m : Int) ≤ 10 := by omega
      have HA := Lib.hid (show AtIs l (m : Int) (rat l m) from ⟨m, rfl, by omega, rfl⟩)
      obtain ⟨y, hy⟩ : ∃ y, y = rat l m := ⟨_, rfl⟩
      obtain ⟨N, hN⟩ : ∃ N : Int, N = ((rnum y : Nat) : Int) := ⟨_, rfl⟩
      have HN := fun W => Lib.hid (rnumber_any y W)
      rw [← hN] at HN
      rw [← hy] at HA
      have HS : Hid (xs ++ [N] = ns l (m + 1 - 1)) := by
        unfold Hid
        rw [show m + 1 - 1 = (m - 1) + 1 by omega, ns_succ, show m - 1 + 1 = m by omega, HXS.out, hN, hy]
        rfl
      clear hy hN HXS
      go_wp2_with (first
        | (go_at_call 61; refine (at_is l v _ _ HA.out _ hvr).mono ?_; rintro e W ⟨rfl, rfl⟩)
        | (go_at_call 63; refine (HN _).out.mono ?_; rintro e W ⟨rfl, rfl⟩)
        | (at_builtin; go_must (refine wpList_append_own _ rfl _ _ 29 rfl (w.heap.size + 1) 3 i0 (.int .i64 0) 1 8 und29 hi j0 j1 j2 rfl (by decide) _ _ _ rfl (hrow.alloc _) ⟨wr.heap.size, 0, none⟩ 1 1 [vI N] rfl rfl ?c1 ?c2 ?c3 ?c4 ?c5 ?_)))
      case c1 =>
        intro j u hj
        match j, hj with
        | 0, hj => simp at hj; subst hj; first | rfl | (simp [Addr.add]; rfl) | (simp [Addr.add])
        | n + 1, hj => simp at hj
      case c2 => first | rfl | (intro u hu; simp at hu; subst hu; rfl)
      case c3 => unfold maxLen; omega
      case c4 => omega
      case c5 => have := lt_of_block hres; rw [alloc_size]; omega
      intro v5 w5 hrow5 hgrow5 _
      go_wp2_with fail
      go_roundw
      case rel =>
        have hax : Ext wr (wr.alloc (.cells #[vI N] 3)) := Ext.alloc _ _
        have hrl := lt_of_block hres
        refine ⟨m + 1, xs ++ [N], by omega, by omega, by go_num, ?_, HS, ?_, ?_, ?_⟩
        · have := congrArg List.length HS.out
          rw [ns_len] at this
          omega
        · rw [List.map_append, List.length_append]; exact hrow5
        · have hne : u3.ownBlock ≠ some w.heap.size := fun e => by have := (hrow.lt _ e).1; omega
          exact (hgrow5.block _ (by simp; omega) hne.symm).trans ((hax.block _ hrl).trans hres)
        · have hx2 := hx.trans hax
          exact ⟨hgrow5.os.trans hx2.os, hgrow5.tape.trans hx2.tape, hgrow5.output.trans hx2.output, Nat.le_trans hx2.size hgrow5.size, fun k hk => (hgrow5.block k (Nat.lt_of_lt_of_le hk hx2.size) (fun e => by have := (hrow.lt k e.symm).1; omega)).trans (hx2.block k hk)⟩
      case measure => simp [intOf]; omega
    · have hle' : ¬ (m : Int) ≤ 10 := by omega
      have hxs := HXS.out
      rw [show m - 1 = 10 by omega] at hxs
      obtain ⟨g, cap, rfl, hG⟩ := own_row10 hrow hxs hres hx
      clear hxs HXS hrow hres hx i0 hi j0 j1 j2 x0 hb0 r0 hxl hm1 hm11
      have e0 := hG.row 0 (by decide)
      go_wp2_with (first | (go_at_call 61; refine (at_is l v _ _ HZ.out _ hvr).mono ?_; rintro e W ⟨rfl, rfl⟩) | refine wpList_runs 67 rfl rfl (.agg (Cal.ofKind 2).cells.toArray) _ (exec_bz (k := 2) rfl rfl) ?_ | refine wpList_store28 rfl _ _ rfl w.heap.size _ rfl rfl _ hG.res rfl rfl (cal_one _) ?_)
      exact bodyPost_ret (res28 rfl _ _ w.heap.size _ rfl (hG.store (rgk 2 l)).res rfl) rfl ⟨rfl, (hG.store (rgk 2 l)).ext⟩
set_option maxRecDepth 100000 in
set_option maxHeartbeats 4000000 in
theorem rgc_4 (l : List (List UInt8)) (v : Value) (w : World) (hv : StrsAt w v l) (hll : ∀ x ∈ l, x.length ≤ 4294967296) (hx0 : rat l 0 = [105, 110, 99, 111, 109, 105, 110, 103]) : Calls Tryz.prog 62 #[v] w fun e w' => e = .returned (.agg (rgk 4 l).cells.toArray) ∧ Ext w w' := by
  have HZ := Lib.hid (show AtIs l 0 [105, 110, 99, 111, 109, 105, 110, 103] from ⟨0, rfl, by decide, hx0⟩)
  have HL3 := Lib.hid (rat_len hll 3)
  have HL4 := Lib.hid (rat_len hll 4)
  clear hx0 hll
  obtain ⟨W0, hW0⟩ : ∃ W0, W0 = (w.alloc (.cells (Cal.ofKind 0).cells.toArray 28)).alloc (.cells #[] 3) := ⟨_, rfl⟩
  have x0 : Ext w W0 := by rw [hW0]; exact (Ext.alloc _ _).trans (Ext.alloc _ _)
  have hb0 : W0.heap[w.heap.size]? = some (.cells (Cal.ofKind 0).cells.toArray 28) := by rw [hW0]; exact two_first _ _ _
  have r0 : W0.ownsRow (w.heap.size + 1) 3 1 (.slice (some ⟨w.heap.size + 1, 0, none⟩) 0 0) 0 [] :=
    ⟨rfl, .inr ⟨w.heap.size + 1, 0, #[], rfl, Nat.le_refl _, by rw [hW0]; exact two_second _ _ _, Nat.le_refl _, by decide, rfl, rfl⟩⟩
  rw [zero28] at hW0
  have HW := Lib.hid hW0
  clear hW0
  obtain ⟨i0, hi, j0, j1, j2⟩ := info_parts Tryz.info3
  go_enter Tryz.func62, Tryz.ntmps62
  go_wp2_with (first
    | refine wpList_runs 6 rfl rfl _ _ (exec_bs0i rfl) ?_)
  have hsz : (w.alloc (.cells (#[.int .i64 0, .int .i64 0, .int .i64 0, .int .i64 0, .string ⟨#[]⟩, .int .i64 0, .int .i64 0, .int .i64 0, .string ⟨#[]⟩, .string ⟨#[]⟩, .int .i64 0, .int .i64 0, .int .i64 0, .int .i64 0, .int .i64 0, .int .i64 0] : Array Value) 28)).heap.size = w.heap.size + 1 := by simp
  try rw [hsz]
  clear hsz
  rw [← HW.out]
  clear HW
  go_loopw [3, 4] (fun u i wq => ∃ (m : Nat) (xs : List Int), 1 ≤ m ∧ m ≤ 11 ∧ i = .int .i64 m ∧ xs.length ≤ 10 ∧ Hid (xs = ns l (m - 1)) ∧ wq.ownsRow (w.heap.size + 1) 3 1 u xs.length (xs.map vI) ∧ wq.heap[w.heap.size]? = some (.cells (Cal.ofKind 0).cells.toArray 28) ∧ Ext w wq) (fun _ i _ => 20 - (intOf i).toNat)
  case atStart => exact ⟨1, [], Nat.le_refl _, by decide, rfl, by simp, rfl, r0, hb0, x0⟩
  case round =>
    obtain ⟨m, xs, hm1, hm11, rfl, hxl, HXS, hrow, hres, hx⟩ := hrel
    have hvr := hv.ext hx
    by_cases hle : m ≤ 10
    · have hle' : (m : Int) ≤ 10 := by omega
      have HA := Lib.hid (show AtIs l (m : Int) (rat l m) from ⟨m, rfl, by omega, rfl⟩)
      obtain ⟨y, hy⟩ : ∃ y, y = rat l m := ⟨_, rfl⟩
      obtain ⟨N, hN⟩ : ∃ N : Int, N = ((rnum y : Nat) : Int) := ⟨_, rfl⟩
      have HN := fun W => Lib.hid (rnumber_any y W)
      rw [← hN] at HN
      rw [← hy] at HA
      have HS : Hid (xs ++ [N] = ns l (m + 1 - 1)) := by
        unfold Hid
        rw [show m + 1 - 1 = (m - 1) + 1 by omega, ns_succ, show m - 1 + 1 = m by omega, HXS.out, hN, hy]
        rfl
      clear hy hN HXS
      go_wp2_with (first
        | (go_at_call 61; refine (at_is l v _ _ HA.out _ hvr).mono ?_; rintro e W ⟨rfl, rfl⟩)
        | (go_at_call 63; refine (HN _).out.mono ?_; rintro e W ⟨rfl, rfl⟩)
        | (at_builtin; go_must (refine wpList_append_own _ rfl _ _ 29 rfl (w.heap.size + 1) 3 i0 (.int .i64 0) 1 8 und29 hi j0 j1 j2 rfl (by decide) _ _ _ rfl (hrow.alloc _) ⟨wr.heap.size, 0, none⟩ 1 1 [vI N] rfl rfl ?c1 ?c2 ?c3 ?c4 ?c5 ?_)))
      case c1 =>
        intro j u hj
        match j, hj with
        | 0, hj => simp at hj; subst hj; first | rfl | (simp [Addr.add]; rfl) | (simp [Addr.add])
        | n + 1, hj => simp at hj
      case c2 => first | rfl | (intro u hu; simp at hu; subst hu; rfl)
      case c3 => unfold maxLen; omega
      case c4 => omega
      case c5 => have := lt_of_block hres; rw [alloc_size]; omega
      intro v5 w5 hrow5 hgrow5 _
      go_wp2_with fail
      go_roundw
      case rel =>
        have hax : Ext wr (wr.alloc (.cells #[vI N] 3)) := Ext.alloc _ _
        have hrl := lt_of_block hres
        refine ⟨m + 1, xs ++ [N], by omega, by omega, by go_num, ?_, HS, ?_, ?_, ?_⟩
        · have := congrArg List.length HS.out
          rw [ns_len] at this
          omega
        · rw [List.map_append, List.length_append]; exact hrow5
        · have hne : u3.ownBlock ≠ some w.heap.size := fun e => by have := (hrow.lt _ e).1; omega
          exact (hgrow5.block _ (by simp; omega) hne.symm).trans ((hax.block _ hrl).trans hres)
        · have hx2 := hx.trans hax
          exact ⟨hgrow5.os.trans hx2.os, hgrow5.tape.trans hx2.tape, hgrow5.output.trans hx2.output, Nat.le_trans hx2.size hgrow5.size, fun k hk => (hgrow5.block k (Nat.lt_of_lt_of_le hk hx2.size) (fun e => by have := (hrow.lt k e.symm).1; omega)).trans (hx2.block k hk)⟩
      case measure => simp [intOf]; omega
    · have hle' : ¬ (m : Int) ≤ 10 := by omega
      have hxs := HXS.out
      rw [show m - 1 = 10 by omega] at hxs
      obtain ⟨g, cap, rfl, hG⟩ := own_row10 hrow hxs hres hx
      clear hxs HXS hrow hres hx i0 hi j0 j1 j2 x0 hb0 r0 hxl hm1 hm11
      have e0 := hG.row 0 (by decide)
      go_wp2_with (first | (go_at_call 61; refine (at_is l v _ _ HZ.out _ hvr).mono ?_; rintro e W ⟨rfl, rfl⟩) | refine wpList_runs 86 rfl rfl (.agg (rgk 4 l).cells.toArray) _ (exec_bg4 rfl rfl rfl) ?_ | refine wpList_store28 rfl _ _ rfl w.heap.size _ rfl rfl _ hG.res rfl rfl (cal_one _) ?_)
      exact bodyPost_ret (res28 rfl _ _ w.heap.size _ rfl (hG.store (rgk 4 l)).res rfl) rfl ⟨rfl, (hG.store (rgk 4 l)).ext⟩
set_option maxRecDepth 100000 in
set_option maxHeartbeats 4000000 in
theorem rgc_11 (l : List (List UInt8)) (v : Value) (w : World) (hv : StrsAt w v l) (hll : ∀ x ∈ l, x.length ≤ 4294967296) (hx0 : rat l 0 = [117, 112, 100, 97, 116, 101]) : Calls Tryz.prog 62 #[v] w fun e w' => e = .returned (.agg (rgk 11 l).cells.toArray) ∧ Ext w w' := by
  have HZ := Lib.hid (show AtIs l 0 [117, 112, 100, 97, 116, 101] from ⟨0, rfl, by decide, hx0⟩)
  have HL3 := Lib.hid (rat_len hll 3)
  have HL4 := Lib.hid (rat_len hll 4)
  clear hx0 hll
  obtain ⟨W0, hW0⟩ : ∃ W0, W0 = (w.alloc (.cells (Cal.ofKind 0).cells.toArray 28)).alloc (.cells #[] 3) := ⟨_, rfl⟩
  have x0 : Ext w W0 := by rw [hW0]; exact (Ext.alloc _ _).trans (Ext.alloc _ _)
  have hb0 : W0.heap[w.heap.size]? = some (.cells (Cal.ofKind 0).cells.toArray 28) := by rw [hW0]; exact two_first _ _ _
  have r0 : W0.ownsRow (w.heap.size + 1) 3 1 (.slice (some ⟨w.heap.size + 1, 0, none⟩) 0 0) 0 [] :=
    ⟨rfl, .inr ⟨w.heap.size + 1, 0, #[], rfl, Nat.le_refl _, by rw [hW0]; exact two_second _ _ _, Nat.le_refl _, by decide, rfl, rfl⟩⟩
  rw [zero28] at hW0
  have HW := Lib.hid hW0
  clear hW0
  obtain ⟨i0, hi, j0, j1, j2⟩ := info_parts Tryz.info3
  go_enter Tryz.func62, Tryz.ntmps62
  go_wp2_with (first
    | refine wpList_runs 6 rfl rfl _ _ (exec_bs0i rfl) ?_)
  have hsz : (w.alloc (.cells (#[.int .i64 0, .int .i64 0, .int .i64 0, .int .i64 0, .string ⟨#[]⟩, .int .i64 0, .int .i64 0, .int .i64 0, .string ⟨#[]⟩, .string ⟨#[]⟩, .int .i64 0, .int .i64 0, .int .i64 0, .int .i64 0, .int .i64 0, .int .i64 0] : Array Value) 28)).heap.size = w.heap.size + 1 := by simp
  try rw [hsz]
  clear hsz
  rw [← HW.out]
  clear HW
  go_loopw [3, 4] (fun u i wq => ∃ (m : Nat) (xs : List Int), 1 ≤ m ∧ m ≤ 11 ∧ i = .int .i64 m ∧ xs.length ≤ 10 ∧ Hid (xs = ns l (m - 1)) ∧ wq.ownsRow (w.heap.size + 1) 3 1 u xs.length (xs.map vI) ∧ wq.heap[w.heap.size]? = some (.cells (Cal.ofKind 0).cells.toArray 28) ∧ Ext w wq) (fun _ i _ => 20 - (intOf i).toNat)
  case atStart => exact ⟨1, [], Nat.le_refl _, by decide, rfl, by simp, rfl, r0, hb0, x0⟩
  case round =>
    obtain ⟨m, xs, hm1, hm11, rfl, hxl, HXS, hrow, hres, hx⟩ := hrel
    have hvr := hv.ext hx
    by_cases hle : m ≤ 10
    · have hle' : (m : Int) ≤ 10 := by omega
      have HA := Lib.hid (show AtIs l (m : Int) (rat l m) from ⟨m, rfl, by omega, rfl⟩)
      obtain ⟨y, hy⟩ : ∃ y, y = rat l m := ⟨_, rfl⟩
      obtain ⟨N, hN⟩ : ∃ N : Int, N = ((rnum y : Nat) : Int) := ⟨_, rfl⟩
      have HN := fun W => Lib.hid (rnumber_any y W)
      rw [← hN] at HN
      rw [← hy] at HA
      have HS : Hid (xs ++ [N] = ns l (m + 1 - 1)) := by
        unfold Hid
        rw [show m + 1 - 1 = (m - 1) + 1 by omega, ns_succ, show m - 1 + 1 = m by omega, HXS.out, hN, hy]
        rfl
      clear hy hN HXS
      go_wp2_with (first
        | (go_at_call 61; refine (at_is l v _ _ HA.out _ hvr).mono ?_; rintro e W ⟨rfl, rfl⟩)
        | (go_at_call 63; refine (HN _).out.mono ?_; rintro e W ⟨rfl, rfl⟩)
        | (at_builtin; go_must (refine wpList_append_own _ rfl _ _ 29 rfl (w.heap.size + 1) 3 i0 (.int .i64 0) 1 8 und29 hi j0 j1 j2 rfl (by decide) _ _ _ rfl (hrow.alloc _) ⟨wr.heap.size, 0, none⟩ 1 1 [vI N] rfl rfl ?c1 ?c2 ?c3 ?c4 ?c5 ?_)))
      case c1 =>
        intro j u hj
        match j, hj with
        | 0, hj => simp at hj; subst hj; first | rfl | (simp [Addr.add]; rfl) | (simp [Addr.add])
        | n + 1, hj => simp at hj
      case c2 => first | rfl | (intro u hu; simp at hu; subst hu; rfl)
      case c3 => unfold maxLen; omega
      case c4 => omega
      case c5 => have := lt_of_block hres; rw [alloc_size]; omega
      intro v5 w5 hrow5 hgrow5 _
      go_wp2_with fail
      go_roundw
      case rel =>
        have hax : Ext wr (wr.alloc (.cells #[vI N] 3)) := Ext.alloc _ _
        have hrl := lt_of_block hres
        refine ⟨m + 1, xs ++ [N], by omega, by omega, by go_num, ?_, HS, ?_, ?_, ?_⟩
        · have := congrArg List.length HS.out
          rw [ns_len] at this
          omega
        · rw [List.map_append, List.length_append]; exact hrow5
        · have hne : u3.ownBlock ≠ some w.heap.size := fun e => by have := (hrow.lt _ e).1; omega
          exact (hgrow5.block _ (by simp; omega) hne.symm).trans ((hax.block _ hrl).trans hres)
        · have hx2 := hx.trans hax
          exact ⟨hgrow5.os.trans hx2.os, hgrow5.tape.trans hx2.tape, hgrow5.output.trans hx2.output, Nat.le_trans hx2.size hgrow5.size, fun k hk => (hgrow5.block k (Nat.lt_of_lt_of_le hk hx2.size) (fun e => by have := (hrow.lt k e.symm).1; omega)).trans (hx2.block k hk)⟩
      case measure => simp [intOf]; omega
    · have hle' : ¬ (m : Int) ≤ 10 := by omega
      have hxs := HXS.out
      rw [show m - 1 = 10 by omega] at hxs
      obtain ⟨g, cap, rfl, hG⟩ := own_row10 hrow hxs hres hx
      clear hxs HXS hrow hres hx i0 hi j0 j1 j2 x0 hb0 r0 hxl hm1 hm11
      have e0 := hG.row 0 (by decide)
      go_wp2_with (first | (go_at_call 61; refine (at_is l v _ _ HZ.out _ hvr).mono ?_; rintro e W ⟨rfl, rfl⟩) | refine wpList_runs 158 rfl rfl (.agg (rgk 11 l).cells.toArray) _ (exec_bg11 rfl rfl rfl) ?_ | refine wpList_store28 rfl _ _ rfl w.heap.size _ rfl rfl _ hG.res rfl rfl (cal_one _) ?_)
      exact bodyPost_ret (res28 rfl _ _ w.heap.size _ rfl (hG.store (rgk 11 l)).res rfl) rfl ⟨rfl, (hG.store (rgk 11 l)).ext⟩
set_option maxRecDepth 100000 in
set_option maxHeartbeats 4000000 in
theorem rgc_13 (l : List (List UInt8)) (v : Value) (w : World) (hv : StrsAt w v l) (hll : ∀ x ∈ l, x.length ≤ 4294967296) (hx0 : rat l 0 = [115, 101, 115, 115, 105, 111, 110]) : Calls Tryz.prog 62 #[v] w fun e w' => e = .returned (.agg (rgk 13 l).cells.toArray) ∧ Ext w w' := by
  have HZ := Lib.hid (show AtIs l 0 [115, 101, 115, 115, 105, 111, 110] from ⟨0, rfl, by decide, hx0⟩)
  have HL3 := Lib.hid (rat_len hll 3)
  have HL4 := Lib.hid (rat_len hll 4)
  clear hx0 hll
  obtain ⟨W0, hW0⟩ : ∃ W0, W0 = (w.alloc (.cells (Cal.ofKind 0).cells.toArray 28)).alloc (.cells #[] 3) := ⟨_, rfl⟩
  have x0 : Ext w W0 := by rw [hW0]; exact (Ext.alloc _ _).trans (Ext.alloc _ _)
  have hb0 : W0.heap[w.heap.size]? = some (.cells (Cal.ofKind 0).cells.toArray 28) := by rw [hW0]; exact two_first _ _ _
  have r0 : W0.ownsRow (w.heap.size + 1) 3 1 (.slice (some ⟨w.heap.size + 1, 0, none⟩) 0 0) 0 [] :=
    ⟨rfl, .inr ⟨w.heap.size + 1, 0, #[], rfl, Nat.le_refl _, by rw [hW0]; exact two_second _ _ _, Nat.le_refl _, by decide, rfl, rfl⟩⟩
  rw [zero28] at hW0
  have HW := Lib.hid hW0
  clear hW0
  obtain ⟨i0, hi, j0, j1, j2⟩ := info_parts Tryz.info3
  go_enter Tryz.func62, Tryz.ntmps62
  go_wp2_with (first
    | refine wpList_runs 6 rfl rfl _ _ (exec_bs0i rfl) ?_)
  have hsz : (w.alloc (.cells (#[.int .i64 0, .int .i64 0, .int .i64 0, .int .i64 0, .string ⟨#[]⟩, .int .i64 0, .int .i64 0, .int .i64 0, .string ⟨#[]⟩, .string ⟨#[]⟩, .int .i64 0, .int .i64 0, .int .i64 0, .int .i64 0, .int .i64 0, .int .i64 0] : Array Value) 28)).heap.size = w.heap.size + 1 := by simp
  try rw [hsz]
  clear hsz
  rw [← HW.out]
  clear HW
  go_loopw [3, 4] (fun u i wq => ∃ (m : Nat) (xs : List Int), 1 ≤ m ∧ m ≤ 11 ∧ i = .int .i64 m ∧ xs.length ≤ 10 ∧ Hid (xs = ns l (m - 1)) ∧ wq.ownsRow (w.heap.size + 1) 3 1 u xs.length (xs.map vI) ∧ wq.heap[w.heap.size]? = some (.cells (Cal.ofKind 0).cells.toArray 28) ∧ Ext w wq) (fun _ i _ => 20 - (intOf i).toNat)
  case atStart => exact ⟨1, [], Nat.le_refl _, by decide, rfl, by simp, rfl, r0, hb0, x0⟩
  case round =>
    obtain ⟨m, xs, hm1, hm11, rfl, hxl, HXS, hrow, hres, hx⟩ := hrel
    have hvr := hv.ext hx
    by_cases hle : m ≤ 10
    · have hle' : (m : Int) ≤ 10 := by omega
      have HA := Lib.hid (show AtIs l (m : Int) (rat l m) from ⟨m, rfl, by omega, rfl⟩)
      obtain ⟨y, hy⟩ : ∃ y, y = rat l m := ⟨_, rfl⟩
      obtain ⟨N, hN⟩ : ∃ N : Int, N = ((rnum y : Nat) : Int) := ⟨_, rfl⟩
      have HN := fun W => Lib.hid (rnumber_any y W)
      rw [← hN] at HN
      rw [← hy] at HA
      have HS : Hid (xs ++ [N] = ns l (m + 1 - 1)) := by
        unfold Hid
        rw [show m + 1 - 1 = (m - 1) + 1 by omega, ns_succ, show m - 1 + 1 = m by omega, HXS.out, hN, hy]
        rfl
      clear hy hN HXS
      go_wp2_with (first
        | (go_at_call 61; refine (at_is l v _ _ HA.out _ hvr).mono ?_; rintro e W ⟨rfl, rfl⟩)
        | (go_at_call 63; refine (HN _).out.mono ?_; rintro e W ⟨rfl, rfl⟩)
        | (at_builtin; go_must (refine wpList_append_own _ rfl _ _ 29 rfl (w.heap.size + 1) 3 i0 (.int .i64 0) 1 8 und29 hi j0 j1 j2 rfl (by decide) _ _ _ rfl (hrow.alloc _) ⟨wr.heap.size, 0, none⟩ 1 1 [vI N] rfl rfl ?c1 ?c2 ?c3 ?c4 ?c5 ?_)))
      case c1 =>
        intro j u hj
        match j, hj with
        | 0, hj => simp at hj; subst hj; first | rfl | (simp [Addr.add]; rfl) | (simp [Addr.add])
        | n + 1, hj => simp at hj
      case c2 => first | rfl | (intro u hu; simp at hu; subst hu; rfl)
      case c3 => unfold maxLen; omega
      case c4 => omega
      case c5 => have := lt_of_block hres; rw [alloc_size]; omega
      intro v5 w5 hrow5 hgrow5 _
      go_wp2_with fail
      go_roundw
      case rel =>
        have hax : Ext wr (wr.alloc (.cells #[vI N] 3)) := Ext.alloc _ _
        have hrl := lt_of_block hres
        refine ⟨m + 1, xs ++ [N], by omega, by omega, by go_num, ?_, HS, ?_, ?_, ?_⟩
        · have := congrArg List.length HS.out
          rw [ns_len] at this
          omega
        · rw [List.map_append, List.length_append]; exact hrow5
        · have hne : u3.ownBlock ≠ some w.heap.size := fun e => by have := (hrow.lt _ e).1; omega
          exact (hgrow5.block _ (by simp; omega) hne.symm).trans ((hax.block _ hrl).trans hres)
        · have hx2 := hx.trans hax
          exact ⟨hgrow5.os.trans hx2.os, hgrow5.tape.trans hx2.tape, hgrow5.output.trans hx2.output, Nat.le_trans hx2.size hgrow5.size, fun k hk => (hgrow5.block k (Nat.lt_of_lt_of_le hk hx2.size) (fun e => by have := (hrow.lt k e.symm).1; omega)).trans (hx2.block k hk)⟩
      case measure => simp [intOf]; omega
    · have hle' : ¬ (m : Int) ≤ 10 := by omega
      have hxs := HXS.out
      rw [show m - 1 = 10 by omega] at hxs
      obtain ⟨g, cap, rfl, hG⟩ := own_row10 hrow hxs hres hx
      clear hxs HXS hrow hres hx i0 hi j0 j1 j2 x0 hb0 r0 hxl hm1 hm11
      have e0 := hG.row 0 (by decide)
      go_wp2_with (first | (go_at_call 61; refine (at_is l v _ _ HZ.out _ hvr).mono ?_; rintro e W ⟨rfl, rfl⟩) | refine wpList_runs 173 rfl rfl (.agg (rgk 13 l).cells.toArray) _ (exec_bg13 rfl rfl rfl) ?_ | refine wpList_store28 rfl _ _ rfl w.heap.size _ rfl rfl _ hG.res rfl rfl (cal_one _) ?_)
      exact bodyPost_ret (res28 rfl _ _ w.heap.size _ rfl (hG.store (rgk 13 l)).res rfl) rfl ⟨rfl, (hG.store (rgk 13 l)).ext⟩
set_option maxRecDepth 100000 in
set_option maxHeartbeats 4000000 in
theorem rgc_3u (l : List (List UInt8)) (v : Value) (w : World) (hv : StrsAt w v l) (hll : ∀ x ∈ l, x.length ≤ 4294967296) (hu : rat l 2 = wUni) (hx0 : rat l 0 = [111, 112, 101, 110]) : Calls Tryz.prog 62 #[v] w fun e w' => e = .returned (.agg (rgk 3 l).cells.toArray) ∧ Ext w w' := by
  have HZ := Lib.hid (show AtIs l 0 [111, 112, 101, 110] from ⟨0, rfl, by decide, hx0⟩)
  have HL3 := Lib.hid (rat_len hll 3)
  have HL4 := Lib.hid (rat_len hll 4)
  have HK : Hid (rgk 3 l = ({ Cal.ofKind 3 with conn := rn l 1, n := 1 } : Cal)) := by
    unfold Hid rgk
    simp only [hu]
    rfl
  have HU := Lib.hid (show AtIs l 2 [117, 110, 105] from ⟨2, rfl, by decide, hu⟩)
  clear hx0 hll hu
  obtain ⟨W0, hW0⟩ : ∃ W0, W0 = (w.alloc (.cells (Cal.ofKind 0).cells.toArray 28)).alloc (.cells #[] 3) := ⟨_, rfl⟩
  have x0 : Ext w W0 := by rw [hW0]; exact (Ext.alloc _ _).trans (Ext.alloc _ _)
  have hb0 : W0.heap[w.heap.size]? = some (.cells (Cal.ofKind 0).cells.toArray 28) := by rw [hW0]; exact two_first _ _ _
  have r0 : W0.ownsRow (w.heap.size + 1) 3 1 (.slice (some ⟨w.heap.size + 1, 0, none⟩) 0 0) 0 [] :=
    ⟨rfl, .inr ⟨w.heap.size + 1, 0, #[], rfl, Nat.le_refl _, by rw [hW0]; exact two_second _ _ _, Nat.le_refl _, by decide, rfl, rfl⟩⟩
  rw [zero28] at hW0
  have HW := Lib.hid hW0
  clear hW0
  obtain ⟨i0, hi, j0, j1, j2⟩ := info_parts Tryz.info3
  go_enter Tryz.func62, Tryz.ntmps62
  go_wp2_with (first
    | refine wpList_runs 6 rfl rfl _ _ (exec_bs0i rfl) ?_)
  have hsz : (w.alloc (.cells (#[.int .i64 0, .int .i64 0, .int .i64 0, .int .i64 0, .string ⟨#[]⟩, .int .i64 0, .int .i64 0, .int .i64 0, .string ⟨#[]⟩, .string ⟨#[]⟩, .int .i64 0, .int .i64 0, .int .i64 0, .int .i64 0, .int .i64 0, .int .i64 0] : Array Value) 28)).heap.size = w.heap.size + 1 := by simp
  try rw [hsz]
  clear hsz
  rw [← HW.out]
  clear HW
  go_loopw [3, 4] (fun u i wq => ∃ (m : Nat) (xs : List Int), 1 ≤ m ∧ m ≤ 11 ∧ i = .int .i64 m ∧ xs.length ≤ 10 ∧ Hid (xs = ns l (m - 1)) ∧ wq.ownsRow (w.heap.size + 1) 3 1 u xs.length (xs.map vI) ∧ wq.heap[w.heap.size]? = some (.cells (Cal.ofKind 0).cells.toArray 28) ∧ Ext w wq) (fun _ i _ => 20 - (intOf i).toNat)
  case atStart => exact ⟨1, [], Nat.le_refl _, by decide, rfl, by simp, rfl, r0, hb0, x0⟩
  case round =>
    obtain ⟨m, xs, hm1, hm11, rfl, hxl, HXS, hrow, hres, hx⟩ := hrel
    have hvr := hv.ext hx
    by_cases hle : m ≤ 10
    · have hle' : (m : Int) ≤ 10 := by omega
      have HA := Lib.hid (show AtIs l (m : Int) (rat l m) from ⟨m, rfl, by omega, rfl⟩)
      obtain ⟨y, hy⟩ : ∃ y, y = rat l m := ⟨_, rfl⟩
      obtain ⟨N, hN⟩ : ∃ N : Int, N = ((rnum y : Nat) : Int) := ⟨_, rfl⟩
      have HN := fun W => Lib.hid (rnumber_any y W)
      rw [← hN] at HN
      rw [← hy] at HA
      have HS : Hid (xs ++ [N] = ns l (m + 1 - 1)) := by
        unfold Hid
        rw [show m + 1 - 1 = (m - 1) + 1 by omega, ns_succ, show m - 1 + 1 = m by omega, HXS.out, hN, hy]
        rfl
      clear hy hN HXS
      go_wp2_with (first
        | (go_at_call 61; refine (at_is l v _ _ HA.out _ hvr).mono ?_; rintro e W ⟨rfl, rfl⟩)
        | (go_at_call 63; refine (HN _).out.mono ?_; rintro e W ⟨rfl, rfl⟩)
        | (at_builtin; go_must (refine wpList_append_own _ rfl _ _ 29 rfl (w.heap.size + 1) 3 i0 (.int .i64 0) 1 8 und29 hi j0 j1 j2 rfl (by decide) _ _ _ rfl (hrow.alloc _) ⟨wr.heap.size, 0, none⟩ 1 1 [vI N] rfl rfl ?c1 ?c2 ?c3 ?c4 ?c5 ?_)))
      case c1 =>
        intro j u hj
        match j, hj with
        | 0, hj => simp at hj; subst hj; first | rfl | (simp [Addr.add]; rfl) | (simp [Addr.add])
        | n + 1, hj => simp at hj
      case c2 => first | rfl | (intro u hu; simp at hu; subst hu; rfl)
      case c3 => unfold maxLen; omega
      case c4 => omega
      case c5 => have := lt_of_block hres; rw [alloc_size]; omega
      intro v5 w5 hrow5 hgrow5 _
      go_wp2_with fail
      go_roundw
      case rel =>
        have hax : Ext wr (wr.alloc (.cells #[vI N] 3)) := Ext.alloc _ _
        have hrl := lt_of_block hres
        refine ⟨m + 1, xs ++ [N], by omega, by omega, by go_num, ?_, HS, ?_, ?_, ?_⟩
        · have := congrArg List.length HS.out
          rw [ns_len] at this
          omega
        · rw [List.map_append, List.length_append]; exact hrow5
        · have hne : u3.ownBlock ≠ some w.heap.size := fun e => by have := (hrow.lt _ e).1; omega
          exact (hgrow5.block _ (by simp; omega) hne.symm).trans ((hax.block _ hrl).trans hres)
        · have hx2 := hx.trans hax
          exact ⟨hgrow5.os.trans hx2.os, hgrow5.tape.trans hx2.tape, hgrow5.output.trans hx2.output, Nat.le_trans hx2.size hgrow5.size, fun k hk => (hgrow5.block k (Nat.lt_of_lt_of_le hk hx2.size) (fun e => by have := (hrow.lt k e.symm).1; omega)).trans (hx2.block k hk)⟩
      case measure => simp [intOf]; omega
    · have hle' : ¬ (m : Int) ≤ 10 := by omega
      have hxs := HXS.out
      rw [show m - 1 = 10 by omega] at hxs
      obtain ⟨g, cap, rfl, hG⟩ := own_row10 hrow hxs hres hx
      clear hxs HXS hrow hres hx i0 hi j0 j1 j2 x0 hb0 r0 hxl hm1 hm11
      have e0 := hG.row 0 (by decide)
      go_wp2_with (first | (go_at_call 61; refine (at_is l v _ _ (by with_reducible first | exact HZ.out | exact HU.out) _ hvr).mono ?_; rintro e W ⟨rfl, rfl⟩) | refine wpList_runs 76 rfl rfl (.agg ({ Cal.ofKind 3 with conn := rn l 1, n := 1 } : Cal).cells.toArray) _ (exec_bg3u rfl rfl rfl rfl) ?_ | refine wpList_store28 rfl _ _ rfl w.heap.size _ rfl rfl _ hG.res rfl rfl (cal_one _) ?_)
      rw [HK.out]
      exact bodyPost_ret (res28 rfl _ _ w.heap.size _ rfl (hG.store ({ Cal.ofKind 3 with conn := rn l 1, n := 1 } : Cal)).res rfl) rfl ⟨rfl, (hG.store ({ Cal.ofKind 3 with conn := rn l 1, n := 1 } : Cal)).ext⟩
set_option maxRecDepth 100000 in
set_option maxHeartbeats 4000000 in
theorem rgc_3b (l : List (List UInt8)) (v : Value) (w : World) (hv : StrsAt w v l) (hll : ∀ x ∈ l, x.length ≤ 4294967296) (hu : rat l 2 ≠ wUni) (hx0 : rat l 0 = [111, 112, 101, 110]) : Calls Tryz.prog 62 #[v] w fun e w' => e = .returned (.agg (rgk 3 l).cells.toArray) ∧ Ext w w' := by
  have HZ := Lib.hid (show AtIs l 0 [111, 112, 101, 110] from ⟨0, rfl, by decide, hx0⟩)
  have HL3 := Lib.hid (rat_len hll 3)
  have HL4 := Lib.hid (rat_len hll 4)
  obtain ⟨x2, hx2⟩ : ∃ x2, x2 = rat l 2 := ⟨_, rfl⟩
  have hne : (x2 == [117, 110, 105]) = false := beq_eq_false_iff_ne.2 (by rw [hx2]; exact hu)
  have HK : Hid (rgk 3 l = ({ Cal.ofKind 3 with conn := rn l 1 } : Cal)) := by
    unfold Hid rgk
    rw [if_neg hu]
    rfl
  have HU := Lib.hid (show AtIs l 2 x2 from ⟨2, rfl, by decide, hx2.symm⟩)
  clear hx0 hll hu hx2
  obtain ⟨W0, hW0⟩ : ∃ W0, W0 = (w.alloc (.cells (Cal.ofKind 0).cells.toArray 28)).alloc (.cells #[] 3) := ⟨_, rfl⟩
  have x0 : Ext w W0 := by rw [hW0]; exact (Ext.alloc _ _).trans (Ext.alloc _ _)
  have hb0 : W0.heap[w.heap.size]? = some (.cells (Cal.ofKind 0).cells.toArray 28) := by rw [hW0]; exact two_first _ _ _
  have r0 : W0.ownsRow (w.heap.size + 1) 3 1 (.slice (some ⟨w.heap.size + 1, 0, none⟩) 0 0) 0 [] :=
    ⟨rfl, .inr ⟨w.heap.size + 1, 0, #[], rfl, Nat.le_refl _, by rw [hW0]; exact two_second _ _ _, Nat.le_refl _, by decide, rfl, rfl⟩⟩
  rw [zero28] at hW0
  have HW := Lib.hid hW0
  clear hW0
  obtain ⟨i0, hi, j0, j1, j2⟩ := info_parts Tryz.info3
  go_enter Tryz.func62, Tryz.ntmps62
  go_wp2_with (first
    | refine wpList_runs 6 rfl rfl _ _ (exec_bs0i rfl) ?_)
  have hsz : (w.alloc (.cells (#[.int .i64 0, .int .i64 0, .int .i64 0, .int .i64 0, .string ⟨#[]⟩, .int .i64 0, .int .i64 0, .int .i64 0, .string ⟨#[]⟩, .string ⟨#[]⟩, .int .i64 0, .int .i64 0, .int .i64 0, .int .i64 0, .int .i64 0, .int .i64 0] : Array Value) 28)).heap.size = w.heap.size + 1 := by simp
  try rw [hsz]
  clear hsz
  rw [← HW.out]
  clear HW
  go_loopw [3, 4] (fun u i wq => ∃ (m : Nat) (xs : List Int), 1 ≤ m ∧ m ≤ 11 ∧ i = .int .i64 m ∧ xs.length ≤ 10 ∧ Hid (xs = ns l (m - 1)) ∧ wq.ownsRow (w.heap.size + 1) 3 1 u xs.length (xs.map vI) ∧ wq.heap[w.heap.size]? = some (.cells (Cal.ofKind 0).cells.toArray 28) ∧ Ext w wq) (fun _ i _ => 20 - (intOf i).toNat)
  case atStart => exact ⟨1, [], Nat.le_refl _, by decide, rfl, by simp, rfl, r0, hb0, x0⟩
  case round =>
    obtain ⟨m, xs, hm1, hm11, rfl, hxl, HXS, hrow, hres, hx⟩ := hrel
    have hvr := hv.ext hx
    by_cases hle : m ≤ 10
    · have hle' : (m : Int) ≤ 10 := by omega
      have HA := Lib.hid (show AtIs l (m : Int) (rat l m) from ⟨m, rfl, by omega, rfl⟩)
      obtain ⟨y, hy⟩ : ∃ y, y = rat l m := ⟨_, rfl⟩
      obtain ⟨N, hN⟩ : ∃ N : Int, N = ((rnum y : Nat) : Int) := ⟨_, rfl⟩
      have HN := fun W => Lib.hid (rnumber_any y W)
      rw [← hN] at HN
      rw [← hy] at HA
      have HS : Hid (xs ++ [N] = ns l (m + 1 - 1)) := by
        unfold Hid
        rw [show m + 1 - 1 = (m - 1) + 1 by omega, ns_succ, show m - 1 + 1 = m by omega, HXS.out, hN, hy]
        rfl
      clear hy hN HXS
      go_wp2_with (first
        | (go_at_call 61; refine (at_is l v _ _ HA.out _ hvr).mono ?_; rintro e W ⟨rfl, rfl⟩)
        | (go_at_call 63; refine (HN _).out.mono ?_; rintro e W ⟨rfl, rfl⟩)
        | (at_builtin; go_must (refine wpList_append_own _ rfl _ _ 29 rfl (w.heap.size + 1) 3 i0 (.int .i64 0) 1 8 und29 hi j0 j1 j2 rfl (by decide) _ _ _ rfl (hrow.alloc _) ⟨wr.heap.size, 0, none⟩ 1 1 [vI N] rfl rfl ?c1 ?c2 ?c3 ?c4 ?c5 ?_)))
      case c1 =>
        intro j u hj
        match j, hj with
        | 0, hj => simp at hj; subst hj; first | rfl | (simp [Addr.add]; rfl) | (simp [Addr.add])
        | n + 1, hj => simp at hj
      case c2 => first | rfl | (intro u hu; simp at hu; subst hu; rfl)
      case c3 => unfold maxLen; omega
      case c4 => omega
      case c5 => have := lt_of_block hres; rw [alloc_size]; omega
      intro v5 w5 hrow5 hgrow5 _
      go_wp2_with fail
      go_roundw
      case rel =>
        have hax : Ext wr (wr.alloc (.cells #[vI N] 3)) := Ext.alloc _ _
        have hrl := lt_of_block hres
        refine ⟨m + 1, xs ++ [N], by omega, by omega, by go_num, ?_, HS, ?_, ?_, ?_⟩
        · have := congrArg List.length HS.out
          rw [ns_len] at this
          omega
        · rw [List.map_append, List.length_append]; exact hrow5
        · have hne : u3.ownBlock ≠ some w.heap.size := fun e => by have := (hrow.lt _ e).1; omega
          exact (hgrow5.block _ (by simp; omega) hne.symm).trans ((hax.block _ hrl).trans hres)
        · have hx2 := hx.trans hax
          exact ⟨hgrow5.os.trans hx2.os, hgrow5.tape.trans hx2.tape, hgrow5.output.trans hx2.output, Nat.le_trans hx2.size hgrow5.size, fun k hk => (hgrow5.block k (Nat.lt_of_lt_of_le hk hx2.size) (fun e => by have := (hrow.lt k e.symm).1; omega)).trans (hx2.block k hk)⟩
      case measure => simp [intOf]; omega
    · have hle' : ¬ (m : Int) ≤ 10 := by omega
      have hxs := HXS.out
      rw [show m - 1 = 10 by omega] at hxs
      obtain ⟨g, cap, rfl, hG⟩ := own_row10 hrow hxs hres hx
      clear hxs HXS hrow hres hx i0 hi j0 j1 j2 x0 hb0 r0 hxl hm1 hm11
      have e0 := hG.row 0 (by decide)
      go_wp2_with (first | (go_at_call 61; refine (at_is l v _ _ (by with_reducible first | exact HZ.out | exact HU.out) _ hvr).mono ?_; rintro e W ⟨rfl, rfl⟩) | refine wpList_runs 80 rfl rfl (.agg ({ Cal.ofKind 3 with conn := rn l 1 } : Cal).cells.toArray) _ (exec_bg3 rfl rfl rfl) ?_ | refine wpList_store28 rfl _ _ rfl w.heap.size _ rfl rfl _ hG.res rfl rfl (cal_one _) ?_)
      rw [HK.out]
      exact bodyPost_ret (res28 rfl _ _ w.heap.size _ rfl (hG.store ({ Cal.ofKind 3 with conn := rn l 1 } : Cal)).res rfl) rfl ⟨rfl, (hG.store ({ Cal.ofKind 3 with conn := rn l 1 } : Cal)).ext⟩
theorem rgc_3 (l : List (List UInt8)) (v : Value) (w : World) (hv : StrsAt w v l) (hll : ∀ x ∈ l, x.length ≤ 4294967296) (hx0 : rat l 0 = [111, 112, 101, 110]) : Calls Tryz.prog 62 #[v] w fun e w' => e = .returned (.agg (rgk 3 l).cells.toArray) ∧ Ext w w' := by
  by_cases hu : rat l 2 = wUni
  · exact rgc_3u l v w hv hll hu hx0
  · exact rgc_3b l v w hv hll hu hx0
set_option maxRecDepth 100000 in
set_option maxHeartbeats 4000000 in
theorem rgc_none (l : List (List UInt8)) (v : Value) (w : World) (hv : StrsAt w v l) (hll : ∀ x ∈ l, x.length ≤ 4294967296) (hx0 : ∀ k, k < 14 → rat l 0 ≠ (formOf k).1) : Calls Tryz.prog 62 #[v] w fun e w' => e = .returned (.agg (Cal.ofKind 0).cells.toArray) ∧ Ext w w' := by
  obtain ⟨x0', hx0'⟩ : ∃ x0', x0' = rat l 0 := ⟨_, rfl⟩
  rw [← hx0'] at hx0
  have n0 : (x0' == [114, 101, 115, 117, 109, 101]) = false := beq_eq_false_iff_ne.2 (hx0 0 (by decide))
  have n1 : (x0' == [100, 105, 97, 108]) = false := beq_eq_false_iff_ne.2 (hx0 1 (by decide))
  have n2 : (x0' == [97, 99, 99, 101, 112, 116]) = false := beq_eq_false_iff_ne.2 (hx0 2 (by decide))
  have n3 : (x0' == [111, 112, 101, 110]) = false := beq_eq_false_iff_ne.2 (hx0 3 (by decide))
  have n4 : (x0' == [105, 110, 99, 111, 109, 105, 110, 103]) = false := beq_eq_false_iff_ne.2 (hx0 4 (by decide))
  have n5 : (x0' == [119, 114, 105, 116, 101]) = false := beq_eq_false_iff_ne.2 (hx0 5 (by decide))
  have n6 : (x0' == [102, 105, 110, 105, 115, 104]) = false := beq_eq_false_iff_ne.2 (hx0 6 (by decide))
  have n7 : (x0' == [114, 101, 115, 101, 116]) = false := beq_eq_false_iff_ne.2 (hx0 7 (by decide))
  have n8 : (x0' == [115, 116, 111, 112]) = false := beq_eq_false_iff_ne.2 (hx0 8 (by decide))
  have n9 : (x0' == [114, 101, 97, 100]) = false := beq_eq_false_iff_ne.2 (hx0 9 (by decide))
  have n10 : (x0' == [99, 108, 111, 115, 101]) = false := beq_eq_false_iff_ne.2 (hx0 10 (by decide))
  have n11 : (x0' == [117, 112, 100, 97, 116, 101]) = false := beq_eq_false_iff_ne.2 (hx0 11 (by decide))
  have n12 : (x0' == [109, 105, 103, 114, 97, 116, 101]) = false := beq_eq_false_iff_ne.2 (hx0 12 (by decide))
  have n13 : (x0' == [115, 101, 115, 115, 105, 111, 110]) = false := beq_eq_false_iff_ne.2 (hx0 13 (by decide))
  have HZ := Lib.hid (show AtIs l 0 x0' from ⟨0, rfl, by decide, hx0'.symm⟩)
  clear hx0'
  have HL3 := Lib.hid (rat_len hll 3)
  have HL4 := Lib.hid (rat_len hll 4)
  clear hx0 hll
  obtain ⟨W0, hW0⟩ : ∃ W0, W0 = (w.alloc (.cells (Cal.ofKind 0).cells.toArray 28)).alloc (.cells #[] 3) := ⟨_, rfl⟩
  have x0 : Ext w W0 := by rw [hW0]; exact (Ext.alloc _ _).trans (Ext.alloc _ _)
  have hb0 : W0.heap[w.heap.size]? = some (.cells (Cal.ofKind 0).cells.toArray 28) := by rw [hW0]; exact two_first _ _ _
  have r0 : W0.ownsRow (w.heap.size + 1) 3 1 (.slice (some ⟨w.heap.size + 1, 0, none⟩) 0 0) 0 [] :=
    ⟨rfl, .inr ⟨w.heap.size + 1, 0, #[], rfl, Nat.le_refl _, by rw [hW0]; exact two_second _ _ _, Nat.le_refl _, by decide, rfl, rfl⟩⟩
  rw [zero28] at hW0
  have HW := Lib.hid hW0
  clear hW0
  obtain ⟨i0, hi, j0, j1, j2⟩ := info_parts Tryz.info3
  go_enter Tryz.func62, Tryz.ntmps62
  go_wp2_with (first
    | refine wpList_runs 6 rfl rfl _ _ (exec_bs0i rfl) ?_)
  have hsz : (w.alloc (.cells (#[.int .i64 0, .int .i64 0, .int .i64 0, .int .i64 0, .string ⟨#[]⟩, .int .i64 0, .int .i64 0, .int .i64 0, .string ⟨#[]⟩, .string ⟨#[]⟩, .int .i64 0, .int .i64 0, .int .i64 0, .int .i64 0, .int .i64 0, .int .i64 0] : Array Value) 28)).heap.size = w.heap.size + 1 := by simp
  try rw [hsz]
  clear hsz
  rw [← HW.out]
  clear HW
  go_loopw [3, 4] (fun u i wq => ∃ (m : Nat) (xs : List Int), 1 ≤ m ∧ m ≤ 11 ∧ i = .int .i64 m ∧ xs.length ≤ 10 ∧ Hid (xs = ns l (m - 1)) ∧ wq.ownsRow (w.heap.size + 1) 3 1 u xs.length (xs.map vI) ∧ wq.heap[w.heap.size]? = some (.cells (Cal.ofKind 0).cells.toArray 28) ∧ Ext w wq) (fun _ i _ => 20 - (intOf i).toNat)
  case atStart => exact ⟨1, [], Nat.le_refl _, by decide, rfl, by simp, rfl, r0, hb0, x0⟩
  case round =>
    obtain ⟨m, xs, hm1, hm11, rfl, hxl, HXS, hrow, hres, hx⟩ := hrel
    have hvr := hv.ext hx
    by_cases hle : m ≤ 10
    · have hle' : (m : Int) ≤ 10 := by omega
      have HA := Lib.hid (show AtIs l (m : Int) (rat l m) from ⟨m, rfl, by omega, rfl⟩)
      obtain ⟨y, hy⟩ : ∃ y, y = rat l m := ⟨_, rfl⟩
      obtain ⟨N, hN⟩ : ∃ N : Int, N = ((rnum y : Nat) : Int) := ⟨_, rfl⟩
      have HN := fun W => Lib.hid (rnumber_any y W)
      rw [← hN] at HN
      rw [← hy] at HA
      have HS : Hid (xs ++ [N] = ns l (m + 1 - 1)) := by
        unfold Hid
        rw [show m + 1 - 1 = (m - 1) + 1 by omega, ns_succ, show m - 1 + 1 = m by omega, HXS.out, hN, hy]
        rfl
      clear hy hN HXS
      go_wp2_with (first
        | (go_at_call 61; refine (at_is l v _ _ HA.out _ hvr).mono ?_; rintro e W ⟨rfl, rfl⟩)
        | (go_at_call 63; refine (HN _).out.mono ?_; rintro e W ⟨rfl, rfl⟩)
        | (at_builtin; go_must (refine wpList_append_own _ rfl _ _ 29 rfl (w.heap.size + 1) 3 i0 (.int .i64 0) 1 8 und29 hi j0 j1 j2 rfl (by decide) _ _ _ rfl (hrow.alloc _) ⟨wr.heap.size, 0, none⟩ 1 1 [vI N] rfl rfl ?c1 ?c2 ?c3 ?c4 ?c5 ?_)))
      case c1 =>
        intro j u hj
        match j, hj with
        | 0, hj => simp at hj; subst hj; first | rfl | (simp [Addr.add]; rfl) | (simp [Addr.add])
        | n + 1, hj => simp at hj
      case c2 => first | rfl | (intro u hu; simp at hu; subst hu; rfl)
      case c3 => unfold maxLen; omega
      case c4 => omega
      case c5 => have := lt_of_block hres; rw [alloc_size]; omega
      intro v5 w5 hrow5 hgrow5 _
      go_wp2_with fail
      go_roundw
      case rel =>
        have hax : Ext wr (wr.alloc (.cells #[vI N] 3)) := Ext.alloc _ _
        have hrl := lt_of_block hres
        refine ⟨m + 1, xs ++ [N], by omega, by omega, by go_num, ?_, HS, ?_, ?_, ?_⟩
        · have := congrArg List.length HS.out
          rw [ns_len] at this
          omega
        · rw [List.map_append, List.length_append]; exact hrow5
        · have hne : u3.ownBlock ≠ some w.heap.size := fun e => by have := (hrow.lt _ e).1; omega
          exact (hgrow5.block _ (by simp; omega) hne.symm).trans ((hax.block _ hrl).trans hres)
        · have hx2 := hx.trans hax
          exact ⟨hgrow5.os.trans hx2.os, hgrow5.tape.trans hx2.tape, hgrow5.output.trans hx2.output, Nat.le_trans hx2.size hgrow5.size, fun k hk => (hgrow5.block k (Nat.lt_of_lt_of_le hk hx2.size) (fun e => by have := (hrow.lt k e.symm).1; omega)).trans (hx2.block k hk)⟩
      case measure => simp [intOf]; omega
    · have hle' : ¬ (m : Int) ≤ 10 := by omega
      have hxs := HXS.out
      rw [show m - 1 = 10 by omega] at hxs
      obtain ⟨g, cap, rfl, hG⟩ := own_row10 hrow hxs hres hx
      clear hxs HXS hrow hres hx i0 hi j0 j1 j2 x0 hb0 r0 hxl hm1 hm11
      go_wp2_with (first | (go_at_call 61; refine (at_is l v _ _ HZ.out _ hvr).mono ?_; rintro e W ⟨rfl, rfl⟩) | refine wpList_runs 174 rfl rfl (.agg (Cal.ofKind 0).cells.toArray) _ (exec_be rfl) ?_ | refine wpList_store28 rfl _ _ rfl w.heap.size _ rfl rfl _ hG.res rfl rfl (cal_one _) ?_)
      exact bodyPost_ret (res28 rfl _ _ w.heap.size _ rfl (hG.store (Cal.ofKind 0)).res rfl) rfl ⟨rfl, (hG.store (Cal.ofKind 0)).ext⟩
/-- The same, and the parameters at block S. -/
structure GP (w : World) (g S : Nat) (l : List (List UInt8)) (c : Cal) (W : World) : Prop extends GW w g l c W where
  par : W.heap[S]? = some (.cells (p6 (rn l 5) (rn l 6) (rn l 7) (rn l 8) (rn l 9) (rn l 10)).toArray 24)
theorem GP.more {w W W' : World} {g S : Nat} {l : List (List UInt8)} {c : Cal} (h : GP w g S l c W) (hx : Ext W W') : GP w g S l c W' := ⟨h.toGW.more hx, (hx.block _ (lt_of_block h.par)).trans h.par⟩
theorem GP.store {w W : World} {g S : Nat} {l : List (List UInt8)} {c : Cal} (h : GP w g S l c W) (hS : S ≠ w.heap.size) (c' : Cal) : GP w g S l c' (W.setRow w.heap.size c'.cells.toArray) :=
  ⟨h.toGW.store c', (setRow_other _ _ _ _ hS).trans h.par⟩
theorem GW.put {w W : World} {g S : Nat} {l : List (List UInt8)} {c : Cal} (h : GW w g l c W) (h1 : S ≠ w.heap.size) (h2 : S ≠ g) (h3 : w.heap.size ≤ S) (cs : Array Value) : GW w g l c (W.setRow S cs) := by
  have hk : Kept (· = S) W (W.setRow S cs) := ⟨rfl, rfl, rfl, by simp, fun k _ hk => setRow_other _ _ _ _ hk⟩
  refine ⟨(setRow_other _ _ _ _ h1.symm).trans h.res, fun i hi => ?_, h.ext.setRow _ _ h3, h.lt⟩
  rw [hk.cell (p := ⟨g, i, none⟩) (cell_lt (h.row i hi)) (by show ¬ g = S; omega)]
  exact h.row i hi
set_option maxRecDepth 100000 in
set_option maxHeartbeats 4000000 in
theorem rgc_0 (l : List (List UInt8)) (v : Value) (w : World) (hv : StrsAt w v l) (hll : ∀ x ∈ l, x.length ≤ 4294967296) (hx0 : rat l 0 = [114, 101, 115, 117, 109, 101]) : Calls Tryz.prog 62 #[v] w fun e w' => e = .returned (.agg (rgk 0 l).cells.toArray) ∧ Ext w w' := by
  have HZ := Lib.hid (show AtIs l 0 [114, 101, 115, 117, 109, 101] from ⟨0, rfl, by decide, hx0⟩)
  have HL3 := Lib.hid (rat_len hll 3)
  have HL4 := Lib.hid (rat_len hll 4)
  clear hx0 hll
  obtain ⟨W0, hW0⟩ : ∃ W0, W0 = (w.alloc (.cells (Cal.ofKind 0).cells.toArray 28)).alloc (.cells #[] 3) := ⟨_, rfl⟩
  have x0 : Ext w W0 := by rw [hW0]; exact (Ext.alloc _ _).trans (Ext.alloc _ _)
  have hb0 : W0.heap[w.heap.size]? = some (.cells (Cal.ofKind 0).cells.toArray 28) := by rw [hW0]; exact two_first _ _ _
  have r0 : W0.ownsRow (w.heap.size + 1) 3 1 (.slice (some ⟨w.heap.size + 1, 0, none⟩) 0 0) 0 [] :=
    ⟨rfl, .inr ⟨w.heap.size + 1, 0, #[], rfl, Nat.le_refl _, by rw [hW0]; exact two_second _ _ _, Nat.le_refl _, by decide, rfl, rfl⟩⟩
  rw [zero28] at hW0
  have HW := Lib.hid hW0
  clear hW0
  obtain ⟨i0, hi, j0, j1, j2⟩ := info_parts Tryz.info3
  go_enter Tryz.func62, Tryz.ntmps62
  go_wp2_with (first
    | refine wpList_runs 6 rfl rfl _ _ (exec_bs0i rfl) ?_)
  have hsz : (w.alloc (.cells (#[.int .i64 0, .int .i64 0, .int .i64 0, .int .i64 0, .string ⟨#[]⟩, .int .i64 0, .int .i64 0, .int .i64 0, .string ⟨#[]⟩, .string ⟨#[]⟩, .int .i64 0, .int .i64 0, .int .i64 0, .int .i64 0, .int .i64 0, .int .i64 0] : Array Value) 28)).heap.size = w.heap.size + 1 := by simp
  try rw [hsz]
  clear hsz
  rw [← HW.out]
  clear HW
  go_loopw [3, 4] (fun u i wq => ∃ (m : Nat) (xs : List Int), 1 ≤ m ∧ m ≤ 11 ∧ i = .int .i64 m ∧ xs.length ≤ 10 ∧ Hid (xs = ns l (m - 1)) ∧ wq.ownsRow (w.heap.size + 1) 3 1 u xs.length (xs.map vI) ∧ wq.heap[w.heap.size]? = some (.cells (Cal.ofKind 0).cells.toArray 28) ∧ Ext w wq) (fun _ i _ => 20 - (intOf i).toNat)
  case atStart => exact ⟨1, [], Nat.le_refl _, by decide, rfl, by simp, rfl, r0, hb0, x0⟩
  case round =>
    obtain ⟨m, xs, hm1, hm11, rfl, hxl, HXS, hrow, hres, hx⟩ := hrel
    have hvr := hv.ext hx
    by_cases hle : m ≤ 10
    · have hle' : (m : Int) ≤ 10 := by omega
      have HA := Lib.hid (show AtIs l (m : Int) (rat l m) from ⟨m, rfl, by omega, rfl⟩)
      obtain ⟨y, hy⟩ : ∃ y, y = rat l m := ⟨_, rfl⟩
      obtain ⟨N, hN⟩ : ∃ N : Int, N = ((rnum y : Nat) : Int) := ⟨_, rfl⟩
      have HN := fun W => Lib.hid (rnumber_any y W)
      rw [← hN] at HN
      rw [← hy] at HA
      have HS : Hid (xs ++ [N] = ns l (m + 1 - 1)) := by
        unfold Hid
        rw [show m + 1 - 1 = (m - 1) + 1 by omega, ns_succ, show m - 1 + 1 = m by omega, HXS.out, hN, hy]
        rfl
      clear hy hN HXS
      go_wp2_with (first
        | (go_at_call 61; refine (at_is l v _ _ HA.out _ hvr).mono ?_; rintro e W ⟨rfl, rfl⟩)
        | (go_at_call 63; refine (HN _).out.mono ?_; rintro e W ⟨rfl, rfl⟩)
        | (at_builtin; go_must (refine wpList_append_own _ rfl _ _ 29 rfl (w.heap.size + 1) 3 i0 (.int .i64 0) 1 8 und29 hi j0 j1 j2 rfl (by decide) _ _ _ rfl (hrow.alloc _) ⟨wr.heap.size, 0, none⟩ 1 1 [vI N] rfl rfl ?c1 ?c2 ?c3 ?c4 ?c5 ?_)))
      case c1 =>
        intro j u hj
        match j, hj with
        | 0, hj => simp at hj; subst hj; first | rfl | (simp [Addr.add]; rfl) | (simp [Addr.add])
        | n + 1, hj => simp at hj
      case c2 => first | rfl | (intro u hu; simp at hu; subst hu; rfl)
      case c3 => unfold maxLen; omega
      case c4 => omega
      case c5 => have := lt_of_block hres; rw [alloc_size]; omega
      intro v5 w5 hrow5 hgrow5 _
      go_wp2_with fail
      go_roundw
      case rel =>
        have hax : Ext wr (wr.alloc (.cells #[vI N] 3)) := Ext.alloc _ _
        have hrl := lt_of_block hres
        refine ⟨m + 1, xs ++ [N], by omega, by omega, by go_num, ?_, HS, ?_, ?_, ?_⟩
        · have := congrArg List.length HS.out
          rw [ns_len] at this
          omega
        · rw [List.map_append, List.length_append]; exact hrow5
        · have hne : u3.ownBlock ≠ some w.heap.size := fun e => by have := (hrow.lt _ e).1; omega
          exact (hgrow5.block _ (by simp; omega) hne.symm).trans ((hax.block _ hrl).trans hres)
        · have hx2 := hx.trans hax
          exact ⟨hgrow5.os.trans hx2.os, hgrow5.tape.trans hx2.tape, hgrow5.output.trans hx2.output, Nat.le_trans hx2.size hgrow5.size, fun k hk => (hgrow5.block k (Nat.lt_of_lt_of_le hk hx2.size) (fun e => by have := (hrow.lt k e.symm).1; omega)).trans (hx2.block k hk)⟩
      case measure => simp [intOf]; omega
    · have hle' : ¬ (m : Int) ≤ 10 := by omega
      have hxs := HXS.out
      rw [show m - 1 = 10 by omega] at hxs
      obtain ⟨g, cap, rfl, hG⟩ := own_row10 hrow hxs hres hx
      clear hxs HXS hrow hres hx i0 hi j0 j1 j2 x0 hb0 r0 hxl hm1 hm11
      go_upto_region 10 with (first | (go_at_call 61; refine (at_is l v _ _ HZ.out _ hvr).mono ?_; rintro e W ⟨rfl, rfl⟩))
      have hgS : g < wr.heap.size := cell_lt (hG.row 0 (by decide))
      have hwS : w.heap.size < wr.heap.size := lt_of_block hG.res
      refine wp_region_gen (fun i v _ => v = [Value.slice (some ⟨g, 0, none⟩) 10 cap, Value.pointer (some ⟨g, 4, none⟩), Value.int .i64 (rn l 5), Value.slice (some ⟨g, 0, none⟩) 10 cap, Value.pointer (some ⟨g, 5, none⟩), Value.int .i64 (rn l 6), Value.slice (some ⟨g, 0, none⟩) 10 cap, Value.pointer (some ⟨g, 6, none⟩), Value.int .i64 (rn l 7), Value.slice (some ⟨g, 0, none⟩) 10 cap, Value.pointer (some ⟨g, 7, none⟩), Value.int .i64 (rn l 8), Value.slice (some ⟨g, 0, none⟩) 10 cap, Value.pointer (some ⟨g, 8, none⟩), Value.int .i64 (rn l 9), Value.slice (some ⟨g, 0, none⟩) 10 cap, Value.pointer (some ⟨g, 9, none⟩), Value.int .i64 (rn l 10), Value.agg (p6 (rn l 5) (rn l 6) (rn l 7) (rn l 8) (rn l 9) (rn l 10)).toArray, Value.pointer (some ⟨wr.heap.size, 0, none⟩), undef].getD i undef) (fun b W' => GW w g l (Cal.ofKind 0) W' ∧ (b 19 = false → W'.heap.size = wr.heap.size) ∧ (b 19 = true → W'.heap[wr.heap.size]? = some (.cells (if b 20 = true then (p6 (rn l 5) (rn l 6) (rn l 7) (rn l 8) (rn l 9) (rn l 10)).toArray else #[.int .i64 0, .int .i64 0, .int .i64 0, .int .i64 0, .int .i64 0, .int .i64 0]) 24))) mixedOrd (by kernel_rfl) (by kernel_rfl) (by kernel_rfl) ⟨hG.more ⟨rfl, rfl, rfl, Nat.le_refl _, fun _ _ => rfl⟩, fun _ => rfl, fun h => by cases h⟩ ?_ ?_
      · refine ⟨?_, ?_, ?_, ?_, ?_, ?_, ?_, ?_, ?_, ?_, ?_, ?_, ?_, ?_, ?_, ?_, ?_, ?_, ?_, ?_, ?_, trivial⟩
        · intro a' w' b hdf hso hs hW
          have h0 : a'.tmps[3]? = some (.slice (some ⟨g, 0, none⟩) 10 cap) := hs.old 3 rfl
          exact wpOp_val rfl rfl (by simp [execOp, go_sem, h0]) ⟨_, rfl, .inr rfl, hW, fun k u hb h => h⟩
        · intro a' w' b hdf hso hs hW
          obtain ⟨u0, h0, rfl⟩ := hs.made 0 31 rfl rfl
          exact wpOp_val rfl rfl (by simp [execOp, go_sem, h0]) ⟨_, rfl, .inr rfl, hW, fun k u hb h => h⟩
        · intro a' w' b hdf hso hs hW
          obtain ⟨u0, h0, rfl⟩ := hs.made 1 32 rfl rfl
          have e0 := hW.1.row 4 (by decide)
          exact wpOp_val rfl rfl (by simp [execOp, go_sem, h0, e0]) ⟨_, rfl, .inr rfl, hW, fun k u hb h => h⟩
        · intro a' w' b hdf hso hs hW
          have h0 : a'.tmps[3]? = some (.slice (some ⟨g, 0, none⟩) 10 cap) := hs.old 3 rfl
          exact wpOp_val rfl rfl (by simp [execOp, go_sem, h0]) ⟨_, rfl, .inr rfl, hW, fun k u hb h => h⟩
        · intro a' w' b hdf hso hs hW
          obtain ⟨u0, h0, rfl⟩ := hs.made 3 34 rfl rfl
          exact wpOp_val rfl rfl (by simp [execOp, go_sem, h0]) ⟨_, rfl, .inr rfl, hW, fun k u hb h => h⟩
        · intro a' w' b hdf hso hs hW
          obtain ⟨u0, h0, rfl⟩ := hs.made 4 35 rfl rfl
          have e0 := hW.1.row 5 (by decide)
          exact wpOp_val rfl rfl (by simp [execOp, go_sem, h0, e0]) ⟨_, rfl, .inr rfl, hW, fun k u hb h => h⟩
        · intro a' w' b hdf hso hs hW
          have h0 : a'.tmps[3]? = some (.slice (some ⟨g, 0, none⟩) 10 cap) := hs.old 3 rfl
          exact wpOp_val rfl rfl (by simp [execOp, go_sem, h0]) ⟨_, rfl, .inr rfl, hW, fun k u hb h => h⟩
        · intro a' w' b hdf hso hs hW
          obtain ⟨u0, h0, rfl⟩ := hs.made 6 37 rfl rfl
          exact wpOp_val rfl rfl (by simp [execOp, go_sem, h0]) ⟨_, rfl, .inr rfl, hW, fun k u hb h => h⟩
        · intro a' w' b hdf hso hs hW
          obtain ⟨u0, h0, rfl⟩ := hs.made 7 38 rfl rfl
          have e0 := hW.1.row 6 (by decide)
          exact wpOp_val rfl rfl (by simp [execOp, go_sem, h0, e0]) ⟨_, rfl, .inr rfl, hW, fun k u hb h => h⟩
        · intro a' w' b hdf hso hs hW
          have h0 : a'.tmps[3]? = some (.slice (some ⟨g, 0, none⟩) 10 cap) := hs.old 3 rfl
          exact wpOp_val rfl rfl (by simp [execOp, go_sem, h0]) ⟨_, rfl, .inr rfl, hW, fun k u hb h => h⟩
        · intro a' w' b hdf hso hs hW
          obtain ⟨u0, h0, rfl⟩ := hs.made 9 40 rfl rfl
          exact wpOp_val rfl rfl (by simp [execOp, go_sem, h0]) ⟨_, rfl, .inr rfl, hW, fun k u hb h => h⟩
        · intro a' w' b hdf hso hs hW
          obtain ⟨u0, h0, rfl⟩ := hs.made 10 41 rfl rfl
          have e0 := hW.1.row 7 (by decide)
          exact wpOp_val rfl rfl (by simp [execOp, go_sem, h0, e0]) ⟨_, rfl, .inr rfl, hW, fun k u hb h => h⟩
        · intro a' w' b hdf hso hs hW
          have h0 : a'.tmps[3]? = some (.slice (some ⟨g, 0, none⟩) 10 cap) := hs.old 3 rfl
          exact wpOp_val rfl rfl (by simp [execOp, go_sem, h0]) ⟨_, rfl, .inr rfl, hW, fun k u hb h => h⟩
        · intro a' w' b hdf hso hs hW
          obtain ⟨u0, h0, rfl⟩ := hs.made 12 43 rfl rfl
          exact wpOp_val rfl rfl (by simp [execOp, go_sem, h0]) ⟨_, rfl, .inr rfl, hW, fun k u hb h => h⟩
        · intro a' w' b hdf hso hs hW
          obtain ⟨u0, h0, rfl⟩ := hs.made 13 44 rfl rfl
          have e0 := hW.1.row 8 (by decide)
          exact wpOp_val rfl rfl (by simp [execOp, go_sem, h0, e0]) ⟨_, rfl, .inr rfl, hW, fun k u hb h => h⟩
        · intro a' w' b hdf hso hs hW
          have h0 : a'.tmps[3]? = some (.slice (some ⟨g, 0, none⟩) 10 cap) := hs.old 3 rfl
          exact wpOp_val rfl rfl (by simp [execOp, go_sem, h0]) ⟨_, rfl, .inr rfl, hW, fun k u hb h => h⟩
        · intro a' w' b hdf hso hs hW
          obtain ⟨u0, h0, rfl⟩ := hs.made 15 46 rfl rfl
          exact wpOp_val rfl rfl (by simp [execOp, go_sem, h0]) ⟨_, rfl, .inr rfl, hW, fun k u hb h => h⟩
        · intro a' w' b hdf hso hs hW
          obtain ⟨u0, h0, rfl⟩ := hs.made 16 47 rfl rfl
          have e0 := hW.1.row 9 (by decide)
          exact wpOp_val rfl rfl (by simp [execOp, go_sem, h0, e0]) ⟨_, rfl, .inr rfl, hW, fun k u hb h => h⟩
        · intro a' w' b hdf hso hs hW
          obtain ⟨u0, h0, rfl⟩ := hs.made 2 33 rfl rfl
          obtain ⟨u1, h1, rfl⟩ := hs.made 5 36 rfl rfl
          obtain ⟨u2, h2, rfl⟩ := hs.made 8 39 rfl rfl
          obtain ⟨u3, h3, rfl⟩ := hs.made 11 42 rfl rfl
          obtain ⟨u4, h4, rfl⟩ := hs.made 14 45 rfl rfl
          obtain ⟨u5, h5, rfl⟩ := hs.made 17 48 rfl rfl
          exact wpOp_val rfl rfl (exec_bg0p rfl (ev h0) (ev h1) (ev h2) (ev h3) (ev h4) (ev h5)) ⟨_, rfl, .inr rfl, hW, fun k u hb h => h⟩
        · intro a' w' b hdf hso hs hW
          have hz := hW.2.1 hso.undone
          have h20 : b 20 = false := hso.not 20 rfl rfl
          exact wpOp_val (w' := w'.alloc (.cells #[.int .i64 0, .int .i64 0, .int .i64 0, .int .i64 0, .int .i64 0, .int .i64 0] 24)) (v := .pointer (some ⟨w'.heap.size, 0, none⟩)) rfl rfl (by simp [execOp, go_sem]) ⟨_, rfl, .inr (by rw [hz]; rfl), ⟨hW.1.more (Ext.alloc _ _), (fun h => by cases h), fun _ => by show _ = some (Obj.cells (if b 20 = true then (p6 (rn l 5) (rn l 6) (rn l 7) (rn l 8) (rn l 9) (rn l 10)).toArray else #[.int .i64 0, .int .i64 0, .int .i64 0, .int .i64 0, .int .i64 0, .int .i64 0]) 24); rw [h20, if_neg (by decide), ← hz]; exact alloc_new _ _⟩, fun k u hb h => h⟩
        · intro a' w' b hdf hso hs hW
          obtain ⟨u0, h0, rfl⟩ := hs.made 19 5 rfl rfl
          obtain ⟨u1, h1, rfl⟩ := hs.made 18 49 rfl rfl
          have h19 : b 19 = true := hso.ready 19 rfl
          have h20 : b 20 = false := hso.undone
          have hp := hW.2.2 h19
          rw [h20] at hp
          exact wpOp_wp rfl rfl (wp_store_row 24 _ _ rfl wr.heap.size (p6 (rn l 5) (rn l 6) (rn l 7) (rn l 8) (rn l 9) (rn l 10)).toArray (ev h0) (ev h1) 24 _ hp (by kernel_rfl) rfl (by simp [p6, Value.oneCell']) ⟨_, rfl, .inl rfl, ⟨hW.1.put (by omega) (by omega) (by omega) _, (fun h => by have h : b 19 = false := h; rw [h19] at h; cases h), fun _ => setRow_heap _ _ _ _ _ _ hp⟩, fun k u hb h => h⟩)
      · intro a' w' b hb hs hW
        have hp := hW.2.2 (hb 19 (by decide))
        rw [hb 20 (by decide)] at hp
        have hP : GP w g wr.heap.size l (Cal.ofKind 0) w' := ⟨hW.1, hp⟩
        obtain ⟨v31, q31, _⟩ := hs.made 0 31 rfl
        obtain ⟨v32, q32, _⟩ := hs.made 1 32 rfl
        obtain ⟨v33, q33, _⟩ := hs.made 2 33 rfl
        obtain ⟨v34, q34, _⟩ := hs.made 3 34 rfl
        obtain ⟨v35, q35, _⟩ := hs.made 4 35 rfl
        obtain ⟨v36, q36, _⟩ := hs.made 5 36 rfl
        obtain ⟨v37, q37, _⟩ := hs.made 6 37 rfl
        obtain ⟨v38, q38, _⟩ := hs.made 7 38 rfl
        obtain ⟨v39, q39, _⟩ := hs.made 8 39 rfl
        obtain ⟨v40, q40, _⟩ := hs.made 9 40 rfl
        obtain ⟨v41, q41, _⟩ := hs.made 10 41 rfl
        obtain ⟨v42, q42, _⟩ := hs.made 11 42 rfl
        obtain ⟨v43, q43, _⟩ := hs.made 12 43 rfl
        obtain ⟨v44, q44, _⟩ := hs.made 13 44 rfl
        obtain ⟨v45, q45, _⟩ := hs.made 14 45 rfl
        obtain ⟨v46, q46, _⟩ := hs.made 15 46 rfl
        obtain ⟨v47, q47, _⟩ := hs.made 16 47 rfl
        obtain ⟨v48, q48, _⟩ := hs.made 17 48 rfl
        obtain ⟨v49, q49, _⟩ := hs.made 18 49 rfl
        obtain ⟨v5, q5, rfl⟩ := hs.made 19 5 rfl
        have ha := act_putAll [(31, v31), (32, v32), (33, v33), (34, v34), (35, v35), (36, v36), (37, v37), (38, v38), (39, v39), (40, v40), (41, v41), (42, v42), (43, v43), (44, v44), (45, v45), (46, v46), (47, v47), (48, v48), (49, v49), (5, Value.pointer (some ⟨wr.heap.size, 0, none⟩))] hs.defers hs.size (by simp [q31, q32, q33, q34, q35, q36, q37, q38, q39, q40, q41, q42, q43, q44, q45, q46, q47, q48, q49, q5]) rfl hs.old
        clear hs hW hp hb q31 q32 q33 q34 q35 q36 q37 q38 q39 q40 q41 q42 q43 q44 q45 q46 q47 q48 q49 q5
        simp only [putAll, Act.put] at ha
        subst ha
        go_frame
        go_upto_region 11 with fail
        refine wp_region_flags (fun i => [Value.slice (some ⟨g, 0, none⟩) 10 cap, Value.pointer (some ⟨g, 0, none⟩), Value.int .i64 (rn l 1), Value.slice (some ⟨g, 0, none⟩) 10 cap, Value.pointer (some ⟨g, 1, none⟩), Value.int .i64 (rn l 2), v, Value.string ⟨(rat l 3).toArray⟩, Value.string ⟨(rraw (rat l 3)).toArray⟩, v, Value.string ⟨(rat l 4).toArray⟩, Value.string ⟨(rraw (rat l 4)).toArray⟩, Value.agg (p6 (rn l 5) (rn l 6) (rn l 7) (rn l 8) (rn l 9) (rn l 10)).toArray, Value.agg (ses (rraw (rat l 3)) (rraw (rat l 4)) (rn l 5) (rn l 6) (rn l 7) (rn l 8) (rn l 9) (rn l 10)).toArray, Value.agg (rgk 0 l).cells.toArray, undef].getD i undef) (fun b W' => GP w g wr.heap.size l (if b 15 = true then rgk 0 l else Cal.ofKind 0) W') mixedOrd (by kernel_rfl) (by kernel_rfl) (by kernel_rfl) (hP.more ⟨rfl, rfl, rfl, Nat.le_refl _, fun _ _ => rfl⟩) ?_ ?_
        · refine ⟨?_, ?_, ?_, ?_, ?_, ?_, ?_, ?_, ?_, ?_, ?_, ?_, ?_, ?_, ?_, ?_, trivial⟩
          · intro a' w' b hb hs hW
            have h0 : a'.tmps[3]? = some (.slice (some ⟨g, 0, none⟩) 10 cap) := hs.old 3 rfl
            exact wpOp_val rfl rfl (by simp [execOp, go_sem, h0]) ⟨rfl, hW⟩
          · intro a' w' b hb hs hW
            have h0 : a'.tmps[50]? = some (.slice (some ⟨g, 0, none⟩) 10 cap) := hs.made 0 50 rfl rfl
            exact wpOp_val rfl rfl (by simp [execOp, go_sem, h0]) ⟨rfl, hW⟩
          · intro a' w' b hb hs hW
            have h0 : a'.tmps[51]? = some (.pointer (some ⟨g, 0, none⟩)) := hs.made 1 51 rfl rfl
            have e0 := hW.row 0 (by decide)
            exact wpOp_val rfl rfl (by simp [execOp, go_sem, h0, e0]) ⟨rfl, hW⟩
          · intro a' w' b hb hs hW
            have h0 : a'.tmps[3]? = some (.slice (some ⟨g, 0, none⟩) 10 cap) := hs.old 3 rfl
            exact wpOp_val rfl rfl (by simp [execOp, go_sem, h0]) ⟨rfl, hW⟩
          · intro a' w' b hb hs hW
            have h0 : a'.tmps[53]? = some (.slice (some ⟨g, 0, none⟩) 10 cap) := hs.made 3 53 rfl rfl
            exact wpOp_val rfl rfl (by simp [execOp, go_sem, h0]) ⟨rfl, hW⟩
          · intro a' w' b hb hs hW
            have h0 : a'.tmps[54]? = some (.pointer (some ⟨g, 1, none⟩)) := hs.made 4 54 rfl rfl
            have e0 := hW.row 1 (by decide)
            exact wpOp_val rfl rfl (by simp [execOp, go_sem, h0, e0]) ⟨rfl, hW⟩
          · intro a' w' b hb hs hW
            have h0 : a'.tmps[0]? = some (v) := hs.old 0 rfl
            exact wpOp_val rfl rfl (by simp [execOp, go_sem, h0]) ⟨rfl, hW⟩
          · intro a' w' b hb hs hW
            have h0 : a'.tmps[56]? = some (v) := hs.made 6 56 rfl rfl
            refine wpOp_call (f := 61) (args := #[v, .int .i64 3]) rfl rfl (exec_call rfl rfl ent61 (by simp [ev h0, evc])) ?_
            refine (at_is l v _ _ ⟨3, rfl, by decide, rfl⟩ w' (hv.ext hW.ext)).mono ?_
            rintro e w'' ⟨rfl, rfl⟩
            exact ⟨_, rfl, rfl, hW⟩
          · intro a' w' b hb hs hW
            have h0 : a'.tmps[57]? = some (.string ⟨(rat l 3).toArray⟩) := hs.made 7 57 rfl rfl
            refine wpOp_call (f := 64) (args := #[.string ⟨(rat l 3).toArray⟩]) rfl rfl (exec_call rfl rfl ent64 (by simp [ev h0])) ?_
            refine (rraw_any (rat l 3) w' HL3.out).mono ?_
            rintro e w'' ⟨rfl, hxx⟩
            exact ⟨_, rfl, rfl, hW.more hxx⟩
          · intro a' w' b hb hs hW
            have h0 : a'.tmps[0]? = some (v) := hs.old 0 rfl
            exact wpOp_val rfl rfl (by simp [execOp, go_sem, h0]) ⟨rfl, hW⟩
          · intro a' w' b hb hs hW
            have h0 : a'.tmps[59]? = some (v) := hs.made 9 59 rfl rfl
            refine wpOp_call (f := 61) (args := #[v, .int .i64 4]) rfl rfl (exec_call rfl rfl ent61 (by simp [ev h0, evc])) ?_
            refine (at_is l v _ _ ⟨4, rfl, by decide, rfl⟩ w' (hv.ext hW.ext)).mono ?_
            rintro e w'' ⟨rfl, rfl⟩
            exact ⟨_, rfl, rfl, hW⟩
          · intro a' w' b hb hs hW
            have h0 : a'.tmps[60]? = some (.string ⟨(rat l 4).toArray⟩) := hs.made 10 60 rfl rfl
            refine wpOp_call (f := 64) (args := #[.string ⟨(rat l 4).toArray⟩]) rfl rfl (exec_call rfl rfl ent64 (by simp [ev h0])) ?_
            refine (rraw_any (rat l 4) w' HL4.out).mono ?_
            rintro e w'' ⟨rfl, hxx⟩
            exact ⟨_, rfl, rfl, hW.more hxx⟩
          · intro a' w' b hb hs hW
            have h0 : a'.tmps[5]? = some (.pointer (some ⟨wr.heap.size, 0, none⟩)) := hs.old 5 rfl
            exact wpOp_val rfl rfl (exec_ld rfl (ev h0) (load24b hW.par)) ⟨rfl, hW⟩
          · intro a' w' b hb hs hW
            have h0 : a'.tmps[58]? = some (.string ⟨(rraw (rat l 3)).toArray⟩) := hs.made 8 58 rfl rfl
            have h1 : a'.tmps[61]? = some (.string ⟨(rraw (rat l 4)).toArray⟩) := hs.made 11 61 rfl rfl
            have h2 : a'.tmps[62]? = some (.agg (p6 (rn l 5) (rn l 6) (rn l 7) (rn l 8) (rn l 9) (rn l 10)).toArray) := hs.made 12 62 rfl rfl
            exact wpOp_val rfl rfl (exec_bg0s rfl (ev h0) (ev h1) (ev h2)) ⟨rfl, hW⟩
          · intro a' w' b hb hs hW
            have h0 : a'.tmps[52]? = some (.int .i64 (rn l 1)) := hs.made 2 52 rfl rfl
            have h1 : a'.tmps[55]? = some (.int .i64 (rn l 2)) := hs.made 5 55 rfl rfl
            have h2 : a'.tmps[63]? = some (.agg (ses (rraw (rat l 3)) (rraw (rat l 4)) (rn l 5) (rn l 6) (rn l 7) (rn l 8) (rn l 9) (rn l 10)).toArray) := hs.made 13 63 rfl rfl
            exact wpOp_val rfl rfl (exec_bg0c rfl rfl (ev h0) (ev h1) (ev h2)) ⟨rfl, hW⟩
          · intro a' w' b hb hs hW
            have h0 : a'.tmps[2]? = some (.pointer (some ⟨w.heap.size, 0, none⟩)) := hs.old 2 rfl
            have h1 : a'.tmps[64]? = some (.agg (rgk 0 l).cells.toArray) := hs.made 14 64 rfl rfl
            rw [hb] at hW
            exact wpOp_wp rfl rfl (wp_store_row 28 _ _ rfl w.heap.size (rgk 0 l).cells.toArray (ev h0) (ev h1) 28 _ hW.res (by kernel_rfl) rfl (cal_one _) ⟨rfl, hW.store (by omega) (rgk 0 l)⟩)
        · intro a' w' b hb hs hW
          rw [hb 15 (by decide)] at hW
          obtain ⟨v50, q50⟩ : ∃ u, a'.tmps[50]? = some u := ⟨_, hs.made 0 50 rfl⟩
          obtain ⟨v51, q51⟩ : ∃ u, a'.tmps[51]? = some u := ⟨_, hs.made 1 51 rfl⟩
          obtain ⟨v52, q52⟩ : ∃ u, a'.tmps[52]? = some u := ⟨_, hs.made 2 52 rfl⟩
          obtain ⟨v53, q53⟩ : ∃ u, a'.tmps[53]? = some u := ⟨_, hs.made 3 53 rfl⟩
          obtain ⟨v54, q54⟩ : ∃ u, a'.tmps[54]? = some u := ⟨_, hs.made 4 54 rfl⟩
          obtain ⟨v55, q55⟩ : ∃ u, a'.tmps[55]? = some u := ⟨_, hs.made 5 55 rfl⟩
          obtain ⟨v56, q56⟩ : ∃ u, a'.tmps[56]? = some u := ⟨_, hs.made 6 56 rfl⟩
          obtain ⟨v57, q57⟩ : ∃ u, a'.tmps[57]? = some u := ⟨_, hs.made 7 57 rfl⟩
          obtain ⟨v58, q58⟩ : ∃ u, a'.tmps[58]? = some u := ⟨_, hs.made 8 58 rfl⟩
          obtain ⟨v59, q59⟩ : ∃ u, a'.tmps[59]? = some u := ⟨_, hs.made 9 59 rfl⟩
          obtain ⟨v60, q60⟩ : ∃ u, a'.tmps[60]? = some u := ⟨_, hs.made 10 60 rfl⟩
          obtain ⟨v61, q61⟩ : ∃ u, a'.tmps[61]? = some u := ⟨_, hs.made 11 61 rfl⟩
          obtain ⟨v62, q62⟩ : ∃ u, a'.tmps[62]? = some u := ⟨_, hs.made 12 62 rfl⟩
          obtain ⟨v63, q63⟩ : ∃ u, a'.tmps[63]? = some u := ⟨_, hs.made 13 63 rfl⟩
          obtain ⟨v64, q64⟩ : ∃ u, a'.tmps[64]? = some u := ⟨_, hs.made 14 64 rfl⟩
          have ha := act_putAll [(50, v50), (51, v51), (52, v52), (53, v53), (54, v54), (55, v55), (56, v56), (57, v57), (58, v58), (59, v59), (60, v60), (61, v61), (62, v62), (63, v63), (64, v64)] hs.defers hs.size (by simp [q50, q51, q52, q53, q54, q55, q56, q57, q58, q59, q60, q61, q62, q63, q64]) rfl hs.old
          clear hs q50 q51 q52 q53 q54 q55 q56 q57 q58 q59 q60 q61 q62 q63 q64
          simp only [putAll, Act.put] at ha
          subst ha
          go_frame
          go_wp2_with fail
          exact bodyPost_ret (res28 rfl _ _ w.heap.size _ rfl hW.res rfl) rfl ⟨rfl, hW.ext⟩
theorem keyOf_no {x : List UInt8} (h : keyOf x = none) : ∀ k, k < 14 → x ≠ (formOf k).1 := by
  intro k hk e
  unfold keyOf at h
  have := List.find?_eq_none.1 h k (List.mem_range.2 hk)
  rw [e] at this
  simp at this
theorem keyOf_so {x : List UInt8} {k : Nat} (h : keyOf x = some k) : k < 14 ∧ x = (formOf k).1 := by
  unfold keyOf at h
  have h1 := List.find?_some h
  have h2 := List.mem_of_find?_eq_some h
  exact ⟨List.mem_range.1 h2, (by simpa using h1 : (formOf k).1 = x).symm⟩
/-- guessCall. -/
theorem rgc_any (l : List (List UInt8)) (v : Value) (w : World) (hv : StrsAt w v l) (hll : ∀ x ∈ l, x.length ≤ 4294967296) : Calls Tryz.prog 62 #[v] w fun e w' => e = .returned (.agg (rgc l).cells.toArray) ∧ Ext w w' := by
  unfold rgc
  cases hk : keyOf (rat l 0) with
  | none => exact rgc_none l v w hv hll (keyOf_no hk)
  | some k =>
    obtain ⟨hk14, hx⟩ := keyOf_so hk
    match k, hk14, hx with
    | 0, _, hx => exact rgc_0 l v w hv hll hx
    | 1, _, hx => exact rgc_1 l v w hv hll hx
    | 2, _, hx => exact rgc_2 l v w hv hll hx
    | 3, _, hx => exact rgc_3 l v w hv hll hx
    | 4, _, hx => exact rgc_4 l v w hv hll hx
    | 5, _, hx => exact rgc_5 l v w hv hll hx
    | 6, _, hx => exact rgc_6 l v w hv hll hx
    | 7, _, hx => exact rgc_7 l v w hv hll hx
    | 8, _, hx => exact rgc_8 l v w hv hll hx
    | 9, _, hx => exact rgc_9 l v w hv hll hx
    | 10, _, hx => exact rgc_10 l v w hv hll hx
    | 11, _, hx => exact rgc_11 l v w hv hll hx
    | 12, _, hx => exact rgc_12 l v w hv hll hx
    | 13, _, hx => exact rgc_13 l v w hv hll hx
    | n + 14, h, _ => omega
end Go.Proofs.YtikmoledbiepoaaGreatDoor

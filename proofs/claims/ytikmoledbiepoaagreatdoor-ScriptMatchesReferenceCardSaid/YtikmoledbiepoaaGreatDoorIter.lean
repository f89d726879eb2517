/- params.values: the iterator over a set of parameters. -/
import Derived.Test.YtikmoledbiepoaaGreatDoorForms
import Derived.Test.YtikmoledbiepoaaGreatDoorPlain
import Derived.Test.YtikmoledbiepoaaGreatDoorFields
import Derived.RangeFuncNested
import Derived.RangeFuncBound
import Derived.RangeFuncCalls
import Derived.RangeFuncLeaves
import Derived.Shelf.Abstract
import Derived.Shelf.RegionOpen
import Derived.OwnWalkIn
import Derived.TacticsInMore
import Derived.LoopNIn
import Derived.LoopIn
import Derived.WalkMore
namespace Go.Proofs.YtikmoledbiepoaaGreatDoor
open Go.RowKit Go.Shelf
attribute [local go_sem] Oper.semAt_some
/-- A field of the parameters with its value. -/
structure Fd where
  f : Nat
  lo : Int
  hi : Int
  lim : Bool
  n : Int
def Fd.agg (x : Fd) : Value := .agg #[.func (.func x.f) #[] #[], .int .i64 x.lo, .int .i64 x.hi, .bool x.lim]
def Fd.encs (x : Fd) : Array Value := #[x.agg, .int .i64 x.n]
def Fd.ok (x : Fd) : Bool := decide (x.lo ≤ x.n) && decide (x.n ≤ x.hi)
def Cal.fds (c : Cal) : List Fd := [⟨110, 0, 1073741824, true, c.p0⟩, ⟨111, 0, 1073741824, true, c.p1⟩, ⟨112, 0, 64, true, c.p2⟩, ⟨113, 0, 64, true, c.p3⟩, ⟨114, 0, 20, false, c.p4⟩, ⟨115, 50, 100000, false, c.p5⟩]
def fldsAgg : Array Value := #[.func (.func 110) #[] #[], .int .i64 0, .int .i64 1073741824, .bool true, .func (.func 111) #[] #[], .int .i64 0, .int .i64 1073741824, .bool true, .func (.func 112) #[] #[], .int .i64 0, .int .i64 64, .bool true,
  .func (.func 113) #[] #[], .int .i64 0, .int .i64 64, .bool true, .func (.func 114) #[] #[], .int .i64 0, .int .i64 20, .bool false, .func (.func 115) #[] #[], .int .i64 50, .int .i64 100000, .bool false]
theorem parOk_eq (c : Cal) : c.parOk = c.fds.all Fd.ok := by
  simp [Cal.parOk, Cal.fds, Fd.ok, Bool.and_assoc]
theorem wpList_storeT {P : Program} {ops : Array Oper} {rest : List Oper} {o : Oper} {a : Act} {w : World} {Q : Exit → Act → World → Prop} (T : TypeId) (hgd : o.guard = none) (x y : Operand) (ho : o.op = .store T x y)
    (b : Nat) (cells : Array Value) (hx : a.eval x = .pointer (some ⟨b, 0, none⟩)) (hy : a.eval y = .agg cells) (old : Array Value) (hg : w.heap[b]? = some (.cells old T)) (hi : (P.info? T).map (·.size) = some cells.size)
    (hold : old.size = cells.size) (h1 : cells.all (·.oneCell') = true) (h : wpList P ops Q rest (a.put o.dst undef) (w.setRow b cells)) : wpList P ops Q (o :: rest) a w :=
  wpList_plain hgd fun _ hK => wp_store_row T x y ho b cells hx hy T old hg hi hold h1 (hK _ _ h)
theorem Ext.setRow {a b : World} (h : Ext a b) (g : Nat) (cs : Array Value) (hg : a.heap.size ≤ g) : Ext a (b.setRow g cs) :=
  ⟨h.os, h.tape, h.output, by simpa using h.size, fun k hk => by rw [setRow_other _ _ _ _ (by omega)]; exact h.block k hk⟩
theorem und135 : ∃ n e, Tryz.prog.underlying 135 = some (.array n e) := by
  have h : (match Tryz.prog.underlying 135 with | some (.array _ _) => true | _ => false) = true := by kernel_rfl
  cases hu : Tryz.prog.underlying 135 with
  | none => rw [hu] at h; cases h
  | some d =>
    rw [hu] at h
    cases d <;> first | exact ⟨_, _, rfl⟩ | cases h
theorem flds_one : fldsAgg.all (·.oneCell') = true := by simp [fldsAgg, Value.oneCell']
theorem flds_info : (Tryz.prog.info? 135).map (·.size) = some fldsAgg.size := by kernel_rfl
set_option maxRecDepth 100000 in
set_option maxHeartbeats 1000000 in
theorem fields_any (w : World) : Calls Tryz.prog 81 #[] w fun e w' => e = .returned (.agg fldsAgg) ∧ Ext w w' := by
  go_enter Tryz.func81, Tryz.ntmps81
  go_wp2_with (refine wpList_storeT 135 rfl _ _ rfl w.heap.size fldsAgg rfl rfl _ (alloc_new _ _) flds_info (by rfl) flds_one ?_)
  obtain ⟨n, e, hu⟩ := und135
  refine bodyPost_ret (results_cell_row (p := 0) (ty := 135) rfl _ _ w.heap.size 135 fldsAgg (0, 0) _ rfl (setRow_heap _ _ _ _ _ _ (alloc_new w _)) hu rfl flds_info) rfl ?_
  exact ⟨rfl, (Ext.alloc _ _).setRow _ _ (Nat.le_refl _)⟩
theorem ix0 (w : World) : (Instr.index 135 (.agg fldsAgg) (.int .i64 0)).run Tryz.prog w = .ok (.agg #[.func (.func 110) #[] #[], .int .i64 0, .int .i64 1073741824, .bool true]) w := by kernel_rfl
theorem ix1 (w : World) : (Instr.index 135 (.agg fldsAgg) (.int .i64 1)).run Tryz.prog w = .ok (.agg #[.func (.func 111) #[] #[], .int .i64 0, .int .i64 1073741824, .bool true]) w := by kernel_rfl
theorem ix2 (w : World) : (Instr.index 135 (.agg fldsAgg) (.int .i64 2)).run Tryz.prog w = .ok (.agg #[.func (.func 112) #[] #[], .int .i64 0, .int .i64 64, .bool true]) w := by kernel_rfl
theorem ix3 (w : World) : (Instr.index 135 (.agg fldsAgg) (.int .i64 3)).run Tryz.prog w = .ok (.agg #[.func (.func 113) #[] #[], .int .i64 0, .int .i64 64, .bool true]) w := by kernel_rfl
theorem ix4 (w : World) : (Instr.index 135 (.agg fldsAgg) (.int .i64 4)).run Tryz.prog w = .ok (.agg #[.func (.func 114) #[] #[], .int .i64 0, .int .i64 20, .bool false]) w := by kernel_rfl
theorem ix5 (w : World) : (Instr.index 135 (.agg fldsAgg) (.int .i64 5)).run Tryz.prog w = .ok (.agg #[.func (.func 115) #[] #[], .int .i64 50, .int .i64 100000, .bool false]) w := by kernel_rfl
/-- The six descriptions, one at a time. -/
theorem idx135 (c : Cal) (k : Nat) (x : Fd) (h : c.fds[k]? = some x) (w : World) : (Instr.index 135 (.agg fldsAgg) (.int .i64 (k : Int))).run Tryz.prog w = .ok x.agg w := by
  match k, h with
  | 0, h => cases h; exact ix0 w
  | 1, h => cases h; exact ix1 w
  | 2, h => cases h; exact ix2 w
  | 3, h => cases h; exact ix3 w
  | 4, h => cases h; exact ix4 w
  | 5, h => cases h; exact ix5 w
/-- The accessor of a description. -/
theorem get_any (c : Cal) (k : Nat) (x : Fd) (h : c.fds[k]? = some x) (b : Nat) (w : World) : Calls Tryz.prog x.f #[.pointer (some ⟨b, 0, none⟩)] w fun e w' => e = .returned (.pointer (some ⟨b, k, none⟩)) ∧ w' = w := by
  match k, h with
  | 0, h => cases h; simpa using acc110 b 0 w
  | 1, h => cases h; simpa using acc111 b 0 w
  | 2, h => cases h; simpa using acc112 b 0 w
  | 3, h => cases h; simpa using acc113 b 0 w
  | 4, h => cases h; simpa using acc114 b 0 w
  | 5, h => cases h; simpa using acc115 b 0 w
theorem get_ent (c : Cal) (k : Nat) (x : Fd) (h : c.fds[k]? = some x) : Ent x.f := by
  match k, h with
  | 0, h => cases h; exact ent110
  | 1, h => cases h; exact ent111
  | 2, h => cases h; exact ent112
  | 3, h => cases h; exact ent113
  | 4, h => cases h; exact ent114
  | 5, h => cases h; exact ent115
def parCells (c : Cal) : Array Value := #[.int .i64 c.p0, .int .i64 c.p1, .int .i64 c.p2, .int .i64 c.p3, .int .i64 c.p4, .int .i64 c.p5]
theorem par_cell (c : Cal) (k : Nat) (x : Fd) (h : c.fds[k]? = some x) : (parCells c)[k]? = some (.int .i64 x.n) := by
  match k, h with
  | 0, h => cases h; rfl
  | 1, h => cases h; rfl
  | 2, h => cases h; rfl
  | 3, h => cases h; rfl
  | 4, h => cases h; rfl
  | 5, h => cases h; rfl
theorem Ext.drewed' {a b : World} (h : Ext a b) : Ext a b.drew := ⟨h.os, h.tape, h.output, h.size, h.block⟩
/-- How a round ends. -/
def Y2 (J Jx : World → Prop) (n₀ : Nat) (W : World) (t : Bool) (W' : World) : Prop := match t with
  | true => J W' ∧ Below n₀ W W'
  | false => Jx W'
set_option maxRecDepth 100000 in
set_option maxHeartbeats 1000000 in
theorem values1_in (n : Nat) (hn : 1 ≤ n) (l Bp n₀ : Nat) (c : Cal) (J Jx : List Fd → World → Prop)
    (hJ : ∀ W, ∀ pre, J pre W → ∀ W', Ext W W' → J pre W')
    (hY : ∀ pre x W, J pre W → pre.length < c.fds.length → YieldAt Fence.wide (n - 1) Tryz.prog l x.encs W fun e W' =>
      (e = .returned (.bool true) ∧ J (pre ++ [x]) W' ∧ Below n₀ W W') ∨ (e = .returned (.bool false) ∧ Jx (pre ++ [x]) W'))
    (W : World) (hBp : W.heap[Bp]? = some (.cells (parCells c) 24)) (hlt : Bp < n₀) (hn0 : n₀ ≤ W.heap.size) (h0 : J [] W) :
    CallsIn Fence.wide n Tryz.prog 80 #[.func (.yield l) #[] #[], .pointer (some ⟨Bp, 0, none⟩)] W fun e W' => (∃ v, e = .returned v) ∧
      ((∃ ys, ys = c.fds ∧ J ys W') ∨ (∃ pre, pre <+: c.fds ∧ Jx pre W')) := by
  refine callsIn_of_wp Tryz.func80 rfl trivial ?_ rfl
  simp only [Tryz.ntmps80, List.size_toArray, List.length_cons, List.length_nil, Nat.reduceAdd, Nat.reduceSub, Array.replicate_succ, Array.replicate_zero, List.push_toArray, List.append_toArray, List.nil_append, List.cons_append]
  refine wpIn_wide.2 (wp_scope_straight (wp_seq (wp_label ?_)))
  show Code.wp _ _ _ _ _
  refine (wpIn_wide (n := n)).1 ?_
  gi_wp2_with (refine ⟨trivial, ?_⟩; gi_at_call 81; refine (callsIn_wide.2 (fields_any _)).mono ?_; rintro e w1 ⟨rfl, hx⟩)
  have hJ1 := hJ W [] h0 w1 hx
  have hb1 : w1.heap[Bp]? = some (.cells (parCells c) 24) := by rw [hx.block Bp (by omega)]; exact hBp
  have hz1 : n₀ ≤ w1.heap.size := Nat.le_trans hn0 hx.size
  clear h0 hBp hn0 hx
  gi_loopw [6] (fun i wr => ∃ k : Nat, k ≤ 6 ∧ i = .int .i64 k ∧ J (c.fds.take k) wr ∧ wr.heap[Bp]? = some (.cells (parCells c) 24) ∧ n₀ ≤ wr.heap.size) (fun i _ => 6 - (intOf i).toNat)
  case atStart => exact ⟨0, by omega, rfl, hJ1, hb1, hz1⟩
  case round =>
    obtain ⟨k, hk, rfl, hJk, hbk, hzk⟩ := hrel
    by_cases hlt6 : k < 6
    · obtain ⟨x, hx⟩ : ∃ x, c.fds[k]? = some x := ⟨_, List.getElem?_eq_getElem (by simpa [Cal.fds] using hlt6)⟩
      have hidx := idx135 c k x hx
      have hxa := Ext.alloc wr (.cells #[.nilFunc, .int .i64 0, .int .i64 0, .bool false] 113)
      unfold Fd.agg at hidx
      have hcell : (wr.alloc (.cells #[.func (.func x.f) #[] #[], .int .i64 x.lo, .int .i64 x.hi, .bool x.lim] 113)).drew.cell? ⟨Bp, k, none⟩ = some (.int .i64 x.n) := by
        have hb : (wr.alloc (.cells #[.func (.func x.f) #[] #[], .int .i64 x.lo, .int .i64 x.hi, .bool x.lim] 113)).drew.heap[Bp]? = some (.cells (parCells c) 24) := by
          show (wr.alloc _).heap[Bp]? = _
          rw [alloc_old _ _ (by omega)]; exact hbk
        rw [Lib.cell_of_heap hb]; exact par_cell c k x hx
      have hent := get_ent c k x hx
      unfold Ent at hent
      have hmix := mixedOrd
      obtain ⟨fn, tmps, assign, body, hy, hR⟩ := hY (c.fds.take k) x (wr.alloc (.cells #[.func (.func x.f) #[] #[], .int .i64 x.lo, .int .i64 x.hi, .bool x.lim] 113)).drew (hJ _ _ hJk _ (Ext.drewed' (Ext.alloc _ _))) (by simp [Cal.fds]; omega)
      have hR2 := hR.mono (R' := fun e W' => ∃ t, e = .returned (.bool t) ∧ Y2 (J (c.fds.take k ++ [x])) (Jx (c.fds.take k ++ [x])) n₀ (wr.alloc (.cells #[.func (.func x.f) #[] #[], .int .i64 x.lo, .int .i64 x.hi, .bool x.lim] 113)).drew t W') (by
        rintro e W' (⟨rfl, h1, h2⟩ | ⟨rfl, h1⟩)
        · exact ⟨true, rfl, h1, h2⟩
        · exact ⟨false, rfl, h1⟩)
      clear hR hY
      unfold Fd.encs Fd.agg at hy
      have hsn : c.fds.take k ++ [x] = c.fds.take (k + 1) := by rw [List.take_add_one, hx]; rfl
      have HS := Lib.hid hsn
      clear hsn
      gi_wp2_with fail
      gi_region_with_o (first | (refine ⟨trivial, ?_⟩; refine (callsIn_wide.2 (get_any c k x hx Bp _)).mono ?_; rintro e w' ⟨rfl, rfl⟩) | (refine hR2.mono ?_; rintro e W3 ⟨t, rfl, h3⟩))
      all_goals
        cases t with
        | true =>
          obtain ⟨h31, h32⟩ := h3
          have hbk3 : W3.heap[Bp]? = some (.cells (parCells c) 24) := by
            rw [h32.block Bp hlt]
            show (wr.alloc _).heap[Bp]? = _
            rw [alloc_old _ _ (by omega)]; exact hbk
          have hz3 : n₀ ≤ W3.heap.size := by
            have := h32.size
            simp at this
            omega
          gi_wp2
          go_roundw
          case rel => exact ⟨k + 1, by omega, by go_num, by rw [← HS.out]; exact h31, hbk3, hz3⟩
          case measure => simp [intOf]; omega
        | false =>
          have h3' : Jx (c.fds.take (k + 1)) W3 := by rw [← HS.out]; exact h3
          clear h3
          gi_wp2
          rw [Exit.noGoto_normal]
          go_end0
          exact ⟨⟨_, rfl⟩, .inr ⟨c.fds.take (k + 1), List.take_prefix _ _, h3'⟩⟩
    · obtain rfl : k = 6 := by omega
      have hJk' : J c.fds wr := hJk
      clear hJk
      gi_wp2
      rw [Exit.noGoto_normal]
      go_end0
      exact ⟨⟨_, rfl⟩, .inl ⟨_, rfl, hJk'⟩⟩
theorem values_stops (n : Nat) (hn : 1 ≤ n) (Bp n₀ : Nat) (c : Cal) (w : World) (hBp : w.heap[Bp]? = some (.cells (parCells c) 24)) (hlt : Bp < n₀) (hn₀ : n₀ ≤ w.heap.size) :
    SeqStopsK Fence.wide n Tryz.prog 80 #[.pointer (some ⟨Bp, 0, none⟩)] Fd.encs (Below n₀) (fun ys => ys = c.fds) (fun pre => pre <+: c.fds) c.fds.length w := fun l J Jx W hW hJ _ hY h0 =>
  values1_in n hn l Bp n₀ c J Jx (fun A pre hA B hB => hJ pre A B none hA ⟨hB.os, hB.tape, hB.output, hB.size, fun i hi _ => hB.block i hi⟩ (fun r e => by cases e)) hY W (by rw [hW.block Bp (by omega)]; exact hBp) hlt (Nat.le_trans hn₀ hW.size) h0
end Go.Proofs.YtikmoledbiepoaaGreatDoor

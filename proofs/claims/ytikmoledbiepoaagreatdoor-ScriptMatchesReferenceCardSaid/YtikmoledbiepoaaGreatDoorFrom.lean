/- CallFrom: the calls that the laws build. -/
import Derived.Test.YtikmoledbiepoaaGreatDoorOpen
import Derived.Test.YtikmoledbiepoaaGreatDoorBuilt
namespace Go.Proofs.YtikmoledbiepoaaGreatDoor
open Go.RowKit
set_option maxHeartbeats 400000 in
theorem SecretFrom_any (s : List UInt8) (w : World) (hl : s.length ≤ 1000000) : Calls Tryz.prog 65 #[.string ⟨s.toArray⟩] w fun e w' => e = .returned (.string ⟨(strF s 16).toArray⟩) ∧ Ext w w' := by
  go_enter Tryz.func65, Tryz.ntmps65
  go_wp2_with fail
  refine (Stretch_any s 16 w hl (by omega)).mono ?_
  rintro e w' ⟨rfl, hx⟩
  go_wp2_with fail
  go_ret
  exact ⟨rfl, hx⟩
theorem pickA (c n : Int) (w : World) (h : IntFit c) (hn : 0 < n) (hn2 : n ≤ 9223372036854775807) : Calls Tryz.prog 13 #[.int .i64 c, .int .i64 n] w fun e w' => e = .returned (.int .i64 (pickN c n)) ∧ w = w' :=
  pick13 c n w h.1 h.2 hn hn2
/-- The world while CallFrom goes on: the parameters at block B, the call at block C, the result at block R. -/
structure CF (w0 : World) (B C R : Nat) (p : Ap) (fv : Value) (c : Cal) (W : World) : Prop where
  par : W.heap[B]? = some (.cells (p.cells fv).toArray 57)
  cal : CalIn W C 0 28 [] [] c
  res : W.heap[R]? = some (.cells (Cal.ofKind 0).cells.toArray 28)
  ext : Ext w0 W
  bc : B ≠ C
  rc : R ≠ C
  lo : w0.heap.size ≤ C
  lr : w0.heap.size ≤ R
theorem Ext.kept {S : Nat → Prop} {a b c : World} (h : Ext a b) (hk : Kept S b c) (hS : ∀ k, k < a.heap.size → ¬ S k) : Ext a c :=
  ⟨hk.os.trans h.os, hk.tape.trans h.tape, hk.output.trans h.output, Nat.le_trans h.size hk.size, fun k hl => (hk.block k (Nat.lt_of_lt_of_le hl h.size) (hS k hl)).trans (h.block k hl)⟩
section
variable {w0 W W' : World} {B C R : Nat} {p : Ap} {fv : Value} {c c' : Cal}
theorem CF.kept (h : CF w0 B C R p fv c W) (hk : Kept (· = C) W W') (hc : CalIn W' C 0 28 [] [] c') : CF w0 B C R p fv c' W' :=
  ⟨(hk.block _ (lt_of_block h.par) h.bc).trans h.par, hc, (hk.block _ (lt_of_block h.res) h.rc).trans h.res, h.ext.kept hk (fun k hl e => by have := h.lo; omega), h.bc, h.rc, h.lo, h.lr⟩
theorem CF.more (h : CF w0 B C R p fv c W) (hx : Ext W W') : CF w0 B C R p fv c W' :=
  ⟨(hx.block _ (lt_of_block h.par)).trans h.par, h.cal.kept (S := fun _ => False) (Kept.of_below hx) id, (hx.block _ (lt_of_block h.res)).trans h.res, h.ext.trans hx, h.bc, h.rc, h.lo, h.lr⟩
theorem par_cells {T : TypeId} (h : W.heap[B]? = some (.cells (p.cells fv).toArray T)) : W.cell? ⟨B, 0, none⟩ = some (.int .i64 p.kind) ∧ W.cell? ⟨B, 1, none⟩ = some (.int .i64 p.call) ∧ W.cell? ⟨B, 2, none⟩ = some (.int .i64 p.side) ∧ W.cell? ⟨B, 3, none⟩ = some (.int .i64 p.conn) ∧
    W.cell? ⟨B, 4, none⟩ = some (.int .i64 p.stream) ∧ W.cell? ⟨B, 5, none⟩ = some (.int .i64 p.n) ∧ W.cell? ⟨B, 6, none⟩ = some (.int .i64 p.code) ∧ W.cell? ⟨B, 7, none⟩ = some (.string ⟨p.s.toArray⟩) ∧ W.cell? ⟨B, 8, none⟩ = some fv := by
  refine ⟨?_, ?_, ?_, ?_, ?_, ?_, ?_, ?_, ?_⟩ <;> (rw [Lib.cell_of_heap h]; rfl)
theorem par_six {T : TypeId} (h : W.heap[B]? = some (.cells (p.cells fv).toArray T)) : W.rangeAt B 9 (p6 p.q0 p.q1 p.q2 p.q3 p.q4 p.q5) :=
  range_of (pre := [vI p.kind, vI p.call, vI p.side, vI p.conn, vI p.stream, vI p.n, vI p.code, vS p.s, fv]) (post := []) h (by simp [Ap.cells])
theorem cal_range (h : CalIn W C 0 28 [] [] c) : W.rangeAt C 0 c.cells := fun j v hv => by
  have := h.cell hv
  simpa using this
end
section
variable {ops : Array Oper} {rest : List Oper} {o : Oper} {f : Act} {w w0 : World} {Q : Exit → Act → World → Prop} {B C R : Nat} {p : Ap} {fv : Value} {c : Cal}
theorem wpList_setI (hgd : o.guard = none) (x y : Operand) (ho : o.op = .store 3 x y) (i : Nat) (hx : f.eval x = .pointer (some ⟨C, i, none⟩)) (v : Int) (hy : f.eval y = .int .i64 v) (h0 : CF w0 B C R p fv c w) (hi : isI i = true)
    (h : ∀ W, CF w0 B C R p fv (c.setI i v) W → wpList Tryz.prog ops Q rest (f.put o.dst undef) W) : wpList Tryz.prog ops Q (o :: rest) f w := by
  refine wpList_plain hgd fun K hK => ?_
  have e0 := h0.cal.cell (c.cellI hi)
  rw [Nat.zero_add] at e0
  have e1 := h0.cal.frozen i
  have hlt : i < 16 := by rcases isI_cases hi with rfl | rfl | rfl | rfl | rfl | rfl | rfl | rfl | rfl | rfl | rfl | rfl | rfl <;> decide
  have hs := h0.cal.set (c.cells_setI v hi) hlt
  rw [Nat.zero_add] at hs
  have h2 := hK _ _ (h _ (h0.kept (Kept.setCell (S := (· = C)) w (p := ⟨C, i, none⟩) rfl (vI v)) hs))
  unfold Oper.wp execOp
  simp only [ho, hx, hy]
  unfold vI at h2 e0
  simp [go_sem, e0, e1]
  exact h2
theorem wpList_setS (hgd : o.guard = none) (x y : Operand) (ho : o.op = .store 9 x y) (i : Nat) (hx : f.eval x = .pointer (some ⟨C, i, none⟩)) (v : List UInt8) (hy : f.eval y = .string ⟨v.toArray⟩) (h0 : CF w0 B C R p fv c w) (hi : isS i = true)
    (h : ∀ W, CF w0 B C R p fv (c.setS i v) W → wpList Tryz.prog ops Q rest (f.put o.dst undef) W) : wpList Tryz.prog ops Q (o :: rest) f w := by
  refine wpList_plain hgd fun K hK => ?_
  have e0 := h0.cal.cell (c.cellS hi)
  rw [Nat.zero_add] at e0
  have e1 := h0.cal.frozen i
  have hlt : i < 16 := by rcases isS_cases hi with rfl | rfl | rfl <;> decide
  have hs := h0.cal.set (c.cells_setS v hi) hlt
  rw [Nat.zero_add] at hs
  have h2 := hK _ _ (h _ (h0.kept (Kept.setCell (S := (· = C)) w (p := ⟨C, i, none⟩) rfl (vS v)) hs))
  unfold Oper.wp execOp
  simp only [ho, hx, hy]
  unfold vS at h2 e0
  simp [go_sem, e0, e1]
  exact h2
theorem wpList_store28 (hgd : o.guard = none) (x y : Operand) (ho : o.op = .store 28 x y) (b : Nat) (cells : Array Value) (hx : f.eval x = .pointer (some ⟨b, 0, none⟩)) (hy : f.eval y = .agg cells) (old : Array Value) (hg : w.heap[b]? = some (.cells old 28)) (hold : old.size = 16) (hsz : cells.size = 16)
    (h1 : cells.all (·.oneCell') = true) (h : wpList Tryz.prog ops Q rest (f.put o.dst undef) (w.setRow b cells)) : wpList Tryz.prog ops Q (o :: rest) f w :=
  wpList_plain hgd fun _ hK => wp_store_row 28 x y ho b cells hx hy 28 old hg (by rw [hsz]; kernel_rfl) (by rw [hsz, hold]) h1 (hK _ _ h)
end
theorem res28 {fn : Func} (h : fn.results = #[.cell 2 28]) (tmps : Array Value) (w : World) (b : Nat) (cs : Array Value) (hp : tmps.getD 2 undef = .pointer (some ⟨b, 0, none⟩)) (hb : w.heap[b]? = some (.cells cs 28)) (hs : cs.size = 16) :
    (results fn tmps).run Tryz.prog w = .ok (.agg cs) w := by
  obtain ⟨d, hu⟩ := und28
  exact results_cell_row h tmps w b 28 cs (0, 0) _ hp hb hu rfl (by rw [hs]; kernel_rfl)
theorem min_take (s : List UInt8) (k : Nat) : (s.take k) = s.take (min s.length k) := by
  rcases Nat.le_total s.length k with h | h
  · rw [Nat.min_eq_left h, List.take_length, List.take_of_length_le h]
  · rw [Nat.min_eq_right h]
theorem Ap.cells_eq (p : Ap) (fv : Value) : (p.cells fv).toArray = #[.int .i64 p.kind, .int .i64 p.call, .int .i64 p.side, .int .i64 p.conn, .int .i64 p.stream, .int .i64 p.n, .int .i64 p.code, .string ⟨p.s.toArray⟩, fv, .int .i64 p.q0, .int .i64 p.q1, .int .i64 p.q2, .int .i64 p.q3, .int .i64 p.q4, .int .i64 p.q5] := rfl
theorem ext_take (s : List UInt8) (k : Nat) : (⟨s.toArray⟩ : ByteArray).extract 0 (min (s.length : Int) (k : Int)).toNat = ⟨(s.take k).toArray⟩ := by
  have : (min (s.length : Int) (k : Int)).toNat = min s.length k := by omega
  rw [this]
  apply ByteArray.ext
  rw [ByteArray.data_extract]
  simp
  omega
theorem CF.start (w : World) (p : Ap) (fv : Value) (c : Cal) {W0 : World} (h : W0 = ((w.alloc (.cells (p.cells fv).toArray 57)).alloc (.cells (Cal.ofKind 0).cells.toArray 28)).alloc (.cells c.cells.toArray 28)) :
    CF w w.heap.size (w.heap.size + 1 + 1) (w.heap.size + 1) p fv c W0 := by
  obtain ⟨hx, h1, h2⟩ := three_allocs w (.cells (p.cells fv).toArray 57) (.cells (Cal.ofKind 0).cells.toArray 28) (.cells c.cells.toArray 28)
  have h3 := three_third w (.cells (p.cells fv).toArray 57) (.cells (Cal.ofKind 0).cells.toArray 28) (.cells c.cells.toArray 28)
  subst h
  refine ⟨h1, ⟨rfl, ?_⟩, h2, hx, by omega, by omega, by omega, by omega⟩
  have : w.heap.size + 1 + 1 = w.heap.size + 2 := by omega
  rw [this, h3]
  simp
theorem Cal.ofKind_eq (k : Int) : (Cal.ofKind k).cells.toArray = #[.int .i64 k, .int .i64 0, .int .i64 0, .int .i64 0, .string ⟨#[]⟩, .int .i64 0, .int .i64 0, .int .i64 0, .string ⟨#[]⟩, .string ⟨#[]⟩, .int .i64 0, .int .i64 0, .int .i64 0, .int .i64 0, .int .i64 0, .int .i64 0] := rfl
end Go.Proofs.YtikmoledbiepoaaGreatDoor

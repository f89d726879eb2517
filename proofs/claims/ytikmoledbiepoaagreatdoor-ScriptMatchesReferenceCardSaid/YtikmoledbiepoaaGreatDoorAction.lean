/- ActionFrom: the actions that the laws build. -/
import Derived.Test.YtikmoledbiepoaaGreatDoorDial
import Derived.Test.YtikmoledbiepoaaGreatDoorKinds
import Derived.Test.YtikmoledbiepoaaGreatDoorFates
namespace Go.Proofs.YtikmoledbiepoaaGreatDoor
open Go.RowKit
theorem CallFrom_any (p : Ap) (s1 : Option Addr) (n1 c1 : Nat) (w : World) (hp : ApFit p) : Calls Tryz.prog 40 #[.agg (p.cells (.slice s1 n1 c1)).toArray] w fun e w' => e = .returned (.agg (callF p).cells.toArray) ∧ Ext w w' := by
  have h := pickN_lt p.call (n := 13) (by decide)
  have h2 := pickN_lt p.n (n := 2) (by decide)
  have h13 : pickN p.call 13 = 0 ∨ pickN p.call 13 = 1 ∨ pickN p.call 13 = 2 ∨ pickN p.call 13 = 3 ∨ pickN p.call 13 = 4 ∨ pickN p.call 13 = 5 ∨ pickN p.call 13 = 6 ∨ pickN p.call 13 = 7 ∨ pickN p.call 13 = 8 ∨ pickN p.call 13 = 9 ∨ pickN p.call 13 = 10 ∨ pickN p.call 13 = 11 ∨ pickN p.call 13 = 12 := by omega
  unfold callF
  rcases h13 with e | e | e | e | e | e | e | e | e | e | e | e | e
  · rw [e]
    by_cases hn : pickN p.n 2 = 1
    · exact CallFrom_1a p s1 n1 c1 w hp e hn
    · exact CallFrom_1b p s1 n1 c1 w hp e (by omega)
  · rw [e]; exact CallFrom_2 p s1 n1 c1 w hp e
  · rw [e]; exact CallFrom_3 p s1 n1 c1 w hp e
  · rw [e]; exact CallFrom_4 p s1 n1 c1 w hp e
  · rw [e]; exact CallFrom_5 p s1 n1 c1 w hp e
  · rw [e]; exact CallFrom_6 p s1 n1 c1 w hp e
  · rw [e]; exact CallFrom_7 p s1 n1 c1 w hp e
  · rw [e]; exact CallFrom_8 p s1 n1 c1 w hp e
  · rw [e]; exact CallFrom_9 p s1 n1 c1 w hp e
  · rw [e]; exact CallFrom_10 p s1 n1 c1 w hp e
  · rw [e]; exact CallFrom_11 p s1 n1 c1 w hp e
  · rw [e]; exact CallFrom_12 p s1 n1 c1 w hp e
  · rw [e]; exact CallFrom_13 p s1 n1 c1 w hp e
/-- What ActionFrom returns. -/
def ActP (p : Ap) (w : World) (e : Ending) (w' : World) : Prop :=
  Ext w w' ∧ ∃ s n c, e = .returned (.agg ((actF p).cells (.slice s n c)).toArray) ∧ FatesAt w' (.slice s n c) (actF p).fates ∧ Typed3 w' (.slice s n c) (actF p).fates
/-- The world while ActionFrom goes on: the parameters, the result's cells. -/
structure AF (w0 : World) (p : Ap) (fv : Value) (x : Ac) (W : World) : Prop where
  par : W.heap[w0.heap.size]? = some (.cells (p.cells fv).toArray 57)
  res : W.heap[w0.heap.size + 1]? = some (.cells (x.cells (.slice none 0 0)).toArray 33)
  ext : Ext w0 W
theorem AF.start (w : World) (p : Ap) (fv : Value) {W0 : World} (h : W0 = (w.alloc (.cells (p.cells fv).toArray 57)).alloc (.cells ((Ac.none 0).cells (.slice none 0 0)).toArray 33)) : AF w p fv (Ac.none 0) W0 := by
  subst h
  exact ⟨two_first _ _ _, two_second _ _ _, (Ext.alloc _ _).trans (Ext.alloc _ _)⟩
theorem AF.more {w0 W W' : World} {p : Ap} {fv : Value} {x : Ac} (h : AF w0 p fv x W) (hx : Ext W W') : AF w0 p fv x W' :=
  ⟨(hx.block _ (lt_of_block h.par)).trans h.par, (hx.block _ (lt_of_block h.res)).trans h.res, h.ext.trans hx⟩
theorem AF.put {w0 W : World} {p : Ap} {fv : Value} {x : Ac} (h : AF w0 p fv x W) (y : Ac) : AF w0 p fv y (W.setRow (w0.heap.size + 1) (y.cells (.slice none 0 0)).toArray) :=
  ⟨by rw [setRow_other _ _ _ _ (by omega)]; exact h.par, setRow_heap _ _ _ _ _ _ h.res, h.ext.setRow _ _ (by omega)⟩
theorem acNone_cells : ((Ac.none 0).cells (.slice none 0 0)).toArray = #[.int .i64 0, .int .i64 0, .int .i64 0, .int .i64 0, .int .i64 0, .int .i64 0, .string ⟨#[]⟩, .int .i64 0, .int .i64 0, .int .i64 0, .string ⟨#[]⟩, .string ⟨#[]⟩, .int .i64 0, .int .i64 0, .int .i64 0, .int .i64 0, .int .i64 0, .int .i64 0, .int .i64 0, .slice none 0 0, .int .i64 0, .int .i64 0, .string ⟨#[]⟩] := rfl
theorem load57 {w : World} {b : Nat} {p : Ap} {fv : Value} (h : w.heap[b]? = some (.cells (p.cells fv).toArray 57)) : (Instr.loadAt 57 (.pointer (some ⟨b, 0, none⟩))).run Tryz.prog w = .ok (.agg (p.cells fv).toArray) w :=
  run_loadAt_mid w b 0 57 (p.cells fv) _ (range_of (pre := []) (post := []) h (by simp)) Tryz.underlying57 rfl (by kernel_rfl)
theorem run_b33c (n : Int) (c : Cal) (w : World) : (Instr.build 33 #[(0, .int .i64 1), (1, .int .i64 n), (2, .agg c.cells.toArray)]).run Tryz.prog w = .ok (.agg ({ Ac.none 1 with side := n, call := c }.cells (.slice none 0 0)).toArray) w := by kernel_rfl
theorem exec_b33c {ρ : Operand → Value} {o : Oper} {x y z : Operand} {w : World} {n : Int} {c : Cal} (ho : o.op = .build 33 #[(0, x), (1, y), (2, z)]) (hx : ρ x = .int .i64 1) (hy : ρ y = .int .i64 n) (hz : ρ z = .agg c.cells.toArray) :
    (execOp ρ o).run Tryz.prog w = .ok (.value (.agg ({ Ac.none 1 with side := n, call := c }.cells (.slice none 0 0)).toArray)) w := by
  unfold execOp
  simp only [ho, List.map_toArray, List.map_cons, List.map_nil, hx, hy, hz, Sem.run_bind, run_b33c]
  rfl
theorem ent13 : Ent 13 := enters_of Tryz.func13 (by kernel_rfl) rfl
theorem ent40 : Ent 40 := enters_of Tryz.func40 (by kernel_rfl) rfl
theorem AcP.of {p : Ap} {w W : World} {y : Ac} {fv : Value} (h : AF w p fv y W) (e : actF p = y) (hf : y.fates = []) : ActP p w (.returned (.agg (y.cells (.slice none 0 0)).toArray)) W := by
  refine ⟨h.ext, none, 0, 0, by rw [e], ?_, ?_⟩
  · rw [e, hf]; exact FatesAt.nil _
  · rw [e, hf]; exact Typed3.nil _ _
set_option maxRecDepth 100000 in
set_option maxHeartbeats 4000000 in
theorem ActionFrom_tick (p : Ap) (s1 : Option Addr) (n1 c1 : Nat) (w : World) (hp : ApFit p) (hk : pickN p.kind 6 = 0) : Calls Tryz.prog 24 #[.agg (p.cells (.slice s1 n1 c1)).toArray] w (ActP p w) := by
  have HF : Hid (actF p = { Ac.none 2 with n := 1 + pickN p.n 2000 }) := by
    unfold Hid actF
    rw [if_pos hk]
  obtain ⟨hb1, hb2⟩ := pickN_lt p.n (n := 2000) (by decide)
  obtain ⟨W0, hW0⟩ : ∃ W0, W0 = (w.alloc (.cells (p.cells (.slice s1 n1 c1)).toArray 57)).alloc (.cells ((Ac.none 0).cells (.slice none 0 0)).toArray 33) := ⟨_, rfl⟩
  have hA := AF.start w p (.slice s1 n1 c1) hW0
  rw [Ap.cells_eq, acNone_cells] at hW0
  rw [Ap.cells_eq]
  have HW := Lib.hid hW0
  clear hW0
  go_enter Tryz.func24, Tryz.ntmps24
  go_wp2_with fail
  refine (pickA p.kind 6 _ hp.kind (by decide) (by decide)).mono ?_
  rintro e w2 ⟨rfl, rfl⟩
  rw [hk, ← HW.out]
  clear HW hk
  obtain ⟨e0, e1, e2, e3, e4, e5, e6, e7, e8⟩ := par_cells hA.par
  go_wp2_with (first
    | (go_at_call 13; refine (pickA _ _ _ (by first | exact hp.conn | exact hp.stream | exact hp.n | exact hp.code) (by decide) (by decide)).mono ?_; rintro e w2 ⟨rfl, rfl⟩)
    | refine wpList_store33 rfl _ _ rfl (w.heap.size + 1) ({ Ac.none 2 with n := 1 + pickN p.n 2000 }.cells (.slice none 0 0)).toArray rfl rfl _ hA.res rfl rfl (Ac.one _ _ _ _) ?_)
  exact bodyPost_ret (res33 rfl _ _ (w.heap.size + 1) _ rfl (setRow_heap _ _ _ _ _ _ hA.res) (by rfl)) rfl (AcP.of (hA.put _) HF.out rfl)
set_option maxRecDepth 100000 in
set_option maxHeartbeats 4000000 in
theorem ActionFrom_call (p : Ap) (s1 : Option Addr) (n1 c1 : Nat) (w : World) (hp : ApFit p) (h0 : pickN p.kind 6 ≠ 0) (h1 : pickN p.kind 6 ≠ 1) (h2 : pickN p.kind 6 ≠ 2) : Calls Tryz.prog 24 #[.agg (p.cells (.slice s1 n1 c1)).toArray] w (ActP p w) := by
  have HF : Hid (actF p = { Ac.none 1 with side := pickN p.side 2, call := callF p }) := by
    unfold Hid actF
    rw [if_neg h0, if_neg h1, if_neg h2]
  have HCA := fun W => CallFrom_any p s1 n1 c1 W hp
  obtain ⟨W0, hW0⟩ : ∃ W0, W0 = (w.alloc (.cells (p.cells (.slice s1 n1 c1)).toArray 57)).alloc (.cells ((Ac.none 0).cells (.slice none 0 0)).toArray 33) := ⟨_, rfl⟩
  have hA := AF.start w p (.slice s1 n1 c1) hW0
  rw [Ap.cells_eq, acNone_cells] at hW0
  rw [Ap.cells_eq] at HCA ⊢
  have HW := Lib.hid hW0
  clear hW0
  go_enter Tryz.func24, Tryz.ntmps24
  go_wp2_with fail
  refine (pickA p.kind 6 _ hp.kind (by decide) (by decide)).mono ?_
  rintro e w2 ⟨rfl, rfl⟩
  rw [← HW.out]
  clear HW
  go_upto_region 13 with fail
  refine wp_region_flags (fun i => [.pointer (some ⟨w.heap.size, 2, none⟩), .int .i64 p.side, .int .i64 (pickN p.side 2), .agg (p.cells (.slice s1 n1 c1)).toArray, .agg (callF p).cells.toArray, .agg ({ Ac.none 1 with side := pickN p.side 2, call := callF p }.cells (.slice none 0 0)).toArray, undef].getD i undef)
    (fun b w' => AF w p (.slice s1 n1 c1) (if b 6 = true then { Ac.none 1 with side := pickN p.side 2, call := callF p } else Ac.none 0) w')
    mixedOrd (by kernel_rfl) (by kernel_rfl) (by kernel_rfl) (hA.more ⟨rfl, rfl, rfl, Nat.le_refl _, fun _ _ => rfl⟩) ?_ ?_
  · refine ⟨?_, ?_, ?_, ?_, ?_, ?_, ?_, trivial⟩
    · intro a' w' b hb hs hW
      have h0 : a'.tmps[1]? = some (.pointer (some ⟨w.heap.size, 0, none⟩)) := hs.old 1 rfl
      exact wpOp_val rfl rfl (by simp [execOp, go_sem, h0]) ⟨rfl, hW⟩
    · intro a' w' b hb hs hW
      have h0 : a'.tmps[58]? = some (.pointer (some ⟨w.heap.size, 2, none⟩)) := hs.made 0 58 rfl rfl
      have e0 : w'.cell? ⟨w.heap.size, 2, none⟩ = some (.int .i64 p.side) := by rw [Lib.cell_of_heap hW.par]; rfl
      exact wpOp_val rfl rfl (by simp [execOp, go_sem, h0, e0]) ⟨rfl, hW⟩
    · intro a' w' b hb hs hW
      have h0 : a'.tmps[59]? = some (.int .i64 p.side) := hs.made 1 59 rfl rfl
      refine wpOp_call (f := 13) (args := #[.int .i64 p.side, .int .i64 2]) rfl rfl (exec_call rfl rfl ent13 (by simp [ev h0, evc])) ?_
      refine (pickA p.side 2 w' hp.side (by decide) (by decide)).mono ?_
      rintro e w'' ⟨rfl, rfl⟩
      exact ⟨_, rfl, rfl, hW⟩
    · intro a' w' b hb hs hW
      have h0 : a'.tmps[1]? = some (.pointer (some ⟨w.heap.size, 0, none⟩)) := hs.old 1 rfl
      exact wpOp_val rfl rfl (by simp [execOp, ev h0, load57 hW.par]) ⟨rfl, hW⟩
    · intro a' w' b hb hs hW
      have h0 : a'.tmps[61]? = some (.agg (p.cells (.slice s1 n1 c1)).toArray) := hs.made 3 61 rfl rfl
      refine wpOp_call (f := 40) (args := #[.agg (p.cells (.slice s1 n1 c1)).toArray]) rfl rfl (exec_call rfl rfl ent40 (by simp [ev h0])) ?_
      rw [Ap.cells_eq]
      refine (HCA w').mono ?_
      rintro e w'' ⟨rfl, hx⟩
      exact ⟨_, rfl, rfl, hW.more hx⟩
    · intro a' w' b hb hs hW
      have h0 : a'.tmps[60]? = some (.int .i64 (pickN p.side 2)) := hs.made 2 60 rfl rfl
      have h1 : a'.tmps[62]? = some (.agg (callF p).cells.toArray) := hs.made 4 62 rfl rfl
      exact wpOp_val rfl rfl (exec_b33c rfl rfl (ev h0) (ev h1)) ⟨rfl, hW⟩
    · intro a' w' b hb hs hW
      have h0 : a'.tmps[2]? = some (.pointer (some ⟨w.heap.size + 1, 0, none⟩)) := hs.old 2 rfl
      have h1 : a'.tmps[63]? = some (.agg ({ Ac.none 1 with side := pickN p.side 2, call := callF p }.cells (.slice none 0 0)).toArray) := hs.made 5 63 rfl rfl
      have hb6 : b 6 = false := hb
      rw [hb6, if_neg (by decide)] at hW
      exact wpOp_wp rfl rfl (wp_store_row 33 _ _ rfl (w.heap.size + 1) _ (ev h0) (ev h1) 33 _ hW.res (by kernel_rfl) rfl (Ac.one _ _ _ _) ⟨rfl, hW.put _⟩)
  · intro a' w' b hb hs hW
    rw [hb 6 (by decide), if_pos rfl] at hW
    have h2 : a'.tmps[2]? = some (.pointer (some ⟨w.heap.size + 1, 0, none⟩)) := hs.old 2 rfl
    have hd : a'.defers = [] := hs.defers
    clear hs hb hA
    go_wp2_with fail
    exact bodyPost_ret (res33 rfl _ _ (w.heap.size + 1) _ (by simp [h2]) hW.res (by rfl)) hd (AcP.of hW HF.out rfl)
theorem run_b31 (a b : Int) (s : List UInt8) (w : World) : (Instr.build 31 #[(0, .int .i64 a), (1, .int .i64 b), (2, .string ⟨s.toArray⟩)]).run Tryz.prog w = .ok (.agg #[.int .i64 a, .int .i64 b, .string ⟨s.toArray⟩]) w := by kernel_rfl
theorem exec_b31 {ρ : Operand → Value} {o : Oper} {x y z : Operand} {w : World} {a b : Int} {s : List UInt8} (ho : o.op = .build 31 #[(0, x), (1, y), (2, z)]) (hx : ρ x = .int .i64 a) (hy : ρ y = .int .i64 b) (hz : ρ z = .string ⟨s.toArray⟩) :
    (execOp ρ o).run Tryz.prog w = .ok (.value (.agg #[.int .i64 a, .int .i64 b, .string ⟨s.toArray⟩])) w := by
  unfold execOp
  simp only [ho, List.map_toArray, List.map_cons, List.map_nil, hx, hy, hz, Sem.run_bind, run_b31]
  rfl
theorem run_b33i (a b : Int) (s : List UInt8) (w : World) : (Instr.build 33 #[(0, .int .i64 4), (5, .agg #[.int .i64 a, .int .i64 b, .string ⟨s.toArray⟩])]).run Tryz.prog w = .ok (.agg ({ Ac.none 4 with fr := a, tgt := b, dat := s }.cells (.slice none 0 0)).toArray) w := by kernel_rfl
theorem exec_b33i {ρ : Operand → Value} {o : Oper} {x y : Operand} {w : World} {a b : Int} {s : List UInt8} (ho : o.op = .build 33 #[(0, x), (5, y)]) (hx : ρ x = .int .i64 4) (hy : ρ y = .agg #[.int .i64 a, .int .i64 b, .string ⟨s.toArray⟩]) :
    (execOp ρ o).run Tryz.prog w = .ok (.value (.agg ({ Ac.none 4 with fr := a, tgt := b, dat := s }.cells (.slice none 0 0)).toArray)) w := by
  unfold execOp
  simp only [ho, List.map_toArray, List.map_cons, List.map_nil, hx, hy, Sem.run_bind, run_b33i]
  rfl
set_option maxRecDepth 100000 in
set_option maxHeartbeats 4000000 in
theorem ActionFrom_inject (p : Ap) (s1 : Option Addr) (n1 c1 : Nat) (w : World) (hp : ApFit p) (hk : pickN p.kind 6 = 2) : Calls Tryz.prog 24 #[.agg (p.cells (.slice s1 n1 c1)).toArray] w (ActP p w) := by
  have HF : Hid (actF p = { Ac.none 4 with fr := pickN p.conn 65536, tgt := pickN p.stream 65536, dat := p.s.take 300 }) := by
    unfold Hid actF
    rw [if_neg (by omega), if_neg (by omega), if_pos hk]
  have HT : Hid ((⟨p.s.toArray⟩ : ByteArray).extract 0 (min (p.s.length : Int) 300).toNat = ⟨(p.s.take 300).toArray⟩) := ext_take p.s 300
  have hps := hp.s
  have hp0 : (0 : Int) ≤ (p.s.length : Int) := by omega
  obtain ⟨W0, hW0⟩ : ∃ W0, W0 = (w.alloc (.cells (p.cells (.slice s1 n1 c1)).toArray 57)).alloc (.cells ((Ac.none 0).cells (.slice none 0 0)).toArray 33) := ⟨_, rfl⟩
  have hA := AF.start w p (.slice s1 n1 c1) hW0
  rw [Ap.cells_eq, acNone_cells] at hW0
  rw [Ap.cells_eq]
  have HW := Lib.hid hW0
  clear hW0
  go_enter Tryz.func24, Tryz.ntmps24
  go_wp2_with fail
  refine (pickA p.kind 6 _ hp.kind (by decide) (by decide)).mono ?_
  rintro e w2 ⟨rfl, rfl⟩
  rw [hk, ← HW.out]
  clear HW hk
  go_upto_region 12 with fail
  refine wp_region_flags (fun i => [.pointer (some ⟨w.heap.size, 3, none⟩), .int .i64 p.conn, .int .i64 (pickN p.conn 65536), .pointer (some ⟨w.heap.size, 4, none⟩), .int .i64 p.stream, .int .i64 (pickN p.stream 65536), .pointer (some ⟨w.heap.size, 7, none⟩), .string ⟨p.s.toArray⟩, .pointer (some ⟨w.heap.size, 7, none⟩), .string ⟨p.s.toArray⟩, .int .i64 (p.s.length : Int), .int .i64 (min (p.s.length : Int) 300), .string ⟨(p.s.take 300).toArray⟩,
      .agg #[.int .i64 (pickN p.conn 65536), .int .i64 (pickN p.stream 65536), .string ⟨(p.s.take 300).toArray⟩], .agg ({ Ac.none 4 with fr := pickN p.conn 65536, tgt := pickN p.stream 65536, dat := p.s.take 300 }.cells (.slice none 0 0)).toArray, undef].getD i undef)
    (fun b w' => AF w p (.slice s1 n1 c1) (if b 15 = true then { Ac.none 4 with fr := pickN p.conn 65536, tgt := pickN p.stream 65536, dat := p.s.take 300 } else Ac.none 0) w')
    mixedOrd (by kernel_rfl) (by kernel_rfl) (by kernel_rfl) (hA.more ⟨rfl, rfl, rfl, Nat.le_refl _, fun _ _ => rfl⟩) ?_ ?_
  · refine ⟨?_, ?_, ?_, ?_, ?_, ?_, ?_, ?_, ?_, ?_, ?_, ?_, ?_, ?_, ?_, ?_, trivial⟩
    · intro a' w' b hb hs hW
      have h0 : a'.tmps[1]? = some (.pointer (some ⟨w.heap.size, 0, none⟩)) := hs.old 1 rfl
      exact wpOp_val rfl rfl (by simp [execOp, go_sem, h0]) ⟨rfl, hW⟩
    · intro a' w' b hb hs hW
      have h0 : a'.tmps[43]? = some (.pointer (some ⟨w.heap.size, 3, none⟩)) := hs.made 0 43 rfl rfl
      have e0 : w'.cell? ⟨w.heap.size, 3, none⟩ = some (.int .i64 p.conn) := by rw [Lib.cell_of_heap hW.par]; rfl
      exact wpOp_val rfl rfl (by simp [execOp, go_sem, h0, e0]) ⟨rfl, hW⟩
    · intro a' w' b hb hs hW
      have h0 : a'.tmps[44]? = some (.int .i64 p.conn) := hs.made 1 44 rfl rfl
      refine wpOp_call (f := 13) (args := #[.int .i64 p.conn, .int .i64 65536]) rfl rfl (exec_call rfl rfl ent13 (by simp [ev h0, evc])) ?_
      refine (pickA p.conn 65536 w' hp.conn (by decide) (by decide)).mono ?_
      rintro e w'' ⟨rfl, rfl⟩
      exact ⟨_, rfl, rfl, hW⟩
    · intro a' w' b hb hs hW
      have h0 : a'.tmps[1]? = some (.pointer (some ⟨w.heap.size, 0, none⟩)) := hs.old 1 rfl
      exact wpOp_val rfl rfl (by simp [execOp, go_sem, h0]) ⟨rfl, hW⟩
    · intro a' w' b hb hs hW
      have h0 : a'.tmps[46]? = some (.pointer (some ⟨w.heap.size, 4, none⟩)) := hs.made 3 46 rfl rfl
      have e0 : w'.cell? ⟨w.heap.size, 4, none⟩ = some (.int .i64 p.stream) := by rw [Lib.cell_of_heap hW.par]; rfl
      exact wpOp_val rfl rfl (by simp [execOp, go_sem, h0, e0]) ⟨rfl, hW⟩
    · intro a' w' b hb hs hW
      have h0 : a'.tmps[47]? = some (.int .i64 p.stream) := hs.made 4 47 rfl rfl
      refine wpOp_call (f := 13) (args := #[.int .i64 p.stream, .int .i64 65536]) rfl rfl (exec_call rfl rfl ent13 (by simp [ev h0, evc])) ?_
      refine (pickA p.stream 65536 w' hp.stream (by decide) (by decide)).mono ?_
      rintro e w'' ⟨rfl, rfl⟩
      exact ⟨_, rfl, rfl, hW⟩
    · intro a' w' b hb hs hW
      have h0 : a'.tmps[1]? = some (.pointer (some ⟨w.heap.size, 0, none⟩)) := hs.old 1 rfl
      exact wpOp_val rfl rfl (by simp [execOp, go_sem, h0]) ⟨rfl, hW⟩
    · intro a' w' b hb hs hW
      have h0 : a'.tmps[49]? = some (.pointer (some ⟨w.heap.size, 7, none⟩)) := hs.made 6 49 rfl rfl
      have e0 : w'.cell? ⟨w.heap.size, 7, none⟩ = some (.string ⟨p.s.toArray⟩) := by rw [Lib.cell_of_heap hW.par]; rfl
      exact wpOp_val rfl rfl (by simp [execOp, go_sem, h0, e0]) ⟨rfl, hW⟩
    · intro a' w' b hb hs hW
      have h0 : a'.tmps[1]? = some (.pointer (some ⟨w.heap.size, 0, none⟩)) := hs.old 1 rfl
      exact wpOp_val rfl rfl (by simp [execOp, go_sem, h0]) ⟨rfl, hW⟩
    · intro a' w' b hb hs hW
      have h0 : a'.tmps[51]? = some (.pointer (some ⟨w.heap.size, 7, none⟩)) := hs.made 8 51 rfl rfl
      have e0 : w'.cell? ⟨w.heap.size, 7, none⟩ = some (.string ⟨p.s.toArray⟩) := by rw [Lib.cell_of_heap hW.par]; rfl
      exact wpOp_val rfl rfl (by simp [execOp, go_sem, h0, e0]) ⟨rfl, hW⟩
    · intro a' w' b hb hs hW
      have h0 : a'.tmps[52]? = some (.string ⟨p.s.toArray⟩) := hs.made 9 52 rfl rfl
      exact wpOp_val rfl rfl (by simp [execOp, go_sem, h0]) ⟨rfl, hW⟩
    · intro a' w' b hb hs hW
      have h0 : a'.tmps[53]? = some (.int .i64 (p.s.length : Int)) := hs.made 10 53 rfl rfl
      exact wpOp_val rfl rfl (by simp [execOp, go_sem, h0]) ⟨rfl, hW⟩
    · intro a' w' b hb hs hW
      have h0 : a'.tmps[50]? = some (.string ⟨p.s.toArray⟩) := hs.made 7 50 rfl rfl
      have h1 : a'.tmps[54]? = some (.int .i64 (min (p.s.length : Int) 300)) := hs.made 11 54 rfl rfl
      have h2 := HT.out
      have i1 : (0 : Int) ≤ min (p.s.length : Int) 300 := by omega
      have i2 : min (p.s.length : Int) 300 ≤ (p.s.length : Int) := by omega
      exact wpOp_val rfl rfl (by simp [execOp, go_sem, h0, h1, i1, i2, h2]) ⟨rfl, hW⟩
    · intro a' w' b hb hs hW
      have h0 : a'.tmps[45]? = some (.int .i64 (pickN p.conn 65536)) := hs.made 2 45 rfl rfl
      have h1 : a'.tmps[48]? = some (.int .i64 (pickN p.stream 65536)) := hs.made 5 48 rfl rfl
      have h2 : a'.tmps[55]? = some (.string ⟨(p.s.take 300).toArray⟩) := hs.made 12 55 rfl rfl
      exact wpOp_val rfl rfl (exec_b31 rfl (ev h0) (ev h1) (ev h2)) ⟨rfl, hW⟩
    · intro a' w' b hb hs hW
      have h0 : a'.tmps[56]? = some (.agg #[.int .i64 (pickN p.conn 65536), .int .i64 (pickN p.stream 65536), .string ⟨(p.s.take 300).toArray⟩]) := hs.made 13 56 rfl rfl
      exact wpOp_val rfl rfl (exec_b33i rfl rfl (ev h0)) ⟨rfl, hW⟩
    · intro a' w' b hb hs hW
      have h0 : a'.tmps[2]? = some (.pointer (some ⟨w.heap.size + 1, 0, none⟩)) := hs.old 2 rfl
      have h1 : a'.tmps[57]? = some (.agg ({ Ac.none 4 with fr := pickN p.conn 65536, tgt := pickN p.stream 65536, dat := p.s.take 300 }.cells (.slice none 0 0)).toArray) := hs.made 14 57 rfl rfl
      have hb6 : b 15 = false := hb
      rw [hb6, if_neg (by decide)] at hW
      exact wpOp_wp rfl rfl (wp_store_row 33 _ _ rfl (w.heap.size + 1) _ (ev h0) (ev h1) 33 _ hW.res (by kernel_rfl) rfl (Ac.one _ _ _ _) ⟨rfl, hW.put _⟩)
  · intro a' w' b hb hs hW
    rw [hb 15 (by decide), if_pos rfl] at hW
    have h2 : a'.tmps[2]? = some (.pointer (some ⟨w.heap.size + 1, 0, none⟩)) := hs.old 2 rfl
    have hd : a'.defers = [] := hs.defers
    clear hs hb hA
    go_wp2_with fail
    exact bodyPost_ret (res33 rfl _ _ (w.heap.size + 1) _ (by simp [h2]) hW.res (by rfl)) hd (AcP.of hW HF.out rfl)
theorem AF.kept {w0 W W' : World} {p : Ap} {fv : Value} {x : Ac} {S : Nat → Prop} (h : AF w0 p fv x W) (hk : Kept S W W') (hS : ∀ k, k < w0.heap.size + 2 → ¬ S k) : AF w0 p fv x W' :=
  ⟨(hk.block _ (lt_of_block h.par) (hS _ (by omega))).trans h.par, (hk.block _ (lt_of_block h.res) (hS _ (by omega))).trans h.res, h.ext.kept hk (fun k hk => hS k (by omega))⟩
/-- What the operations of 'append(a.Fates, pick(p.Fates[i], 26))' yield. -/
def AG (N : Nat) (v0 fv : Value) (fb fo j : Nat) (x : Int) (xs : List Int) (i : Nat) (v : Value) (w : World) : Prop := match i with
  | 0 => v = .pointer (some ⟨N + 2, 19, none⟩)
  | 1 => v = v0
  | 2 => v = .pointer (some ⟨N, 8, none⟩)
  | 3 => v = fv
  | 4 => v = .int .i64 (j : Int)
  | 5 => v = .pointer (some ⟨fb, fo + j, none⟩)
  | 6 => v = .int .i64 x
  | 7 => v = .int .i64 (pickN x 26)
  | 8 => ∃ g, v = .slice (some ⟨g, 0, none⟩) 1 1 ∧ N + 3 ≤ g ∧ v0.ownBlock ≠ some g ∧ w.heap[g]? = some (.cells #[.int .i64 (pickN x 26)] 3)
  | 9 => ∃ s m c, v = .slice s m c ∧ w.ownsRow (N + 3) 3 1 (.slice s m c) (xs.length + 1) (xs.map vI ++ [vI (pickN x 26)])
  | 10 => v = .pointer (some ⟨N + 2, 19, none⟩)
  | _ => True
theorem AG.same {N : Nat} {v0 fv : Value} {fb fo k : Nat} {x : Int} {xs : List Int} {j : Nat} {u : Value} {w w' : World} (h : AG N v0 fv fb fo k x xs j u w) (h8 : j ≠ 8) (h9 : j ≠ 9) : AG N v0 fv fb fo k x xs j u w' := by
  match j, h8, h9, h with
  | 0, _, _, h => exact h
  | 1, _, _, h => exact h
  | 2, _, _, h => exact h
  | 3, _, _, h => exact h
  | 4, _, _, h => exact h
  | 5, _, _, h => exact h
  | 6, _, _, h => exact h
  | 7, _, _, h => exact h
  | 8, h8, _, _ => exact absurd rfl h8
  | 9, _, h9, _ => exact absurd rfl h9
  | 10, _, _, h => exact h
  | k + 11, _, _, _ => exact trivial
/-- The world meanwhile. -/
structure AW (w : World) (p : Ap) (fv v0 : Value) (x : Int) (xs : List Int) (b9 b11 : Bool) (wq : World) : Prop where
  af : AF w p fv (Ac.none 0) wq
  row : b9 = false → wq.ownsRow (w.heap.size + 3) 3 1 v0 xs.length (xs.map vI)
  old : b11 = false → wq.heap[w.heap.size + 2]? = some (.cells ((Ac.none 3).cells v0).toArray 33)
  new : b11 = true → ∃ s m c, wq.heap[w.heap.size + 2]? = some (.cells ((Ac.none 3).cells (.slice s m c)).toArray 33) ∧ wq.ownsRow (w.heap.size + 3) 3 1 (.slice s m c) (xs.length + 1) (xs.map vI ++ [vI (pickN x 26)])
theorem AcP.fates {p : Ap} {w W : World} {fv : Value} {s : Option Addr} {n c : Nat} {l : List Int} (h : AF w p fv (Ac.none 0) W) (hrow : W.ownsRow (w.heap.size + 3) 3 1 (.slice s n c) l.length (l.map vI)) (e : actF p = { Ac.none 3 with fates := l }) :
    ActP p w (.returned (.agg ((Ac.none 3).cells (.slice s n c)).toArray)) (W.setRow (w.heap.size + 1) ((Ac.none 3).cells (.slice s n c)).toArray) := by
  have hk : Kept (· = w.heap.size + 1) W (W.setRow (w.heap.size + 1) ((Ac.none 3).cells (.slice s n c)).toArray) := ⟨rfl, rfl, rfl, by simp, fun k _ hk => setRow_other _ _ _ _ hk⟩
  obtain ⟨h1, h2⟩ := fates_row (ownsRow_kept hrow hk (fun g hg hh => by omega))
  refine ⟨h.ext.setRow _ _ (by omega), s, n, c, by rw [e]; rfl, ?_, ?_⟩
  · rw [e]; exact h1
  · rw [e]; exact h2
set_option maxRecDepth 100000 in
set_option maxHeartbeats 4000000 in
theorem ActionFrom_fates (p : Ap) (s1 : Option Addr) (n1 c1 : Nat) (w : World) (hp : ApFit p) (hFA : FatesAt w (.slice s1 n1 c1) p.fates) (hk : pickN p.kind 6 = 1) : Calls Tryz.prog 24 #[.agg (p.cells (.slice s1 n1 c1)).toArray] w (ActP p w) := by
  have HF : Hid (actF p = { Ac.none 3 with fates := (p.fates.take 64).map fun x => pickN x 26 }) := by
    unfold Hid actF
    rw [if_neg (by omega), if_pos hk]
  obtain ⟨fa, fcap, fe, fh1, fh2, fh3⟩ := hFA
  obtain ⟨rfl, rfl, rfl⟩ : s1 = fa ∧ n1 = p.fates.length ∧ c1 = fcap := by cases fe; exact ⟨rfl, rfl, rfl⟩
  clear fe
  obtain ⟨W0, hW0⟩ : ∃ W0, W0 = (w.alloc (.cells (p.cells (.slice s1 p.fates.length c1)).toArray 57)).alloc (.cells ((Ac.none 0).cells (.slice none 0 0)).toArray 33) := ⟨_, rfl⟩
  have hA := AF.start w p (.slice s1 p.fates.length c1) hW0
  have hs0 : W0.heap.size = w.heap.size + 2 := by rw [hW0]; simp
  rw [Ap.cells_eq, acNone_cells] at hW0
  rw [Ap.cells_eq]
  have HW := Lib.hid hW0
  have HS := Lib.hid hs0
  clear hW0 hs0
  go_enter Tryz.func24, Tryz.ntmps24
  go_wp2_with fail
  refine (pickA p.kind 6 _ hp.kind (by decide) (by decide)).mono ?_
  rintro e w2 ⟨rfl, rfl⟩
  rw [hk, ← HW.out]
  clear HW hk
  go_wp2_with (refine wpList_store33 rfl _ _ rfl W0.heap.size ((Ac.none 3).cells (.slice none 0 0)).toArray rfl rfl _ (alloc_new _ _) rfl rfl (Ac.one _ _ _ _) ?_)
  obtain ⟨W1, hW1⟩ : ∃ W1, W1 = (W0.alloc (.cells ((Ac.none 0).cells (.slice none 0 0)).toArray 33)).setRow W0.heap.size ((Ac.none 3).cells (.slice none 0 0)).toArray := ⟨_, rfl⟩
  have hx1 : Ext W0 W1 := by rw [hW1]; exact (Ext.alloc _ _).setRow _ _ (Nat.le_refl _)
  have hA1 : AF w p (.slice s1 p.fates.length c1) (Ac.none 0) W1 := hA.more hx1
  have hN1 : W1.heap[w.heap.size + 2]? = some (.cells ((Ac.none 3).cells (.slice none 0 0)).toArray 33) := by rw [hW1, ← HS.out]; exact setRow_heap _ _ _ _ _ _ (alloc_new _ _)
  rw [acNone_cells] at hW1
  rw [← hW1, HS.out]
  clear hW1 HS hA hx1
  go_loopw [4] (fun i wq => ∃ (j : Nat) (s : Option Addr) (n c : Nat), j ≤ 64 ∧ j ≤ p.fates.length ∧ i = .int .i64 j ∧ AF w p (.slice s1 p.fates.length c1) (Ac.none 0) wq ∧ wq.heap[w.heap.size + 2]? = some (.cells ((Ac.none 3).cells (.slice s n c)).toArray 33) ∧
    wq.ownsRow (w.heap.size + 3) 3 1 (.slice s n c) ((p.fates.take j).map fun x => pickN x 26).length (((p.fates.take j).map fun x => pickN x 26).map vI)) (fun i _ => 64 - (intOf i).toNat)
  case atStart => exact ⟨0, none, 0, 0, by decide, Nat.zero_le _, rfl, hA1, hN1, World.ownsRow_nil _ _ _ _⟩
  case round =>
    obtain ⟨j, s, n, c, hj, hjl, rfl, hAr, hNr, hrow⟩ := hrel
    have e8 : wr.cell? ⟨w.heap.size, 8, none⟩ = some (.slice s1 p.fates.length c1) := by rw [Lib.cell_of_heap hAr.par]; rfl
    have j0 : (0 : Int) ≤ (j : Int) := by omega
    by_cases hlt : j < p.fates.length ∧ j < 64
    · obtain ⟨hl1, hl2⟩ := hlt
      have i1 : (j : Int) < (p.fates.length : Int) := by omega
      have i2 : (j : Int) < 64 := by omega
      go_upto_region 9 with fail
      obtain ⟨fb, fo, rfl, hfc⟩ := fh3 (by intro e; rw [e] at hl1; simp at hl1)
      obtain ⟨x, hx⟩ : ∃ x, p.fates[j]? = some x := ⟨_, List.getElem?_eq_getElem hl1⟩
      have hxf : IntFit x := hp.fates x (List.mem_of_getElem? hx)
      have hcx : w.cell? ⟨fb, fo + j, none⟩ = some (.int .i64 x) := hfc j x hx
      have hcw := cell_lt hcx
      have htk : (p.fates.take (j + 1)).map (fun x => pickN x 26) = (p.fates.take j).map (fun x => pickN x 26) ++ [pickN x 26] := by rw [List.take_add_one, hx]; simp
      have hlj : ((p.fates.take j).map fun x => pickN x 26).length = j := by rw [List.length_map, List.length_take]; omega
      have hlj1 : ((p.fates.take (j + 1)).map fun x => pickN x 26).length = j + 1 := by rw [List.length_map, List.length_take]; omega
      generalize (p.fates.take j).map (fun x => pickN x 26) = xs at hrow htk hlj
      have HTK := Lib.hid htk
      have HXS := Lib.hid hlj
      clear htk
      obtain ⟨i0, hi, k0, k1, k2⟩ := info_parts Tryz.info3
      have hvb : ∀ g, (Value.slice s n c).ownBlock = some g → w.heap.size + 3 ≤ g ∧ g < wr.heap.size := by
        intro g hgb
        rcases hrow.2 with ⟨h2, _⟩ | ⟨g', cap', cur, he, hbb, hgg, _⟩
        · rw [h2] at hgb; cases hgb
        · rw [he] at hgb; cases hgb; exact ⟨hbb, lt_of_block hgg⟩
      have hlx : xs.length ≤ 64 := by omega
      have hsw := hAr.ext.size
      clear hlj
      refine wp_region_gen (AG w.heap.size (.slice s n c) (.slice (some ⟨fb, fo, none⟩) p.fates.length c1) fb fo j x xs) (fun b wq => AW w p (.slice (some ⟨fb, fo, none⟩) p.fates.length c1) (.slice s n c) x xs (b 9) (b 11) wq ∧ wr.heap.size ≤ wq.heap.size) mixedOrd (by kernel_rfl) (by kernel_rfl) (by kernel_rfl)
        ⟨⟨hAr.more ⟨rfl, rfl, rfl, Nat.le_refl _, fun _ _ => rfl⟩, fun _ => hrow, fun _ => hNr, (fun h => by cases h)⟩, Nat.le_refl _⟩ ?_ ?_
      · refine ⟨?_, ?_, ?_, ?_, ?_, ?_, ?_, ?_, ?_, ?_, ?_, ?_, trivial⟩
        · intro a' w' b hdf hso hs hW
          have h0 : a'.tmps[3]? = some (.pointer (some ⟨w.heap.size + 2, 0, none⟩)) := hs.old 3 rfl
          exact wpOp_val rfl rfl (by simp [execOp, go_sem, h0]) ⟨_, rfl, .inr rfl, hW, fun _ _ _ h => h⟩
        · intro a' w' b hdf hso hs hW
          obtain ⟨v, h0, rfl⟩ := hs.made 0 29 rfl rfl
          have hb11 : b 11 = false := hso.not 11 rfl rfl
          have e0 : w'.cell? ⟨w.heap.size + 2, 19, none⟩ = some (.slice s n c) := by rw [Lib.cell_of_heap (hW.1.old hb11)]; rfl
          exact wpOp_val rfl rfl (by simp [execOp, go_sem, h0, e0]) ⟨_, rfl, .inr rfl, hW, fun _ _ _ h => h⟩
        · intro a' w' b hdf hso hs hW
          have h0 : a'.tmps[1]? = some (.pointer (some ⟨w.heap.size, 0, none⟩)) := hs.old 1 rfl
          exact wpOp_val rfl rfl (by simp [execOp, go_sem, h0]) ⟨_, rfl, .inr rfl, hW, fun _ _ _ h => h⟩
        · intro a' w' b hdf hso hs hW
          obtain ⟨v, h0, rfl⟩ := hs.made 2 31 rfl rfl
          have e0 : w'.cell? ⟨w.heap.size, 8, none⟩ = some (.slice (some ⟨fb, fo, none⟩) p.fates.length c1) := by rw [Lib.cell_of_heap hW.1.af.par]; rfl
          exact wpOp_val rfl rfl (by simp [execOp, go_sem, h0, e0]) ⟨_, rfl, .inr rfl, hW, fun _ _ _ h => h⟩
        · intro a' w' b hdf hso hs hW
          have h0 : a'.tmps[4]? = some (.int .i64 (j : Int)) := hs.old 4 rfl
          exact wpOp_val rfl rfl (by simp [execOp, go_sem, h0]) ⟨_, rfl, .inr rfl, hW, fun _ _ _ h => h⟩
        · intro a' w' b hdf hso hs hW
          obtain ⟨v, h0, rfl⟩ := hs.made 3 32 rfl rfl
          obtain ⟨v, h1, rfl⟩ := hs.made 4 33 rfl rfl
          exact wpOp_val (v := .pointer (some ⟨fb, fo + j, none⟩)) rfl rfl (by simp [execOp, go_sem, h0, h1, j0, i1]) ⟨_, rfl, .inr rfl, hW, fun _ _ _ h => h⟩
        · intro a' w' b hdf hso hs hW
          obtain ⟨v, h0, rfl⟩ := hs.made 5 34 rfl rfl
          have e0 : w'.cell? ⟨fb, fo + j, none⟩ = some (.int .i64 x) := by rw [hW.1.af.ext.cell (p := ⟨fb, fo + j, none⟩) hcw]; exact hcx
          exact wpOp_val rfl rfl (by simp [execOp, go_sem, h0, e0]) ⟨_, rfl, .inr rfl, hW, fun _ _ _ h => h⟩
        · intro a' w' b hdf hso hs hW
          obtain ⟨v, h0, rfl⟩ := hs.made 6 35 rfl rfl
          refine wpOp_call (f := 13) (args := #[.int .i64 x, .int .i64 26]) rfl rfl (exec_call rfl rfl ent13 (by simp [ev h0, evc])) ?_
          refine (pickA x 26 w' hxf (by decide) (by decide)).mono ?_
          rintro e w'' ⟨rfl, rfl⟩
          exact ⟨_, rfl, _, rfl, .inr rfl, hW, fun _ _ _ h => h⟩
        · intro a' w' b hdf hso hs hW
          obtain ⟨v, h0, rfl⟩ := hs.made 7 36 rfl rfl
          have hb9 : b 9 = false := hso.not 9 rfl rfl
          have hb11 : b 11 = false := hso.not 11 rfl rfl
          have hx2 : Ext w' (w'.alloc (.cells #[.int .i64 (pickN x 26)] 3)) := Ext.alloc _ _
          refine wpOp_val (w' := w'.alloc (.cells #[.int .i64 (pickN x 26)] 3)) (v := .slice (some ⟨w'.heap.size, 0, none⟩) 1 1) rfl rfl (by simp [execOp, go_sem, h0]) ⟨_, rfl, .inr ⟨w'.heap.size, rfl, ?_, ?_, alloc_new _ _⟩, ⟨⟨hW.1.af.more hx2, fun hb => ownsRow_ext (hW.1.row hb) hx2, fun hb => (hx2.block _ (lt_of_block (hW.1.old hb))).trans (hW.1.old hb), fun hb => ?_⟩, Nat.le_trans hW.2 hx2.size⟩, ?_⟩
          · exact lt_of_block (hW.1.old hb11)
          · intro e; have := (hvb _ e).2; have := hW.2; omega
          · have hb' : b 11 = true := hb
            rw [hb11] at hb'; cases hb'
          · intro k u hbk hG
            refine AG.same hG ?_ ?_
            · rintro rfl; have := hso.undone; rw [Nat.zero_add] at this; rw [this] at hbk; cases hbk
            · rintro rfl; rw [hb9] at hbk; cases hbk
        · intro a' w' b hdf hso hs hW
          obtain ⟨v, h0, rfl⟩ := hs.made 1 30 rfl rfl
          obtain ⟨v, h1, g, rfl, hg1, hg2, hg3⟩ := hs.made 8 37 rfl rfl
          have hb9 : b 9 = false := hso.undone
          have hb11 : b 11 = false := hso.not 11 rfl rfl
          refine wpOp_wp rfl rfl (wp_append_lies w' _ _ 29 rfl (w.heap.size + 3) 3 i0 (.int .i64 0) 1 8 und29 hi k0 k1 k2 rfl (by omega) _ _ _ (ev h0) (hW.1.row hb9) ⟨g, 0, none⟩ 1 1 [.int .i64 (pickN x 26)] (ev h1) rfl (World.news_of_block hg3) (by simp [Value.oneCell']) (by omega) (by unfold maxLen; omega) (by omega) (lt_of_block (hW.1.old hb11)) w'.heap.size rfl ?_)
          intro g' cap' w'' hown hgrow hat hlt2
          have hkg : Kept (fun k => (Value.slice s n c).ownBlock = some k) w' w'' := ⟨hgrow.os, hgrow.tape, hgrow.output, hgrow.size, fun k hk1 hk2 => hgrow.block k hk1 (fun e => hk2 e.symm)⟩
          have hS : ∀ k, k < w.heap.size + 3 → ¬ (Value.slice s n c).ownBlock = some k := fun k hk1 hk2 => by have := (hvb k hk2).1; omega
          refine ⟨_, rfl, .inr ⟨_, _, _, rfl, hown⟩, ⟨⟨hW.1.af.kept hkg (fun k hk1 => hS k (by omega)), (fun h => by cases h), fun hb => (hkg.block _ (lt_of_block (hW.1.old hb)) (hS _ (by omega))).trans (hW.1.old hb), fun hb => ?_⟩, Nat.le_trans hW.2 hgrow.size⟩, ?_⟩
          · have hb' : b 11 = true := hb
            rw [hb11] at hb'; cases hb'
          · intro k u hbk hG
            by_cases h8 : k = 8
            · subst h8
              obtain ⟨g4, f1, f2, f3, f4⟩ := hG
              exact ⟨g4, f1, f2, f3, (hgrow.block g4 (lt_of_block f4) (fun e => f3 e.symm)).trans f4⟩
            · exact AG.same hG h8 (by rintro rfl; rw [hb9] at hbk; cases hbk)
        · intro a' w' b hdf hso hs hW
          have h0 : a'.tmps[3]? = some (.pointer (some ⟨w.heap.size + 2, 0, none⟩)) := hs.old 3 rfl
          exact wpOp_val rfl rfl (by simp [execOp, go_sem, h0]) ⟨_, rfl, .inr rfl, hW, fun _ _ _ h => h⟩
        · intro a' w' b hdf hso hs hW
          obtain ⟨v, h0, rfl⟩ := hs.made 10 39 rfl rfl
          obtain ⟨v, h1, s2, m2, c2, rfl, hown⟩ := hs.made 9 38 rfl rfl
          have hb11 : b 11 = false := hso.undone
          have hb9 : b 9 = true := hso.ready 9 rfl
          have hold := hW.1.old hb11
          have e0 : w'.cell? ⟨w.heap.size + 2, 19, none⟩ = some (.slice s n c) := by rw [Lib.cell_of_heap hold]; rfl
          have e1 : w'.frozen? ⟨w.heap.size + 2, 19, none⟩ = false := Lib.frozen_of_heap hold 19
          have hks : Kept (· = w.heap.size + 2) w' (w'.setCell ⟨w.heap.size + 2, 19, none⟩ (.slice s2 m2 c2)) := Kept.setCell (S := (· = w.heap.size + 2)) w' (p := ⟨w.heap.size + 2, 19, none⟩) rfl _
          refine wpOp_skip (w' := w'.setCell ⟨w.heap.size + 2, 19, none⟩ (.slice s2 m2 c2)) rfl rfl (by simp [execOp, go_sem, h0, h1, e0, e1]) ⟨undef, rfl, .inl rfl, ⟨⟨hW.1.af.kept hks (fun k hk1 hk2 => by omega), ?_, ?_, ?_⟩, Nat.le_trans hW.2 hks.size⟩, ?_⟩
          · intro h
            have h' : b 9 = false := h
            rw [hb9] at h'; cases h'
          · intro h; cases h
          · intro _; exact ⟨s2, m2, c2, by rw [heap_setCell_self hold]; rfl, ownsRow_kept hown hks (fun g hgg h => by omega)⟩
          · intro k u hbk hG
            by_cases h8 : k = 8
            · subst h8
              obtain ⟨g4, f1, f2, f3, f4⟩ := hG
              exact ⟨g4, f1, f2, f3, (hks.block g4 (lt_of_block f4) (by omega)).trans f4⟩
            · by_cases h9 : k = 9
              · subst h9
                obtain ⟨s5, m5, c5, f1, f2⟩ := hG
                exact ⟨s5, m5, c5, f1, ownsRow_kept f2 hks (fun g hgg h => by omega)⟩
              · exact AG.same hG h8 h9
      · intro a' w' b hb hs hW
        obtain ⟨v29, h29, _⟩ := hs.made 0 29 rfl
        obtain ⟨v30, h30, _⟩ := hs.made 1 30 rfl
        obtain ⟨v31, h31, _⟩ := hs.made 2 31 rfl
        obtain ⟨v32, h32, _⟩ := hs.made 3 32 rfl
        obtain ⟨v33, h33, _⟩ := hs.made 4 33 rfl
        obtain ⟨v34, h34, _⟩ := hs.made 5 34 rfl
        obtain ⟨v35, h35, _⟩ := hs.made 6 35 rfl
        obtain ⟨v36, h36, _⟩ := hs.made 7 36 rfl
        obtain ⟨v37, h37, _⟩ := hs.made 8 37 rfl
        obtain ⟨v38, h38, _⟩ := hs.made 9 38 rfl
        obtain ⟨v39, h39, _⟩ := hs.made 10 39 rfl
        have ha := act_putAll [(29, v29), (30, v30), (31, v31), (32, v32), (33, v33), (34, v34), (35, v35), (36, v36), (37, v37), (38, v38), (39, v39)] hs.defers hs.size (by simp [h29, h30, h31, h32, h33, h34, h35, h36, h37, h38, h39]) rfl hs.old
        clear hs h29 h30 h31 h32 h33 h34 h35 h36 h37 h38 h39
        obtain ⟨s2, m2, c2, hn1, hn2⟩ := hW.1.new (hb 11 (by decide))
        have hAn := hW.1.af
        clear hb hW
        have hn3 : w'.ownsRow (w.heap.size + 3) 3 1 (.slice s2 m2 c2) ((p.fates.take (j + 1)).map fun x => pickN x 26).length (((p.fates.take (j + 1)).map fun x => pickN x 26).map vI) := by
          rw [HTK.out]
          simpa using hn2
        clear hn2
        simp only [putAll, Act.put] at ha
        subst ha
        go_frame
        go_wp2_with fail
        go_roundw
        case rel => exact ⟨j + 1, s2, m2, c2, hl2, hl1, by go_num, hAn, hn1, hn3⟩
        case measure => simp [intOf]; omega
    · have hxs : (p.fates.take j).map (fun x => pickN x 26) = (p.fates.take 64).map fun x => pickN x 26 := by
        rcases Nat.lt_or_ge j 64 with h | h
        · have : j = p.fates.length := by omega
          rw [this, List.take_of_length_le (Nat.le_refl _), List.take_of_length_le (by omega)]
        · rw [show j = 64 by omega]
      rw [hxs] at hrow
      clear hxs
      have HN : Hid (¬ j < p.fates.length ∨ j < p.fates.length ∧ ¬ j < 64) := by
        unfold Hid
        omega
      have hres := AcP.fates hAr hrow HF.out
      rcases HN.out with g1 | ⟨g1, g2⟩
      · go_wp2_with (first | refine wpList_load33 (by rfl) _ rfl (w.heap.size + 2) rfl _ hNr rfl ?_ | refine wpList_store33 rfl _ _ rfl (w.heap.size + 1) _ rfl rfl _ hAr.res rfl rfl (Ac.one _ _ _ _) ?_)
        exact bodyPost_ret (res33 rfl _ _ (w.heap.size + 1) _ rfl (setRow_heap _ _ _ _ _ _ hAr.res) (by rfl)) rfl hres
      · go_wp2_with (first | refine wpList_load33 (by rfl) _ rfl (w.heap.size + 2) rfl _ hNr rfl ?_ | refine wpList_store33 rfl _ _ rfl (w.heap.size + 1) _ rfl rfl _ hAr.res rfl rfl (Ac.one _ _ _ _) ?_)
        exact bodyPost_ret (res33 rfl _ _ (w.heap.size + 1) _ rfl (setRow_heap _ _ _ _ _ _ hAr.res) (by rfl)) rfl hres
theorem ActionFrom_any (p : Ap) (s1 : Option Addr) (n1 c1 : Nat) (w : World) (hp : ApFit p) (hFA : FatesAt w (.slice s1 n1 c1) p.fates) : Calls Tryz.prog 24 #[.agg (p.cells (.slice s1 n1 c1)).toArray] w (ActP p w) := by
  by_cases h0 : pickN p.kind 6 = 0
  · exact ActionFrom_tick p s1 n1 c1 w hp h0
  · by_cases h1 : pickN p.kind 6 = 1
    · exact ActionFrom_fates p s1 n1 c1 w hp hFA h1
    · by_cases h2 : pickN p.kind 6 = 2
      · exact ActionFrom_inject p s1 n1 c1 w hp h2
      · exact ActionFrom_call p s1 n1 c1 w hp h0 h1 h2
end Go.Proofs.YtikmoledbiepoaaGreatDoor

/- CallFrom: the call to dial. -/
import Derived.Test.YtikmoledbiepoaaGreatDoorFrom
namespace Go.Proofs.YtikmoledbiepoaaGreatDoor
open Go.RowKit
theorem ent25 : Ent 25 := enters_of Tryz.func25 (by kernel_rfl) rfl
theorem ent65 : Ent 65 := enters_of Tryz.func65 (by kernel_rfl) rfl
theorem inf26 : (Tryz.prog.info? 26).map (·.size) = some 8 := by kernel_rfl
theorem store26 {w : World} {b o : Nat} {cs : Array Value} {T : TypeId} (U S : List UInt8) (p q r s t u : Int) (h : w.heap[b]? = some (.cells cs T)) (hn : o + 8 ≤ cs.size) :
    (Instr.storeAt 26 (.pointer (some ⟨b, o, none⟩)) (.agg (ses U S p q r s t u).toArray)).run Tryz.prog w = .ok () (w.setCells b o (ses U S p q r s t u)) :=
  run_storeAt_mid w b o 26 (ses U S p q r s t u).toArray (there_of_block h o 8 hn) inf26 (by simp [ses, p6, Value.oneCell'])
theorem put_ses (c : Cal) (U S : List UInt8) (p q r s t u : Int) : putAt c.cells.toArray 8 (ses U S p q r s t u) = ({ c with tick := U, sec := S, p0 := p, p1 := q, p2 := r, p3 := s, p4 := t, p5 := u }.cells).toArray := by
  rw [putAt_list _ _ _ (by simp [ses, p6, Cal.cells_length])]
  rfl
theorem Kept.setCells {g : Nat} : ∀ (vs : List Value) (o : Nat) (w : World), Kept (· = g) w (w.setCells g o vs)
  | [], _, w => Kept.refl _ w
  | v :: r, o, w => (Kept.setCell (S := (· = g)) w (p := ⟨g, o, none⟩) rfl v).trans (Kept.setCells r (o + 1) _)
theorem CF.ses {w0 W : World} {B C R : Nat} {p : Ap} {fv : Value} {c : Cal} (h : CF w0 B C R p fv c W) (U S : List UInt8) (a b d e f g : Int) :
    CF w0 B C R p fv { c with tick := U, sec := S, p0 := a, p1 := b, p2 := d, p3 := e, p4 := f, p5 := g } (W.setCells C 8 (ses U S a b d e f g)) := by
  refine h.kept (Kept.setCells _ _ _) ⟨rfl, ?_⟩
  have h0 : W.heap[C]? = some (.cells c.cells.toArray 28) := by have := h.cal.2; simpa using this
  rw [heap_setCells_self _ _ _ _ h0, put_ses]
  simp
theorem CF.block {w0 W : World} {B C R : Nat} {p : Ap} {fv : Value} {c : Cal} (h : CF w0 B C R p fv c W) : W.heap[C]? = some (.cells c.cells.toArray 28) := by have := h.cal.2; simpa using this
set_option maxRecDepth 100000 in
set_option maxHeartbeats 4000000 in
theorem CallFrom_1b (p : Ap) (s1 : Option Addr) (n1 c1 : Nat) (w : World) (hp : ApFit p) (hk : pickN p.call 13 = 0) (hn : pickN p.n 2 = 0) : Calls Tryz.prog 40 #[.agg (p.cells (.slice s1 n1 c1)).toArray] w fun e w' => e = .returned (.agg (callK p 1).cells.toArray) ∧ Ext w w' := by
  have HT : Hid ((⟨p.s.toArray⟩ : ByteArray).extract 0 (min (p.s.length : Int) 100).toNat = ⟨(p.s.take 100).toArray⟩) := ext_take p.s 100
  have HF : Hid (callK p 1 = { Cal.ofKind 1 with loc := pickN p.conn 65536, rem := pickN p.stream 65536 }) := by
    unfold Hid callK
    rw [if_pos rfl, if_neg (by omega)]
  have hps := hp.s
  obtain ⟨W0, hW0⟩ : ∃ W0, W0 = ((w.alloc (.cells (p.cells (.slice s1 n1 c1)).toArray 57)).alloc (.cells (Cal.ofKind 0).cells.toArray 28)).alloc (.cells (Cal.ofKind 1).cells.toArray 28) := ⟨_, rfl⟩
  have hC := CF.start w p (.slice s1 n1 c1) (Cal.ofKind 1) hW0
  rw [Ap.cells_eq, Cal.ofKind_eq, Cal.ofKind_eq] at hW0
  rw [Ap.cells_eq]
  have HW := Lib.hid hW0
  clear hW0
  go_enter Tryz.func40, Tryz.ntmps40
  go_wp2_with fail
  refine (pickA p.call 13 _ hp.call (by decide) (by decide)).mono ?_
  rintro e w2 ⟨rfl, rfl⟩
  rw [hk]
  go_upto_region 2 with fail
  rw [← HW.out]
  clear HW
  obtain ⟨e0, e1, e2, e3, e4, e5, e6, e7, e8⟩ := par_cells hC.par
  go_upto_region 3 with fail
  rw [HT.out]
  clear HT
  have e9 : W0.cell? ⟨w.heap.size + 1 + 1, 0, none⟩ = some (.int .i64 1) := hC.cal.cell (k := 0) rfl
  go_wp2_with (first
    | (go_at_call 13; refine (pickA _ _ _ (by first | exact hp.conn | exact hp.stream | exact hp.n | exact hp.code) (by decide) (by decide)).mono ?_; rintro e w2 ⟨rfl, rfl⟩)
    | (refine wpList_setI rfl _ _ rfl _ rfl _ rfl hC rfl ?_; clear e0 e1 e2 e3 e4 e5 e6 e7 e8 hC; intro W1 hC; obtain ⟨e0, e1, e2, e3, e4, e5, e6, e7, e8⟩ := par_cells hC.par)
    | refine wpList_ld28 rfl _ rfl _ _ rfl _ (cal_range hC.cal) ?_
    | refine wpList_store28 rfl _ _ rfl _ _ rfl rfl _ hC.res rfl rfl (cal_one _) ?_)
  refine bodyPost_ret (res28 rfl _ _ (w.heap.size + 1) _ rfl (setRow_heap _ _ _ _ _ _ hC.res) rfl) rfl ⟨?_, hC.ext.setRow _ _ hC.lr⟩
  rw [HF.out]
  rfl
set_option maxRecDepth 100000 in
set_option maxHeartbeats 4000000 in
theorem CallFrom_1a (p : Ap) (s1 : Option Addr) (n1 c1 : Nat) (w : World) (hp : ApFit p) (hk : pickN p.call 13 = 0) (hn : pickN p.n 2 = 1) : Calls Tryz.prog 40 #[.agg (p.cells (.slice s1 n1 c1)).toArray] w fun e w' => e = .returned (.agg (callK p 1).cells.toArray) ∧ Ext w w' := by
  have HT : Hid ((⟨p.s.toArray⟩ : ByteArray).extract 0 (min (p.s.length : Int) 100).toNat = ⟨(p.s.take 100).toArray⟩) := ext_take p.s 100
  have HF : Hid (callK p 1 = ⟨1, 0, 0, 0, [], 0, pickN p.conn 65536, pickN p.stream 65536, p.s.take 100 ++ [116], strF (p.s.take 100) 16, pickN p.q0 1073741825, pickN p.q1 1073741825, pickN p.q2 65, pickN p.q3 65, pickN p.q4 21, 50 + pickN p.q5 99951⟩) := by
    unfold Hid callK
    rw [if_pos rfl, if_pos hn]
  have hps := hp.s
  have hfl : (p.s.take 100).length ≤ 100 := by rw [List.length_take]; omega
  obtain ⟨W0, hW0⟩ : ∃ W0, W0 = ((w.alloc (.cells (p.cells (.slice s1 n1 c1)).toArray 57)).alloc (.cells (Cal.ofKind 0).cells.toArray 28)).alloc (.cells (Cal.ofKind 1).cells.toArray 28) := ⟨_, rfl⟩
  have hC := CF.start w p (.slice s1 n1 c1) (Cal.ofKind 1) hW0
  rw [Ap.cells_eq, Cal.ofKind_eq, Cal.ofKind_eq] at hW0
  rw [Ap.cells_eq]
  have HW := Lib.hid hW0
  clear hW0
  go_enter Tryz.func40, Tryz.ntmps40
  go_wp2_with fail
  refine (pickA p.call 13 _ hp.call (by decide) (by decide)).mono ?_
  rintro e w2 ⟨rfl, rfl⟩
  rw [hk]
  go_upto_region 2 with fail
  rw [← HW.out]
  clear HW
  obtain ⟨e0, e1, e2, e3, e4, e5, e6, e7, e8⟩ := par_cells hC.par
  go_upto_region 3 with fail
  rw [HT.out]
  clear HT
  have e9 : W0.cell? ⟨w.heap.size + 1 + 1, 0, none⟩ = some (.int .i64 1) := hC.cal.cell (k := 0) rfl
  go_upto_region 8 with (first
    | (go_at_call 13; refine (pickA _ _ _ (by first | exact hp.conn | exact hp.stream | exact hp.n | exact hp.code) (by decide) (by decide)).mono ?_; rintro e w2 ⟨rfl, rfl⟩)
    | (refine wpList_setI rfl _ _ rfl _ rfl _ rfl hC rfl ?_; clear e0 e1 e2 e3 e4 e5 e6 e7 e8 hC; intro W1 hC; obtain ⟨e0, e1, e2, e3, e4, e5, e6, e7, e8⟩ := par_cells hC.par))
  clear e0 e1 e2 e3 e4 e5 e6 e7 e8 e9 hk
  generalize hc : ((Cal.ofKind 1).setI 6 (pickN p.conn 65536)).setI 7 (pickN p.stream 65536) = c at hC
  have HC := Lib.hid hc
  clear hc
  refine wp_region_flags (fun i => [.string ⟨(p.s.take 100).toArray⟩, .string ⟨(p.s.take 100 ++ [116]).toArray⟩, .string ⟨(p.s.take 100).toArray⟩, .string ⟨(strF (p.s.take 100) 16).toArray⟩, .pointer (some ⟨w.heap.size, 9, none⟩), .agg (p6 p.q0 p.q1 p.q2 p.q3 p.q4 p.q5).toArray,
      .agg (p6 (pickN p.q0 1073741825) (pickN p.q1 1073741825) (pickN p.q2 65) (pickN p.q3 65) (pickN p.q4 21) (50 + pickN p.q5 99951)).toArray, .agg (ses (p.s.take 100 ++ [116]) (strF (p.s.take 100) 16) (pickN p.q0 1073741825) (pickN p.q1 1073741825) (pickN p.q2 65) (pickN p.q3 65) (pickN p.q4 21) (50 + pickN p.q5 99951)).toArray,
      .pointer (some ⟨w.heap.size + 1 + 1, 8, none⟩), undef].getD i undef)
    (fun b w' => CF w w.heap.size (w.heap.size + 1 + 1) (w.heap.size + 1) p (.slice s1 n1 c1) (if b 9 = true then { c with tick := p.s.take 100 ++ [116], sec := strF (p.s.take 100) 16, p0 := pickN p.q0 1073741825, p1 := pickN p.q1 1073741825, p2 := pickN p.q2 65, p3 := pickN p.q3 65, p4 := pickN p.q4 21, p5 := 50 + pickN p.q5 99951 } else c) w')
    mixedOrd (by kernel_rfl) (by kernel_rfl) (by kernel_rfl) (hC.more ⟨rfl, rfl, rfl, Nat.le_refl _, fun _ _ => rfl⟩) ?_ ?_
  · refine ⟨?_, ?_, ?_, ?_, ?_, ?_, ?_, ?_, ?_, ?_, trivial⟩
    · intro a' w' b hb hs hW
      have h0 : a'.tmps[4]? = some (.string ⟨(p.s.take 100).toArray⟩) := hs.old 4 rfl
      exact wpOp_val rfl rfl (by simp [execOp, go_sem, h0]) ⟨rfl, hW⟩
    · intro a' w' b hb hs hW
      have h0 : a'.tmps[33]? = some (.string ⟨(p.s.take 100).toArray⟩) := hs.made 0 33 rfl rfl
      exact wpOp_val rfl rfl (exec_cat rfl (p.s.take 100) [116] (ev h0) rfl (by simp only [List.length_cons, List.length_nil]; omega)) ⟨rfl, hW⟩
    · intro a' w' b hb hs hW
      have h0 : a'.tmps[4]? = some (.string ⟨(p.s.take 100).toArray⟩) := hs.old 4 rfl
      exact wpOp_val rfl rfl (by simp [execOp, go_sem, h0]) ⟨rfl, hW⟩
    · intro a' w' b hb hs hW
      have h0 : a'.tmps[35]? = some (.string ⟨(p.s.take 100).toArray⟩) := hs.made 2 35 rfl rfl
      refine wpOp_call (f := 65) (args := #[.string ⟨(p.s.take 100).toArray⟩]) rfl rfl (exec_call rfl rfl ent65 (by simp [ev h0])) ?_
      refine (SecretFrom_any (p.s.take 100) w' (by omega)).mono ?_
      rintro e w'' ⟨rfl, hx⟩
      exact ⟨_, rfl, rfl, hW.more hx⟩
    · intro a' w' b hb hs hW
      have h0 : a'.tmps[1]? = some (.pointer (some ⟨w.heap.size, 0, none⟩)) := hs.old 1 rfl
      exact wpOp_val rfl rfl (by simp [execOp, go_sem, h0]) ⟨rfl, hW⟩
    · intro a' w' b hb hs hW
      have h0 : a'.tmps[37]? = some (.pointer (some ⟨w.heap.size, 9, none⟩)) := hs.made 4 37 rfl rfl
      exact wpOp_val rfl rfl (by simp [execOp, ev h0, load55 (par_six hW.par)]) ⟨rfl, hW⟩
    · intro a' w' b hb hs hW
      have h0 : a'.tmps[38]? = some (.agg (p6 p.q0 p.q1 p.q2 p.q3 p.q4 p.q5).toArray) := hs.made 5 38 rfl rfl
      refine wpOp_call (f := 25) (args := #[.agg (p6 p.q0 p.q1 p.q2 p.q3 p.q4 p.q5).toArray]) rfl rfl (exec_call rfl rfl ent25 (by simp [ev h0])) ?_
      refine (ParamsFrom_any p.q0 p.q1 p.q2 p.q3 p.q4 p.q5 w' hp.q0 hp.q1 hp.q2 hp.q3 hp.q4 hp.q5).mono ?_
      rintro e w'' ⟨rfl, hx⟩
      exact ⟨_, rfl, rfl, hW.more hx⟩
    · intro a' w' b hb hs hW
      have h0 : a'.tmps[34]? = some (.string ⟨(p.s.take 100 ++ [116]).toArray⟩) := hs.made 1 34 rfl rfl
      have h1 : a'.tmps[36]? = some (.string ⟨(strF (p.s.take 100) 16).toArray⟩) := hs.made 3 36 rfl rfl
      have h2 : a'.tmps[39]? = some (.agg (p6 (pickN p.q0 1073741825) (pickN p.q1 1073741825) (pickN p.q2 65) (pickN p.q3 65) (pickN p.q4 21) (50 + pickN p.q5 99951)).toArray) := hs.made 6 39 rfl rfl
      exact wpOp_val rfl rfl (exec_b26 rfl (ev h0) (ev h1) (ev h2)) ⟨rfl, hW⟩
    · intro a' w' b hb hs hW
      have h0 : a'.tmps[3]? = some (.pointer (some ⟨w.heap.size + 1 + 1, 0, none⟩)) := hs.old 3 rfl
      exact wpOp_val rfl rfl (by simp [execOp, go_sem, h0]) ⟨rfl, hW⟩
    · intro a' w' b hb hs hW
      have h0 : a'.tmps[41]? = some (.pointer (some ⟨w.heap.size + 1 + 1, 8, none⟩)) := hs.made 8 41 rfl rfl
      have h1 : a'.tmps[40]? = some (.agg (ses (p.s.take 100 ++ [116]) (strF (p.s.take 100) 16) (pickN p.q0 1073741825) (pickN p.q1 1073741825) (pickN p.q2 65) (pickN p.q3 65) (pickN p.q4 21) (50 + pickN p.q5 99951)).toArray) := hs.made 7 40 rfl rfl
      have hb9 : b 9 = false := hb
      rw [hb9, if_neg (by decide)] at hW
      exact wpOp_skip (w' := w'.setCells (w.heap.size + 1 + 1) 8 (ses (p.s.take 100 ++ [116]) (strF (p.s.take 100) 16) (pickN p.q0 1073741825) (pickN p.q1 1073741825) (pickN p.q2 65) (pickN p.q3 65) (pickN p.q4 21) (50 + pickN p.q5 99951))) rfl rfl (by simp [execOp, ev h0, ev h1, store26 _ _ _ _ _ _ _ _ hW.block (by decide : 8 + 8 ≤ 16)]) ⟨rfl, hW.ses _ _ _ _ _ _ _ _⟩
  · intro a' w' b hb hs hW
    rw [hb 9 (by decide), if_pos rfl] at hW
    have h33 : a'.tmps[33]? = some (.string ⟨(p.s.take 100).toArray⟩) := hs.made 0 33 rfl
    have h34 : a'.tmps[34]? = some (.string ⟨(p.s.take 100 ++ [116]).toArray⟩) := hs.made 1 34 rfl
    have h35 : a'.tmps[35]? = some (.string ⟨(p.s.take 100).toArray⟩) := hs.made 2 35 rfl
    have h36 : a'.tmps[36]? = some (.string ⟨(strF (p.s.take 100) 16).toArray⟩) := hs.made 3 36 rfl
    have h37 : a'.tmps[37]? = some (.pointer (some ⟨w.heap.size, 9, none⟩)) := hs.made 4 37 rfl
    have h38 : a'.tmps[38]? = some (.agg (p6 p.q0 p.q1 p.q2 p.q3 p.q4 p.q5).toArray) := hs.made 5 38 rfl
    obtain ⟨v39, h39, _⟩ : ∃ v, a'.tmps[39]? = some v ∧ True := ⟨_, hs.made 6 39 rfl, trivial⟩
    obtain ⟨v40, h40, _⟩ : ∃ v, a'.tmps[40]? = some v ∧ True := ⟨_, hs.made 7 40 rfl, trivial⟩
    have h41 : a'.tmps[41]? = some (.pointer (some ⟨w.heap.size + 1 + 1, 8, none⟩)) := hs.made 8 41 rfl
    have ha := act_putAll [(33, .string ⟨(p.s.take 100).toArray⟩), (34, .string ⟨(p.s.take 100 ++ [116]).toArray⟩), (35, .string ⟨(p.s.take 100).toArray⟩), (36, .string ⟨(strF (p.s.take 100) 16).toArray⟩), (37, .pointer (some ⟨w.heap.size, 9, none⟩)), (38, .agg (p6 p.q0 p.q1 p.q2 p.q3 p.q4 p.q5).toArray), (39, v39), (40, v40), (41, .pointer (some ⟨w.heap.size + 1 + 1, 8, none⟩))] hs.defers hs.size (by simp [h33, h34, h35, h36, h37, h38, h39, h40, h41]) rfl hs.old
    clear hs h33 h34 h35 h36 h37 h38 h39 h40 h41 hb hC
    simp only [putAll, Act.put] at ha
    subst ha
    go_frame
    go_wp2_with (first
      | refine wpList_ld28 rfl _ rfl _ _ rfl _ (cal_range hW.cal) ?_
      | refine wpList_store28 rfl _ _ rfl _ _ rfl rfl _ hW.res rfl rfl (cal_one _) ?_)
    refine bodyPost_ret (res28 rfl _ _ (w.heap.size + 1) _ rfl (setRow_heap _ _ _ _ _ _ hW.res) rfl) rfl ⟨?_, hW.ext.setRow _ _ hW.lr⟩
    rw [HF.out, ← HC.out]
    rfl
end Go.Proofs.YtikmoledbiepoaaGreatDoor

/- CallFrom: each other kind of call by itself (printed by wip/gen_from.py). -/
import Derived.Test.YtikmoledbiepoaaGreatDoorFrom
namespace Go.Proofs.YtikmoledbiepoaaGreatDoor
open Go.RowKit
set_option maxRecDepth 100000 in
set_option maxHeartbeats 4000000 in
theorem CallFrom_2 (p : Ap) (s1 : Option Addr) (n1 c1 : Nat) (w : World) (hp : ApFit p) (hk : pickN p.call 13 = 1) : Calls Tryz.prog 40 #[.agg (p.cells (.slice s1 n1 c1)).toArray] w fun e w' => e = .returned (.agg (callK p 2).cells.toArray) ∧ Ext w w' := by
  have HT : Hid ((⟨p.s.toArray⟩ : ByteArray).extract 0 (min (p.s.length : Int) 100).toNat = ⟨(p.s.take 100).toArray⟩) := ext_take p.s 100
  have hps := hp.s
  obtain ⟨W0, hW0⟩ : ∃ W0, W0 = ((w.alloc (.cells (p.cells (.slice s1 n1 c1)).toArray 57)).alloc (.cells (Cal.ofKind 0).cells.toArray 28)).alloc (.cells (Cal.ofKind 2).cells.toArray 28) := ⟨_, rfl⟩
  have hC := CF.start w p (.slice s1 n1 c1) (Cal.ofKind 2) hW0
  rw [Ap.cells_eq, Cal.ofKind_eq, Cal.ofKind_eq] at hW0
  rw [Ap.cells_eq]
  have HW := Lib.hid hW0
  clear hW0
  go_enter Tryz.func40, Tryz.ntmps40
  go_wp2_with fail
  refine (pickA p.call 13 _ hp.call (by decide) (by decide)).mono ?_
  rintro e w2 ⟨rfl, rfl⟩
  rw [hk]
  go_upto_region 2 with fail
  rw [← HW.out]
  clear HW
  obtain ⟨e0, e1, e2, e3, e4, e5, e6, e7, e8⟩ := par_cells hC.par
  go_upto_region 3 with fail
  rw [HT.out]
  clear HT
  have e9 : W0.cell? ⟨w.heap.size + 1 + 1, 0, none⟩ = some (.int .i64 2) := hC.cal.cell (k := 0) rfl
  go_wp2_with (first
    | (go_at_call 13; refine (pickA _ _ _ (by first | exact hp.conn | exact hp.stream | exact hp.n | exact hp.code) (by decide) (by decide)).mono ?_; rintro e w2 ⟨rfl, rfl⟩)
    | (refine wpList_setI rfl _ _ rfl _ rfl _ rfl hC rfl ?_; clear e0 e1 e2 e3 e4 e5 e6 e7 e8 hC; intro W1 hC; obtain ⟨e0, e1, e2, e3, e4, e5, e6, e7, e8⟩ := par_cells hC.par)
    | (refine wpList_setS rfl _ _ rfl _ rfl _ rfl hC rfl ?_; clear e0 e1 e2 e3 e4 e5 e6 e7 e8 hC; intro W1 hC; obtain ⟨e0, e1, e2, e3, e4, e5, e6, e7, e8⟩ := par_cells hC.par)
    | refine wpList_ld28 rfl _ rfl _ _ rfl _ (cal_range hC.cal) ?_
    | refine wpList_store28 rfl _ _ rfl _ _ rfl rfl _ hC.res rfl rfl (cal_one _) ?_)
  exact bodyPost_ret (res28 rfl _ _ (w.heap.size + 1) _ rfl (setRow_heap _ _ _ _ _ _ hC.res) rfl) rfl ⟨rfl, hC.ext.setRow _ _ hC.lr⟩
set_option maxRecDepth 100000 in
set_option maxHeartbeats 4000000 in
theorem CallFrom_3 (p : Ap) (s1 : Option Addr) (n1 c1 : Nat) (w : World) (hp : ApFit p) (hk : pickN p.call 13 = 2) : Calls Tryz.prog 40 #[.agg (p.cells (.slice s1 n1 c1)).toArray] w fun e w' => e = .returned (.agg (callK p 3).cells.toArray) ∧ Ext w w' := by
  have HT : Hid ((⟨p.s.toArray⟩ : ByteArray).extract 0 (min (p.s.length : Int) 100).toNat = ⟨(p.s.take 100).toArray⟩) := ext_take p.s 100
  have hps := hp.s
  obtain ⟨W0, hW0⟩ : ∃ W0, W0 = ((w.alloc (.cells (p.cells (.slice s1 n1 c1)).toArray 57)).alloc (.cells (Cal.ofKind 0).cells.toArray 28)).alloc (.cells (Cal.ofKind 3).cells.toArray 28) := ⟨_, rfl⟩
  have hC := CF.start w p (.slice s1 n1 c1) (Cal.ofKind 3) hW0
  rw [Ap.cells_eq, Cal.ofKind_eq, Cal.ofKind_eq] at hW0
  rw [Ap.cells_eq]
  have HW := Lib.hid hW0
  clear hW0
  go_enter Tryz.func40, Tryz.ntmps40
  go_wp2_with fail
  refine (pickA p.call 13 _ hp.call (by decide) (by decide)).mono ?_
  rintro e w2 ⟨rfl, rfl⟩
  rw [hk]
  go_upto_region 2 with fail
  rw [← HW.out]
  clear HW
  obtain ⟨e0, e1, e2, e3, e4, e5, e6, e7, e8⟩ := par_cells hC.par
  go_upto_region 3 with fail
  rw [HT.out]
  clear HT
  have e9 : W0.cell? ⟨w.heap.size + 1 + 1, 0, none⟩ = some (.int .i64 3) := hC.cal.cell (k := 0) rfl
  go_wp2_with (first
    | (go_at_call 13; refine (pickA _ _ _ (by first | exact hp.conn | exact hp.stream | exact hp.n | exact hp.code) (by decide) (by decide)).mono ?_; rintro e w2 ⟨rfl, rfl⟩)
    | (refine wpList_setI rfl _ _ rfl _ rfl _ rfl hC rfl ?_; clear e0 e1 e2 e3 e4 e5 e6 e7 e8 hC; intro W1 hC; obtain ⟨e0, e1, e2, e3, e4, e5, e6, e7, e8⟩ := par_cells hC.par)
    | (refine wpList_setS rfl _ _ rfl _ rfl _ rfl hC rfl ?_; clear e0 e1 e2 e3 e4 e5 e6 e7 e8 hC; intro W1 hC; obtain ⟨e0, e1, e2, e3, e4, e5, e6, e7, e8⟩ := par_cells hC.par)
    | refine wpList_ld28 rfl _ rfl _ _ rfl _ (cal_range hC.cal) ?_
    | refine wpList_store28 rfl _ _ rfl _ _ rfl rfl _ hC.res rfl rfl (cal_one _) ?_)
  exact bodyPost_ret (res28 rfl _ _ (w.heap.size + 1) _ rfl (setRow_heap _ _ _ _ _ _ hC.res) rfl) rfl ⟨rfl, hC.ext.setRow _ _ hC.lr⟩
set_option maxRecDepth 100000 in
set_option maxHeartbeats 4000000 in
theorem CallFrom_4 (p : Ap) (s1 : Option Addr) (n1 c1 : Nat) (w : World) (hp : ApFit p) (hk : pickN p.call 13 = 3) : Calls Tryz.prog 40 #[.agg (p.cells (.slice s1 n1 c1)).toArray] w fun e w' => e = .returned (.agg (callK p 4).cells.toArray) ∧ Ext w w' := by
  have HT : Hid ((⟨p.s.toArray⟩ : ByteArray).extract 0 (min (p.s.length : Int) 100).toNat = ⟨(p.s.take 100).toArray⟩) := ext_take p.s 100
  have hps := hp.s
  obtain ⟨W0, hW0⟩ : ∃ W0, W0 = ((w.alloc (.cells (p.cells (.slice s1 n1 c1)).toArray 57)).alloc (.cells (Cal.ofKind 0).cells.toArray 28)).alloc (.cells (Cal.ofKind 4).cells.toArray 28) := ⟨_, rfl⟩
  have hC := CF.start w p (.slice s1 n1 c1) (Cal.ofKind 4) hW0
  rw [Ap.cells_eq, Cal.ofKind_eq, Cal.ofKind_eq] at hW0
  rw [Ap.cells_eq]
  have HW := Lib.hid hW0
  clear hW0
  go_enter Tryz.func40, Tryz.ntmps40
  go_wp2_with fail
  refine (pickA p.call 13 _ hp.call (by decide) (by decide)).mono ?_
  rintro e w2 ⟨rfl, rfl⟩
  rw [hk]
  go_upto_region 2 with fail
  rw [← HW.out]
  clear HW
  obtain ⟨e0, e1, e2, e3, e4, e5, e6, e7, e8⟩ := par_cells hC.par
  go_upto_region 3 with fail
  rw [HT.out]
  clear HT
  have e9 : W0.cell? ⟨w.heap.size + 1 + 1, 0, none⟩ = some (.int .i64 4) := hC.cal.cell (k := 0) rfl
  go_wp2_with (first
    | (go_at_call 13; refine (pickA _ _ _ (by first | exact hp.conn | exact hp.stream | exact hp.n | exact hp.code) (by decide) (by decide)).mono ?_; rintro e w2 ⟨rfl, rfl⟩)
    | (refine wpList_setI rfl _ _ rfl _ rfl _ rfl hC rfl ?_; clear e0 e1 e2 e3 e4 e5 e6 e7 e8 hC; intro W1 hC; obtain ⟨e0, e1, e2, e3, e4, e5, e6, e7, e8⟩ := par_cells hC.par)
    | (refine wpList_setS rfl _ _ rfl _ rfl _ rfl hC rfl ?_; clear e0 e1 e2 e3 e4 e5 e6 e7 e8 hC; intro W1 hC; obtain ⟨e0, e1, e2, e3, e4, e5, e6, e7, e8⟩ := par_cells hC.par)
    | refine wpList_ld28 rfl _ rfl _ _ rfl _ (cal_range hC.cal) ?_
    | refine wpList_store28 rfl _ _ rfl _ _ rfl rfl _ hC.res rfl rfl (cal_one _) ?_)
  exact bodyPost_ret (res28 rfl _ _ (w.heap.size + 1) _ rfl (setRow_heap _ _ _ _ _ _ hC.res) rfl) rfl ⟨rfl, hC.ext.setRow _ _ hC.lr⟩
set_option maxRecDepth 100000 in
set_option maxHeartbeats 4000000 in
theorem CallFrom_5 (p : Ap) (s1 : Option Addr) (n1 c1 : Nat) (w : World) (hp : ApFit p) (hk : pickN p.call 13 = 4) : Calls Tryz.prog 40 #[.agg (p.cells (.slice s1 n1 c1)).toArray] w fun e w' => e = .returned (.agg (callK p 5).cells.toArray) ∧ Ext w w' := by
  have HT : Hid ((⟨p.s.toArray⟩ : ByteArray).extract 0 (min (p.s.length : Int) 100).toNat = ⟨(p.s.take 100).toArray⟩) := ext_take p.s 100
  have hps := hp.s
  obtain ⟨W0, hW0⟩ : ∃ W0, W0 = ((w.alloc (.cells (p.cells (.slice s1 n1 c1)).toArray 57)).alloc (.cells (Cal.ofKind 0).cells.toArray 28)).alloc (.cells (Cal.ofKind 5).cells.toArray 28) := ⟨_, rfl⟩
  have hC := CF.start w p (.slice s1 n1 c1) (Cal.ofKind 5) hW0
  rw [Ap.cells_eq, Cal.ofKind_eq, Cal.ofKind_eq] at hW0
  rw [Ap.cells_eq]
  have HW := Lib.hid hW0
  clear hW0
  go_enter Tryz.func40, Tryz.ntmps40
  go_wp2_with fail
  refine (pickA p.call 13 _ hp.call (by decide) (by decide)).mono ?_
  rintro e w2 ⟨rfl, rfl⟩
  rw [hk]
  go_upto_region 2 with fail
  rw [← HW.out]
  clear HW
  obtain ⟨e0, e1, e2, e3, e4, e5, e6, e7, e8⟩ := par_cells hC.par
  go_upto_region 3 with fail
  rw [HT.out]
  clear HT
  have e9 : W0.cell? ⟨w.heap.size + 1 + 1, 0, none⟩ = some (.int .i64 5) := hC.cal.cell (k := 0) rfl
  go_wp2_with (first
    | (go_at_call 13; refine (pickA _ _ _ (by first | exact hp.conn | exact hp.stream | exact hp.n | exact hp.code) (by decide) (by decide)).mono ?_; rintro e w2 ⟨rfl, rfl⟩)
    | (refine wpList_setI rfl _ _ rfl _ rfl _ rfl hC rfl ?_; clear e0 e1 e2 e3 e4 e5 e6 e7 e8 hC; intro W1 hC; obtain ⟨e0, e1, e2, e3, e4, e5, e6, e7, e8⟩ := par_cells hC.par)
    | (refine wpList_setS rfl _ _ rfl _ rfl _ rfl hC rfl ?_; clear e0 e1 e2 e3 e4 e5 e6 e7 e8 hC; intro W1 hC; obtain ⟨e0, e1, e2, e3, e4, e5, e6, e7, e8⟩ := par_cells hC.par)
    | refine wpList_ld28 rfl _ rfl _ _ rfl _ (cal_range hC.cal) ?_
    | refine wpList_store28 rfl _ _ rfl _ _ rfl rfl _ hC.res rfl rfl (cal_one _) ?_)
  exact bodyPost_ret (res28 rfl _ _ (w.heap.size + 1) _ rfl (setRow_heap _ _ _ _ _ _ hC.res) rfl) rfl ⟨rfl, hC.ext.setRow _ _ hC.lr⟩
set_option maxRecDepth 100000 in
set_option maxHeartbeats 4000000 in
theorem CallFrom_6 (p : Ap) (s1 : Option Addr) (n1 c1 : Nat) (w : World) (hp : ApFit p) (hk : pickN p.call 13 = 5) : Calls Tryz.prog 40 #[.agg (p.cells (.slice s1 n1 c1)).toArray] w fun e w' => e = .returned (.agg (callK p 6).cells.toArray) ∧ Ext w w' := by
  have HT : Hid ((⟨p.s.toArray⟩ : ByteArray).extract 0 (min (p.s.length : Int) 100).toNat = ⟨(p.s.take 100).toArray⟩) := ext_take p.s 100
  have hps := hp.s
  obtain ⟨W0, hW0⟩ : ∃ W0, W0 = ((w.alloc (.cells (p.cells (.slice s1 n1 c1)).toArray 57)).alloc (.cells (Cal.ofKind 0).cells.toArray 28)).alloc (.cells (Cal.ofKind 6).cells.toArray 28) := ⟨_, rfl⟩
  have hC := CF.start w p (.slice s1 n1 c1) (Cal.ofKind 6) hW0
  rw [Ap.cells_eq, Cal.ofKind_eq, Cal.ofKind_eq] at hW0
  rw [Ap.cells_eq]
  have HW := Lib.hid hW0
  clear hW0
  go_enter Tryz.func40, Tryz.ntmps40
  go_wp2_with fail
  refine (pickA p.call 13 _ hp.call (by decide) (by decide)).mono ?_
  rintro e w2 ⟨rfl, rfl⟩
  rw [hk]
  go_upto_region 2 with fail
  rw [← HW.out]
  clear HW
  obtain ⟨e0, e1, e2, e3, e4, e5, e6, e7, e8⟩ := par_cells hC.par
  go_upto_region 3 with fail
  rw [HT.out]
  clear HT
  have e9 : W0.cell? ⟨w.heap.size + 1 + 1, 0, none⟩ = some (.int .i64 6) := hC.cal.cell (k := 0) rfl
  go_wp2_with (first
    | (go_at_call 13; refine (pickA _ _ _ (by first | exact hp.conn | exact hp.stream | exact hp.n | exact hp.code) (by decide) (by decide)).mono ?_; rintro e w2 ⟨rfl, rfl⟩)
    | (refine wpList_setI rfl _ _ rfl _ rfl _ rfl hC rfl ?_; clear e0 e1 e2 e3 e4 e5 e6 e7 e8 hC; intro W1 hC; obtain ⟨e0, e1, e2, e3, e4, e5, e6, e7, e8⟩ := par_cells hC.par)
    | (refine wpList_setS rfl _ _ rfl _ rfl _ rfl hC rfl ?_; clear e0 e1 e2 e3 e4 e5 e6 e7 e8 hC; intro W1 hC; obtain ⟨e0, e1, e2, e3, e4, e5, e6, e7, e8⟩ := par_cells hC.par)
    | refine wpList_ld28 rfl _ rfl _ _ rfl _ (cal_range hC.cal) ?_
    | refine wpList_store28 rfl _ _ rfl _ _ rfl rfl _ hC.res rfl rfl (cal_one _) ?_)
  exact bodyPost_ret (res28 rfl _ _ (w.heap.size + 1) _ rfl (setRow_heap _ _ _ _ _ _ hC.res) rfl) rfl ⟨rfl, hC.ext.setRow _ _ hC.lr⟩
set_option maxRecDepth 100000 in
set_option maxHeartbeats 4000000 in
theorem CallFrom_7 (p : Ap) (s1 : Option Addr) (n1 c1 : Nat) (w : World) (hp : ApFit p) (hk : pickN p.call 13 = 6) : Calls Tryz.prog 40 #[.agg (p.cells (.slice s1 n1 c1)).toArray] w fun e w' => e = .returned (.agg (callK p 7).cells.toArray) ∧ Ext w w' := by
  have HT : Hid ((⟨p.s.toArray⟩ : ByteArray).extract 0 (min (p.s.length : Int) 100).toNat = ⟨(p.s.take 100).toArray⟩) := ext_take p.s 100
  have hps := hp.s
  obtain ⟨W0, hW0⟩ : ∃ W0, W0 = ((w.alloc (.cells (p.cells (.slice s1 n1 c1)).toArray 57)).alloc (.cells (Cal.ofKind 0).cells.toArray 28)).alloc (.cells (Cal.ofKind 7).cells.toArray 28) := ⟨_, rfl⟩
  have hC := CF.start w p (.slice s1 n1 c1) (Cal.ofKind 7) hW0
  rw [Ap.cells_eq, Cal.ofKind_eq, Cal.ofKind_eq] at hW0
  rw [Ap.cells_eq]
  have HW := Lib.hid hW0
  clear hW0
  go_enter Tryz.func40, Tryz.ntmps40
  go_wp2_with fail
  refine (pickA p.call 13 _ hp.call (by decide) (by decide)).mono ?_
  rintro e w2 ⟨rfl, rfl⟩
  rw [hk]
  go_upto_region 2 with fail
  rw [← HW.out]
  clear HW
  obtain ⟨e0, e1, e2, e3, e4, e5, e6, e7, e8⟩ := par_cells hC.par
  go_upto_region 3 with fail
  rw [HT.out]
  clear HT
  have e9 : W0.cell? ⟨w.heap.size + 1 + 1, 0, none⟩ = some (.int .i64 7) := hC.cal.cell (k := 0) rfl
  go_wp2_with (first
    | (go_at_call 13; refine (pickA _ _ _ (by first | exact hp.conn | exact hp.stream | exact hp.n | exact hp.code) (by decide) (by decide)).mono ?_; rintro e w2 ⟨rfl, rfl⟩)
    | (refine wpList_setI rfl _ _ rfl _ rfl _ rfl hC rfl ?_; clear e0 e1 e2 e3 e4 e5 e6 e7 e8 hC; intro W1 hC; obtain ⟨e0, e1, e2, e3, e4, e5, e6, e7, e8⟩ := par_cells hC.par)
    | (refine wpList_setS rfl _ _ rfl _ rfl _ rfl hC rfl ?_; clear e0 e1 e2 e3 e4 e5 e6 e7 e8 hC; intro W1 hC; obtain ⟨e0, e1, e2, e3, e4, e5, e6, e7, e8⟩ := par_cells hC.par)
    | refine wpList_ld28 rfl _ rfl _ _ rfl _ (cal_range hC.cal) ?_
    | refine wpList_store28 rfl _ _ rfl _ _ rfl rfl _ hC.res rfl rfl (cal_one _) ?_)
  exact bodyPost_ret (res28 rfl _ _ (w.heap.size + 1) _ rfl (setRow_heap _ _ _ _ _ _ hC.res) rfl) rfl ⟨rfl, hC.ext.setRow _ _ hC.lr⟩
set_option maxRecDepth 100000 in
set_option maxHeartbeats 4000000 in
theorem CallFrom_8 (p : Ap) (s1 : Option Addr) (n1 c1 : Nat) (w : World) (hp : ApFit p) (hk : pickN p.call 13 = 7) : Calls Tryz.prog 40 #[.agg (p.cells (.slice s1 n1 c1)).toArray] w fun e w' => e = .returned (.agg (callK p 8).cells.toArray) ∧ Ext w w' := by
  have HT : Hid ((⟨p.s.toArray⟩ : ByteArray).extract 0 (min (p.s.length : Int) 100).toNat = ⟨(p.s.take 100).toArray⟩) := ext_take p.s 100
  have hps := hp.s
  obtain ⟨W0, hW0⟩ : ∃ W0, W0 = ((w.alloc (.cells (p.cells (.slice s1 n1 c1)).toArray 57)).alloc (.cells (Cal.ofKind 0).cells.toArray 28)).alloc (.cells (Cal.ofKind 8).cells.toArray 28) := ⟨_, rfl⟩
  have hC := CF.start w p (.slice s1 n1 c1) (Cal.ofKind 8) hW0
  rw [Ap.cells_eq, Cal.ofKind_eq, Cal.ofKind_eq] at hW0
  rw [Ap.cells_eq]
  have HW := Lib.hid hW0
  clear hW0
  go_enter Tryz.func40, Tryz.ntmps40
  go_wp2_with fail
  refine (pickA p.call 13 _ hp.call (by decide) (by decide)).mono ?_
  rintro e w2 ⟨rfl, rfl⟩
  rw [hk]
  go_upto_region 2 with fail
  rw [← HW.out]
  clear HW
  obtain ⟨e0, e1, e2, e3, e4, e5, e6, e7, e8⟩ := par_cells hC.par
  go_upto_region 3 with fail
  rw [HT.out]
  clear HT
  have e9 : W0.cell? ⟨w.heap.size + 1 + 1, 0, none⟩ = some (.int .i64 8) := hC.cal.cell (k := 0) rfl
  go_wp2_with (first
    | (go_at_call 13; refine (pickA _ _ _ (by first | exact hp.conn | exact hp.stream | exact hp.n | exact hp.code) (by decide) (by decide)).mono ?_; rintro e w2 ⟨rfl, rfl⟩)
    | (refine wpList_setI rfl _ _ rfl _ rfl _ rfl hC rfl ?_; clear e0 e1 e2 e3 e4 e5 e6 e7 e8 hC; intro W1 hC; obtain ⟨e0, e1, e2, e3, e4, e5, e6, e7, e8⟩ := par_cells hC.par)
    | (refine wpList_setS rfl _ _ rfl _ rfl _ rfl hC rfl ?_; clear e0 e1 e2 e3 e4 e5 e6 e7 e8 hC; intro W1 hC; obtain ⟨e0, e1, e2, e3, e4, e5, e6, e7, e8⟩ := par_cells hC.par)
    | refine wpList_ld28 rfl _ rfl _ _ rfl _ (cal_range hC.cal) ?_
    | refine wpList_store28 rfl _ _ rfl _ _ rfl rfl _ hC.res rfl rfl (cal_one _) ?_)
  exact bodyPost_ret (res28 rfl _ _ (w.heap.size + 1) _ rfl (setRow_heap _ _ _ _ _ _ hC.res) rfl) rfl ⟨rfl, hC.ext.setRow _ _ hC.lr⟩
set_option maxRecDepth 100000 in
set_option maxHeartbeats 4000000 in
theorem CallFrom_9 (p : Ap) (s1 : Option Addr) (n1 c1 : Nat) (w : World) (hp : ApFit p) (hk : pickN p.call 13 = 8) : Calls Tryz.prog 40 #[.agg (p.cells (.slice s1 n1 c1)).toArray] w fun e w' => e = .returned (.agg (callK p 9).cells.toArray) ∧ Ext w w' := by
  have HT : Hid ((⟨p.s.toArray⟩ : ByteArray).extract 0 (min (p.s.length : Int) 100).toNat = ⟨(p.s.take 100).toArray⟩) := ext_take p.s 100
  have hps := hp.s
  obtain ⟨W0, hW0⟩ : ∃ W0, W0 = ((w.alloc (.cells (p.cells (.slice s1 n1 c1)).toArray 57)).alloc (.cells (Cal.ofKind 0).cells.toArray 28)).alloc (.cells (Cal.ofKind 9).cells.toArray 28) := ⟨_, rfl⟩
  have hC := CF.start w p (.slice s1 n1 c1) (Cal.ofKind 9) hW0
  rw [Ap.cells_eq, Cal.ofKind_eq, Cal.ofKind_eq] at hW0
  rw [Ap.cells_eq]
  have HW := Lib.hid hW0
  clear hW0
  go_enter Tryz.func40, Tryz.ntmps40
  go_wp2_with fail
  refine (pickA p.call 13 _ hp.call (by decide) (by decide)).mono ?_
  rintro e w2 ⟨rfl, rfl⟩
  rw [hk]
  go_upto_region 2 with fail
  rw [← HW.out]
  clear HW
  obtain ⟨e0, e1, e2, e3, e4, e5, e6, e7, e8⟩ := par_cells hC.par
  go_upto_region 3 with fail
  rw [HT.out]
  clear HT
  have e9 : W0.cell? ⟨w.heap.size + 1 + 1, 0, none⟩ = some (.int .i64 9) := hC.cal.cell (k := 0) rfl
  go_wp2_with (first
    | (go_at_call 13; refine (pickA _ _ _ (by first | exact hp.conn | exact hp.stream | exact hp.n | exact hp.code) (by decide) (by decide)).mono ?_; rintro e w2 ⟨rfl, rfl⟩)
    | (refine wpList_setI rfl _ _ rfl _ rfl _ rfl hC rfl ?_; clear e0 e1 e2 e3 e4 e5 e6 e7 e8 hC; intro W1 hC; obtain ⟨e0, e1, e2, e3, e4, e5, e6, e7, e8⟩ := par_cells hC.par)
    | (refine wpList_setS rfl _ _ rfl _ rfl _ rfl hC rfl ?_; clear e0 e1 e2 e3 e4 e5 e6 e7 e8 hC; intro W1 hC; obtain ⟨e0, e1, e2, e3, e4, e5, e6, e7, e8⟩ := par_cells hC.par)
    | refine wpList_ld28 rfl _ rfl _ _ rfl _ (cal_range hC.cal) ?_
    | refine wpList_store28 rfl _ _ rfl _ _ rfl rfl _ hC.res rfl rfl (cal_one _) ?_)
  exact bodyPost_ret (res28 rfl _ _ (w.heap.size + 1) _ rfl (setRow_heap _ _ _ _ _ _ hC.res) rfl) rfl ⟨rfl, hC.ext.setRow _ _ hC.lr⟩
set_option maxRecDepth 100000 in
set_option maxHeartbeats 4000000 in
theorem CallFrom_10 (p : Ap) (s1 : Option Addr) (n1 c1 : Nat) (w : World) (hp : ApFit p) (hk : pickN p.call 13 = 9) : Calls Tryz.prog 40 #[.agg (p.cells (.slice s1 n1 c1)).toArray] w fun e w' => e = .returned (.agg (callK p 10).cells.toArray) ∧ Ext w w' := by
  have HT : Hid ((⟨p.s.toArray⟩ : ByteArray).extract 0 (min (p.s.length : Int) 100).toNat = ⟨(p.s.take 100).toArray⟩) := ext_take p.s 100
  have hps := hp.s
  obtain ⟨W0, hW0⟩ : ∃ W0, W0 = ((w.alloc (.cells (p.cells (.slice s1 n1 c1)).toArray 57)).alloc (.cells (Cal.ofKind 0).cells.toArray 28)).alloc (.cells (Cal.ofKind 10).cells.toArray 28) := ⟨_, rfl⟩
  have hC := CF.start w p (.slice s1 n1 c1) (Cal.ofKind 10) hW0
  rw [Ap.cells_eq, Cal.ofKind_eq, Cal.ofKind_eq] at hW0
  rw [Ap.cells_eq]
  have HW := Lib.hid hW0
  clear hW0
  go_enter Tryz.func40, Tryz.ntmps40
  go_wp2_with fail
  refine (pickA p.call 13 _ hp.call (by decide) (by decide)).mono ?_
  rintro e w2 ⟨rfl, rfl⟩
  rw [hk]
  go_upto_region 2 with fail
  rw [← HW.out]
  clear HW
  obtain ⟨e0, e1, e2, e3, e4, e5, e6, e7, e8⟩ := par_cells hC.par
  go_upto_region 3 with fail
  rw [HT.out]
  clear HT
  have e9 : W0.cell? ⟨w.heap.size + 1 + 1, 0, none⟩ = some (.int .i64 10) := hC.cal.cell (k := 0) rfl
  go_wp2_with (first
    | (go_at_call 13; refine (pickA _ _ _ (by first | exact hp.conn | exact hp.stream | exact hp.n | exact hp.code) (by decide) (by decide)).mono ?_; rintro e w2 ⟨rfl, rfl⟩)
    | (refine wpList_setI rfl _ _ rfl _ rfl _ rfl hC rfl ?_; clear e0 e1 e2 e3 e4 e5 e6 e7 e8 hC; intro W1 hC; obtain ⟨e0, e1, e2, e3, e4, e5, e6, e7, e8⟩ := par_cells hC.par)
    | (refine wpList_setS rfl _ _ rfl _ rfl _ rfl hC rfl ?_; clear e0 e1 e2 e3 e4 e5 e6 e7 e8 hC; intro W1 hC; obtain ⟨e0, e1, e2, e3, e4, e5, e6, e7, e8⟩ := par_cells hC.par)
    | refine wpList_ld28 rfl _ rfl _ _ rfl _ (cal_range hC.cal) ?_
    | refine wpList_store28 rfl _ _ rfl _ _ rfl rfl _ hC.res rfl rfl (cal_one _) ?_)
  exact bodyPost_ret (res28 rfl _ _ (w.heap.size + 1) _ rfl (setRow_heap _ _ _ _ _ _ hC.res) rfl) rfl ⟨rfl, hC.ext.setRow _ _ hC.lr⟩
set_option maxRecDepth 100000 in
set_option maxHeartbeats 4000000 in
theorem CallFrom_11 (p : Ap) (s1 : Option Addr) (n1 c1 : Nat) (w : World) (hp : ApFit p) (hk : pickN p.call 13 = 10) : Calls Tryz.prog 40 #[.agg (p.cells (.slice s1 n1 c1)).toArray] w fun e w' => e = .returned (.agg (callK p 11).cells.toArray) ∧ Ext w w' := by
  have HT : Hid ((⟨p.s.toArray⟩ : ByteArray).extract 0 (min (p.s.length : Int) 100).toNat = ⟨(p.s.take 100).toArray⟩) := ext_take p.s 100
  have hps := hp.s
  obtain ⟨W0, hW0⟩ : ∃ W0, W0 = ((w.alloc (.cells (p.cells (.slice s1 n1 c1)).toArray 57)).alloc (.cells (Cal.ofKind 0).cells.toArray 28)).alloc (.cells (Cal.ofKind 11).cells.toArray 28) := ⟨_, rfl⟩
  have hC := CF.start w p (.slice s1 n1 c1) (Cal.ofKind 11) hW0
  rw [Ap.cells_eq, Cal.ofKind_eq, Cal.ofKind_eq] at hW0
  rw [Ap.cells_eq]
  have HW := Lib.hid hW0
  clear hW0
  go_enter Tryz.func40, Tryz.ntmps40
  go_wp2_with fail
  refine (pickA p.call 13 _ hp.call (by decide) (by decide)).mono ?_
  rintro e w2 ⟨rfl, rfl⟩
  rw [hk]
  go_upto_region 2 with fail
  rw [← HW.out]
  clear HW
  obtain ⟨e0, e1, e2, e3, e4, e5, e6, e7, e8⟩ := par_cells hC.par
  go_upto_region 3 with fail
  rw [HT.out]
  clear HT
  have e9 : W0.cell? ⟨w.heap.size + 1 + 1, 0, none⟩ = some (.int .i64 11) := hC.cal.cell (k := 0) rfl
  go_wp2_with (first
    | (go_at_call 13; refine (pickA _ _ _ (by first | exact hp.conn | exact hp.stream | exact hp.n | exact hp.code) (by decide) (by decide)).mono ?_; rintro e w2 ⟨rfl, rfl⟩)
    | (refine wpList_setI rfl _ _ rfl _ rfl _ rfl hC rfl ?_; clear e0 e1 e2 e3 e4 e5 e6 e7 e8 hC; intro W1 hC; obtain ⟨e0, e1, e2, e3, e4, e5, e6, e7, e8⟩ := par_cells hC.par)
    | (refine wpList_setS rfl _ _ rfl _ rfl _ rfl hC rfl ?_; clear e0 e1 e2 e3 e4 e5 e6 e7 e8 hC; intro W1 hC; obtain ⟨e0, e1, e2, e3, e4, e5, e6, e7, e8⟩ := par_cells hC.par)
    | refine wpList_ld28 rfl _ rfl _ _ rfl _ (cal_range hC.cal) ?_
    | refine wpList_store28 rfl _ _ rfl _ _ rfl rfl _ hC.res rfl rfl (cal_one _) ?_)
  exact bodyPost_ret (res28 rfl _ _ (w.heap.size + 1) _ rfl (setRow_heap _ _ _ _ _ _ hC.res) rfl) rfl ⟨rfl, hC.ext.setRow _ _ hC.lr⟩
set_option maxRecDepth 100000 in
set_option maxHeartbeats 4000000 in
theorem CallFrom_12 (p : Ap) (s1 : Option Addr) (n1 c1 : Nat) (w : World) (hp : ApFit p) (hk : pickN p.call 13 = 11) : Calls Tryz.prog 40 #[.agg (p.cells (.slice s1 n1 c1)).toArray] w fun e w' => e = .returned (.agg (callK p 12).cells.toArray) ∧ Ext w w' := by
  have HT : Hid ((⟨p.s.toArray⟩ : ByteArray).extract 0 (min (p.s.length : Int) 100).toNat = ⟨(p.s.take 100).toArray⟩) := ext_take p.s 100
  have hps := hp.s
  obtain ⟨W0, hW0⟩ : ∃ W0, W0 = ((w.alloc (.cells (p.cells (.slice s1 n1 c1)).toArray 57)).alloc (.cells (Cal.ofKind 0).cells.toArray 28)).alloc (.cells (Cal.ofKind 12).cells.toArray 28) := ⟨_, rfl⟩
  have hC := CF.start w p (.slice s1 n1 c1) (Cal.ofKind 12) hW0
  rw [Ap.cells_eq, Cal.ofKind_eq, Cal.ofKind_eq] at hW0
  rw [Ap.cells_eq]
  have HW := Lib.hid hW0
  clear hW0
  go_enter Tryz.func40, Tryz.ntmps40
  go_wp2_with fail
  refine (pickA p.call 13 _ hp.call (by decide) (by decide)).mono ?_
  rintro e w2 ⟨rfl, rfl⟩
  rw [hk]
  go_upto_region 2 with fail
  rw [← HW.out]
  clear HW
  obtain ⟨e0, e1, e2, e3, e4, e5, e6, e7, e8⟩ := par_cells hC.par
  go_upto_region 3 with fail
  rw [HT.out]
  clear HT
  have e9 : W0.cell? ⟨w.heap.size + 1 + 1, 0, none⟩ = some (.int .i64 12) := hC.cal.cell (k := 0) rfl
  go_wp2_with (first
    | (go_at_call 13; refine (pickA _ _ _ (by first | exact hp.conn | exact hp.stream | exact hp.n | exact hp.code) (by decide) (by decide)).mono ?_; rintro e w2 ⟨rfl, rfl⟩)
    | (refine wpList_setI rfl _ _ rfl _ rfl _ rfl hC rfl ?_; clear e0 e1 e2 e3 e4 e5 e6 e7 e8 hC; intro W1 hC; obtain ⟨e0, e1, e2, e3, e4, e5, e6, e7, e8⟩ := par_cells hC.par)
    | (refine wpList_setS rfl _ _ rfl _ rfl _ rfl hC rfl ?_; clear e0 e1 e2 e3 e4 e5 e6 e7 e8 hC; intro W1 hC; obtain ⟨e0, e1, e2, e3, e4, e5, e6, e7, e8⟩ := par_cells hC.par)
    | refine wpList_ld28 rfl _ rfl _ _ rfl _ (cal_range hC.cal) ?_
    | refine wpList_store28 rfl _ _ rfl _ _ rfl rfl _ hC.res rfl rfl (cal_one _) ?_)
  exact bodyPost_ret (res28 rfl _ _ (w.heap.size + 1) _ rfl (setRow_heap _ _ _ _ _ _ hC.res) rfl) rfl ⟨rfl, hC.ext.setRow _ _ hC.lr⟩
set_option maxRecDepth 100000 in
set_option maxHeartbeats 4000000 in
theorem CallFrom_13 (p : Ap) (s1 : Option Addr) (n1 c1 : Nat) (w : World) (hp : ApFit p) (hk : pickN p.call 13 = 12) : Calls Tryz.prog 40 #[.agg (p.cells (.slice s1 n1 c1)).toArray] w fun e w' => e = .returned (.agg (callK p 13).cells.toArray) ∧ Ext w w' := by
  have HT : Hid ((⟨p.s.toArray⟩ : ByteArray).extract 0 (min (p.s.length : Int) 100).toNat = ⟨(p.s.take 100).toArray⟩) := ext_take p.s 100
  have hps := hp.s
  obtain ⟨W0, hW0⟩ : ∃ W0, W0 = ((w.alloc (.cells (p.cells (.slice s1 n1 c1)).toArray 57)).alloc (.cells (Cal.ofKind 0).cells.toArray 28)).alloc (.cells (Cal.ofKind 13).cells.toArray 28) := ⟨_, rfl⟩
  have hC := CF.start w p (.slice s1 n1 c1) (Cal.ofKind 13) hW0
  rw [Ap.cells_eq, Cal.ofKind_eq, Cal.ofKind_eq] at hW0
  rw [Ap.cells_eq]
  have HW := Lib.hid hW0
  clear hW0
  go_enter Tryz.func40, Tryz.ntmps40
  go_wp2_with fail
  refine (pickA p.call 13 _ hp.call (by decide) (by decide)).mono ?_
  rintro e w2 ⟨rfl, rfl⟩
  rw [hk]
  go_upto_region 2 with fail
  rw [← HW.out]
  clear HW
  obtain ⟨e0, e1, e2, e3, e4, e5, e6, e7, e8⟩ := par_cells hC.par
  go_upto_region 3 with fail
  rw [HT.out]
  clear HT
  have e9 : W0.cell? ⟨w.heap.size + 1 + 1, 0, none⟩ = some (.int .i64 13) := hC.cal.cell (k := 0) rfl
  go_wp2_with (first
    | (go_at_call 13; refine (pickA _ _ _ (by first | exact hp.conn | exact hp.stream | exact hp.n | exact hp.code) (by decide) (by decide)).mono ?_; rintro e w2 ⟨rfl, rfl⟩)
    | (refine wpList_setI rfl _ _ rfl _ rfl _ rfl hC rfl ?_; clear e0 e1 e2 e3 e4 e5 e6 e7 e8 hC; intro W1 hC; obtain ⟨e0, e1, e2, e3, e4, e5, e6, e7, e8⟩ := par_cells hC.par)
    | (refine wpList_setS rfl _ _ rfl _ rfl _ rfl hC rfl ?_; clear e0 e1 e2 e3 e4 e5 e6 e7 e8 hC; intro W1 hC; obtain ⟨e0, e1, e2, e3, e4, e5, e6, e7, e8⟩ := par_cells hC.par)
    | refine wpList_ld28 rfl _ rfl _ _ rfl _ (cal_range hC.cal) ?_
    | refine wpList_store28 rfl _ _ rfl _ _ rfl rfl _ hC.res rfl rfl (cal_one _) ?_)
  exact bodyPost_ret (res28 rfl _ _ (w.heap.size + 1) _ rfl (setRow_heap _ _ _ _ _ _ hC.res) rfl) rfl ⟨rfl, hC.ext.setRow _ _ hC.lr⟩
end Go.Proofs.YtikmoledbiepoaaGreatDoor

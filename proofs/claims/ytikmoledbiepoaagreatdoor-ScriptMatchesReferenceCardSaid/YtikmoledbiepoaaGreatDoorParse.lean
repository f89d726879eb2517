/- script.parse. -/
import Derived.Test.YtikmoledbiepoaaGreatDoorFit
namespace Go.Proofs.YtikmoledbiepoaaGreatDoor
open Go.RowKit
open Go.ChangeMaps (setBlock)
theorem u103 : Tryz.prog.underlying 103 = some (.map 9 102) := by kernel_rfl
theorem ck9 (b : Bool) (s : ByteArray) (w : World) : (Instr.checkKey b 10000 9 (.string s)).run Tryz.prog w = .ok () w := by cases b <;> kernel_rfl
theorem setBlock_self {w : World} {M : Nat} (o : Obj) (h : M < w.heap.size) : (setBlock w M o).heap[M]? = some o := by
  show (w.heap.setIfInBounds M o)[M]? = _
  simp [h]
theorem setBlock_other {w : World} {M k : Nat} (o : Obj) (h : k ≠ M) : (setBlock w M o).heap[k]? = w.heap[k]? := by
  show (w.heap.setIfInBounds M o)[k]? = _
  rw [Array.getElem?_setIfInBounds_ne (Ne.symm h)]
theorem ins_ex {w : World} {M : Nat} (es : Array MapEntry) (clk : Nat) (hm : w.heap[M]? = some (.map es clk)) (k : ByteArray) (v : Value) (hff : Instr.findNow .string (.string k) es.toList 0 = some none) :
    ∃ w', (Instr.mapUpdate 103 (.map (some M)) (.string k) v).run Tryz.prog w = .ok () w' ∧ Stepped w w' M (.map (es.push { key := .string k, val := v, born := clk }) (clk + 1)) := by
  have hfk : (Instr.findKey 9 (.string k) es.toList).run Tryz.prog w = .ok none w := by
    unfold Instr.findKey
    simp [run_underlying u9, hff]
  refine ⟨setBlock w M (.map (es.push { key := .string k, val := v, born := clk }) (clk + 1)), ?_, Stepped.mk' _ (.inl rfl) (lt_of_block hm)⟩
  unfold Instr.mapUpdate
  simp [run_underlying u103, run_getObj_map hm, run_setObj_map hm, ck9, hfk, setBlock]
/-- The four readers. -/
def kindsE (br : Nat) : Array MapEntry := #[{ key := .string ⟨kCall.toArray⟩, val := .func (.func 56) #[.pointer (some ⟨br, 0, none⟩)] #[], born := 0 }, { key := .string ⟨kTick.toArray⟩, val := .func (.func 57) #[.pointer (some ⟨br, 0, none⟩)] #[], born := 1 },
  { key := .string ⟨wFates.toArray⟩, val := .func (.func 58) #[.pointer (some ⟨br, 0, none⟩)] #[], born := 2 }, { key := .string ⟨kInject.toArray⟩, val := .func (.func 59) #[.pointer (some ⟨br, 0, none⟩)] #[], born := 3 }]
theorem look_kind {w : World} {M br : Nat} (hm : w.heap[M]? = some (.map (kindsE br) 4)) (s : List UInt8) (F : Nat) (h : (s = kCall ∧ F = 56) ∨ (s = kTick ∧ F = 57) ∨ (s = wFates ∧ F = 58) ∨ (s = kInject ∧ F = 59)) :
    (Instr.lookup 103 (.map (some M)) (.string ⟨s.toArray⟩) true).run Tryz.prog w = .ok (.tuple #[.func (.func F) #[.pointer (some ⟨br, 0, none⟩)] #[], .bool true]) w := by
  have hf : ∃ n, Instr.findNow .string (.string ⟨s.toArray⟩) (kindsE br).toList 0 = some (some (n, .func (.func F) #[.pointer (some ⟨br, 0, none⟩)] #[])) := by
    rcases h with ⟨rfl, rfl⟩ | ⟨rfl, rfl⟩ | ⟨rfl, rfl⟩ | ⟨rfl, rfl⟩
    · exact ⟨0, rfl⟩
    · exact ⟨1, rfl⟩
    · exact ⟨2, rfl⟩
    · exact ⟨3, rfl⟩
  obtain ⟨n, hf⟩ := hf
  have hfk : (Instr.findKey 9 (.string ⟨s.toArray⟩) (kindsE br).toList).run Tryz.prog w = .ok (some (n, .func (.func F) #[.pointer (some ⟨br, 0, none⟩)] #[])) w := by
    unfold Instr.findKey
    simp [run_underlying u9, hf]
  unfold Instr.lookup
  simp [run_underlying u103, run_getObj_map hm, ck9, hfk]
theorem bytes_ne {s l : List UInt8} (h : s ≠ l) : ((⟨s.toArray⟩ : ByteArray) == ⟨l.toArray⟩) = false := by
  show (s.toArray == l.toArray) = false
  rw [beq_eq_false_iff_ne]
  intro e
  exact h (by simpa using e)
theorem look_none {w : World} {M br : Nat} (hm : w.heap[M]? = some (.map (kindsE br) 4)) (s : List UInt8) (h1 : s ≠ kCall) (h2 : s ≠ kTick) (h3 : s ≠ wFates) (h4 : s ≠ kInject) :
    (Instr.lookup 103 (.map (some M)) (.string ⟨s.toArray⟩) true).run Tryz.prog w = .ok (.tuple #[.nilFunc, .bool false]) w := by
  have hf : Instr.findNow .string (.string ⟨s.toArray⟩) (kindsE br).toList 0 = some none := by
    simp [kindsE, Instr.findNow, Instr.sameNow, bytes_ne h1, bytes_ne h2, bytes_ne h3, bytes_ne h4]
  have hfk : (Instr.findKey 9 (.string ⟨s.toArray⟩) (kindsE br).toList).run Tryz.prog w = .ok none w := by
    unfold Instr.findKey
    simp [run_underlying u9, hf]
  have hz : ∀ w, (zeroValue 102).run Tryz.prog w = .ok .nilFunc w := fun w => by kernel_rfl
  unfold Instr.lookup
  simp [run_underlying u103, run_getObj_map hm, ck9, hfk, hz]
/-- The two results. -/
theorem res334 {fn : Func} (h : fn.results = #[.cell 2 33, .cell 3 4]) (tmps : Array Value) (w : World) (b p : Nat) (cs : Array Value) (t : Bool) (hp : tmps.getD 2 undef = .pointer (some ⟨b, 0, none⟩)) (hq : tmps.getD 3 undef = .pointer (some ⟨p, 0, none⟩)) (hb : w.heap[b]? = some (.cells cs 33)) (hs : cs.size = 23)
    (hc : w.heap[p]? = some (.cells #[.bool t] 4)) : (results fn tmps).run Tryz.prog w = .ok (.tuple #[.agg cs, .bool t]) w := by
  obtain ⟨d, hu⟩ := und33
  have hp' : tmps[2]?.getD undef = .pointer (some ⟨b, 0, none⟩) := by simpa using hp
  have hq' : tmps[3]?.getD undef = .pointer (some ⟨p, 0, none⟩) := by simpa using hq
  have h1 := run_loadVar_row (P := Tryz.prog) w b 33 33 cs (0, 0) _ hb hu rfl (by rw [hs]; kernel_rfl)
  have c1 : w.cell? ⟨p, 0, none⟩ = some (.bool t) := by rw [Lib.cell_of_heap hc]; rfl
  have h2 : (loadVar 4 ⟨p, 0, none⟩).run Tryz.prog w = .ok (.bool t) w := by simp [go_sem, c1]
  simp [results, h, hp', hq', asAddr, h1, h2]
/-- What script.parse ends with. -/
def ParseP (s : List UInt8) (w : World) (e : Ending) (w' : World) : Prop :=
  Ext w w' ∧ match parseL s with
    | some a => ∃ s1 n c, e = .returned (.tuple #[.agg (a.cells (.slice s1 n c)).toArray, .bool true]) ∧ FatesAt w' (.slice s1 n c) a.fates ∧ Typed3 w' (.slice s1 n c) a.fates
    | none => ∃ (x : Ac) (s1 : Option Addr) (n c : Nat), e = .returned (.tuple #[.agg (x.cells (.slice s1 n c)).toArray, .bool false])
theorem splB (s : List UInt8) (c : UInt8) : (Lib.splitB ⟨#[c]⟩ 0 (Lib.countB ⟨s.toArray⟩ ⟨#[c]⟩) ⟨s.toArray⟩).map Value.string = (spl c s).map vS := by
  have h1 := Lib.splitB_data ⟨#[c]⟩ 0 (Lib.countB ⟨s.toArray⟩ ⟨#[c]⟩) ⟨s.toArray⟩
  have h2 : Lib.splitK [c] 0 (Lib.countB ⟨s.toArray⟩ ⟨#[c]⟩) s = spl c s := splitK_spl c s
  rw [← h2, ← h1, List.map_map]
  apply List.map_congr_left
  intro b _
  rfl
theorem splB_len (s : List UInt8) (c : UInt8) : Lib.countB ⟨s.toArray⟩ ⟨#[c]⟩ + 1 = (spl c s).length := by
  have h1 := Lib.splitB_all ⟨#[c]⟩ (Nat.le_refl 1) 0 (Lib.countB ⟨s.toArray⟩ ⟨#[c]⟩) ⟨s.toArray⟩ rfl
  have h2 := congrArg List.length (splB s c)
  rw [List.length_map, List.length_map] at h2
  omega
theorem three_third (w : World) (o1 o2 o3 : Obj) : (((w.alloc o1).alloc o2).alloc o3).heap[w.heap.size + 2]? = some o3 := by
  have := alloc_new ((w.alloc o1).alloc o2) o3
  simpa using this
theorem rdTick_fates (ws : List (List UInt8)) : ∀ a, rdTick ws = some a → a.fates = [] := by
  intro a h
  unfold rdTick at h
  cases hn : nextNum ws with
  | none => rw [hn] at h; cases h
  | some y => rw [hn] at h; cases h; rfl
theorem rdInject_fates (ws : List (List UInt8)) : ∀ a, rdInject ws = some a → a.fates = [] := by
  intro a h
  unfold rdInject at h
  cases hn : nextNum ws with
  | none => rw [hn] at h; cases h
  | some y =>
    obtain ⟨r, v⟩ := y
    rw [hn] at h
    simp only at h
    cases hn2 : nextNum r with
    | none => rw [hn2] at h; cases h
    | some y2 =>
      obtain ⟨r2, v2⟩ := y2
      rw [hn2] at h
      simp only at h
      cases hn3 : nextTxt r2 with
      | none => rw [hn3] at h; cases h
      | some y3 => rw [hn3] at h; cases h; rfl
theorem Typed3.ext {w w' : World} {fv : Value} {l : List Int} (h : Typed3 w fv l) (hx : Ext w w') : Typed3 w' fv l := fun hn => by
  obtain ⟨b, o, n, c, cur, rfl, hb⟩ := h hn
  exact ⟨b, o, n, c, cur, rfl, (hx.block b (lt_of_block hb)).trans hb⟩
theorem fates_kept {S : Nat → Prop} {w w' : World} {fv : Value} {l : List Int} (h : FatesAt w fv l) (ht : Typed3 w fv l) (hk : Kept S w w') (hS : ∀ b cur, w.heap[b]? = some (.cells cur 3) → ¬ S b) : FatesAt w' fv l ∧ Typed3 w' fv l := by
  obtain ⟨a, cap, rfl, h1, h2, h3⟩ := h
  refine ⟨⟨a, cap, rfl, h1, h2, fun hn => ?_⟩, fun hn => ?_⟩
  · obtain ⟨b, o, rfl, hc⟩ := h3 hn
    obtain ⟨b', o', n', c', cur, he, hb⟩ := ht hn
    cases he
    exact ⟨b, o, rfl, fun j x hj => by rw [hk.cell (p := ⟨b, o + j, none⟩) (lt_of_block hb) (hS b cur hb)]; exact hc j x hj⟩
  · obtain ⟨b, o, n, c, cur, he, hb⟩ := ht hn
    exact ⟨b, o, n, c, cur, he, (hk.block b (lt_of_block hb) (hS b cur hb)).trans hb⟩
theorem ent56 : Ent 56 := enters_of Tryz.func56 (by kernel_rfl) rfl
theorem ent57 : Ent 57 := enters_of Tryz.func57 (by kernel_rfl) rfl
theorem ent58 : Ent 58 := enters_of Tryz.func58 (by kernel_rfl) rfl
theorem ent59 : Ent 59 := enters_of Tryz.func59 (by kernel_rfl) rfl
set_option maxRecDepth 100000 in
set_option maxHeartbeats 2000000 in
theorem parse_any (s : List UInt8) (w : World) (hg : Glob w) (hs : s.length ≤ 4000000000) : Calls Tryz.prog 37 #[.string ⟨s.toArray⟩] w (ParseP s w) := by
  have hmf := mkFn
  obtain ⟨m, hml⟩ := hg.maxlen
  have h9 := hg.size
  go_enter_defers Tryz.func37, Tryz.ntmps37
  go_wp2_with fail
  have hx0 : Ext w ((w.alloc (.cells ((Ac.none 0).cells (.slice none 0 0)).toArray 33)).alloc (.cells #[.bool false] 4)) := (Ext.alloc _ _).trans (Ext.alloc _ _)
  refine (Tryz.strings_Split ⟨s.toArray⟩ ⟨#[32]⟩ m _ (by show s.toArray.size < _; simp; omega) ((hx0.cell (p := ⟨1, 0, none⟩) (by show 1 < w.heap.size; omega)).trans hml) (by decide)).mono ?_
  rintro e w2 ⟨rfl, hw2⟩
  rw [splB, splB_len] at *
  have hb0 : w2.heap[w.heap.size]? = some (.cells ((Ac.none 0).cells (.slice none 0 0)).toArray 33) := by rw [hw2, alloc_old _ _ (by simp; omega)]; exact two_first _ _ _
  have hb1 : w2.heap[w.heap.size + 1]? = some (.cells #[.bool false] 4) := by rw [hw2, alloc_old _ _ (by simp)]; exact two_second _ _ _
  have hbw : w2.heap[w.heap.size + 2]? = some (.cells ((spl 32 s).map vS).toArray 9) := by
    rw [hw2]; exact three_third _ _ _ _
  have hx2 : Ext w w2 := by rw [hw2]; exact hx0.trans (Ext.alloc _ _)
  have hs2 : w2.heap.size = w.heap.size + 3 := by rw [hw2]; simp
  clear hw2 hx0
  have hsz : ((w.alloc (.cells ((Ac.none 0).cells (.slice none 0 0)).toArray 33)).alloc (.cells #[.bool false] 4)).heap.size = w.heap.size + 2 := by simp
  rw [hsz]
  clear hsz
  have hmm := @run_makeMap Tryz.prog
  obtain ⟨w3, hw3⟩ : ∃ w3, w3 = (w2.alloc (.cells #[.slice (some ⟨w.heap.size + 2, 0, none⟩) (spl 32 s).length (spl 32 s).length] 101)).alloc (.map #[] 0) := ⟨_, rfl⟩
  have hm3 : w3.heap[w.heap.size + 3 + 1]? = some (.map #[] 0) := by
    have := two_second w2 (.cells #[.slice (some ⟨w.heap.size + 2, 0, none⟩) (spl 32 s).length (spl 32 s).length] 101) (.map #[] 0)
    rw [hw3]; rwa [hs2] at this
  have hr3 : w3.heap[w.heap.size + 3]? = some (.cells #[.slice (some ⟨w.heap.size + 2, 0, none⟩) (spl 32 s).length (spl 32 s).length] 101) := by
    have := two_first w2 (.cells #[.slice (some ⟨w.heap.size + 2, 0, none⟩) (spl 32 s).length (spl 32 s).length] 101) (.map #[] 0)
    rw [hw3]; rwa [hs2] at this
  have hx3 : Ext w2 w3 := by rw [hw3]; exact (Ext.alloc _ _).trans (Ext.alloc _ _)
  obtain ⟨w4, q1, t1⟩ := ins_ex #[] 0 hm3 ⟨#[99, 97, 108, 108]⟩ (.func (.func 56) #[.pointer (some ⟨w.heap.size + 3, 0, none⟩)] #[]) rfl
  obtain ⟨w5, q2, t2⟩ := ins_ex _ _ t1.at_ ⟨#[116, 105, 99, 107]⟩ (.func (.func 57) #[.pointer (some ⟨w.heap.size + 3, 0, none⟩)] #[]) rfl
  obtain ⟨w6, q3, t3⟩ := ins_ex _ _ t2.at_ ⟨#[102, 97, 116, 101, 115]⟩ (.func (.func 58) #[.pointer (some ⟨w.heap.size + 3, 0, none⟩)] #[]) rfl
  obtain ⟨w7, q4, t4⟩ := ins_ex _ _ t3.at_ ⟨#[105, 110, 106, 101, 99, 116]⟩ (.func (.func 59) #[.pointer (some ⟨w.heap.size + 3, 0, none⟩)] #[]) rfl
  have hm7 : w7.heap[w.heap.size + 3 + 1]? = some (.map (kindsE (w.heap.size + 3)) 4) := t4.at_
  have h37 : ∀ k, k ≠ w.heap.size + 3 + 1 → w7.heap[k]? = w3.heap[k]? := fun k hk => (t4.other k hk).trans ((t3.other k hk).trans ((t2.other k hk).trans (t1.other k hk)))
  have hs7 : w7.heap.size = w3.heap.size := t4.size.trans (t3.size.trans (t2.size.trans t1.size))
  have hk7 : Ext w2 w7 := ⟨(t4.os.trans (t3.os.trans (t2.os.trans t1.os))).trans hx3.os, (t4.tape.trans (t3.tape.trans (t2.tape.trans t1.tape))).trans hx3.tape, (t4.output.trans (t3.output.trans (t2.output.trans t1.output))).trans hx3.output, by rw [hs7]; exact hx3.size, fun k hk => (h37 k (by omega)).trans (hx3.block k hk)⟩
  have hr7 : w7.heap[w.heap.size + 3]? = some (.cells #[.slice (some ⟨w.heap.size + 2, 0, none⟩) (spl 32 s).length (spl 32 s).length] 101) := (h37 _ (by omega)).trans hr3
  have hb07 := (hk7.block _ (lt_of_block hb0)).trans hb0
  have hb17 := (hk7.block _ (lt_of_block hb1)).trans hb1
  have hbw7 := (hk7.block _ (lt_of_block hbw)).trans hbw
  have hx7 : Ext w w7 := hx2.trans hk7
  rw [hw3] at q1
  clear hw3 hm3 hr3 hx3 t1 t2 t3 t4 h37 hs7 hk7 hb0 hb1 hbw hx2
  go_wp2_with fail
  have hwf : WsFit (spl 32 s) := by
    obtain ⟨h1, h2⟩ := spl_len 32 s
    exact ⟨by omega, fun y hy => by have := h2 y hy; omega⟩
  have hR7 : Reader w7 (w.heap.size + 3) (w.heap.size + 2) (spl 32 s) := by
    refine ⟨_, _, hr7, Nat.le_refl _, by omega, lt_of_block hbw7, fun _ => ⟨0, rfl, fun j x hj => ?_⟩⟩
    rw [Nat.zero_add, Lib.cell_of_heap hbw7]
    simp [hj]
  obtain ⟨x, rest, hsp⟩ : ∃ x rest, spl 32 s = x :: rest := by
    cases h : spl 32 s with
    | nil => exact absurd h (spl_ne _ _)
    | cons x rest => exact ⟨x, rest, rfl⟩
  rw [hsp] at hR7 hwf
  refine (word_cons (w.heap.size + 3) (w.heap.size + 2) x rest w7 hR7 (by have := hwf.1; simp at this; omega)).mono ?_
  rintro e w8 ⟨rfl, hr8, hk8⟩
  have hm8 := (hk8.block _ (lt_of_block hm7) (by omega)).trans hm7
  have hb08 := (hk8.block _ (lt_of_block hb07) (by omega)).trans hb07
  have hb18 := (hk8.block _ (lt_of_block hb17) (by omega)).trans hb17
  have hx8 : Ext w w8 := ⟨hk8.os.trans hx7.os, hk8.tape.trans hx7.tape, hk8.output.trans hx7.output, Nat.le_trans hx7.size hk8.size, fun k hk => (hk8.block k (Nat.lt_of_lt_of_le hk hx7.size) (by omega)).trans (hx7.block k hk)⟩
  have hg8 := hg.ext hx8
  have hwr : WsFit rest := hwf.drop 1
  clear hk8 hm7 hb07 hb17 hbw7 hx7 hR7 hr7 q1 q2 q3 q4 hwf
  have HSP := Lib.hid hsp
  clear hsp
  unfold vS
  by_cases hk : x = kCall ∨ x = kTick ∨ x = wFates ∨ x = kInject
  · obtain ⟨F, o, hent, hlk, hcall, hrd⟩ : ∃ F o, Ent F ∧ (Instr.lookup 103 (.map (some (w.heap.size + 3 + 1))) (.string ⟨x.toArray⟩) true).run Tryz.prog w8 = .ok (.tuple #[.func (.func F) #[.pointer (some ⟨w.heap.size + 3, 0, none⟩)] #[], .bool true]) w8 ∧
        Calls Tryz.prog F #[.pointer (some ⟨w.heap.size + 3, 0, none⟩)] w8 (RdB o (w.heap.size + 3) w8) ∧ rdLine (x :: rest) = o := by
      rcases hk with rfl | rfl | rfl | rfl
      · exact ⟨56, _, ent56, look_kind hm8 _ 56 (.inl ⟨rfl, rfl⟩), call_any _ _ _ w8 hg8 hr8 hwr (by omega), rfl⟩
      · exact ⟨57, _, ent57, look_kind hm8 _ 57 (.inr (.inl ⟨rfl, rfl⟩)), (tick_any _ _ _ w8 hg8 hr8 hwr (by omega)).mono fun e w' h => RdA.toB h (rdTick_fates rest), rfl⟩
      · exact ⟨58, _, ent58, look_kind hm8 _ 58 (.inr (.inr (.inl ⟨rfl, rfl⟩))), fates_any _ _ _ w8 hg8 hr8 hwr (by omega), rfl⟩
      · exact ⟨59, _, ent59, look_kind hm8 _ 59 (.inr (.inr (.inr ⟨rfl, rfl⟩))), (inject_any _ _ _ w8 hg8 hr8 hwr (by omega)).mono fun e w' h => RdA.toB h (rdInject_fates rest), rfl⟩
    have HRD := Lib.hid hrd
    unfold Ent at hent
    clear hrd hk
    go_wp2_with fail
    refine hcall.mono ?_
    rintro e w9 ⟨hk9, hm9⟩
    have hb09 := (hk9.block _ (lt_of_block hb08) (by omega)).trans hb08
    have hb19 := (hk9.block _ (lt_of_block hb18) (by omega)).trans hb18
    have hx9 : Ext w w9 := ⟨hk9.os.trans hx8.os, hk9.tape.trans hx8.tape, hk9.output.trans hx8.output, Nat.le_trans hx8.size hk9.size, fun k hk => (hk9.block k (Nat.lt_of_lt_of_le hk hx8.size) (by omega)).trans (hx8.block k hk)⟩
    clear hcall hlk hent hk9 hm8 hb08 hb18
    cases o with
    | none =>
      simp only at hm9
      subst hm9
      have HN : Hid (parseL s = none) := by unfold Hid parseL; rw [HSP.out, HRD.out]
      refine leaves_cons (f := 55) (args := #[.pointer (some ⟨w.heap.size, 0, none⟩), .pointer (some ⟨w.heap.size + 1, 0, none⟩)]) (by simp) (by simp [go_sem]) ?_
      refine (catch_panicking w.heap.size (w.heap.size + 1) w9 _ false hb09 rfl hb19 (by omega)).mono ?_
      rintro e u' w10 ⟨rfl, rfl, ha, hb, hk⟩
      refine ⟨_, res334 rfl _ _ w.heap.size (w.heap.size + 1) _ false rfl rfl ha rfl hb, ?_⟩
      refine ⟨⟨hk.os.trans hx9.os, hk.tape.trans hx9.tape, hk.output.trans hx9.output, Nat.le_trans hx9.size hk.size, fun k hkk => (hk.block k (Nat.lt_of_lt_of_le hkk hx9.size) (by rintro (h | h) <;> omega)).trans (hx9.block k hkk)⟩, ?_⟩
      rw [HN.out]
      exact ⟨Ac.none 0, none, 0, 0, rfl⟩
    | some a =>
      obtain ⟨s1, n1, c1, rfl, hfa, hty⟩ := hm9
      have HP : Hid (parseL s = if a.line.1 = s ∧ a.line.2 = true then some a else none) := by unfold Hid parseL; rw [HSP.out, HRD.out]
      have hfit : AcFit a := rdLine_fit hs (by rw [HSP.out]; exact HRD.out)
      have hks : Kept (· = w.heap.size) w9 (w9.setRow w.heap.size (a.cells (.slice s1 n1 c1)).toArray) := ⟨rfl, rfl, rfl, by simp, fun k _ hk => setRow_other _ _ _ _ hk⟩
      obtain ⟨hfa', hty'⟩ := fates_kept hfa hty hks (fun b cur hb h => by subst h; rw [hb09] at hb; cases hb)
      have hb010 := setRow_heap w9 w.heap.size _ (a.cells (.slice s1 n1 c1)).toArray 33 (0, 0) hb09
      have hb110 := (hks.block _ (lt_of_block hb19) (by omega)).trans hb19
      have hx10 : Ext w (w9.setRow w.heap.size (a.cells (.slice s1 n1 c1)).toArray) := hx9.setRow _ _ (Nat.le_refl _)
      clear HRD
      go_wp2_with (first | refine wpList_store33 rfl _ _ rfl w.heap.size _ rfl rfl _ hb09 rfl rfl (Ac.one _ _ _ _) ?_ | refine wpList_load33 (by rfl) _ rfl w.heap.size rfl _ hb010 rfl ?_)
      refine (line_any a (.slice s1 n1 c1) _ (hg.ext hx10) hfit hfa').mono ?_
      rintro e w11 ⟨rfl, hx11⟩
      have hb011 := (hx11.block _ (lt_of_block hb010)).trans hb010
      have hb111 := (hx11.block _ (lt_of_block hb110)).trans hb110
      have hfa11 := hfa'.ext hx11
      have hty11 : Typed3 w11 (.slice s1 n1 c1) a.fates := hty'.ext hx11
      have hxw : Ext w w11 := hx10.trans hx11
      clear hx11 hx10 hfa' hty' hfa hty hb010 hb110 hks hx9 hb09 hb19
      obtain ⟨W, hW⟩ : ∃ W, W = w11.setRow w.heap.size (a.cells (.slice s1 n1 c1)).toArray := ⟨_, rfl⟩
      have hWk : Kept (· = w.heap.size) w11 W := by rw [hW]; exact ⟨rfl, rfl, rfl, by simp, fun k _ hk => setRow_other _ _ _ _ hk⟩
      have hW0 : W.heap[w.heap.size]? = some (.cells (a.cells (.slice s1 n1 c1)).toArray 33) := by rw [hW]; exact setRow_heap _ _ _ _ _ _ hb011
      have hW1 : W.heap[w.heap.size + 1]? = some (.cells #[.bool false] 4) := (hWk.block _ (lt_of_block hb111) (by omega)).trans hb111
      obtain ⟨hfW, htW⟩ := fates_kept hfa11 hty11 hWk (fun b cur hb h => by subst h; rw [hb011] at hb; cases hb)
      have hxW : Ext w W := by rw [hW]; exact hxw.setRow _ _ (Nat.le_refl _)
      have d1 : W.cell? ⟨w.heap.size + 1, 0, none⟩ = some (.bool false) := by rw [Lib.cell_of_heap hW1]; rfl
      have d2 : W.frozen? ⟨w.heap.size + 1, 0, none⟩ = false := Lib.frozen_of_heap hW1 0
      rw [hW] at d1 d2
      have hend : ∀ t : Bool, (t = true ↔ a.line.1 = s ∧ a.line.2 = true) → ∀ tmps : Array Value, tmps.getD 2 undef = .pointer (some ⟨w.heap.size, 0, none⟩) → tmps.getD 3 undef = .pointer (some ⟨w.heap.size + 1, 0, none⟩) →
          Leaves Tryz.prog Tryz.f37 tmps (ParseP s w) [{ target := .fn (.func 55) #[.pointer (some ⟨w.heap.size, 0, none⟩), .pointer (some ⟨w.heap.size + 1, 0, none⟩)], args := #[] }] .returning (W.setCell ⟨w.heap.size + 1, 0, none⟩ (.bool t)) := by
        intro t ht tmps h2 h3
        refine leaves_cons (f := 55) (args := #[.pointer (some ⟨w.heap.size, 0, none⟩), .pointer (some ⟨w.heap.size + 1, 0, none⟩)]) (by simp) (by simp [go_sem]) ?_
        refine (catch_idle w.heap.size (w.heap.size + 1) _).mono ?_
        rintro e u' w12 ⟨rfl, rfl, rfl⟩
        have hkt : Kept (· = w.heap.size + 1) W (W.setCell ⟨w.heap.size + 1, 0, none⟩ (.bool t)) := Kept.setCell (S := (· = w.heap.size + 1)) W (p := ⟨w.heap.size + 1, 0, none⟩) rfl _
        refine ⟨_, res334 rfl _ _ w.heap.size (w.heap.size + 1) (a.cells (.slice s1 n1 c1)).toArray t h2 h3 ((hkt.block _ (lt_of_block hW0) (by omega)).trans hW0) rfl (by rw [heap_setCell_self hW1]; rfl), ?_⟩
        refine ⟨hxW.setCell (p := ⟨w.heap.size + 1, 0, none⟩) (by simp) _, ?_⟩
        rw [HP.out]
        cases t with
        | true =>
          rw [if_pos (ht.1 rfl)]
          obtain ⟨g1, g2⟩ := fates_kept hfW htW hkt (fun b cur hb h => by subst h; rw [hW1] at hb; cases hb)
          exact ⟨s1, n1, c1, rfl, g1, g2⟩
        | false =>
          rw [if_neg (fun h => by have := ht.2 h; cases this)]
          exact ⟨a, s1, n1, c1, rfl⟩
      rw [hW] at hend
      have HE := Lib.hid hend
      clear hend hW hWk hW0 hW1 hfW htW hxW HP hfa11 hty11
      unfold vS
      cases hl2 : a.line.2 with
      | false =>
        go_wp2_with (first | refine wpList_store33 rfl _ _ rfl w.heap.size _ rfl rfl _ hb011 rfl rfl (Ac.one _ _ _ _) ?_ | refine wpList_load33 (by rfl) _ rfl w.heap.size rfl _ hb011 rfl ?_)
        exact HE.out false (by rw [hl2]; simp) _ rfl rfl
      | true =>
        cases hq : (a.line.1 == s) with
        | true =>
          go_wp2_with (first | refine wpList_store33 rfl _ _ rfl w.heap.size _ rfl rfl _ hb011 rfl rfl (Ac.one _ _ _ _) ?_ | refine wpList_load33 (by rfl) _ rfl w.heap.size rfl _ hb011 rfl ?_)
          exact HE.out true (by rw [hl2]; simpa using hq) _ rfl rfl
        | false =>
          go_wp2_with (first | refine wpList_store33 rfl _ _ rfl w.heap.size _ rfl rfl _ hb011 rfl rfl (Ac.one _ _ _ _) ?_ | refine wpList_load33 (by rfl) _ rfl w.heap.size rfl _ hb011 rfl ?_)
          exact HE.out false (by rw [hl2]; simpa using hq) _ rfl rfl
  · have n1 : x ≠ kCall := fun h => hk (.inl h)
    have n2 : x ≠ kTick := fun h => hk (.inr (.inl h))
    have n3 : x ≠ wFates := fun h => hk (.inr (.inr (.inl h)))
    have n4 : x ≠ kInject := fun h => hk (.inr (.inr (.inr h)))
    have hlk := look_none hm8 x n1 n2 n3 n4
    have HN : Hid (parseL s = none) := by
      unfold Hid parseL
      rw [HSP.out, rdLine_cons, if_neg n1, if_neg n2, if_neg n3, if_neg n4]
    obtain ⟨W, hW⟩ : ∃ W, W = w8.setRow w.heap.size ((Ac.none 0).cells (.slice none 0 0)).toArray := ⟨_, rfl⟩
    have hWk : Kept (· = w.heap.size) w8 W := by rw [hW]; exact ⟨rfl, rfl, rfl, by simp, fun k _ hk => setRow_other _ _ _ _ hk⟩
    have hW0 : W.heap[w.heap.size]? = some (.cells ((Ac.none 0).cells (.slice none 0 0)).toArray 33) := by rw [hW]; exact setRow_heap _ _ _ _ _ _ hb08
    have hW1 : W.heap[w.heap.size + 1]? = some (.cells #[.bool false] 4) := (hWk.block _ (lt_of_block hb18) (by omega)).trans hb18
    have hxW : Ext w W := by rw [hW]; exact hx8.setRow _ _ (Nat.le_refl _)
    have d1 : W.cell? ⟨w.heap.size + 1, 0, none⟩ = some (.bool false) := by rw [Lib.cell_of_heap hW1]; rfl
    have d2 : W.frozen? ⟨w.heap.size + 1, 0, none⟩ = false := Lib.frozen_of_heap hW1 0
    have hend : ∀ tmps : Array Value, tmps.getD 2 undef = .pointer (some ⟨w.heap.size, 0, none⟩) → tmps.getD 3 undef = .pointer (some ⟨w.heap.size + 1, 0, none⟩) →
        Leaves Tryz.prog Tryz.f37 tmps (ParseP s w) [{ target := .fn (.func 55) #[.pointer (some ⟨w.heap.size, 0, none⟩), .pointer (some ⟨w.heap.size + 1, 0, none⟩)], args := #[] }] .returning (W.setCell ⟨w.heap.size + 1, 0, none⟩ (.bool false)) := by
      intro tmps h2 h3
      refine leaves_cons (f := 55) (args := #[.pointer (some ⟨w.heap.size, 0, none⟩), .pointer (some ⟨w.heap.size + 1, 0, none⟩)]) (by simp) (by simp [go_sem]) ?_
      refine (catch_idle w.heap.size (w.heap.size + 1) _).mono ?_
      rintro e u' w12 ⟨rfl, rfl, rfl⟩
      have hkt : Kept (· = w.heap.size + 1) W (W.setCell ⟨w.heap.size + 1, 0, none⟩ (.bool false)) := Kept.setCell (S := (· = w.heap.size + 1)) W (p := ⟨w.heap.size + 1, 0, none⟩) rfl _
      refine ⟨_, res334 rfl _ _ w.heap.size (w.heap.size + 1) _ false h2 h3 ((hkt.block _ (lt_of_block hW0) (by omega)).trans hW0) rfl (by rw [heap_setCell_self hW1]; rfl), ?_⟩
      refine ⟨hxW.setCell (p := ⟨w.heap.size + 1, 0, none⟩) (by simp) _, ?_⟩
      rw [HN.out]
      exact ⟨Ac.none 0, none, 0, 0, rfl⟩
    rw [hW] at hend d1 d2
    have HE := Lib.hid hend
    clear hend hW hWk hW0 hW1 hxW hk n1 n2 n3 n4
    go_wp2_with (refine wpList_store33 rfl _ _ rfl w.heap.size ((Ac.none 0).cells (.slice none 0 0)).toArray rfl rfl _ hb08 rfl rfl (Ac.one _ _ _ _) ?_)
    exact HE.out _ rfl rfl
end Go.Proofs.YtikmoledbiepoaaGreatDoor

/- The reader of fates. -/
import Derived.Test.YtikmoledbiepoaaGreatDoorPrint
import Derived.Test.YtikmoledbiepoaaGreatDoorSpell
import Derived.Test.YtikmoledbiepoaaGreatDoorFlags
import Derived.Deep.AppendLies
namespace Go.Proofs.YtikmoledbiepoaaGreatDoor
open Go.RowKit
/-- How many words a reader has still to read. -/
def wordsLeft (w : World) (br : Nat) : Nat := match w.heap[br]? with
  | some (.cells cs _ _) => match (cs[0]? : Option Value) with
    | some (.slice _ n _) => n
    | _ => 0
  | _ => 0
theorem Reader.left {w : World} {br bw : Nat} {ws : List (List UInt8)} (h : Reader w br bw ws) : wordsLeft w br = ws.length := by
  obtain ⟨a, cap, hb, _⟩ := h
  unfold wordsLeft
  rw [hb]
  rfl
/-- Fates that are there lie in a block of ints. -/
def Typed3 (w : World) (fv : Value) (l : List Int) : Prop := l ≠ [] → ∃ b o n c cur, fv = .slice (some ⟨b, o, none⟩) n c ∧ w.heap[b]? = some (.cells cur 3)
theorem Typed3.nil (w : World) (fv : Value) : Typed3 w fv [] := fun h => absurd rfl h
def RdB (o : Option Ac) (br : Nat) (w : World) (e : Ending) (w' : World) : Prop :=
  Kept (· = br) w w' ∧ match o with
    | some a => ∃ s n c, e = .returned (.agg (a.cells (.slice s n c)).toArray) ∧ FatesAt w' (.slice s n c) a.fates ∧ Typed3 w' (.slice s n c) a.fates
    | none => e = wrongEnd
theorem RdA.toB {o : Option Ac} {br : Nat} {w w' : World} {e : Ending} (h : RdA o br w e w') (hn : ∀ a, o = some a → a.fates = []) : RdB o br w e w' := by
  obtain ⟨hk, h⟩ := h
  refine ⟨hk, ?_⟩
  cases o with
  | none => exact h
  | some a =>
    obtain ⟨fv, he, hf⟩ := h
    obtain ⟨s, c, rfl, h2⟩ := id hf
    rw [hn a rfl] at hf
    refine ⟨s, _, c, he, ?_, ?_⟩
    · rw [hn a rfl]; exact hf
    · rw [hn a rfl]; exact Typed3.nil _ _
def FRel (ws : List (List UInt8)) (w : World) (br bw : Nat) (wq : World) : Prop :=
  ∃ xs rest s n c, numAll ws = (numAll rest).map (xs ++ ·) ∧ Reader wq br bw rest ∧ WsFit rest ∧ xs.length + rest.length ≤ ws.length ∧ wq.heap[w.heap.size]? = some (.cells ((Ac.none 0).cells (.slice none 0 0)).toArray 33) ∧
    wq.heap[w.heap.size + 1]? = some (.cells ((Ac.none 3).cells (.slice s n c)).toArray 33) ∧ wq.ownsRow (w.heap.size + 2) 3 1 (.slice s n c) xs.length (xs.map vI) ∧ Kept (· = br) w wq
theorem ownsRow_kept {S : Nat → Prop} {B n k : Nat} {E : TypeId} {v : Value} {xs : List Value} {w w' : World} (h : w.ownsRow B E n v k xs) (hk : Kept S w w') (hS : ∀ g, B ≤ g → ¬ S g) : w'.ownsRow B E n v k xs := by
  obtain ⟨h1, h2⟩ := h
  refine ⟨h1, ?_⟩
  rcases h2 with h2 | ⟨g, cap, cur, rfl, hb, hg, hr⟩
  · exact .inl h2
  · exact .inr ⟨g, cap, cur, rfl, hb, (hk.block g (lt_of_block hg) (hS g hb)).trans hg, hr⟩
theorem fates_row {w : World} {B : Nat} {s : Option Addr} {n c : Nat} {xs : List Int} (h : w.ownsRow B 3 1 (.slice s n c) xs.length (xs.map vI)) : FatesAt w (.slice s n c) xs ∧ Typed3 w (.slice s n c) xs := by
  rcases h.2 with ⟨h2, h3⟩ | ⟨g, cap, cur, he, hb, hg, hn, hc, hs, ht⟩
  · cases h2
    have : xs = [] := List.length_eq_zero_iff.1 h3
    subst this
    exact ⟨FatesAt.nil _, Typed3.nil _ _⟩
  · cases he
    have hm : c ≤ 9223372036854775807 := by unfold maxLen at hc; exact hc
    refine ⟨⟨_, _, rfl, hn, by omega, fun _ => ⟨g, 0, rfl, fun j x hj => ?_⟩⟩, fun _ => ⟨g, 0, _, _, cur, rfl, hg⟩⟩
    rw [Nat.zero_add, Lib.cell_of_heap hg]
    have hjl : j < xs.length := (List.getElem?_eq_some_iff.1 hj).1
    have h2 : (xs.map vI)[j]? = some (vI x) := by simp [hj]
    rw [← ht, List.getElem?_take, if_pos (by omega)] at h2
    simpa using h2
/-- What the operations of 'append(a.Fates, r.number())' yield. -/
def FG (br N : Nat) (v0 : Value) (xs : List Int) (n : Int) (i : Nat) (v : Value) (w : World) : Prop := match i with
  | 0 => v = .pointer (some ⟨N + 1, 19, none⟩)
  | 1 => v = v0
  | 2 => v = .pointer (some ⟨br, 0, none⟩)
  | 3 => v = .int .i64 n
  | 4 => ∃ g, v = .slice (some ⟨g, 0, none⟩) 1 1 ∧ N + 2 ≤ g ∧ v0.ownBlock ≠ some g ∧ w.heap[g]? = some (.cells #[.int .i64 n] 3)
  | 5 => ∃ s m c, v = .slice s m c ∧ w.ownsRow (N + 2) 3 1 (.slice s m c) (xs.length + 1) (xs.map vI ++ [vI n])
  | 6 => v = .pointer (some ⟨N + 1, 19, none⟩)
  | _ => True
theorem FG.same {br N : Nat} {v0 : Value} {xs : List Int} {n : Int} {j : Nat} {u : Value} {w w' : World} (h : FG br N v0 xs n j u w) (h4 : j ≠ 4) (h5 : j ≠ 5) : FG br N v0 xs n j u w' := by
  match j, h4, h5, h with
  | 0, _, _, h => exact h
  | 1, _, _, h => exact h
  | 2, _, _, h => exact h
  | 3, _, _, h => exact h
  | 4, h4, _, _ => exact absurd rfl h4
  | 5, _, h5, _ => exact absurd rfl h5
  | 6, _, _, h => exact h
  | k + 7, _, _, _ => exact trivial
/-- The world meanwhile. -/
structure FW (br bw : Nat) (w : World) (v0 : Value) (xs : List Int) (x : List UInt8) (r : List (List UInt8)) (n : Int) (b3 b5 b7 : Bool) (wq : World) : Prop where
  kept : Kept (· = br) w wq
  res : wq.heap[w.heap.size]? = some (.cells ((Ac.none 0).cells (.slice none 0 0)).toArray 33)
  before : b3 = false → Reader wq br bw (x :: r)
  behind : b3 = true → Reader wq br bw r
  row : b5 = false → wq.ownsRow (w.heap.size + 2) 3 1 v0 xs.length (xs.map vI)
  old : b7 = false → wq.heap[w.heap.size + 1]? = some (.cells ((Ac.none 3).cells v0).toArray 33)
  new : b7 = true → ∃ s m c, wq.heap[w.heap.size + 1]? = some (.cells ((Ac.none 3).cells (.slice s m c)).toArray 33) ∧ wq.ownsRow (w.heap.size + 2) 3 1 (.slice s m c) (xs.length + 1) (xs.map vI ++ [vI n])
theorem FW.step {br bw : Nat} {w : World} {v0 : Value} {xs : List Int} {x : List UInt8} {r : List (List UInt8)} {n : Int} {b3 b5 b7 : Bool} {wq wz : World} {S : Nat → Prop} (h : FW br bw w v0 xs x r n b3 b5 b7 wq) (hbr : br < w.heap.size) (hbw : bw < w.heap.size)
    (hk : Kept S wq wz) (hS : ∀ k, k < w.heap.size + 2 → ¬ S k) (hrow : b5 = false → wz.ownsRow (w.heap.size + 2) 3 1 v0 xs.length (xs.map vI))
    (hnew : b7 = true → ∀ s m c, wq.ownsRow (w.heap.size + 2) 3 1 (.slice s m c) (xs.length + 1) (xs.map vI ++ [vI n]) → wz.ownsRow (w.heap.size + 2) 3 1 (.slice s m c) (xs.length + 1) (xs.map vI ++ [vI n])) : FW br bw w v0 xs x r n b3 b5 b7 wz where
  kept := Kept.trans' h.kept hk (fun i hi hs => absurd hs (hS i (by omega)))
  res := (hk.block _ (lt_of_block h.res) (hS _ (by omega))).trans h.res
  before := fun hb => (h.before hb).kept hk (hS _ (by omega)) (hS _ (by omega))
  behind := fun hb => (h.behind hb).kept hk (hS _ (by omega)) (hS _ (by omega))
  row := hrow
  old := fun hb => (hk.block _ (lt_of_block (h.old hb)) (hS _ (by omega))).trans (h.old hb)
  new := fun hb => by
    obtain ⟨s, m, c, h1, h2⟩ := h.new hb
    exact ⟨s, m, c, (hk.block _ (lt_of_block h1) (hS _ (by omega))).trans h1, hnew hb s m c h2⟩
theorem Tryz.info3 : (Tryz.prog.info? 3).map (fun i => (i.zero, i.size, i.bytes)) = some (some (.int .i64 0), 1, 8) := by kernel_rfl
theorem ent77 : Ent 77 := enters_of Tryz.func77 (by kernel_rfl) rfl
theorem und29 : Tryz.prog.underlying 29 = some (.slice 3) := by kernel_rfl
set_option maxRecDepth 100000 in
set_option maxHeartbeats 2000000 in
theorem fates_any (br bw : Nat) (ws : List (List UInt8)) (w : World) (hg : Glob w) (hr : Reader w br bw ws) (hf : WsFit ws) (h9 : 9 ≤ br) :
    Calls Tryz.prog 58 #[.pointer (some ⟨br, 0, none⟩)] w (RdB (rdFates ws) br w) := by
  have hbr : br < w.heap.size := by obtain ⟨_, _, h, _⟩ := hr; exact lt_of_block h
  go_enter Tryz.func58, Tryz.ntmps58
  go_wp2_with (refine wpList_store33 rfl _ _ rfl (w.heap.size + 1) ((Ac.none 3).cells (.slice none 0 0)).toArray rfl rfl _ (two_second _ _ _) rfl rfl (Ac.one _ _ _ _) ?_)
  go_frame
  go_loopw [5] (fun _ wq => FRel ws w br bw wq) (fun _ wq => wordsLeft wq br)
  case atStart =>
    have hx : Ext w (((w.alloc (.cells ((Ac.none 0).cells (.slice none 0 0)).toArray 33)).alloc (.cells ((Ac.none 0).cells (.slice none 0 0)).toArray 33)).setRow (w.heap.size + 1) ((Ac.none 3).cells (.slice none 0 0)).toArray) :=
      ((Ext.alloc _ _).trans (Ext.alloc _ _)).setRow _ _ (by omega)
    refine ⟨[], ws, none, 0, 0, ?_, hr.kept (S := fun _ => False) (Kept.of_below hx) id id, hf, by simp, ?_, ?_, World.ownsRow_nil _ _ _ _, Kept.of_below hx⟩
    · cases numAll ws <;> rfl
    · rw [setRow_other _ _ _ _ (by omega)]; exact two_first _ _ _
    · exact setRow_heap _ _ _ _ _ _ (two_second _ _ _)
  case round =>
    obtain ⟨xs, rest, s1, n1, c1, hnum, hR, hW, hlen, hb0, hb1, hrow, hk⟩ := hrel
    have hbw : bw < w.heap.size := by obtain ⟨_, _, _, _, _, h, _⟩ := hr; exact h
    obtain ⟨sa, cap, hbr', hcp, hne, hbwl, hcl⟩ := id hR
    have c0 : wr.cell? ⟨br, 0, none⟩ = some (.slice sa rest.length cap) := by rw [Lib.cell_of_heap hbr']; rfl
    cases rest with
    | nil =>
      clear hcl
      go_wp2_with (first | refine wpList_load33 (by rfl) _ rfl (w.heap.size + 1) rfl _ hb1 rfl ?_ | refine wpList_store33 rfl _ _ rfl w.heap.size _ rfl rfl _ hb0 rfl rfl (Ac.one _ _ _ _) ?_)
      refine bodyPost_ret (res33 rfl _ _ w.heap.size _ rfl (setRow_heap _ _ _ _ _ _ hb0) (by rfl)) rfl ?_
      have hn : rdFates ws = some { Ac.none 3 with fates := xs } := by unfold rdFates; rw [hnum]; simp [numAll]
      rw [hn]
      have hrow' : (wr.setRow w.heap.size ((Ac.none 3).cells (.slice s1 n1 c1)).toArray).ownsRow (w.heap.size + 2) 3 1 (.slice s1 n1 c1) xs.length (xs.map vI) :=
        ownsRow_kept (S := (· = w.heap.size)) hrow ⟨rfl, rfl, rfl, by simp, fun k _ hk => setRow_other _ _ _ _ hk⟩ (fun g hg h => by omega)
      obtain ⟨hf1, hf2⟩ := fates_row hrow'
      exact ⟨hk.setRow _ _ (Nat.le_refl _), s1, n1, c1, rfl, hf1, hf2⟩
    | cons x r =>
      have hpos : decide ((0 : Int) < ((x :: r).length : Int)) = true := by simp
      go_upto_region 3 with fail
      have hcl1 : wr.cell? ⟨w.heap.size + 1, 19, none⟩ = some (.slice s1 n1 c1) := by rw [Lib.cell_of_heap hb1]; rfl
      obtain ⟨i0, hi, j0, j1, j2⟩ := info_parts Tryz.info3
      have hvb : ∀ g, (Value.slice s1 n1 c1).ownBlock = some g → w.heap.size + 2 ≤ g ∧ g < wr.heap.size := by
        intro g hgb
        rcases hrow.2 with ⟨h2, _⟩ | ⟨g', cap', cur, he, hbb, hgg, _⟩
        · rw [h2] at hgb; cases hgb
        · rw [he] at hgb; cases hgb; exact ⟨hbb, lt_of_block hgg⟩
      have hlx : xs.length ≤ 4294967296 := by have := hf.1; omega
      have hfx : WsFit (x :: r) := hW
      have hsw := hk.size
      refine wp_region_gen (FG br w.heap.size (.slice s1 n1 c1) xs ((numOf x).getD 0)) (fun b wq => FW br bw w (.slice s1 n1 c1) xs x r ((numOf x).getD 0) (b 3) (b 5) (b 7) wq ∧ wr.heap.size ≤ wq.heap.size ∧ (b 3 = true → (numOf x).isSome = true)) mixedOrd (by kernel_rfl) (by kernel_rfl) (by kernel_rfl)
        ⟨⟨⟨hk.os, hk.tape, hk.output, hk.size, hk.block⟩, hb0, fun _ => hR, (fun h => by cases h), fun _ => hrow, fun _ => hb1, (fun h => by cases h)⟩, Nat.le_refl _, (fun h => by cases h)⟩ ?_ ?_
      · refine ⟨?_, ?_, ?_, ?_, ?_, ?_, ?_, ?_, trivial⟩
        · intro a' w' b hdf hso hs hW
          have h0 : a'.tmps[3]? = some (.pointer (some ⟨w.heap.size + 1, 0, none⟩)) := hs.old 3 rfl
          exact wpOp_val rfl rfl (by simp [execOp, go_sem, h0]) ⟨_, rfl, .inr rfl, hW, fun _ _ _ h => h⟩
        · intro a' w' b hdf hso hs hW
          obtain ⟨v, h0, rfl⟩ := hs.made 0 11 rfl rfl
          have hb7 : b 7 = false := hso.not 7 rfl rfl
          have e0 : w'.cell? ⟨w.heap.size + 1, 19, none⟩ = some (.slice s1 n1 c1) := by rw [Lib.cell_of_heap (hW.1.old hb7)]; rfl
          exact wpOp_val rfl rfl (by simp [execOp, go_sem, h0, e0]) ⟨_, rfl, .inr rfl, hW, fun _ _ _ h => h⟩
        · intro a' w' b hdf hso hs hW
          have h0 : a'.tmps[0]? = some (.pointer (some ⟨br, 0, none⟩)) := hs.old 0 rfl
          exact wpOp_val rfl rfl (by simp [execOp, go_sem, h0]) ⟨_, rfl, .inr rfl, hW, fun _ _ _ h => h⟩
        · intro a' w' b hdf hso hs hW
          obtain ⟨v, h0, rfl⟩ := hs.made 2 13 rfl rfl
          have hb4 : b 4 = false := hso.not 4 rfl rfl
          have hb5 : b 5 = false := hso.not 5 rfl rfl
          have hb7 : b 7 = false := hso.not 7 rfl rfl
          refine wpOp_callP (f := 77) (args := #[.pointer (some ⟨br, 0, none⟩)]) rfl rfl (exec_call rfl rfl ent77 (by simp [ev h0])) ?_
          refine (number_any br bw (x :: r) w' (hg.kept hW.1.kept (fun i hi h => by omega)) (hW.1.before hso.undone) hfx h9).mono ?_
          rintro e w'' ⟨hk2, hm⟩
          cases hn : numOf x with
          | none =>
            simp only [nextNum, hn, Option.map] at hm
            refine .inr ⟨_, hm, ?_⟩
            have hno : rdFates ws = none := by
              unfold rdFates
              rw [hnum]
              simp [numAll, hn]
            have hk3 : Kept (· = br) w w'' := hW.1.kept.trans hk2
            clear hW hs hso
            go_wp2_with fail
            exact ⟨hdf, hk3, rfl⟩
          | some n =>
            simp only [nextNum, hn, Option.map] at hm
            obtain ⟨rfl, hr'⟩ := hm
            rw [hn] at hW
            refine .inl ⟨_, rfl, _, rfl, .inr rfl, ⟨?_, Nat.le_trans hW.2.1 hk2.size, fun _ => rfl⟩, ?_⟩
            · have hF := hW.1
              refine ⟨hF.kept.trans hk2, (hk2.block _ (lt_of_block hF.res) (by omega)).trans hF.res, (fun h => by cases h), fun _ => hr', fun _ => ownsRow_kept (hF.row hb5) hk2 (fun g hgg h => by omega), fun _ => (hk2.block _ (lt_of_block (hF.old hb7)) (by omega)).trans (hF.old hb7), fun h => ?_⟩
              have h' : b 7 = true := h
              rw [hb7] at h'; cases h'
            · intro j u hbj hG
              refine FG.same hG ?_ ?_
              · rintro rfl; rw [hb4] at hbj; cases hbj
              · rintro rfl; rw [hb5] at hbj; cases hbj
        · intro a' w' b hdf hso hs hW
          obtain ⟨v, h0, rfl⟩ := hs.made 3 14 rfl rfl
          have hb5 : b 5 = false := hso.not 5 rfl rfl
          have hb7 : b 7 = false := hso.not 7 rfl rfl
          have hx : Ext w' (w'.alloc (.cells #[.int .i64 ((numOf x).getD 0)] 3)) := Ext.alloc _ _
          have hsz : w.heap.size ≤ wr.heap.size := hsw
          refine wpOp_val (w' := w'.alloc (.cells #[.int .i64 ((numOf x).getD 0)] 3)) (v := .slice (some ⟨w'.heap.size, 0, none⟩) 1 1) rfl rfl (by simp [execOp, go_sem, h0]) ⟨_, rfl, .inr ⟨w'.heap.size, rfl, ?_, ?_, alloc_new _ _⟩, ⟨hW.1.step hbr hbw (S := fun _ => False) (Kept.of_below hx) (fun _ _ h => h) (fun hb => ownsRow_ext (hW.1.row hb) hx) (fun hb => ?_), Nat.le_trans hW.2.1 hx.size, hW.2.2⟩, ?_⟩
          · exact lt_of_block (hW.1.old hb7)
          · intro e; have := (hvb _ e).2; have := hW.2.1; omega
          · have hb' : b 7 = true := hb
            rw [hb7] at hb'; cases hb'
          · intro j u hbj hG
            refine FG.same hG ?_ ?_
            · rintro rfl; have := hso.undone; rw [Nat.zero_add] at this; rw [this] at hbj; cases hbj
            · rintro rfl; rw [hb5] at hbj; cases hbj
        · intro a' w' b hdf hso hs hW
          obtain ⟨v, h0, rfl⟩ := hs.made 1 12 rfl rfl
          obtain ⟨v, h1, g, rfl, hg1, hg2, hg3⟩ := hs.made 4 15 rfl rfl
          have hb5 : b 5 = false := hso.undone
          have hb7 : b 7 = false := hso.not 7 rfl rfl
          refine wpOp_wp rfl rfl (wp_append_lies w' _ _ 29 rfl (w.heap.size + 2) 3 i0 (.int .i64 0) 1 8 und29 hi j0 j1 j2 rfl (by omega) _ _ _ (ev h0) (hW.1.row hb5) ⟨g, 0, none⟩ 1 1 [.int .i64 ((numOf x).getD 0)] (ev h1) rfl (World.news_of_block hg3) (by simp [Value.oneCell']) (by omega) (by unfold maxLen; omega) (by omega) (lt_of_block (hW.1.old hb7)) w'.heap.size rfl ?_)
          intro g' cap' w'' hown hgrow hat hlt
          have hkg : Kept (fun k => (Value.slice s1 n1 c1).ownBlock = some k) w' w'' := ⟨hgrow.os, hgrow.tape, hgrow.output, hgrow.size, fun k hk1 hk2 => hgrow.block k hk1 (fun e => hk2 e.symm)⟩
          refine ⟨_, rfl, .inr ⟨_, _, _, rfl, hown⟩, ⟨?_, Nat.le_trans hW.2.1 hgrow.size, hW.2.2⟩, ?_⟩
          · have hT : FW br bw w (.slice s1 n1 c1) xs x r ((numOf x).getD 0) (b 3) true (b 7) w' := { hW.1 with row := fun h => by cases h }
            exact hT.step hbr hbw hkg (fun k hk1 hk2 => by have := (hvb k hk2).1; omega) (fun h => by cases h) (fun h => by rw [hb7] at h; cases h)
          · intro j u hbj hG
            by_cases h4 : j = 4
            · subst h4
              obtain ⟨g4, e1, e2, e3, e4⟩ := hG
              exact ⟨g4, e1, e2, e3, (hgrow.block g4 (lt_of_block e4) (fun e => e3 e.symm)).trans e4⟩
            · exact FG.same hG h4 (by rintro rfl; rw [hb5] at hbj; cases hbj)
        · intro a' w' b hdf hso hs hW
          have h0 : a'.tmps[3]? = some (.pointer (some ⟨w.heap.size + 1, 0, none⟩)) := hs.old 3 rfl
          exact wpOp_val rfl rfl (by simp [execOp, go_sem, h0]) ⟨_, rfl, .inr rfl, hW, fun _ _ _ h => h⟩
        · intro a' w' b hdf hso hs hW
          obtain ⟨v, h0, rfl⟩ := hs.made 6 17 rfl rfl
          obtain ⟨v, h1, s2, m2, c2, rfl, hown⟩ := hs.made 5 16 rfl rfl
          have hb7 : b 7 = false := hso.undone
          have hb5 : b 5 = true := hso.ready 5 rfl
          have hold := hW.1.old hb7
          have e0 : w'.cell? ⟨w.heap.size + 1, 19, none⟩ = some (.slice s1 n1 c1) := by rw [Lib.cell_of_heap hold]; rfl
          have e1 : w'.frozen? ⟨w.heap.size + 1, 19, none⟩ = false := Lib.frozen_of_heap hold 19
          have hb3 : b 3 = true := hso.ready 3 rfl
          have hks : Kept (· = w.heap.size + 1) w' (w'.setCell ⟨w.heap.size + 1, 19, none⟩ (.slice s2 m2 c2)) := Kept.setCell (S := (· = w.heap.size + 1)) w' (p := ⟨w.heap.size + 1, 19, none⟩) rfl _
          have hF := hW.1
          refine wpOp_skip (w' := w'.setCell ⟨w.heap.size + 1, 19, none⟩ (.slice s2 m2 c2)) rfl rfl (by simp [execOp, go_sem, h0, h1, e0, e1]) ⟨undef, rfl, .inl rfl, ⟨⟨?_, ?_, ?_, ?_, ?_, ?_, ?_⟩, Nat.le_trans hW.2.1 hks.size, hW.2.2⟩, ?_⟩
          · exact Kept.trans' hF.kept hks (fun i hi hs => by omega)
          · exact (hks.block _ (lt_of_block hF.res) (by omega)).trans hF.res
          · intro h
            have h' : b 3 = false := h
            rw [hb3] at h'; cases h'
          · intro _; exact (hF.behind hb3).kept hks (by omega) (by omega)
          · intro h
            have h' : b 5 = false := h
            rw [hb5] at h'; cases h'
          · intro h; cases h
          · intro _; exact ⟨s2, m2, c2, by rw [heap_setCell_self hold]; rfl, ownsRow_kept hown hks (fun g hgg h => by omega)⟩
          · intro j u hbj hG
            by_cases h4 : j = 4
            · subst h4
              obtain ⟨g4, f1, f2, f3, f4⟩ := hG
              exact ⟨g4, f1, f2, f3, (hks.block g4 (lt_of_block f4) (by omega)).trans f4⟩
            · by_cases h5 : j = 5
              · subst h5
                obtain ⟨s5, m5, c5, f1, f2⟩ := hG
                exact ⟨s5, m5, c5, f1, ownsRow_kept f2 hks (fun g hgg h => by omega)⟩
              · exact FG.same hG h4 h5
      · intro a' w' b hb hs hW
        obtain ⟨v11, h11, _⟩ := hs.made 0 11 rfl
        obtain ⟨v12, h12, _⟩ := hs.made 1 12 rfl
        obtain ⟨v13, h13, _⟩ := hs.made 2 13 rfl
        obtain ⟨v14, h14, _⟩ := hs.made 3 14 rfl
        obtain ⟨v15, h15, _⟩ := hs.made 4 15 rfl
        obtain ⟨v16, h16, _⟩ := hs.made 5 16 rfl
        obtain ⟨v17, h17, _⟩ := hs.made 6 17 rfl
        have ha := act_putAll [(11, v11), (12, v12), (13, v13), (14, v14), (15, v15), (16, v16), (17, v17)] hs.defers hs.size (by simp [h11, h12, h13, h14, h15, h16, h17]) rfl hs.old
        clear hs h11 h12 h13 h14 h15 h16 h17
        have hF := hW.1
        obtain ⟨s2, m2, c2, hn1, hn2⟩ := hF.new (hb 7 (by decide))
        have hR2 := hF.behind (hb 3 (by decide))
        obtain ⟨n, hn⟩ := Option.isSome_iff_exists.1 (hW.2.2 (hb 3 (by decide)))
        have hrel' : FRel ws w br bw w' := by
          rw [hn] at hn2
          refine ⟨xs ++ [n], r, s2, m2, c2, ?_, hR2, hfx.drop 1, ?_, hF.res, hn1, ?_, hF.kept⟩
          · rw [hnum]
            simp only [numAll, hn]
            cases numAll r with
            | none => rfl
            | some l => simp
          · simp at hlen ⊢; omega
          · simpa using hn2
        have hm1 := hR.left
        have hm2 := hR2.left
        have HM : Hid (wordsLeft w' br < wordsLeft wr br) := by unfold Hid; rw [hm1, hm2]; simp
        clear hb hW hF hm1 hm2 hn1 hn2 hR2
        simp only [putAll, Act.put] at ha
        subst ha
        go_frame
        go_wp2_with fail
        go_roundw
        case rel => exact hrel'
        case measure => exact HM.out
end Go.Proofs.YtikmoledbiepoaaGreatDoor

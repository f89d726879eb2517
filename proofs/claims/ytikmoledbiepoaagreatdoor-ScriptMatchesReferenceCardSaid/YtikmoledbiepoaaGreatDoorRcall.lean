/- The reader of a call. -/
import Derived.Test.YtikmoledbiepoaaGreatDoorFates
import Derived.Maps.RangeRun
namespace Go.Proofs.YtikmoledbiepoaaGreatDoor
open Go.RowKit
open Go.ChangeMaps (setBlock)
theorem rdCall_noside {s : List UInt8} (r : List (List UInt8)) (h : sideOf s = none) : rdCall (s :: r) = none := by simp only [rdCall, h]
theorem rdCall_one {s : List UInt8} {sd : Int} (h : sideOf s = some sd) : rdCall [s] = none := by simp only [rdCall, h]
theorem rdCall_nokey {s x : List UInt8} {sd : Int} (r : List (List UInt8)) (h : sideOf s = some sd) (hk : keyOf x = none) : rdCall (s :: x :: r) = none := by simp only [rdCall, h, hk]
theorem rdCall_key {s x : List UInt8} {sd : Int} (r : List (List UInt8)) (h : sideOf s = some sd) {k : Nat} (hk : keyOf x = some k) :
    rdCall (s :: x :: r) = (rdAll (formOf k).2 r (Cal.ofKind (max (k : Int) 1))).map fun y => { Ac.none 1 with side := sd, call := y.2 } := by simp only [rdCall, h, hk]
/-- While no form has fitted. -/
def CRel (x : List UInt8) (es : Array MapEntry) (bm : Nat) (w4 wq : World) : Prop :=
  ∃ seen c0, wq.heap[w4.heap.size]? = some (.mapIter (some bm) es.size seen c0) ∧ es.size ≤ c0 ∧ Below w4.heap.size w4 wq ∧ ∀ e ∈ es.toList, seen.contains e.born = true → ∀ k : Nat, e.key = .int .i64 (k : Int) → (formOf k).1 ≠ x
/-- While the fields of a call are being read. -/
def IRel (k : Nat) (sd : Int) (r2 : List (List UInt8)) (br bw : Nat) (w w4 : World) (j : Nat) (wq : World) : Prop :=
  ∃ rest c, rdAll (formOf k).2 r2 (Cal.ofKind (max (k : Int) 1)) = rdAll ((formOf k).2.drop j) rest c ∧ Reader wq br bw rest ∧ WsFit rest ∧ CalIn wq (w.heap.size + 1) 2 33 [vI 1, vI sd] [vI 0, .slice none 0 0, vI 0, vI 0, vS []] c ∧
    wq.heap[w.heap.size]? = some (.cells ((Ac.none 0).cells (.slice none 0 0)).toArray 33) ∧ Kept (· = br) w wq ∧ Kept (fun y => y = br ∨ y = w.heap.size + 1) w4 wq
theorem sameIn_kept {lo hi a b : Nat} {w w' : World} (h : Kept (fun y => y = a ∨ y = b) w w') (ha : a < lo) (hb : b < lo) (hh : hi ≤ w.heap.size) : SameIn lo hi w w' := fun x h1 h2 _ => h.block x (by omega) (by rintro (h | h) <;> omega)
theorem rd_fit {f : Fld} {ws r : List (List UInt8)} {c c' : Cal} (h : rd f ws c = some (r, c')) (hf : WsFit ws) : WsFit r := by
  cases ws with
  | nil => cases h
  | cons x t =>
    have ht : WsFit t := hf.drop 1
    unfold rd at h
    simp only at h
    split at h
    · cases hn : numOf x with
      | none => rw [hn] at h; cases h
      | some v => rw [hn] at h; cases h; exact ht
    · split at h
      · cases hn : txtOf x with
        | none => rw [hn] at h; cases h
        | some v => rw [hn] at h; cases h; exact ht
      · split at h
        · cases h; exact ht
        · split at h
          · cases h; exact ht
          · cases h
theorem born_nodup {es : Array MapEntry} (h : ∀ (i : Nat) (e : MapEntry), es[i]? = some e → e.born = i) : (es.toList.map (·.born)).Nodup := by
  have : es.toList.map (·.born) = List.range es.size := by
    apply List.ext_getElem?
    intro i
    by_cases hi : i < es.size
    · simp [hi, h i es[i] (by simp [hi])]
    · simp [hi]
  rw [this]
  exact List.nodup_range
theorem born_lt {es : Array MapEntry} (h : ∀ (i : Nat) (e : MapEntry), es[i]? = some e → e.born = i) : ∀ x ∈ es.toList, x.born < es.size := by
  intro x hx
  obtain ⟨i, hi⟩ := List.getElem?_of_mem hx
  have hi' : es[i]? = some x := by simpa using hi
  rw [h i x hi']
  exact (Array.getElem?_eq_some_iff.1 hi').1
theorem keyOf_none {x : List UInt8} (h : ∀ k, k < 14 → (formOf k).1 ≠ x) : keyOf x = none := by
  unfold keyOf
  rw [List.find?_eq_none]
  intro k hk
  have := h k (List.mem_range.1 hk)
  simpa using this
/-- The iterator has taken a step. -/
structure Stepped (wr w6 : World) (r : Nat) (o : Obj) : Prop where
  at_ : w6.heap[r]? = some o
  other : ∀ k, k ≠ r → w6.heap[k]? = wr.heap[k]?
  size : w6.heap.size = wr.heap.size
  os : w6.os = wr.os
  tape : w6.tape = wr.tape
  output : w6.output = wr.output
theorem Stepped.mk' {wr w5 : World} {r : Nat} (o : Obj) (h : w5 = wr ∨ w5 = wr.drew) (hr : r < wr.heap.size) : Stepped wr (setBlock w5 r o) r o := by
  have hs : w5.heap = wr.heap := by rcases h with rfl | rfl <;> rfl
  refine ⟨?_, fun k hk => ?_, ?_, ?_, ?_, ?_⟩
  · show (w5.heap.setIfInBounds r o)[r]? = _
    rw [hs]; simp [hr]
  · show (w5.heap.setIfInBounds r o)[k]? = _
    rw [hs, Array.getElem?_setIfInBounds_ne (Ne.symm hk)]
  · show (w5.heap.setIfInBounds r o).size = _
    rw [hs]; simp
  · rcases h with rfl | rfl <;> rfl
  · rcases h with rfl | rfl <;> rfl
  · rcases h with rfl | rfl <;> rfl
/-- Behind the switch on the side. -/
def SideCut (s : List UInt8) (r : List (List UInt8)) (br bw : Nat) (w w3 : World) : Prop :=
  ∃ sd, sideOf s = some sd ∧ w3.heap[w.heap.size]? = some (.cells ((Ac.none 0).cells (.slice none 0 0)).toArray 33) ∧ w3.heap[w.heap.size + 1]? = some (.cells ({ Ac.none 1 with side := sd }.cells (.slice none 0 0)).toArray 33) ∧ Reader w3 br bw r ∧ Kept (· = br) w w3
set_option maxRecDepth 100000 in
set_option maxHeartbeats 2000000 in
theorem call_any (br bw : Nat) (ws : List (List UInt8)) (w : World) (hg : Glob w) (hr : Reader w br bw ws) (hf : WsFit ws) (h9 : 9 ≤ br) :
    Calls Tryz.prog 56 #[.pointer (some ⟨br, 0, none⟩)] w (RdB (rdCall ws) br w) := by
  have hbr : br < w.heap.size := by obtain ⟨_, _, h, _⟩ := hr; exact lt_of_block h
  have hbw : bw < w.heap.size := by obtain ⟨_, _, _, _, _, h, _⟩ := hr; exact h
  have hx : Ext w (((w.alloc (.cells ((Ac.none 0).cells (.slice none 0 0)).toArray 33)).alloc (.cells ((Ac.none 0).cells (.slice none 0 0)).toArray 33)).setRow (w.heap.size + 1) ((Ac.none 1).cells (.slice none 0 0)).toArray) :=
    ((Ext.alloc _ _).trans (Ext.alloc _ _)).setRow _ _ (by omega)
  go_enter Tryz.func56, Tryz.ntmps56
  go_wp2_with (refine wpList_store33 rfl _ _ rfl (w.heap.size + 1) ((Ac.none 1).cells (.slice none 0 0)).toArray rfl rfl _ (two_second _ _ _) rfl rfl (Ac.one _ _ _ _) ?_)
  cases ws with
  | nil =>
    refine (word_nil br bw _ (hr.ext hx)).mono ?_
    rintro e w' ⟨rfl, rfl⟩
    exact ⟨rfl, Kept.of_below hx, rfl⟩
  | cons s r =>
    refine (word_cons br bw s r _ (hr.ext hx) (by have := hf.1; simp at this; omega)).mono ?_
    rintro e w2 ⟨rfl, hr2, hk2⟩
    have hk : Kept (· = br) w w2 := Kept.trans' (Kept.of_below hx) hk2 (fun _ _ h => h)
    have hb0 : w2.heap[w.heap.size]? = some (.cells ((Ac.none 0).cells (.slice none 0 0)).toArray 33) := by
      rw [hk2.block _ (by simp; omega) (by omega), setRow_other _ _ _ _ (by omega)]; exact two_first _ _ _
    have hb1 : w2.heap[w.heap.size + 1]? = some (.cells ((Ac.none 1).cells (.slice none 0 0)).toArray 33) := by
      rw [hk2.block _ (by simp) (by omega)]; exact setRow_heap _ _ _ _ _ _ (two_second _ _ _)
    clear hk2 hx hr
    unfold vS
    go_upto_block 0 with fail
    go_cut [14] (fun _ w3 => SideCut s r br bw w w3)
    case first =>
      by_cases h1 : s = kClient
      · subst h1
        unfold kClient
        go_wp2_with fail
        go_meet
        exact ⟨0, rfl, hb0, hb1, hr2, hk⟩
      · have h1' : (s == [99, 108, 105, 101, 110, 116]) = false := beq_eq_false_iff_ne.2 h1
        by_cases h2 : s = kServer
        · have HS : Hid (sideOf s = some 1) := by unfold Hid sideOf; rw [if_neg h1, if_pos h2]
          have e0 : w2.cell? ⟨w.heap.size + 1, 1, none⟩ = some (.int .i64 0) := by rw [Lib.cell_of_heap hb1]; rfl
          have e1 : w2.frozen? ⟨w.heap.size + 1, 1, none⟩ = false := Lib.frozen_of_heap hb1 1
          have h2' : (s == [115, 101, 114, 118, 101, 114]) = true := beq_iff_eq.2 h2
          clear h1 h2
          go_wp2_with fail
          go_meet
          have hks : Kept (· = w.heap.size + 1) w2 (w2.setCell ⟨w.heap.size + 1, 1, none⟩ (.int .i64 1)) := Kept.setCell (S := (· = w.heap.size + 1)) w2 (p := ⟨w.heap.size + 1, 1, none⟩) rfl _
          exact ⟨1, HS.out, (hks.block _ (lt_of_block hb0) (by omega)).trans hb0, by rw [heap_setCell_self hb1]; rfl, hr2.kept hks (by omega) (by omega), Kept.trans' hk hks (fun i hi h => by omega)⟩
        · have h2' : (s == [115, 101, 114, 118, 101, 114]) = false := beq_eq_false_iff_ne.2 h2
          have HS : Hid (rdCall (s :: r) = none) := rdCall_noside r (by unfold sideOf; rw [if_neg h1, if_neg h2])
          clear h1 h2
          go_wp2_with fail
          exact ⟨rfl, hk, by rw [HS.out]⟩
    case rest =>
      clear hb0 hb1 hr2 hk
      obtain ⟨sd, hsd, hb0, hb1, hr2, hk⟩ := hcut
      have HSD := Lib.hid hsd
      clear hsd
      go_wp2_with fail
      cases r with
      | nil =>
        have HS : Hid (rdCall [s] = none) := rdCall_one HSD.out
        refine (word_nil br bw _ hr2).mono ?_
        rintro e w' ⟨rfl, rfl⟩
        exact ⟨rfl, hk, by rw [HS.out]⟩
      | cons x r2 =>
        refine (word_cons br bw x r2 _ hr2 (by have := hf.1; simp at this; omega)).mono ?_
        rintro e w3 ⟨rfl, hr3, hk3⟩
        have hkw : Kept (· = br) w w3 := hk.trans hk3
        have hb03 := (hk3.block _ (lt_of_block hb0) (by omega)).trans hb0
        have hb13 := (hk3.block _ (lt_of_block hb1) (by omega)).trans hb1
        have hg3 : Glob w3 := hg.kept hkw (fun i hi h => by omega)
        have hlo : w.heap.size + 2 ≤ w3.heap.size := lt_of_block hb13
        clear hk3 hk hb0 hb1 hr2
        unfold vS
        go_wp2_with fail
        refine (forms_any w3).mono ?_
        rintro e w4 ⟨bm, rfl, hx4, hF⟩
        have hkw4 : Kept (· = br) w w4 := Kept.trans' hkw (Kept.of_below (S := fun _ => False) hx4) (fun _ _ h => h.elim)
        have hb04 := (hx4.block _ (lt_of_block hb03)).trans hb03
        have hb14 := (hx4.block _ (lt_of_block hb13)).trans hb13
        have hr4 := hr3.ext hx4
        have hg4 := hg3.ext hx4
        clear hkw hb03 hb13 hr3 hx4 hg3
        obtain ⟨es, hm, hborn, hok, hall⟩ := hF.map
        have hrg := run_range_map (P := Tryz.prog) w4 118 3 116 bm es es.size u118 hm
        go_wp2_with fail
        have hbm : bm < w4.heap.size := lt_of_block hm
        go_loopw [23] (fun _ wq => CRel x es bm w4 wq) (fun _ wq => (leftOf es (wq.iterSeen w4.heap.size)).size)
        case atStart => exact ⟨#[], es.size, alloc_new _ _, Nat.le_refl _, Ext.alloc _ _, fun e _ h => by simp at h⟩
        case round =>
          obtain ⟨seen, c0, hit, hc0, hbq, hno⟩ := hrel
          have hmq : wr.heap[bm]? = some (.map es es.size) := (hbq.block bm hbm).trans hm
          have hkq : Kept (· = br) w wr := Kept.trans' hkw4 (Kept.of_below (S := fun _ => False) hbq) (fun _ _ h => h.elim)
          clear hrg
          rcases run_next_at (P := Tryz.prog) wr 0 w4.heap.size bm es.size c0 seen es es.size hit hmq (born_lt hborn) hc0 with ⟨h0, hrun⟩ | ⟨e, he, w5, hw5, hrun⟩
          · have hkey : keyOf x = none := keyOf_none fun k hk => by
              obtain ⟨i, e, hi, hek⟩ := hall k hk
              exact hno e (by simpa using Array.mem_of_getElem? hi) (all_seen es seen h0 e (by simpa using Array.mem_of_getElem? hi)) k hek
            have HS : Hid (rdCall (s :: x :: r2) = none) := rdCall_nokey r2 HSD.out hkey
            clear hkey hno
            go_wp2_with fail
            exact ⟨rfl, hkq, by rw [HS.out]⟩
          · obtain ⟨hes, hns⟩ := mem_left he
            have hst := Stepped.mk' (.mapIter (some bm) es.size (seen.push e.born) es.size) hw5 (lt_of_block hit)
            obtain ⟨w6, hw6⟩ : ∃ w6, w6 = setBlock w5 w4.heap.size (.mapIter (some bm) es.size (seen.push e.born) es.size) := ⟨_, rfl⟩
            rw [← hw6] at hst hrun
            clear hw6 hw5
            have hm6 : w6.heap[bm]? = some (.map es es.size) := (hst.other bm (by omega)).trans hmq
            have hen := run_entry_at (P := Tryz.prog) w6 w4.heap.size bm es.size seen es es.size e hst.at_ hm6 hes (born_nodup hborn)
            obtain ⟨i, hi⟩ := List.getElem?_of_mem hes
            obtain ⟨k, hk14, hek, sl, hev, hsl⟩ := hok i e (by simpa using hi)
            obtain ⟨asl, cap, rfl, hsl'⟩ := id hsl
            rw [hek, hev] at hen hrun
            unfold vS at hen hrun
            have hb6 : Below w4.heap.size w4 w6 := ⟨hst.os.trans hbq.os, hst.tape.trans hbq.tape, hst.output.trans hbq.output, by rw [hst.size]; exact hbq.size, fun j hj => (hst.other j (by omega)).trans (hbq.block j hj)⟩
            have HM : Hid ((leftOf es (seen.push e.born)).size < (leftOf es (wr.iterSeen w4.heap.size)).size) := by
              unfold Hid World.iterSeen
              rw [hit]
              exact left_shrinks es seen e he
            by_cases hx : (formOf k).1 = x
            · subst hx
              have HC : Hid (rdCall (s :: (formOf k).1 :: r2) = (rdAll (formOf k).2 r2 (Cal.ofKind (max (k : Int) 1))).map fun y => { Ac.none 1 with side := sd, call := y.2 }) := rdCall_key r2 HSD.out (keyOf_form k hk14)
              have hb16 := (hb6.block _ (lt_of_block hb14)).trans hb14
              have e0 : w6.cell? ⟨w.heap.size + 1, 2, none⟩ = some (.int .i64 0) := by rw [Lib.cell_of_heap hb16]; rfl
              have e1 : w6.frozen? ⟨w.heap.size + 1, 2, none⟩ = false := Lib.frozen_of_heap hb16 2
              have hl6 : w.heap.size + 1 < w6.heap.size := lt_of_block hb16
              clear hno hev hek hi he hes hns HM
              go_wp2_with fail
              obtain ⟨w8, hw8⟩ : ∃ w8, w8 = (w6.setCell ⟨w.heap.size + 1, 2, none⟩ (.int .i64 (max (k : Int) 1))).alloc (.cells #[.string ⟨(formOf k).1.toArray⟩, .slice asl (formOf k).2.length cap] 116) := ⟨_, rfl⟩
              rw [← hw8]
              have hks : Kept (· = w.heap.size + 1) w6 w8 := by
                rw [hw8]
                exact Kept.trans' (Kept.setCell (S := (· = w.heap.size + 1)) w6 (p := ⟨w.heap.size + 1, 2, none⟩) rfl _) (Kept.of_below (S := fun _ => False) (Ext.alloc _ _)) (fun _ _ h => h.elim)
              have hk6 : Kept (· = br) w w6 := Kept.trans' hkw4 (Kept.of_below (S := fun _ => False) hb6) (fun _ _ h => h.elim)
              have hk8 : Kept (· = br) w w8 := Kept.trans' hk6 hks (fun i hi h => by omega)
              have hk48 : Kept (fun y => y = br ∨ y = w.heap.size + 1) w4 w8 := Kept.trans' (Kept.of_below (S := fun y => y = br ∨ y = w.heap.size + 1) hb6) hks (fun _ _ h => .inr h)
              have hb08 : w8.heap[w.heap.size]? = some (.cells ((Ac.none 0).cells (.slice none 0 0)).toArray 33) := (hks.block _ (by omega) (by omega)).trans ((hb6.block _ (lt_of_block hb04)).trans hb04)
              have hC8 : CalIn w8 (w.heap.size + 1) 2 33 [vI 1, vI sd] [vI 0, .slice none 0 0, vI 0, vI 0, vS []] (Cal.ofKind (max (k : Int) 1)) := by
                refine ⟨rfl, ?_⟩
                rw [hw8, alloc_old _ _ (by simpa [World.setCell] using hl6), heap_setCell_self hb16]
                rfl
              have hr8 : Reader w8 br bw r2 := (hr4.kept (S := fun _ => False) (Kept.of_below hb6) id id).kept hks (by omega) (by omega)
              have hi0 : IRel k sd r2 br bw w w4 0 w8 := ⟨r2, _, rfl, hr8, (hf.drop 1).drop 1, hC8, hb08, hk8, hk48⟩
              have hlen := (form_len k).1
              clear hw8 hks hk6 hk8 hk48 hb08 hC8 hr8 e0 e1 hl6 hb16 hen hrun hst hm6 hb6 hit hmq hbq hkq
              clear hb04 hb14 hr4
              go_loopw [39] (fun i wq => ∃ j : Nat, j ≤ (formOf k).2.length ∧ i = .int .i64 j ∧ IRel k sd r2 br bw w w4 j wq) (fun i _ => (formOf k).2.length - (intOf i).toNat)
              case atStart => exact ⟨0, Nat.zero_le _, rfl, hi0⟩
              case round =>
                clear hi0
                obtain ⟨j, hj, rfl, rest, c, hrd, hrq, hfq, hCq, hb0q, hkq, hk4q⟩ := hrel
                by_cases hlt : j < (formOf k).2.length
                · obtain ⟨f, hfj⟩ : ∃ f, (formOf k).2[j]? = some f := ⟨_, List.getElem?_eq_getElem hlt⟩
                  obtain ⟨bs, cur, rfl, hlobs, hheap, hcl⟩ := hsl' (by intro e; rw [e] at hlt; simp at hlt)
                  obtain ⟨rv, wv, hrv, hwv, hfat⟩ := hcl j f hfj
                  obtain ⟨rv', wv', hagg, hR, hW, F1, c1, F2, c2, rfl, rfl⟩ := hfat
                  cases hagg
                  have hheapq : wr.heap[bs]? = some (.cells cur 123) := (hk4q.block bs (lt_of_block hheap) (by rintro (h | h) <;> omega)).trans hheap
                  have g1 : wr.cell? ⟨bs, j * 2, none⟩ = some (.func (.func F1) #[] c1) := by rw [Lib.cell_of_heap hheapq, Nat.mul_comm]; exact hrv
                  have g2 : wr.cell? ⟨bs, j * 2 + 1, none⟩ = some (.func (.func F2) #[] c2) := by rw [Lib.cell_of_heap hheapq, Nat.mul_comm]; exact hwv
                  obtain ⟨F2', c2', he, hE, _⟩ := hW
                  cases he
                  obtain ⟨F1', c1', he, hE1, hR⟩ := hR
                  cases he
                  have hE2 := hE1 (#[.pointer (some ⟨br, 0, none⟩), .pointer (some ⟨w.heap.size + 1, 2, none⟩)] ++ c1)
                  have hdrop : (formOf k).2.drop j = f :: (formOf k).2.drop (j + 1) := by
                    rw [List.drop_eq_getElem_cons hlt]
                    have : (formOf k).2[j] = f := by simpa [List.getElem?_eq_getElem hlt] using hfj
                    rw [this]
                  have HRD : Hid (rdAll (formOf k).2 r2 (Cal.ofKind (max (k : Int) 1)) = match rd f rest c with | none => none | some (r', c') => rdAll ((formOf k).2.drop (j + 1)) r' c') := by
                    unfold Hid; rw [hrd, hdrop]; rfl
                  clear hcl hrv hwv hrd hdrop
                  go_wp2_with fail
                  have hxa := Ext.alloc wr (.cells #[.func (.func F1) #[] c1, .func (.func F2) #[] c2] 123)
                  refine (hR _ ?_ ((hg.kept hkq (fun i hi h => by omega)).ext hxa) br bw rest (w.heap.size + 1) 2 33 _ _ c (hrq.ext hxa) (hCq.kept (S := fun _ => False) (Kept.of_below hxa) id) (by omega) (by omega) h9 hfq).mono ?_
                  · exact SameIn.trans (sameIn_kept hk4q (by omega) (by omega) (Nat.le_refl _)) (SameIn.of_ext (Ext.alloc _ _) )
                  · rintro e w9 ⟨hk9, hm9⟩
                    have hkw9 : Kept (· = br) w w9 := Kept.trans' (Kept.trans' hkq (Kept.of_below (S := fun _ => False) hxa) (fun _ _ h => h.elim)) hk9 (fun i hi h => by rcases h with h | h <;> omega)
                    cases hrdf : rd f rest c with
                    | none =>
                      rw [hrdf] at hm9
                      subst hm9
                      have HN : Hid (rdCall (s :: (formOf k).1 :: r2) = none) := by unfold Hid; rw [HC.out, HRD.out, hrdf]; rfl
                      exact ⟨rfl, hkw9, by rw [HN.out]⟩
                    | some y =>
                      obtain ⟨r', c'⟩ := y
                      rw [hrdf] at hm9
                      obtain ⟨rfl, hr9, hC9⟩ := hm9
                      have hi9 : IRel k sd r2 br bw w w4 (j + 1) w9 := by
                        refine ⟨r', c', by rw [HRD.out, hrdf], hr9, ?_, hC9, ?_, hkw9, ?_⟩
                        · exact rd_fit hrdf hfq
                        · rw [hk9.block _ (by simp; exact Nat.lt_of_lt_of_le (lt_of_block hb0q) (Nat.le_refl _) |> fun h => by omega) (by rintro (h | h) <;> omega), alloc_old _ _ (lt_of_block hb0q)]; exact hb0q
                        · exact Kept.trans' (Kept.trans' hk4q (Kept.of_below (S := fun _ => False) hxa) (fun _ _ h => h.elim)) hk9 (fun i hi h => h)
                      clear hk9 hr9 hC9 hkw9 hxa
                      go_wp2_with fail
                      refine ⟨⟨j + 1, by omega, by go_num, hi9⟩, by simp [intOf]; omega⟩
                · have hje : j = (formOf k).2.length := by omega
                  subst hje
                  have HN : Hid (rdCall (s :: (formOf k).1 :: r2) = some { Ac.none 1 with side := sd, call := c }) := by
                    unfold Hid
                    rw [HC.out, hrd, List.drop_length]
                    rfl
                  have hb1q : wr.heap[w.heap.size + 1]? = some (.cells ({ Ac.none 1 with side := sd, call := c }.cells (.slice none 0 0)).toArray 33) := hCq.2
                  clear hrd
                  go_wp2_with (first | refine wpList_load33 (by rfl) _ rfl (w.heap.size + 1) rfl _ hb1q rfl ?_ | refine wpList_store33 rfl _ _ rfl w.heap.size _ rfl rfl _ hb0q rfl rfl (Ac.one _ _ _ _) ?_)
                  refine bodyPost_ret (res33 rfl _ _ w.heap.size _ rfl (setRow_heap _ _ _ _ _ _ hb0q) (by rfl)) rfl ?_
                  rw [HN.out]
                  exact ⟨hkq.setRow _ _ (Nat.le_refl _), none, 0, 0, rfl, FatesAt.nil _, Typed3.nil _ _⟩
            · have hx' : ((formOf k).1 == x) = false := beq_eq_false_iff_ne.2 hx
              have HR : Hid (∀ f ∈ es.toList, (seen.push e.born).contains f.born = true → ∀ k : Nat, f.key = .int .i64 (k : Int) → (formOf k).1 ≠ x) := by
                intro f hf hc k' hk'
                rw [contains_push] at hc
                rcases Bool.or_eq_true_iff.1 hc with hc | hc
                · exact hno f hf hc k' hk'
                · have hfe : f = e := by
                    obtain ⟨i2, hi2⟩ := List.getElem?_of_mem hf
                    have h1 := hborn i e (by simpa using hi)
                    have h2 := hborn i2 f (by simpa using hi2)
                    have h3 : f.born = e.born := by simpa using hc
                    have h4 : i2 = i := by omega
                    subst h4
                    rw [hi] at hi2
                    cases hi2; rfl
                  subst hfe
                  rw [hek] at hk'
                  simp at hk'
                  have : k' = k := by omega
                  rw [this]; exact hx
              clear hx hno hsl' hsl hev hek hi he hes hns
              go_wp2_with fail
              have hsz6 : w4.heap.size < w6.heap.size := lt_of_block hst.at_
              have hat7 : (w6.alloc (.cells #[.string ⟨(formOf k).1.toArray⟩, .slice asl (formOf k).2.length cap] 116)).heap[w4.heap.size]? = some (.mapIter (some bm) es.size (seen.push e.born) es.size) := (alloc_old _ _ hsz6).trans hst.at_
              refine ⟨⟨seen.push e.born, es.size, hat7, Nat.le_refl _, hb6.alloc hb6.size _, HR.out⟩, ?_⟩
              have hs7 : (w6.alloc (.cells #[.string ⟨(formOf k).1.toArray⟩, .slice asl (formOf k).2.length cap] 116)).iterSeen w4.heap.size = seen.push e.born := by
                unfold World.iterSeen; rw [hat7]
              rw [hs7]
              exact HM.out
end Go.Proofs.YtikmoledbiepoaaGreatDoor

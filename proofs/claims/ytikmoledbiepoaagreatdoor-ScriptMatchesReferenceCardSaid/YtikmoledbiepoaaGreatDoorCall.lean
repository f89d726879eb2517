/- The line of a call (script.callLine). -/
import Derived.Test.YtikmoledbiepoaaGreatDoorSess
import Derived.Deep.DeepCutAuto
import Derived.RegionTactic
import Derived.ChangeAlike
import Derived.BigQuiet
namespace Go.Proofs.YtikmoledbiepoaaGreatDoor
open Go.RowKit
theorem Cal.cells_eq (c : Cal) : c.cells.toArray = #[.int .i64 c.kind, .int .i64 c.conn, .int .i64 c.stream, .int .i64 c.n, .string ⟨c.s.toArray⟩, .int .i64 c.code, .int .i64 c.loc, .int .i64 c.rem, .string ⟨c.tick.toArray⟩, .string ⟨c.sec.toArray⟩, .int .i64 c.p0, .int .i64 c.p1, .int .i64 c.p2, .int .i64 c.p3, .int .i64 c.p4, .int .i64 c.p5] := rfl
theorem cal_cells {w : World} {b : Nat} {T : TypeId} {c : Cal} (h : CalIn w b 0 T [] [] c) :
    w.cell? ⟨b, 0, none⟩ = some (.int .i64 c.kind) ∧ w.cell? ⟨b, 1, none⟩ = some (.int .i64 c.conn) ∧ w.cell? ⟨b, 2, none⟩ = some (.int .i64 c.stream) ∧ w.cell? ⟨b, 3, none⟩ = some (.int .i64 c.n) ∧
    w.cell? ⟨b, 4, none⟩ = some (.string ⟨c.s.toArray⟩) ∧ w.cell? ⟨b, 5, none⟩ = some (.int .i64 c.code) ∧ w.cell? ⟨b, 6, none⟩ = some (.int .i64 c.loc) ∧ w.cell? ⟨b, 7, none⟩ = some (.int .i64 c.rem) ∧
    w.cell? ⟨b, 8, none⟩ = some (.string ⟨c.tick.toArray⟩) ∧ w.cell? ⟨b, 9, none⟩ = some (.string ⟨c.sec.toArray⟩) ∧ w.cell? ⟨b, 10, none⟩ = some (.int .i64 c.p0) ∧ w.cell? ⟨b, 11, none⟩ = some (.int .i64 c.p1) ∧
    w.cell? ⟨b, 12, none⟩ = some (.int .i64 c.p2) ∧ w.cell? ⟨b, 13, none⟩ = some (.int .i64 c.p3) ∧ w.cell? ⟨b, 14, none⟩ = some (.int .i64 c.p4) ∧ w.cell? ⟨b, 15, none⟩ = some (.int .i64 c.p5) := by
  have h' : w.heap[b]? = some (.cells c.cells.toArray T) := by have := h.2; rwa [List.nil_append, List.append_nil] at this
  refine ⟨?_, ?_, ?_, ?_, ?_, ?_, ?_, ?_, ?_, ?_, ?_, ?_, ?_, ?_, ?_, ?_⟩ <;> (rw [Lib.cell_of_heap h']; rfl)
theorem two_first (w : World) (o1 o2 : Obj) : ((w.alloc o1).alloc o2).heap[w.heap.size]? = some o1 := by
  rw [alloc_old _ _ (by simp), alloc_new]
theorem two_second (w : World) (o1 o2 : Obj) : ((w.alloc o1).alloc o2).heap[w.heap.size + 1]? = some o2 := by
  have := alloc_new (w.alloc o1) o2
  simpa using this
theorem ownsRow_one {w : World} {B g : Nat} {x : Value} (hb : B ≤ g) (h : w.heap[g]? = some (.cells #[x] 9)) : w.ownsRow B 9 1 (.slice (some ⟨g, 0, none⟩) 1 1) 1 [x] :=
  ⟨rfl, .inr ⟨g, 1, #[x], rfl, hb, h, Nat.le_refl _, by decide, rfl, rfl⟩⟩
theorem Ext.drewed {a b : World} (h : Ext a b) : Ext a b.drew := ⟨h.os, h.tape, h.output, h.size, h.block⟩
theorem Tryz.info9 : (Tryz.prog.info? 9).map (fun i => (i.zero, i.size, i.bytes)) = some (some (.string ⟨#[]⟩), 1, 16) := by kernel_rfl
theorem und47 : Tryz.prog.underlying 47 = some (.slice 9) := by kernel_rfl
theorem cal_append {B n bp : Nat} {w4 w5 : World} {v x : Value} {xs : List Value} {c0 : Cal} (hrow : w4.ownsRow B 9 1 v n xs) (hg : (w4.alloc (.cells #[x] 9)).grownBy w5 v.ownBlock) (hP : CalIn w4 bp 0 28 [] [] c0) : CalIn w5 bp 0 28 [] [] c0 := by
  have hlt := lt_of_block hP.2
  refine ⟨rfl, ?_⟩
  rw [hg.block bp (by simp; omega) ?_, alloc_old _ _ hlt]
  · exact hP.2
  · intro e
    rcases hrow.2 with ⟨rfl, _⟩ | ⟨g, cap, cur, rfl, _, hgg, _⟩
    · simp [Value.ownBlock] at e
    · simp [Value.ownBlock] at e
      subst e
      rw [hP.2] at hgg
      cases hgg
theorem join_row {w : World} {B : Nat} {v : Value} {ls : List (List UInt8)} (h : w.ownsRow B 9 1 v ls.length (ls.map vS)) (hne : ls ≠ []) (hl : (Lib.join ls [32]).length ≤ 140737488355328) (hN : ls.length ≤ 1000) :
    Calls Tryz.prog 69 #[v, .string ⟨#[32]⟩] w fun e w' => e = .returned (vS (Lib.join ls [32])) ∧ Ext w w' := by
  rcases h.2 with ⟨_, h0⟩ | ⟨g, cap, cur, rfl, hb, hg, hn, hc, hs, ht⟩
  · exact absurd (List.length_eq_zero_iff.1 h0) hne
  · have hm : (ls.map fun l => (⟨l.toArray⟩ : ByteArray)).map (·.data.toList) = ls := by rw [List.map_map]; simp [Function.comp_def]
    have := Tryz.strings_Join g 0 cap (ls.map fun l => (⟨l.toArray⟩ : ByteArray)) ⟨#[32]⟩ w (fun j x hj => by
      rw [Lib.cell_of_heap hg]
      obtain ⟨l, hl', rfl⟩ : ∃ l, ls[j]? = some l ∧ ⟨l.toArray⟩ = x := by simpa using hj
      have hjl : j < ls.length := (List.getElem?_eq_some_iff.1 hl').1
      have h2 : (ls.map vS)[j]? = some (vS l) := by simp [hl']
      rw [← ht, List.getElem?_take, if_pos (by omega)] at h2
      simpa [vS] using h2) (lt_of_block hg) (by simp; omega) (by simpa using hn) (by rw [hm]; exact hl)
    rw [hm, List.length_map] at this
    exact this
theorem row_parts {w : World} {B n : Nat} {v : Value} {x : List UInt8} {ls : List (List UInt8)} (h : w.ownsRow B 9 1 v (1 + n) (vS x :: ls.map vS)) :
    ∃ g cap, v = .slice (some ⟨g, 0, none⟩) (1 + n) cap ∧ 1 + n ≤ cap ∧ cap ≤ maxLen ∧ B ≤ g ∧ g < w.heap.size ∧ (∃ cur, w.heap[g]? = some (.cells cur 9)) ∧ ∀ j s, ls[j]? = some s → w.cell? ⟨g, 1 + j, none⟩ = some (vS s) := by
  rcases h.2 with ⟨_, h0⟩ | ⟨g, cap, cur, rfl, hb, hg, hn, hc, hs, ht⟩
  · omega
  · refine ⟨g, cap, rfl, hn, hc, hb, lt_of_block hg, ⟨_, hg⟩, fun j s hj => ?_⟩
    rw [Lib.cell_of_heap hg]
    have h1 := h.1
    have hjl : j < ls.length := (List.getElem?_eq_some_iff.1 hj).1
    simp at h1
    have h2 : (vS x :: ls.map vS)[1 + j]? = some (vS s) := by rw [Nat.add_comm, List.getElem?_cons_succ]; simp [hj]
    rw [← ht, List.getElem?_take, if_pos (by omega)] at h2
    simpa using h2
set_option maxRecDepth 100000 in
set_option maxHeartbeats 2000000 in
theorem callLine_any (c : Cal) (w : World) (hg : Glob w) (hfit : CalFit c) : Calls Tryz.prog 43 #[.agg c.cells.toArray] w fun e w' => e = .returned (.tuple #[vS c.line.1, .bool c.line.2]) ∧ Ext w w' := by
  have hneq := neqSess c
  rw [Cal.cells_eq]
  go_enter Tryz.func43, Tryz.ntmps43
  go_upto_region 2 with fail
  obtain ⟨W0, hW0⟩ : ∃ W0, W0 = w.alloc (.cells c.cells.toArray 28) := ⟨_, rfl⟩
  go_cut [26] (fun s26 wc => s26 = .bool ((c.kind == 1) && !c.noSess) ∧ wc = W0)
  case first =>
    by_cases h1 : c.kind = 1
    · have h1' : (c.kind == 1) = true := beq_iff_eq.2 h1
      have H1 := Lib.hid h1'
      have HW := Lib.hid hW0
      clear h1 hW0
      go_wp2_with fail
      go_meet
      exact ⟨by rw [H1.out]; simp, HW.out.symm⟩
    · have h1' : (c.kind == 1) = false := beq_eq_false_iff_ne.2 h1
      have H1 := Lib.hid h1'
      have HW := Lib.hid hW0
      clear h1 hW0
      go_wp2_with fail
      go_meet
      exact ⟨by rw [H1.out]; simp, HW.out.symm⟩
  case rest =>
    obtain ⟨rfl, rfl⟩ := hcut
    have HK : Hid (c.key = if ((c.kind == 1) && !c.noSess) = true then 0 else c.kind) := by
      unfold Hid Cal.key
      by_cases h : c.kind = 1 ∧ c.noSess = false
      · rw [if_pos h, if_pos (by simp [h.1, h.2])]
      · rw [if_neg h, if_neg (by simpa using h)]
    generalize ((c.kind == 1) && !c.noSess) = tb at HK ⊢
    have hx0 : Ext w wc := by rw [hW0]; exact Ext.alloc _ _
    have hb0 : CalIn wc w.heap.size 0 28 [] [] c := ⟨rfl, by rw [hW0, List.nil_append, List.append_nil]; exact alloc_new _ _⟩
    clear hW0
    go_upto_if 26 with fail
    go_cut [4] (fun s4 wc2 => s4 = .int .i64 c.key ∧ wc2 = wc)
    case first =>
      cases tb with
      | true =>
        go_wp2_with fail
        go_meet
        exact ⟨by rw [HK.out]; rfl, rfl⟩
      | false =>
        go_wp2_with fail
        go_meet
        exact ⟨by rw [HK.out]; rfl, rfl⟩
    case rest =>
      obtain ⟨rfl, rfl⟩ := hcut
      clear hneq HK
      obtain ⟨bc, hbc⟩ : ∃ bc, bc = w.heap.size := ⟨_, rfl⟩
      rw [← hbc] at hb0 ⊢
      clear hbc
      go_wp2_with fail
      refine (forms_any wc).mono ?_
      rintro e w1 ⟨bm, rfl, hx1, hF⟩
      have hg1 : Glob w1 := (hg.ext hx0).ext hx1
      have hC1 : CalIn w1 bc 0 28 [] [] c := hb0.kept (S := fun _ => False) (Kept.of_below hx1) id
      have hx1' : Ext w w1 := hx0.trans hx1
      clear hb0
      by_cases hr : 0 ≤ c.key ∧ c.key < 14
      · obtain ⟨k, hk⟩ : ∃ k : Nat, c.key = (k : Int) := ⟨c.key.toNat, by omega⟩
        have hk14 : k < 14 := by omega
        obtain ⟨sl, hsl, hlk⟩ := run_form hF hk14
        have hlk := hlk w1 rfl
        rw [← hk] at hlk
        have HK := Lib.hid hk
        clear hk hr
        obtain ⟨asl, cap, rfl, hsl'⟩ := id hsl
        have hcc := cal_cells hC1
        have hblt : bc < w1.heap.size := lt_of_block hC1.2
        obtain ⟨d0, d1, d2, d3, d4, d5, d6, d7, d8, d9, d10, d11, d12, d13, d14, d15⟩ := hcc
        unfold vS at hlk
        by_cases hk0 : c.kind = 0
        · have hL : c.line = ([], false) := by
            have : c.lineOk = false := by simp [Cal.lineOk, hk0]
            simp [Cal.line, this]
          have HL := Lib.hid hL
          have hk0' : (c.kind == 0) = true := beq_iff_eq.2 hk0
          clear hL hk0
          go_wp2_with fail
          go_ret2
          exact ⟨by rw [HL.out]; rfl, hx1'.trans (Ext.alloc _ _)⟩
        · have hk0' : (c.kind == 0) = false := beq_eq_false_iff_ne.2 hk0
          go_wp2_with fail
          have hxa := Ext.alloc w1 (.cells #[.string ⟨(formOf k).1.toArray⟩, .slice asl (formOf k).2.length cap] 116)
          refine (session_any c _ (hg1.ext hxa) hfit).mono ?_
          rintro e w2 ⟨rfl, hx2⟩
          have hx2' : Ext w1 w2 := hxa.trans hx2
          have hbf2 : w2.heap[w1.heap.size]? = some (.cells #[.string ⟨(formOf k).1.toArray⟩, .slice asl (formOf k).2.length cap] 116) := by
            rw [hx2.block _ (by simp), alloc_new]
          have hC2 : CalIn w2 bc 0 28 [] [] c := hC1.kept (S := fun _ => False) (Kept.of_below hx2') id
          have hsl2 : FldsAt wc.heap.size w1.heap.size w2 (.slice asl (formOf k).2.length cap) (formOf k).2 := hsl.r (R.of_ext hx2' (Nat.le_refl _))
          have hg2 := hg1.ext hx2'
          have hxw2 : Ext w w2 := hx1'.trans hx2'
          have hlh : wc.heap.size ≤ w1.heap.size := hx1.size
          have hwlo : w1.heap.size < w2.heap.size := lt_of_block hbf2
          clear hxa hx2 hC1 hsl hsl' hlk d0 d1 d2 d3 d4 d5 d6 d7 d8 d9 d10 d11 d12 d13 d14 d15 hblt hF hg1 hx2' hx1'
          obtain ⟨bf, hbf⟩ : ∃ bf, bf = w1.heap.size := ⟨_, rfl⟩
          obtain ⟨lo, hlo⟩ : ∃ lo, lo = wc.heap.size := ⟨_, rfl⟩
          rw [← hbf] at hbf2 hsl2 hlh hwlo ⊢
          rw [← hlo] at hsl2 hlh
          clear hbf hlo hx1 hx0
          cases hso : c.sessOk with
          | false =>
            have hL : c.line = ([], false) := by
              have : c.lineOk = false := by simp [Cal.lineOk, hso]
              simp [Cal.line, this]
            have HL := Lib.hid hL
            clear hL hso
            go_wp2_with fail
            go_ret2
            exact ⟨by rw [HL.out]; rfl, hxw2⟩
          | true =>
            have hcc := cal_cells hC2
            have hblt : bc < w2.heap.size := lt_of_block hC2.2
            obtain ⟨d0, d1, d2, d3, d4, d5, d6, d7, d8, d9, d10, d11, d12, d13, d14, d15⟩ := hcc
            have f0 : w2.cell? ⟨bf, 0, none⟩ = some (.string ⟨(formOf k).1.toArray⟩) := by rw [Lib.cell_of_heap hbf2]; rfl
            have f1 : w2.cell? ⟨bf, 1, none⟩ = some (.slice asl (formOf k).2.length cap) := by rw [Lib.cell_of_heap hbf2]; rfl
            have HS := Lib.hid hso
            clear hso
            go_upto_region 7 with fail
            go_cut [7, 8] (fun s7 s8 w3 => ∃ bp, s8 = .pointer (some ⟨bp, 0, none⟩) ∧ w2.heap.size ≤ bp ∧ CalIn w3 bp 0 28 [] [] (Cal.ofKind c.kind) ∧ w3.ownsRow w2.heap.size 9 1 s7 1 [.string ⟨(formOf k).1.toArray⟩] ∧ Ext w2 w3)
            case first =>
              go_region
              · go_wp2_with fail
                go_meet
                exact ⟨w2.heap.size + 1, by simp, by omega, ⟨rfl, two_second _ _ _⟩, ownsRow_one (Nat.le_refl _) (two_first _ _ _), ((Ext.alloc _ _).trans (Ext.alloc _ _)).drewed⟩
              · go_wp2_with fail
                go_meet
                exact ⟨w2.heap.size, by simp, by omega, ⟨rfl, two_first _ _ _⟩, ownsRow_one (by simp) (two_second _ _ _), ((Ext.alloc _ _).trans (Ext.alloc _ _)).drewed⟩
            case rest =>
              obtain ⟨bp, rfl, hbp, hP3, hrow3, hx3⟩ := hcut
              clear d0 d1 d2 d3 d4 d5 d6 d7 d8 d9 d10 d11 d12 d13 d14 d15 f0 f1 hblt
              have hsl3 := hsl2
              obtain ⟨asl', cap', hsle, hsl4⟩ := hsl3
              cases hsle
              have hfl10 := (form_len k).1
              have hbf3 : wc.heap[bf]? = _ := (hx3.block bf hwlo).trans hbf2
              have f1 : wc.cell? ⟨bf, 1, none⟩ = some (.slice asl (formOf k).2.length cap) := by rw [Lib.cell_of_heap hbf3]; rfl
              obtain ⟨i0, hi, j0, j1, j2⟩ := info_parts Tryz.info9
              clear hbf3
              go_wp2_with fail
              go_loopw [6, 7, 55] (fun ok v i wq => ∃ j : Nat, j ≤ (formOf k).2.length ∧ i = .int .i64 j ∧ ok = .bool (((formOf k).2.take j).all fun f => (Go.Proofs.YtikmoledbiepoaaGreatDoor.wr f c).2) ∧ wq.ownsRow w2.heap.size 9 1 v (1 + j) (vS (formOf k).1 :: ((formOf k).2.take j).map fun f => vS (Go.Proofs.YtikmoledbiepoaaGreatDoor.wr f c).1) ∧ Below w2.heap.size w2 wq ∧ CalIn wq bp 0 28 [] [] (Cal.ofKind c.kind))
                (fun _ _ i _ => (formOf k).2.length - (intOf i).toNat)
              case atStart => exact ⟨0, by omega, rfl, rfl, hrow3, hx3, hP3⟩
              case round =>
                clear hP3 hrow3 f1
                obtain ⟨j, hj, rfl, rfl, hrow, hbq, hPq⟩ := hrel
                by_cases hlt : j < (formOf k).2.length
                · obtain ⟨f, hf⟩ : ∃ f, (formOf k).2[j]? = some f := ⟨_, List.getElem?_eq_getElem hlt⟩
                  obtain ⟨bs, cur, rfl, hlobs, hheap, hcl⟩ := hsl4 (by intro e; rw [e] at hlt; simp at hlt)
                  obtain ⟨rv, wv, hrv, hwv, hfat⟩ := hcl j f hf
                  obtain ⟨rv', wv', hagg, hR, hW, F1, c1, F2, c2, rfl, rfl⟩ := hfat
                  cases hagg
                  have hheapq : wr.heap[bs]? = some (.cells cur 123) := (hbq.block bs (lt_of_block hheap)).trans hheap
                  have g1 : wr.cell? ⟨bs, j * 2, none⟩ = some (.func (.func F1) #[] c1) := by rw [Lib.cell_of_heap hheapq, Nat.mul_comm]; exact hrv
                  have g2 : wr.cell? ⟨bs, j * 2 + 1, none⟩ = some (.func (.func F2) #[] c2) := by rw [Lib.cell_of_heap hheapq, Nat.mul_comm]; exact hwv
                  obtain ⟨F2', c2', he, hE, hW⟩ := hW
                  cases he
                  obtain ⟨F1', c1', he, hE1, _⟩ := hR
                  cases he
                  have hE2 := hE (#[.pointer (some ⟨bc, 0, none⟩)] ++ c2)
                  have hCr : CalIn wr bc 0 28 [] [] c := hC2.kept (S := fun _ => False) (Kept.of_below hbq) id
                  clear hsl2 hsl4 hcl hrv hwv hbf2
                  go_wp2_with fail
                  have hxa := Ext.alloc wr (.cells #[.func (.func F1) #[] c1, .func (.func F2) #[] c2] 123)
                  refine (hW _ ?_ ((hg2.ext hbq).ext hxa) bc 0 28 [] [] c (hCr.kept (S := fun _ => False) (Kept.of_below hxa) id) hfit).mono ?_
                  · exact SameIn.trans (SameIn.mono (SameIn.of_ext (show Ext w2 wr from hbq)) (Nat.le_refl _) (Nat.le_of_lt hwlo)) (SameIn.of_ext hxa)
                  · rintro e w4 ⟨rfl, hx4⟩
                    have hx4' := hxa.trans hx4
                    have hrow4 := ownsRow_ext hrow hx4'
                    have hP4 : CalIn w4 bp 0 28 [] [] (Cal.ofKind c.kind) := hPq.kept (S := fun _ => False) (Kept.of_below hx4') id
                    have hb4 : Below w2.heap.size w2 w4 := hbq.trans (Below.mono hx4' hbq.size)
                    have hall := all_snoc hf fun f => (Go.Proofs.YtikmoledbiepoaaGreatDoor.wr f c).2
                    have hmap := map_snoc hf fun f => vS (Go.Proofs.YtikmoledbiepoaaGreatDoor.wr f c).1
                    unfold vS
                    generalize ((formOf k).2.take j).all (fun f => (Go.Proofs.YtikmoledbiepoaaGreatDoor.wr f c).2) = tb2 at hall ⊢
                    clear hx4 hxa hbq hrow hPq g1 g2 hheapq hCr hW
                    cases tb2
                    all_goals
                      go_wp2_with (at_builtin; go_must (refine wpList_append_own _ rfl _ _ 47 rfl w2.heap.size 9 i0 (.string ⟨#[]⟩) 1 16 und47 hi j0 j1 j2 rfl (by decide) _ _ _ rfl (hrow4.alloc _) ⟨w4.heap.size, 0, none⟩ 1 1 [vS (Go.Proofs.YtikmoledbiepoaaGreatDoor.wr f c).1] rfl rfl ?c1 ?c2 ?c3 ?c4 ?c5 ?_))
                      case c1 =>
                        intro j u hj
                        match j, hj with
                        | 0, hj => simp at hj; subst hj; simp [Addr.add]; rfl
                        | n + 1, hj => simp at hj
                      case c2 => intro u hu; simp at hu; subst hu; rfl
                      case c3 => unfold maxLen; omega
                      case c4 => omega
                      case c5 => have := hb4.size; simp; omega
                      intro v5 w5 hrow5 hgrow5 _
                      go_wp2_with fail
                      refine ⟨⟨j + 1, by omega, by go_num, by rw [hall]; rfl, ?_, ?_, ?_⟩, by simp [intOf]; omega⟩
                      · rw [hmap, List.map_take]; exact hrow5
                      · exact (hb4.alloc hb4.size _).grown hgrow5 (by have := hb4.size; simp; omega) (fun k hk => (hrow4.lt k hk).1)
                      · exact cal_append hrow4 hgrow5 hP4
                · have hje : j = (formOf k).2.length := by omega
                  subst hje
                  rw [List.take_length] at hrow ⊢
                  clear hlt hj
                  have hJ := join_row (ls := (formOf k).1 :: (formOf k).2.map fun f => (Go.Proofs.YtikmoledbiepoaaGreatDoor.wr f c).1) (by rw [List.length_cons, List.length_map, Nat.add_comm, List.map_cons, List.map_map]; exact hrow) (by simp) (line_len hfit k) (by simp; omega)
                  obtain ⟨g, capg, rfl, hcg, hcm, hbg, hgs, ⟨curg, hgg⟩, hcells⟩ := row_parts (ls := (formOf k).2.map fun f => (Go.Proofs.YtikmoledbiepoaaGreatDoor.wr f c).1) (x := (formOf k).1) (by rw [List.map_map]; exact hrow)
                  have hgbp : g ≠ bp := by
                    rintro rfl
                    rw [hPq.2] at hgg
                    cases hgg
                  clear hgg
                  go_wp2_with fail
                  refine hJ.mono ?_
                  rintro e w4 ⟨rfl, hx4⟩
                  have hP4 : CalIn w4 bp 0 28 [] [] (Cal.ofKind c.kind) := hPq.kept (S := fun _ => False) (Kept.of_below hx4) id
                  have hb4 : Below w2.heap.size w2 w4 := hbq.trans (Below.mono hx4 hbq.size)
                  clear hJ hrow hPq
                  cases hall : ((formOf k).2.all fun f => (Go.Proofs.YtikmoledbiepoaaGreatDoor.wr f c).2) with
                  | false =>
                    have hL : c.line = ([], false) := by
                      have : c.lineOk = false := by unfold Cal.lineOk; rw [HK.out, Int.toNat_natCast, hall, Bool.and_false]
                      simp [Cal.line, this]
                    have HL := Lib.hid hL
                    clear hL hall
                    go_wp2_with fail
                    go_ret2
                    exact ⟨by rw [HL.out]; rfl, hxw2.trans hb4⟩
                  | true =>
                    have HA := Lib.hid hall
                    clear hall
                    have hcells4 : ∀ j s, ((formOf k).2.map fun f => (Go.Proofs.YtikmoledbiepoaaGreatDoor.wr f c).1)[j]? = some s → w4.cell? ⟨g, 1 + j, none⟩ = some (vS s) := fun j s h => by
                      rw [hx4.cell (p := ⟨g, 1 + j, none⟩) hgs]; exact hcells j s h
                    have hgs4 : g < w4.heap.size := Nat.lt_of_lt_of_le hgs hx4.size
                    have f1 : w4.cell? ⟨bf, 1, none⟩ = some (.slice asl (formOf k).2.length cap) := by rw [Lib.cell_of_heap ((hb4.block bf hwlo).trans hbf2)]; rfl
                    have hP4s := lt_of_block hP4.2
                    have hbf4 : bf < w4.heap.size := Nat.lt_of_lt_of_le hwlo hb4.size
                    have hC4 : CalIn w4 bc 0 28 [] [] c := hC2.kept (S := fun _ => False) (Kept.of_below (show Ext w2 w4 from hb4)) id
                    have hg4 : Glob w4 := hg2.ext hb4
                    clear hcells hgs hx4 hbq hbf2
                    go_upto_region 18 with fail
                    go_cut [14] (fun s14 w5 => ∃ a cap', w5 = w4.alloc (.cells #[.slice a (formOf k).2.length cap'] 101) ∧ s14 = .pointer (some ⟨w4.heap.size, 0, none⟩) ∧ (formOf k).2.length ≤ cap' ∧ ((formOf k).2.length ≠ 0 → a = some ⟨g, 1, none⟩))
                    case first =>
                      by_cases hc1 : capg = 1
                      · subst hc1
                        go_wp2_with fail
                        go_meet
                        have h0 : (formOf k).2.length = 0 := by omega
                        exact ⟨some ⟨g, 0, none⟩, 0, by rw [h0], by simp, by omega, fun h => by omega⟩
                      · go_wp2_with fail
                        go_meet
                        exact ⟨_, _, rfl, by simp, by omega, fun h => by simp⟩
                    case rest =>
                      obtain ⟨ar, capr, rfl, rfl, hcr, har⟩ := hcut
                      have hxa := Ext.alloc w4 (.cells #[.slice ar (formOf k).2.length capr] 101)
                      have hRd : Reader (w4.alloc (.cells #[.slice ar (formOf k).2.length capr] 101)) w4.heap.size g ((formOf k).2.map fun f => (Go.Proofs.YtikmoledbiepoaaGreatDoor.wr f c).1) := by
                        refine ⟨ar, capr, by rw [List.length_map]; exact alloc_new _ _, by rw [List.length_map]; exact hcr, by omega, by simp; omega, fun hne => ⟨1, har (by intro e; apply hne; rw [List.length_eq_zero_iff.1 e]; rfl), fun j s hj => ?_⟩⟩
                        rw [hxa.cell (p := ⟨g, 1 + j, none⟩) hgs4]; exact hcells4 j s hj
                      obtain ⟨w6, hw6⟩ : ∃ w6, w6 = w4.alloc (.cells #[.slice ar (formOf k).2.length capr] 101) := ⟨_, rfl⟩
                      rw [← hw6] at hxa hRd ⊢
                      have f6 : w6.cell? ⟨bf, 1, none⟩ = some (.slice asl (formOf k).2.length cap) := by rw [hxa.cell (p := ⟨bf, 1, none⟩) hbf4]; exact f1
                      have hP6 : CalIn w6 bp 0 28 [] [] (Cal.ofKind c.kind) := hP4.kept (S := fun _ => False) (Kept.of_below hxa) id
                      have hb6 : Below w2.heap.size w2 w6 := hb4.trans (Below.mono hxa hb4.size)
                      have hbr4 : w2.heap.size ≤ w4.heap.size := hb4.size
                      obtain ⟨br, hbr⟩ : ∃ br, br = w4.heap.size := ⟨_, rfl⟩
                      rw [← hbr] at hRd hP4s hgs4 hbr4 ⊢
                      clear hw6 hxa hP4 hb4 f1 hcells4 har hcr hcg hbf4 hC4 hg4 hcm hbr
                      go_wp2_with fail
                      go_loopw [85] (fun i wq => ∃ j : Nat, j ≤ (formOf k).2.length ∧ i = .int .i64 j ∧ Reader wq br g (((formOf k).2.map fun f => (Go.Proofs.YtikmoledbiepoaaGreatDoor.wr f c).1).drop j) ∧ CalIn wq bp 0 28 [] [] (copyAll ((formOf k).2.take j) c (Cal.ofKind c.kind)) ∧ Below w2.heap.size w2 wq)
                        (fun i _ => (formOf k).2.length - (intOf i).toNat)
                      case atStart => exact ⟨0, by omega, rfl, hRd, hP6, hb6⟩
                      case round =>
                        clear hRd hP6 hb6 f6
                        obtain ⟨j, hj, rfl, hRd, hPq, hbq⟩ := hrel
                        by_cases hlt : j < (formOf k).2.length
                        · obtain ⟨f, hf⟩ : ∃ f, (formOf k).2[j]? = some f := ⟨_, List.getElem?_eq_getElem hlt⟩
                          obtain ⟨bs, cur, rfl, hlobs, hheap, hcl⟩ := hsl4 (by intro e; rw [e] at hlt; simp at hlt)
                          obtain ⟨rv, wv, hrv, hwv, hfat⟩ := hcl j f hf
                          obtain ⟨rv', wv', hagg, hR, hW, F1, c1, F2, c2, rfl, rfl⟩ := hfat
                          cases hagg
                          have hheapq : wr.heap[bs]? = some (.cells cur 123) := (hbq.block bs (lt_of_block hheap)).trans hheap
                          have g1 : wr.cell? ⟨bs, j * 2, none⟩ = some (.func (.func F1) #[] c1) := by rw [Lib.cell_of_heap hheapq, Nat.mul_comm]; exact hrv
                          have g2 : wr.cell? ⟨bs, j * 2 + 1, none⟩ = some (.func (.func F2) #[] c2) := by rw [Lib.cell_of_heap hheapq, Nat.mul_comm]; exact hwv
                          obtain ⟨F2', c2', he, hE, _⟩ := hW
                          cases he
                          obtain ⟨F1', c1', he, hE1, hR⟩ := hR
                          cases he
                          have hE2 := hE1 (#[.pointer (some ⟨br, 0, none⟩), .pointer (some ⟨bp, 0, none⟩)] ++ c1)
                          have hwsd : ((formOf k).2.map fun f => (Go.Proofs.YtikmoledbiepoaaGreatDoor.wr f c).1).drop j = (Go.Proofs.YtikmoledbiepoaaGreatDoor.wr f c).1 :: ((formOf k).2.map fun f => (Go.Proofs.YtikmoledbiepoaaGreatDoor.wr f c).1).drop (j + 1) := by
                            rw [List.drop_eq_getElem_cons (by simpa using hlt)]
                            have : (formOf k).2[j] = f := by simpa [List.getElem?_eq_getElem hlt] using hf
                            simp [this]
                          have hfok : (Go.Proofs.YtikmoledbiepoaaGreatDoor.wr f c).2 = true := by
                            have := HA.out
                            rw [List.all_eq_true] at this
                            exact this f (List.mem_of_getElem? hf)
                          have hrd := rd_wr f c (copyAll ((formOf k).2.take j) c (Cal.ofKind c.kind)) (((formOf k).2.map fun f => (Go.Proofs.YtikmoledbiepoaaGreatDoor.wr f c).1).drop (j + 1)) (form_most k f (List.mem_of_getElem? hf)) hfok
                          have HRD := Lib.hid hrd
                          have HFO := Lib.hid hfok
                          clear hsl2 hsl4 hcl hrv hwv hrd hfok
                          go_wp2_with fail
                          have hxa := Ext.alloc wr (.cells #[.func (.func F1) #[] c1, .func (.func F2) #[] c2] 123)
                          refine (hR _ ?_ ((hg2.ext hbq).ext hxa) br g _ bp 0 28 [] [] _ (hRd.kept (S := fun _ => False) (Kept.of_below hxa) id id) (hPq.kept (S := fun _ => False) (Kept.of_below hxa) id) (by omega) hgbp (by have := hg2.size; omega) ((words_fit hfit k).drop j)).mono ?_
                          · exact SameIn.trans (SameIn.mono (SameIn.of_ext (show Ext w2 wr from hbq)) (Nat.le_refl _) (Nat.le_of_lt hwlo)) (SameIn.of_ext hxa)
                          · rintro e w7 ⟨hk7, hm7⟩
                            rw [hwsd, HRD.out] at hm7
                            obtain ⟨rfl, hRd7, hP7⟩ := hm7
                            go_wp2_with fail
                            refine ⟨⟨j + 1, by omega, by go_num, hRd7, ?_, ?_⟩, by simp [intOf]; omega⟩
                            · rw [copyAll_snoc hf]; exact hP7
                            · exact (hbq.trans (Below.mono hxa hbq.size)).trans (hk7.below (by have := hbq.size; simp; omega) (fun k hk h => by rcases h with h | h <;> omega))
                        · have hje : j = (formOf k).2.length := by omega
                          subst hje
                          rw [List.take_length] at hPq
                          have hL : c.line = (Lib.join ((formOf k).1 :: (formOf k).2.map fun f => (Go.Proofs.YtikmoledbiepoaaGreatDoor.wr f c).1) [32], (copyAll (formOf k).2 c (Cal.ofKind c.kind)).eqb c) := by
                            have : c.lineOk = true := by unfold Cal.lineOk; rw [HK.out, Int.toNat_natCast, HA.out, hk0', HS.out]; simp; omega
                            unfold Cal.line
                            rw [if_pos this, HK.out, Int.toNat_natCast]
                          have HL := Lib.hid hL
                          clear hL
                          generalize copyAll (formOf k).2 c (Cal.ofKind c.kind) = c5 at HL hPq
                          have hCr : CalIn wr bc 0 28 [] [] c := hC2.kept (S := fun _ => False) (Kept.of_below (show Ext w2 wr from hbq)) id
                          obtain ⟨d0, d1, d2, d3, d4, d5, d6, d7, d8, d9, d10, d11, d12, d13, d14, d15⟩ := cal_cells hCr
                          obtain ⟨q0, q1, q2, q3, q4, q5, q6, q7, q8, q9, q10, q11, q12, q13, q14, q15⟩ := cal_cells hPq
                          have h28 := eq28 c5 c
                          rw [Cal.cells_eq, Cal.cells_eq] at h28
                          clear hsl2 hsl4 HA HS HK
                          go_wp2_with fail
                          go_quiet (fail)
                          go_wp2_with fail
                          go_ret2
                          exact ⟨by rw [HL.out]; rfl, hxw2.trans ((show Ext w2 _ from hbq).trans (Ext.drewN _ _))⟩
      · have hL : c.line = ([], false) := by
          have : c.lineOk = false := by simp [Cal.lineOk, hr]
          simp [Cal.line, this]
        have HL := Lib.hid hL
        have hlk := run_noForm hF hr w1 rfl
        clear hL
        go_wp2_with fail
        go_ret2
        exact ⟨by rw [HL.out]; rfl, hx1'.trans (Ext.alloc _ _)⟩
end Go.Proofs.YtikmoledbiepoaaGreatDoor

/- ScriptFrom: the scripts that the laws build. -/
import Derived.Test.YtikmoledbiepoaaGreatDoorAction
namespace Go.Proofs.YtikmoledbiepoaaGreatDoor
open Go.RowKit
theorem wpList_ld57 {ops : Array Oper} {rest : List Oper} {o : Oper} {f : Act} {w : World} {Q : Exit → Act → World → Prop} (hgd : o.guard = none) (x : Operand) (ho : o.op = .load 57 x) (b k : Nat) (hx : f.eval x = .pointer (some ⟨b, k, none⟩)) (p : Ap) (fv : Value) (hr : w.rangeAt b k (p.cells fv))
    (h : wpList Tryz.prog ops Q rest (f.put o.dst (.agg (p.cells fv).toArray)) w) : wpList Tryz.prog ops Q (o :: rest) f w :=
  wpList_load_mid hgd 57 x ho b k hx (p.cells fv) _ hr Tryz.underlying57 rfl (by kernel_rfl) h
/-- What holds while the script is built: j actions are there. -/
structure SRel (l : List Ap) (w : World) (j : Nat) (v : Value) (ps : List Pt) (wq : World) : Prop where
  len : ps.length = j
  acts : ps.map (·.a) = (l.take j).map actF
  row : wq.ownsRow w.heap.size 33 23 v j (flatP ps)
  fates : ∀ p ∈ ps, FatesAt wq p.v p.a.fates ∧ Typed3 wq p.v p.a.fates
  below : Below w.heap.size w wq
  bare : ps = [] → v = .slice none 0 0
set_option maxRecDepth 100000 in
set_option maxHeartbeats 4000000 in
theorem ScriptFrom_any (l : List Ap) (v : Value) (w : World) (hl : ApsAt w v l) (hp : ∀ p ∈ l, ApFit p) : Calls Tryz.prog 11 #[v] w fun e w' => Ext w w' ∧ ∃ u, e = .returned u ∧ ActsAt w' u (scrF l) ∧ (scrF l = [] → u = .slice none 0 0) := by
  obtain ⟨a, cap, rfl, hc1, hc2, hc3⟩ := hl
  have hll : l.length ≤ 9223372036854775807 := Nat.le_trans hc1 hc2
  go_enter Tryz.func11, Tryz.ntmps11
  go_wp2_with fail
  obtain ⟨i0, hi, j0, j1, j2⟩ := info_parts Tryz.info33
  go_loopw [3, 4] (fun v i wq => ∃ (j : Nat) (ps : List Pt), j ≤ 20 ∧ j ≤ l.length ∧ i = .int .i64 j ∧ SRel l w j v ps wq) (fun _ i _ => 20 - (intOf i).toNat)
  case atStart => exact ⟨0, [], by decide, Nat.zero_le _, rfl, ⟨rfl, rfl, World.ownsRow_nil _ _ _ _, by simp, Below.refl _ _, fun _ => rfl⟩⟩
  case round =>
    obtain ⟨j, ps, hj, hjl, rfl, hP⟩ := hrel
    have hbq : Ext w wr := hP.below
    have k0 : (0 : Int) ≤ (j : Int) := by omega
    by_cases hlt : j < l.length ∧ j < 20
    · obtain ⟨hl1, hl2⟩ := hlt
      have k1 : (j : Int) < (l.length : Int) := by omega
      have k2 : (j : Int) < 20 := by omega
      obtain ⟨b, o, rfl, hel⟩ := hc3 (by intro e; rw [e] at hl1; simp at hl1)
      obtain ⟨p, hpj⟩ : ∃ p, l[j]? = some p := ⟨_, List.getElem?_eq_getElem hl1⟩
      obtain ⟨s1, n1, c1, hr, hF⟩ := hel j p hpj
      have hpf := hp p (List.mem_of_getElem? hpj)
      have hr2 := rangeAt_ext hr hbq
      have hF2 := hF.ext hbq
      have hAC := ActionFrom_any p s1 n1 c1 wr hpf hF2
      have htk : (l.take (j + 1)).map actF = (l.take j).map actF ++ [actF p] := by rw [List.take_add_one, hpj]; simp
      have HTK := Lib.hid htk
      clear htk hr hF hel hpj
      go_wp2_with (refine wpList_ld57 rfl _ rfl b (o + j * 15) (by simp [Act.eval]) p (.slice s1 n1 c1) hr2 ?_)
      refine hAC.mono ?_
      rintro e w3 ⟨hx3, s2, n2, c2, rfl, hfa, hty⟩
      have hx33 := hbq.trans hx3
      have hone : ∀ u ∈ (actF p).cells (.slice s2 n2 c2), u.oneCell' = true := by
        intro u hu
        have := Array.all_eq_true_iff_forall_mem.1 (Ac.one (actF p) s2 n2 c2) u (by simpa using hu)
        exact this
      have hjn : j + 1 ≤ maxLen := by unfold maxLen; omega
      have hby47 : (j + 1) * 232 ≤ 140737488355328 := by omega
      have hbs : w.heap.size ≤ w3.heap.size := hx33.size
      clear hAC hr2 hF2
      go_wp2_with (refine wpList_bs35 rfl _ rfl (actF p) s2 n2 c2 rfl ?_; intro W5 g5 hxW5 hbW5; have hx45 := hx3.trans hxW5; refine wpList_append_lies W5 (by rfl) _ _ 35 (by rfl) w.heap.size 33 i0 _ 23 232 und35 hi j0 j1 j2 (by rfl) (by decide) _ j (flatP ps) (by rfl) (ownsRow_ext hP.row hx45) ⟨g5, 0, none⟩ 1 1 ((actF p).cells (.slice s2 n2 c2)) (by rfl) (by rfl) (World.news_of_block hbW5) hone (by decide) hjn hby47 (Nat.le_trans hbs hxW5.size) _ rfl ?_; intro g cap2 w5 hown hgrow hat hlt5)
      have hvb : ∀ k, u3.ownBlock = some k → w.heap.size ≤ k ∧ ∃ cur, W5.heap[k]? = some (.cells cur 33) := by
        intro k hk
        rcases hP.row.2 with ⟨h2, _⟩ | ⟨g', cap', cur, he, hbb, hgg, _⟩
        · rw [h2] at hk; cases hk
        · rw [he] at hk; cases hk; exact ⟨hbb, cur, (hx45.block _ (lt_of_block hgg)).trans hgg⟩
      have hk5 : Kept (fun k => u3.ownBlock = some k) W5 w5 := ⟨hgrow.os, hgrow.tape, hgrow.output, hgrow.size, fun k hk1 hk2 => hgrow.block k hk1 (fun e => hk2 e.symm)⟩
      have hS : ∀ (b : Nat) (cur : Array Value), W5.heap[b]? = some (.cells cur 3) → ¬ u3.ownBlock = some b := fun b cur hb h => by
        obtain ⟨_, cur', hc⟩ := hvb b h
        rw [hb] at hc; cases hc
      have hxW : Ext w W5 := hbq.trans hx45
      refine ⟨⟨j + 1, ps ++ [⟨actF p, s2, n2, c2⟩], by omega, by omega, by go_num, ⟨?_, ?_, ?_, ?_, ?_, fun h => absurd h (by simp)⟩⟩, by simp [intOf]; omega⟩
      · rw [List.length_append, hP.len]; rfl
      · rw [HTK.out, List.map_append, hP.acts]; rfl
      · have : flatP (ps ++ [⟨actF p, s2, n2, c2⟩]) = flatP ps ++ (actF p).cells (.slice s2 n2 c2) := by simp [flatP, Pt.cells, Pt.v]
        rw [this]; exact hown
      · intro q hq
        rcases List.mem_append.1 hq with h | h
        · obtain ⟨f1, f2⟩ := hP.fates q h
          exact fates_kept (f1.ext hx45) (f2.ext hx45) hk5 hS
        · rw [List.mem_singleton.1 h]
          exact fates_kept (hfa.ext hxW5) (hty.ext hxW5) hk5 hS
      · exact ⟨hk5.os.trans hxW.os, hk5.tape.trans hxW.tape, hk5.output.trans hxW.output, Nat.le_trans hxW.size hk5.size, fun k hk => (hk5.block k (Nat.lt_of_lt_of_le hk hxW.size) (fun h => by have := (hvb k h).1; omega)).trans (hxW.block k hk)⟩
    · have hend : (l.take j).map actF = scrF l := by
        unfold scrF
        rcases Nat.lt_or_ge j 20 with h | h
        · have : j = l.length := by omega
          rw [this, List.take_of_length_le (Nat.le_refl _), List.take_of_length_le (by omega)]
        · rw [show j = 20 by omega]
      have hacts : ActsAt wr u3 (scrF l) ∧ (scrF l = [] → u3 = .slice none 0 0) := by
        rw [← hend, ← hP.acts]
        exact ⟨acts_row (by rw [hP.len]; exact hP.row) (fun p hp => (hP.fates p hp).1), fun h => hP.bare (List.map_eq_nil_iff.1 h)⟩
      have HA := Lib.hid hacts
      have HN : Hid (¬ j < l.length ∨ j < l.length ∧ ¬ j < 20) := by
        unfold Hid
        omega
      clear hend hacts
      rcases HN.out with g1 | ⟨g1, g2⟩
      · go_wp2_with fail
        exact bodyPost_ret (v := u3) (by simp [results, Tryz.f11, go_sem]) rfl ⟨hbq, u3, rfl, HA.out⟩
      · go_wp2_with fail
        exact bodyPost_ret (v := u3) (by simp [results, Tryz.f11, go_sem]) rfl ⟨hbq, u3, rfl, HA.out⟩
end Go.Proofs.YtikmoledbiepoaaGreatDoor

/- script.Parse. -/
import Derived.Test.YtikmoledbiepoaaGreatDoorParse
namespace Go.Proofs.YtikmoledbiepoaaGreatDoor
open Go.RowKit
def exMap (f : List Ac → List Ac) : Except Nat (List Ac) → Except Nat (List Ac)
  | .error k => .error k
  | .ok l => .ok (f l)
def goLines : Nat → List (List UInt8) → Except Nat (List Ac)
  | _, [] => .ok []
  | i, x :: r => match parseL x with
    | none => .error i
    | some a => if 100 ≤ i then .error i else exMap (a :: ·) (goLines (i + 1) r)
/-- script.Parse. -/
def ParseR (s : List UInt8) : Except Nat (List Ac) := match goLines 0 (spl 10 s).dropLast with
  | .error k => .error k
  | .ok l => if (spl 10 s).getLast? = some [] then .ok l else .error ((spl 10 s).length - 1)
/-- An action with its fates' slice. -/
structure Pt where
  a : Ac
  s : Option Addr
  n : Nat
  c : Nat
def Pt.v (p : Pt) : Value := .slice p.s p.n p.c
def Pt.cells (p : Pt) : List Value := p.a.cells p.v
def flatP (ps : List Pt) : List Value := ps.flatMap Pt.cells
structure PRel (init : List (List UInt8)) (ls : List (List UInt8)) (w : World) (j : Nat) (v : Value) (ps : List Pt) (wq : World) : Prop where
  go : goLines 0 init = exMap (ps.map (·.a) ++ ·) (goLines j (init.drop j))
  len : ps.length = j
  few : j ≤ 100
  row : wq.ownsRow (w.heap.size + 1) 33 23 v j (flatP ps)
  fates : ∀ p ∈ ps, FatesAt wq p.v p.a.fates ∧ Typed3 wq p.v p.a.fates
  below : Below w.heap.size w wq
  words : wq.heap[w.heap.size]? = some (.cells (ls.map vS).toArray 9)
def ParsedP (s : List UInt8) (w : World) (e : Ending) (w' : World) : Prop :=
  Ext w w' ∧ match ParseR s with
    | .ok l => ∃ v, e = .returned (.tuple #[v, .int .i64 0, .int .i64 0]) ∧ ActsAt w' v l
    | .error k => e = .returned (.tuple #[.slice none 0 0, .int .i64 (k : Int), .int .i64 290])
theorem und35 : Tryz.prog.underlying 35 = some (.slice 33) := by kernel_rfl
theorem Tryz.info33 : (Tryz.prog.info? 33).map (fun i => (i.zero, i.size, i.bytes)) = some (some (.agg ((Ac.none 0).cells (.slice none 0 0)).toArray), 23, 232) := by kernel_rfl
theorem flatP_len (ps : List Pt) : (flatP ps).length = ps.length * 23 := by
  induction ps with
  | nil => rfl
  | cons p r ih =>
    unfold flatP at ih ⊢
    rw [List.flatMap_cons, List.length_append, ih, List.length_cons, Nat.add_mul]
    have : p.cells.length = 23 := rfl
    omega
theorem flatP_get : ∀ (ps : List Pt) (j : Nat) (p : Pt), ps[j]? = some p → ∀ i v, p.cells[i]? = some v → (flatP ps)[j * 23 + i]? = some v
  | [], j, p, h, _, _, _ => by simp at h
  | q :: r, 0, p, h, i, v, hi => by
    cases h
    unfold flatP
    rw [List.flatMap_cons, Nat.zero_mul, Nat.zero_add, List.getElem?_append_left (List.getElem?_eq_some_iff.1 hi).1]
    exact hi
  | q :: r, j + 1, p, h, i, v, hi => by
    have ih := flatP_get r j p (by simpa using h) i v hi
    have hq : q.cells.length = 23 := rfl
    unfold flatP at ih ⊢
    rw [List.flatMap_cons, List.getElem?_append_right (by rw [hq]; omega), hq, show (j + 1) * 23 + i - 23 = j * 23 + i by omega]
    exact ih
theorem acts_row {w : World} {B : Nat} {v : Value} {ps : List Pt} (h : w.ownsRow B 33 23 v ps.length (flatP ps)) (hf : ∀ p ∈ ps, FatesAt w p.v p.a.fates) : ActsAt w v (ps.map (·.a)) := by
  rcases h.2 with ⟨h2, h3⟩ | ⟨g, cap, cur, he, hb, hg, hn, hc, hs, ht⟩
  · have : ps = [] := List.length_eq_zero_iff.1 h3
    subst this
    rw [h2]
    exact ActsAt.nil _ _
  · refine ⟨_, cap, by rw [List.length_map]; exact he, by rw [List.length_map]; exact hn, fun _ => ⟨g, 0, rfl, fun j x hj => ?_⟩⟩
    rw [List.getElem?_map] at hj
    cases hp : ps[j]? with
    | none => rw [hp] at hj; cases hj
    | some p =>
      rw [hp] at hj
      cases hj
      refine ⟨p.s, p.n, p.c, fun i u hu => ?_, hf p (List.mem_of_getElem? hp)⟩
      rw [Nat.zero_add, Lib.cell_of_heap hg]
      have h1 := flatP_get ps j p hp i u hu
      have hlt := (List.getElem?_eq_some_iff.1 h1).1
      rw [flatP_len] at hlt
      rw [← ht, List.getElem?_take, if_pos hlt] at h1
      simpa using h1
theorem run_bs35 (a : Ac) (s : Option Addr) (n c : Nat) (w : World) : (Instr.buildSlice 35 1 #[(0, .agg (a.cells (.slice s n c)).toArray)]).run Tryz.prog w = .ok (.slice (some ⟨w.heap.size, 0, none⟩) 1 1) (w.alloc (.cells (a.cells (.slice s n c)).toArray 33)) := by kernel_rfl
theorem wpList_bs35 {ops : Array Oper} {rest : List Oper} {o : Oper} {f : Act} {w : World} {Q : Exit → Act → World → Prop} (hgd : o.guard = none) (x : Operand) (ho : o.op = .buildSlice 35 1 #[(0, x)]) (a : Ac) (s : Option Addr) (n c : Nat)
    (hx : f.eval x = .agg (a.cells (.slice s n c)).toArray) (h : ∀ W g, Ext w W → W.heap[g]? = some (.cells (a.cells (.slice s n c)).toArray 33) → wpList Tryz.prog ops Q rest (f.put o.dst (.slice (some ⟨g, 0, none⟩) 1 1)) W) : wpList Tryz.prog ops Q (o :: rest) f w := by
  refine wpList_plain hgd fun K hK => ?_
  have h2 := hK _ _ (h (w.alloc (.cells (a.cells (.slice s n c)).toArray 33)) w.heap.size (Ext.alloc _ _) (alloc_new _ _))
  unfold Oper.wp execOp
  simp only [ho, List.map_toArray, List.map_cons, List.map_nil, hx, Sem.run_bind, run_bs35]
  exact h2
theorem exMap_exMap (f g : List Ac → List Ac) (x : Except Nat (List Ac)) : exMap f (exMap g x) = exMap (fun l => f (g l)) x := by cases x <;> rfl
set_option maxRecDepth 100000 in
set_option maxHeartbeats 2000000 in
theorem Parse_any (s : List UInt8) (w : World) (hg : Glob w) (hs : s.length ≤ 4000000000) : Calls Tryz.prog 21 #[.string ⟨s.toArray⟩] w (ParsedP s w) := by
  obtain ⟨m, hml⟩ := hg.maxlen
  have h9 := hg.size
  obtain ⟨init, last, hsp⟩ : ∃ init last, spl 10 s = init ++ [last] := ⟨_, _, (List.dropLast_concat_getLast (spl_ne 10 s)).symm⟩
  have hlen : (spl 10 s).length = init.length + 1 := by rw [hsp]; simp
  obtain ⟨hmax, hws⟩ := spl_len 10 s
  have hil : init.length ≤ 4000000000 := by omega
  have HR : Hid (ParseR s = match goLines 0 init with | .error k => .error k | .ok l => if last = [] then .ok l else .error init.length) := by
    unfold Hid ParseR
    rw [hsp]
    simp
  go_enter Tryz.func21, Tryz.ntmps21
  go_wp2_with fail
  refine (Tryz.strings_Split ⟨s.toArray⟩ ⟨#[10]⟩ m _ (by show s.toArray.size < _; simp; omega) hml (by decide)).mono ?_
  rintro e w2 ⟨rfl, hw2⟩
  rw [splB, splB_len, hlen] at *
  have hb2 : w2.heap[w.heap.size]? = some (.cells ((spl 10 s).map vS).toArray 9) := by rw [hw2]; exact alloc_new _ _
  have hx2 : Ext w w2 := by rw [hw2]; exact Ext.alloc _ _
  have hlw : ∀ x ∈ init, x.length ≤ 4000000000 := fun x hx => by have := hws x (by rw [hsp]; simp [hx]); omega
  rw [hsp] at hb2
  clear hw2 hml hlen hws hmax hsp
  go_wp2_with fail
  obtain ⟨i0, hi, j0, j1, j2⟩ := info_parts Tryz.info33
  go_loopw [7, 21] (fun v i wq => ∃ (j : Nat) (ps : List Pt), j ≤ init.length ∧ i = .int .i64 j ∧ PRel init (init ++ [last]) w j v ps wq) (fun _ i _ => init.length - (intOf i).toNat)
  case atStart =>
    refine ⟨0, [], Nat.zero_le _, rfl, ⟨?_, rfl, by omega, World.ownsRow_nil _ _ _ _, by simp, hx2, hb2⟩⟩
    rw [List.drop_zero]
    cases goLines 0 init <;> rfl
  case round =>
    obtain ⟨j, ps, hj, rfl, hP⟩ := hrel
    have hbq : Ext w wr := hP.below
    by_cases hlt : j < init.length
    · obtain ⟨x, hx⟩ : ∃ x, init[j]? = some x := ⟨_, List.getElem?_eq_getElem hlt⟩
      have hdrop : init.drop j = x :: init.drop (j + 1) := by
        rw [List.drop_eq_getElem_cons hlt]
        have : init[j] = x := by simpa [List.getElem?_eq_getElem hlt] using hx
        rw [this]
      have cx : wr.cell? ⟨w.heap.size, j, none⟩ = some (.string ⟨x.toArray⟩) := by
        rw [Lib.cell_of_heap hP.words]
        have : (init ++ [last])[j]? = some x := by rw [List.getElem?_append_left hlt]; exact hx
        rw [List.getElem?_toArray, List.getElem?_map, this]
        rfl
      have hgo := hP.go
      rw [hdrop] at hgo
      have HGO := Lib.hid hgo
      have hpx := parse_any x wr (hg.ext hbq) (hlw x (List.mem_of_getElem? hx))
      clear hdrop hgo hx
      go_wp2_with fail
      refine hpx.mono ?_
      rintro e w3 ⟨hx3, hm3⟩
      clear hpx cx
      have hxw : Ext w w3 := hbq.trans hx3
      cases hp : parseL x with
      | none =>
        rw [hp] at hm3
        obtain ⟨y, s1, n1, c1, rfl⟩ := hm3
        have HE : Hid (ParseR s = .error j) := by
          unfold Hid
          rw [HR.out, HGO.out]
          simp [goLines, hp, exMap]
        have hxr : Ext w3 ((w3.alloc (.cells ((Ac.none 0).cells (.slice none 0 0)).toArray 33)).setRow w3.heap.size (y.cells (.slice s1 n1 c1)).toArray) := (Ext.alloc _ _).setRow _ _ (Nat.le_refl _)
        go_wp2_with (refine wpList_store33 rfl _ _ rfl w3.heap.size _ rfl rfl _ (alloc_new _ _) rfl rfl (Ac.one _ _ _ _) ?_)
        go_ret3
        exact ⟨hxw.trans hxr, by rw [HE.out]; rfl⟩
      | some a =>
        rw [hp] at hm3
        obtain ⟨s1, n1, c1, rfl, hfa, hty⟩ := hm3
        have hxr : Ext w3 ((w3.alloc (.cells ((Ac.none 0).cells (.slice none 0 0)).toArray 33)).setRow w3.heap.size (a.cells (.slice s1 n1 c1)).toArray) := (Ext.alloc _ _).setRow _ _ (Nat.le_refl _)
        have hbr := setRow_heap _ w3.heap.size _ (a.cells (.slice s1 n1 c1)).toArray 33 (0, 0) (alloc_new w3 (.cells ((Ac.none 0).cells (.slice none 0 0)).toArray 33))
        by_cases h100 : 100 ≤ j
        · have HE : Hid (ParseR s = .error j) := by
            unfold Hid
            rw [HR.out, HGO.out]
            simp [goLines, hp, exMap, h100]
          have hd : decide ((100 : Int) ≤ (j : Int)) = true := by simp; omega
          go_wp2_with (refine wpList_store33 rfl _ _ rfl w3.heap.size _ rfl rfl _ (alloc_new _ _) rfl rfl (Ac.one _ _ _ _) ?_)
          go_ret3
          exact ⟨hxw.trans hxr, by rw [HE.out]; rfl⟩
        · have hd : decide ((100 : Int) ≤ (j : Int)) = false := by simp; omega
          have hone : ∀ u ∈ a.cells (.slice s1 n1 c1), u.oneCell' = true := by
            intro u hu
            have := Array.all_eq_true_iff_forall_mem.1 (Ac.one a s1 n1 c1) u (by simpa using hu)
            exact this
          have hjn : j + 1 ≤ maxLen := by unfold maxLen; omega
          have hby47 : (j + 1) * 232 ≤ 140737488355328 := by omega
          have hx33 := hx3.trans hxr
          have hbs : w.heap.size + 1 ≤ w3.heap.size := by have := lt_of_block hP.words; have := hx3.size; omega
          go_wp2_with (first | refine wpList_store33 rfl _ _ rfl w3.heap.size _ rfl rfl _ (alloc_new _ _) rfl rfl (Ac.one _ _ _ _) ?_ | refine wpList_load33 (by rfl) _ rfl w3.heap.size rfl _ hbr rfl ?_ | (refine wpList_bs35 rfl _ rfl a s1 n1 c1 rfl ?_; intro W5 g5 hxW5 hbW5; have hx45 := hx33.trans hxW5; have hx35 := hxr.trans hxW5; clear hxW5 hbr hx33 hxr; refine wpList_append_lies W5 (by rfl) _ _ 35 (by rfl) (w.heap.size + 1) 33 i0 _ 23 232 und35 hi j0 j1 j2 (by rfl) (by decide) _ j (flatP ps) (by rfl) (ownsRow_ext hP.row hx45) ⟨g5, 0, none⟩ 1 1 (a.cells (.slice s1 n1 c1)) (by rfl) (by rfl) (World.news_of_block hbW5) hone (by decide) hjn hby47 (Nat.le_trans hbs hx35.size) _ rfl ?_; intro g cap w5 hown hgrow hat hlt5))
          have hvb : ∀ k, u7.ownBlock = some k → w.heap.size + 1 ≤ k ∧ ∃ cur, W5.heap[k]? = some (.cells cur 33) := by
            intro k hk
            rcases hP.row.2 with ⟨h2, _⟩ | ⟨g', cap', cur, he, hbb, hgg, _⟩
            · rw [h2] at hk; cases hk
            · rw [he] at hk; cases hk; exact ⟨hbb, cur, (hx45.block _ (lt_of_block hgg)).trans hgg⟩
          have hk5 : Kept (fun k => u7.ownBlock = some k) W5 w5 := ⟨hgrow.os, hgrow.tape, hgrow.output, hgrow.size, fun k hk1 hk2 => hgrow.block k hk1 (fun e => hk2 e.symm)⟩
          have hS : ∀ (b : Nat) (cur : Array Value), W5.heap[b]? = some (.cells cur 3) → ¬ u7.ownBlock = some b := fun b cur hb h => by
            obtain ⟨_, cur', hc⟩ := hvb b h
            rw [hb] at hc; cases hc
          have hxW : Ext w W5 := hbq.trans hx45
          have hwN : W5.heap[w.heap.size]? = some (.cells ((init ++ [last]).map vS).toArray 9) := (hx45.block _ (lt_of_block hP.words)).trans hP.words
          refine ⟨⟨j + 1, ps ++ [⟨a, s1, n1, c1⟩], by omega, by go_num, ⟨?_, ?_, by omega, ?_, ?_, ?_, ?_⟩⟩, by simp [intOf]; omega⟩
          · rw [HGO.out]
            simp only [goLines, hp]
            rw [if_neg h100, exMap_exMap]
            cases goLines (j + 1) (init.drop (j + 1)) with
            | error k => rfl
            | ok l => simp [exMap]
          · rw [List.length_append, hP.len]; rfl
          · have : flatP (ps ++ [⟨a, s1, n1, c1⟩]) = flatP ps ++ a.cells (.slice s1 n1 c1) := by simp [flatP, Pt.cells, Pt.v]
            rw [this]; exact hown
          · intro p hp'
            rcases List.mem_append.1 hp' with h | h
            · obtain ⟨f1, f2⟩ := hP.fates p h
              exact fates_kept (f1.ext hx45) (f2.ext hx45) hk5 hS
            · rw [List.mem_singleton.1 h]
              exact fates_kept (hfa.ext hx35) (hty.ext hx35) hk5 hS
          · exact ⟨hk5.os.trans hxW.os, hk5.tape.trans hxW.tape, hk5.output.trans hxW.output, Nat.le_trans hxW.size hk5.size, fun k hk => (hk5.block k (Nat.lt_of_lt_of_le hk hxW.size) (fun h => by have := (hvb k h).1; omega)).trans (hxW.block k hk)⟩
          · exact (hk5.block _ (lt_of_block hwN) (fun h => by have := (hvb _ h).1; omega)).trans hwN
    · have hje : j = init.length := by omega
      subst hje
      have hgo : goLines 0 init = .ok (ps.map (·.a)) := by
        rw [hP.go, List.drop_length]
        simp [goLines, exMap]
      have cx : wr.cell? ⟨w.heap.size, init.length, none⟩ = some (.string ⟨last.toArray⟩) := by
        rw [Lib.cell_of_heap hP.words, List.getElem?_toArray, List.getElem?_map, List.getElem?_append_right (Nat.le_refl _), Nat.sub_self]
        rfl
      have HA : Hid (ActsAt wr u7 (ps.map (·.a))) := acts_row (by rw [hP.len]; exact hP.row) (fun p hp => (hP.fates p hp).1)
      by_cases hl : last = []
      · subst hl
        have HE : Hid (ParseR s = .ok (ps.map (·.a))) := by
          unfold Hid
          rw [HR.out, hgo]
          simp
        clear hgo
        go_wp2_with fail
        go_ret3
        exact ⟨hbq, by rw [HE.out]; exact ⟨_, rfl, HA.out⟩⟩
      · have HE : Hid (ParseR s = .error init.length) := by
          unfold Hid
          rw [HR.out, hgo]
          simp [hl]
        have h1 : last.isEmpty = false := by simpa using hl
        have h2 : (last == []) = false := by simpa using hl
        clear hgo hl
        go_wp2_with fail
        go_ret3
        exact ⟨hbq, by rw [HE.out]; rfl⟩
end Go.Proofs.YtikmoledbiepoaaGreatDoor

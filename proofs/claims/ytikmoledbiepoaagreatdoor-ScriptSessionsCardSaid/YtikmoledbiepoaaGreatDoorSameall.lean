/- The reference's SameAll. -/
import Derived.Test.YtikmoledbiepoaaGreatDoorRsame
namespace Go.Proofs.YtikmoledbiepoaaGreatDoor
open Go.RowKit
/-- SameAll. -/
def sameL (l m : List Ac) : Bool := decide (l.length = m.length) && (l.zip m).all fun p => p.1.eqb p.2
def sameTo (l m : List Ac) (j : Nat) : Bool := ((l.zip m).take j).all fun p => p.1.eqb p.2
theorem sameTo_snoc {l m : List Ac} {j : Nat} {x y : Ac} (hx : l[j]? = some x) (hy : m[j]? = some y) : sameTo l m (j + 1) = (sameTo l m j && x.eqb y) := by
  unfold sameTo
  have : (l.zip m)[j]? = some (x, y) := by rw [List.getElem?_zip_eq_some]; exact ⟨hx, hy⟩
  rw [List.take_add_one, this]
  simp
theorem sameL_false {l m : List Ac} {j : Nat} (h : sameTo l m j = false) : sameL l m = false := by
  unfold sameTo at h
  unfold sameL
  rw [List.all_eq_false] at h
  obtain ⟨p, hp, hn⟩ := h
  have : ((l.zip m).all fun p => p.1.eqb p.2) = false := by
    rw [List.all_eq_false]
    exact ⟨p, List.mem_of_mem_take hp, hn⟩
  rw [this, Bool.and_false]
theorem ent20 : Ent 20 := enters_of Tryz.func20 (by kernel_rfl) rfl
set_option maxRecDepth 100000 in
set_option maxHeartbeats 2000000 in
theorem SameAll_any (l m : List Ac) (u v : Value) (w : World) (hl : ActsAt w u l) (hm : ActsAt w v m) (hs1 : l.length ≤ 4294967296) :
    Calls Tryz.prog 23 #[u, v] w fun e w' => e = .returned (.bool (sameL l m)) ∧ Ext w w' := by
  obtain ⟨s1, n1, rfl, hn1, hc1⟩ := hl
  obtain ⟨s2, n2, rfl, hn2, hc2⟩ := hm
  by_cases hle : l.length = m.length
  · have hlb : ((l.length : Int) != (m.length : Int)) = false := by simp [hle]
    have HL := Lib.hid hle
    clear hle
    go_enter Tryz.func23, Tryz.ntmps23
    go_wp2_with fail
    go_loopw [5] (fun i wq => ∃ j : Nat, j ≤ l.length ∧ i = .int .i64 j ∧ sameTo l m j = true ∧ Below w.heap.size w wq) (fun i _ => l.length - (intOf i).toNat)
    case atStart => exact ⟨0, Nat.zero_le _, rfl, rfl, Below.refl _ _⟩
    case round =>
      obtain ⟨j, hj, rfl, hst, hbq⟩ := hrel
      have HS := Lib.hid hst
      clear hst
      have hq : Ext w wr := hbq
      by_cases hlt : j < l.length
      · have hltb : j < m.length := by have := HL.out; omega
        obtain ⟨x, hx⟩ : ∃ x, l[j]? = some x := ⟨_, List.getElem?_eq_getElem hlt⟩
        obtain ⟨y, hy⟩ : ∃ y, m[j]? = some y := ⟨_, List.getElem?_eq_getElem hltb⟩
        obtain ⟨b1, o1, rfl, hd1⟩ := hc1 (by intro e; rw [e] at hlt; simp at hlt)
        obtain ⟨b2, o2, rfl, hd2⟩ := hc2 (by intro e; rw [e] at hltb; simp at hltb)
        obtain ⟨t1, m1, k1, r1, f1⟩ := hd1 j x hx
        obtain ⟨t2, m2, k2, r2, f2⟩ := hd2 j y hy
        have r1' := rangeAt_ext r1 hq
        have r2' := rangeAt_ext r2 hq
        have i1 : (0 : Int) ≤ (j : Int) := by omega
        have i2 : (j : Int) < (l.length : Int) := by omega
        have i3 : (j : Int) < (m.length : Int) := by omega
        have HN : Hid (sameTo l m (j + 1) = (sameTo l m j && x.eqb y)) := sameTo_snoc hx hy
        clear hx hy
        go_wp2_with fail
        refine wp_region_vals (fun i => [.slice (some ⟨b1, o1, none⟩) l.length n1, .int .i64 (j : Int), .pointer (some ⟨b1, o1 + j * 23, none⟩), .agg (x.cells (.slice t1 m1 k1)).toArray, .slice (some ⟨b2, o2, none⟩) m.length n2, .int .i64 (j : Int), .pointer (some ⟨b2, o2 + j * 23, none⟩), .agg (y.cells (.slice t2 m2 k2)).toArray, .bool (x.eqb y), .bool (!x.eqb y)].getD i undef) (fun w' => Ext wr w') mixedOrd (by kernel_rfl) (by kernel_rfl) (by kernel_rfl) ⟨rfl, rfl, rfl, Nat.le_refl _, fun _ _ => rfl⟩ ?_ ?_
        · refine ⟨?_, ?_, ?_, ?_, ?_, ?_, ?_, ?_, ?_, ?_, trivial⟩
          · intro a' w' hs hW
            have h0 : a'.tmps[0]? = some (.slice (some ⟨b1, o1, none⟩) l.length n1) := hs.old 0 rfl
            exact wpOp_val rfl rfl (by simp [execOp, go_sem, h0]) ⟨rfl, hW⟩
          · intro a' w' hs hW
            have h0 : a'.tmps[5]? = some (.int .i64 (j : Int)) := hs.old 5 rfl
            exact wpOp_val rfl rfl (by simp [execOp, go_sem, h0]) ⟨rfl, hW⟩
          · intro a' w' hs hW
            have h0 : a'.tmps[17]? = some (.slice (some ⟨b1, o1, none⟩) l.length n1) := hs.made 0 17 rfl rfl
            have h1 : a'.tmps[18]? = some (.int .i64 (j : Int)) := hs.made 1 18 rfl rfl
            exact wpOp_val rfl rfl (by simp [execOp, go_sem, h0, h1, i1, i2]) ⟨rfl, hW⟩
          · intro a' w' hs hW
            have h0 : a'.tmps[19]? = some (.pointer (some ⟨b1, o1 + j * 23, none⟩)) := hs.made 2 19 rfl rfl
            exact wpOp_val rfl rfl (by simp [execOp, ev h0, load33m (rangeAt_ext r1' hW)]) ⟨rfl, hW⟩
          · intro a' w' hs hW
            have h0 : a'.tmps[1]? = some (.slice (some ⟨b2, o2, none⟩) m.length n2) := hs.old 1 rfl
            exact wpOp_val rfl rfl (by simp [execOp, go_sem, h0]) ⟨rfl, hW⟩
          · intro a' w' hs hW
            have h0 : a'.tmps[5]? = some (.int .i64 (j : Int)) := hs.old 5 rfl
            exact wpOp_val rfl rfl (by simp [execOp, go_sem, h0]) ⟨rfl, hW⟩
          · intro a' w' hs hW
            have h0 : a'.tmps[21]? = some (.slice (some ⟨b2, o2, none⟩) m.length n2) := hs.made 4 21 rfl rfl
            have h1 : a'.tmps[22]? = some (.int .i64 (j : Int)) := hs.made 5 22 rfl rfl
            exact wpOp_val rfl rfl (by simp [execOp, go_sem, h0, h1, i1, i3]) ⟨rfl, hW⟩
          · intro a' w' hs hW
            have h0 : a'.tmps[23]? = some (.pointer (some ⟨b2, o2 + j * 23, none⟩)) := hs.made 6 23 rfl rfl
            exact wpOp_val rfl rfl (by simp [execOp, ev h0, load33m (rangeAt_ext r2' hW)]) ⟨rfl, hW⟩
          · intro a' w' hs hW
            have h0 : a'.tmps[20]? = some (.agg (x.cells (.slice t1 m1 k1)).toArray) := hs.made 3 20 rfl rfl
            have h1 : a'.tmps[24]? = some (.agg (y.cells (.slice t2 m2 k2)).toArray) := hs.made 7 24 rfl rfl
            refine wpOp_call (f := 20) (args := #[.agg (x.cells (.slice t1 m1 k1)).toArray, .agg (y.cells (.slice t2 m2 k2)).toArray]) rfl rfl (exec_call rfl rfl ent20 (by simp [ev h0, ev h1])) ?_
            refine (Rsame_any x y _ _ w' ((f1.ext hq).ext hW) ((f2.ext hq).ext hW)).mono ?_
            rintro e w'' ⟨rfl, hx'⟩
            exact ⟨_, rfl, rfl, hW.trans hx'⟩
          · intro a' w' hs hW
            have h0 : a'.tmps[25]? = some (.bool (x.eqb y)) := hs.made 8 25 rfl rfl
            exact wpOp_val rfl rfl (by simp [execOp, go_sem, h0]) ⟨rfl, hW⟩
        · intro a' w' hs hW
          have q17 : a'.tmps[17]? = some (.slice (some ⟨b1, o1, none⟩) l.length n1) := hs.made 0 17 rfl
          have q18 : a'.tmps[18]? = some (.int .i64 (j : Int)) := hs.made 1 18 rfl
          have q19 : a'.tmps[19]? = some (.pointer (some ⟨b1, o1 + j * 23, none⟩)) := hs.made 2 19 rfl
          have q20 : a'.tmps[20]? = some (.agg (x.cells (.slice t1 m1 k1)).toArray) := hs.made 3 20 rfl
          have q21 : a'.tmps[21]? = some (.slice (some ⟨b2, o2, none⟩) m.length n2) := hs.made 4 21 rfl
          have q22 : a'.tmps[22]? = some (.int .i64 (j : Int)) := hs.made 5 22 rfl
          have q23 : a'.tmps[23]? = some (.pointer (some ⟨b2, o2 + j * 23, none⟩)) := hs.made 6 23 rfl
          have q24 : a'.tmps[24]? = some (.agg (y.cells (.slice t2 m2 k2)).toArray) := hs.made 7 24 rfl
          have q25 : a'.tmps[25]? = some (.bool (x.eqb y)) := hs.made 8 25 rfl
          have q26 : a'.tmps[26]? = some (.bool (!x.eqb y)) := hs.made 9 26 rfl
          have ha := act_putAll [(17, .slice (some ⟨b1, o1, none⟩) l.length n1), (18, .int .i64 (j : Int)), (19, .pointer (some ⟨b1, o1 + j * 23, none⟩)), (20, .agg (x.cells (.slice t1 m1 k1)).toArray), (21, .slice (some ⟨b2, o2, none⟩) m.length n2), (22, .int .i64 (j : Int)), (23, .pointer (some ⟨b2, o2 + j * 23, none⟩)), (24, .agg (y.cells (.slice t2 m2 k2)).toArray), (25, .bool (x.eqb y)), (26, .bool (!x.eqb y))] hs.defers hs.size (by simp [q17, q18, q19, q20, q21, q22, q23, q24, q25, q26]) rfl hs.old
          clear hs q17 q18 q19 q20 q21 q22 q23 q24 q25 q26
          simp only [putAll, Act.put] at ha
          subst ha
          go_frame
          have hqw : Ext w w' := hq.trans hW
          clear hW
          cases he : x.eqb y with
          | true =>
            have HT : Hid (sameTo l m (j + 1) = true) := by unfold Hid; rw [HN.out, HS.out, he]; rfl
            go_wp2_with fail
            go_roundw
            case rel => exact ⟨j + 1, by omega, by go_num, HT.out, hqw⟩
            case measure => simp [intOf]; omega
          | false =>
            have HF : Hid (sameL l m = false) := by
              unfold Hid
              exact sameL_false (j := j + 1) (by rw [HN.out, he, Bool.and_false])
            go_wp2_with fail
            go_ret
            exact ⟨by rw [HF.out]; rfl, hqw⟩
      · have HT : Hid (sameL l m = true) := by
          unfold Hid sameL
          have h1 := HS.out
          unfold sameTo at h1
          rw [List.take_of_length_le (by rw [List.length_zip]; omega)] at h1
          rw [h1, decide_eq_true HL.out]
          rfl
        go_wp2_with fail
        go_ret
        exact ⟨by rw [HT.out]; rfl, hq⟩
  · have hlb : ((l.length : Int) != (m.length : Int)) = true := by simp; omega
    have HF : Hid (sameL l m = false) := by unfold Hid sameL; rw [decide_eq_false hle]; rfl
    clear hle
    go_enter Tryz.func23, Tryz.ntmps23
    go_wp2_with fail
    go_ret
    exact ⟨by rw [HF.out]; rfl, Ext.refl _⟩
end Go.Proofs.YtikmoledbiepoaaGreatDoor

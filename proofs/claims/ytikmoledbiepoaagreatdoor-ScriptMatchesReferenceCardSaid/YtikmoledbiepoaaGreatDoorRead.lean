/- The reader's word and number. -/
import Derived.Test.YtikmoledbiepoaaGreatDoorLeaf
import Derived.Lib.SmallJoins
namespace Go.Proofs.YtikmoledbiepoaaGreatDoor
open Go.RowKit
/-- The panic by which parsing ends. -/
abbrev wrongEnd : Ending := .panicked [{ v := .iface 97 (.agg #[]), recovered := false }]
set_option maxHeartbeats 400000 in
theorem word_none (br : Nat) (a : Option Addr) (cap : Nat) (w : World) (h : w.heap[br]? = some (.cells #[.slice a 0 cap] 101)) :
    Calls Tryz.prog 60 #[.pointer (some ⟨br, 0, none⟩)] w fun e w' => e = wrongEnd ∧ w = w' := by
  have hc : w.cell? ⟨br, 0, none⟩ = some (.slice a 0 cap) := by rw [Lib.cell_of_heap h]; rfl
  go_enter Tryz.func60, Tryz.ntmps60
  go_wp2
  exact ⟨rfl, rfl, rfl⟩
set_option maxHeartbeats 400000 in
theorem word_some (br b o n cap : Nat) (s : List UInt8) (w : World) (h : w.heap[br]? = some (.cells #[.slice (some ⟨b, o, none⟩) (n + 1) cap] 101)) (_hcap : n + 1 ≤ cap) (hn : n ≤ 4294967296)
   (hs : w.cell? ⟨b, o, none⟩ = some (vS s)) :
    Calls Tryz.prog 60 #[.pointer (some ⟨br, 0, none⟩)] w fun e w' => e = .returned (vS s) ∧ w' = w.setCell ⟨br, 0, none⟩ (.slice (if cap = 1 then some ⟨b, o, none⟩ else some ⟨b, o + 1, none⟩) n (cap - 1)) := by
  have hc : w.cell? ⟨br, 0, none⟩ = some (.slice (some ⟨b, o, none⟩) (n + 1) cap) := by rw [Lib.cell_of_heap h]; rfl
  have hf : w.frozen? ⟨br, 0, none⟩ = false := Lib.frozen_of_heap h 0
  have hz : ((n : Int) + 1 == 0) = false := beq_eq_false_iff_ne.2 (by omega)
  go_enter Tryz.func60, Tryz.ntmps60
  go_wp2
  all_goals
    go_ret
    exact ⟨rfl, by simp [*]⟩

theorem word_nil (br bw : Nat) (w : World) (hr : Reader w br bw []) : Calls Tryz.prog 60 #[.pointer (some ⟨br, 0, none⟩)] w fun e w' => e = wrongEnd ∧ w = w' := by
  obtain ⟨a, cap, hb, _⟩ := hr
  exact word_none br a cap w hb

theorem word_cons (br bw : Nat) (s : List UInt8) (r : List (List UInt8)) (w : World) (hr : Reader w br bw (s :: r)) (hl : r.length ≤ 4294967296) :
    Calls Tryz.prog 60 #[.pointer (some ⟨br, 0, none⟩)] w fun e w' => e = .returned (vS s) ∧ Reader w' br bw r ∧ Kept (· = br) w w' := by
  obtain ⟨a, cap, hb, hcap, hne, hlt, hh⟩ := hr
  obtain ⟨o, rfl, hcells⟩ := hh (by simp)
  simp only [List.length_cons] at hcap hb
  refine (word_some br bw o r.length cap s w hb hcap hl (hcells 0 s rfl)).mono ?_
  rintro e w' ⟨rfl, rfl⟩
  have hk := Kept.setCell (S := (· = br)) w (p := ⟨br, 0, none⟩) rfl (.slice (if cap = 1 then some ⟨bw, o, none⟩ else some ⟨bw, o + 1, none⟩) r.length (cap - 1))
  refine ⟨rfl, ⟨_, _, heap_setCell_self hb 0 _, by omega, hne, Nat.lt_of_lt_of_le hlt hk.size, ?_⟩, hk⟩
  intro hn
  have hr0 : 0 < r.length := List.length_pos_iff.2 hn
  refine ⟨o + 1, by rw [if_neg (by omega)], fun j s' hj => ?_⟩
  rw [hk.cell (p := ⟨bw, o + 1 + j, none⟩) hlt hne]
  have := hcells (j + 1) s' (by simpa using hj)
  rw [show o + 1 + j = o + (j + 1) by omega]
  exact this

/-- strconv.Atoi at a string: a number, or an error. -/
def AtoiPost (s : List UInt8) (w : World) (e : Ending) (w' : World) : Prop :=
  Ext w w' ∧ match Lib.atoiAll s with
    | .ok v => e = .returned (.tuple #[.int .i64 v, .nilIface])
    | _ => ∃ (n : Int) (N : Nat), e = .returned (.tuple #[.int .i64 n, .iface 177 (.pointer (some ⟨N, 0, none⟩))])
theorem ext_bytesWorld (w : World) (t : ByteArray) : Ext w (Lib.bytesWorld w 5 t) := Joins.below_bytesWorld _ w 5 t (Nat.le_refl _)
theorem Atoi_any (s : List UInt8) (w : World) (hg : Glob w) (hl : s.length ≤ 4294967296) : Calls Tryz.prog 108 #[.string ⟨s.toArray⟩] w (AtoiPost s w) := by
  have hz : (⟨s.toArray⟩ : ByteArray).size = s.length := rfl
  have hd : (⟨s.toArray⟩ : ByteArray).data.toList = s := rfl
  cases hn : Lib.atoiAll s
  · rename_i v
    refine (Tryz.strconv_Atoi_ok ⟨s.toArray⟩ (by omega) v (by rw [hd]; exact hn) w).mono ?_
    rintro e w' ⟨rfl, h⟩
    refine ⟨?_, by rw [hn]⟩
    rcases h with rfl | ⟨t, rfl⟩
    · exact Ext.refl _
    · exact ext_bytesWorld w t
  · obtain ⟨tp, p, hv⟩ := hg.syn
    refine (Tryz.strconv_Atoi_bad_var ⟨s.toArray⟩ (by omega) (by rw [hd, hn]) tp p w hv).mono ?_
    rintro e w' ⟨N, rfl, _, _, hb⟩
    exact ⟨hb, by rw [hn]; exact ⟨_, N, rfl⟩⟩
  · obtain ⟨tp, p, hv⟩ := hg.rng
    refine (Tryz.strconv_Atoi_range_var ⟨s.toArray⟩ (by omega) (by rw [hd]; exact hn) tp p w hv).mono ?_
    rintro e w' ⟨N, rfl, _, _, hb⟩
    exact ⟨hb, by rw [hn]; exact ⟨_, N, rfl⟩⟩

def NumPost (br bw : Nat) (s : List UInt8) (r : List (List UInt8)) (w : World) (e : Ending) (w' : World) : Prop :=
  Kept (· = br) w w' ∧ Reader w' br bw r ∧ match numOf s with
    | some v => e = .returned (.int .i64 v)
    | none => e = wrongEnd
theorem number_nil (br bw : Nat) (w : World) (hr : Reader w br bw []) : Calls Tryz.prog 77 #[.pointer (some ⟨br, 0, none⟩)] w fun e w' => e = wrongEnd ∧ w = w' := by
  go_enter Tryz.func77, Tryz.ntmps77
  go_wp2_with (go_at_call 60; refine (word_nil br bw w hr).mono ?_; rintro e w' ⟨rfl, rfl⟩)
  exact ⟨rfl, rfl, rfl⟩
set_option maxHeartbeats 400000 in
theorem number_cons (br bw : Nat) (s : List UInt8) (r : List (List UInt8)) (w : World) (hg : Glob w) (hr : Reader w br bw (s :: r)) (hl : r.length ≤ 4294967296) (hs : s.length ≤ 4294967296) (h9 : 9 ≤ br) :
    Calls Tryz.prog 77 #[.pointer (some ⟨br, 0, none⟩)] w (NumPost br bw s r w) := by
  go_enter Tryz.func77, Tryz.ntmps77
  go_wp2_with fail
  refine (word_cons br bw s r w hr hl).mono ?_
  rintro e w1 ⟨rfl, hr1, hk1⟩
  unfold vS
  go_wp2_with fail
  refine (Atoi_any s w1 (hg.kept hk1 (by omega)) hs).mono ?_
  rintro e w2 ⟨hx2, he⟩
  have hr2 := hr1.ext hx2
  have hk2 : Kept (· = br) w w2 := hk1.trans (Kept.of_below hx2)
  cases hn : Lib.atoiAll s with
  | ok v =>
    rw [hn] at he
    subst he
    by_cases hv : v < 0
    · have hN : numOf s = none := by simp [numOf, hn, hv]
      have H := Lib.hid hN; have H2 := Lib.hid hn; clear hN hn
      go_wp2
      exact ⟨rfl, hk2, hr2, by rw [H.out]⟩
    · have hN : numOf s = some v := by simp [numOf, hn, hv]
      have H := Lib.hid hN; have H2 := Lib.hid hn; clear hN hn
      go_wp2
      go_ret
      exact ⟨hk2, hr2, by rw [H.out]; rfl⟩
  | _ =>
    rw [hn] at he
    obtain ⟨n, N, rfl⟩ := he
    have hN : numOf s = none := by simp [numOf, hn]
    have H := Lib.hid hN; have H2 := Lib.hid hn; clear hN hn
    go_wp2
    exact ⟨rfl, hk2, hr2, by rw [H.out]⟩
end Go.Proofs.YtikmoledbiepoaaGreatDoor

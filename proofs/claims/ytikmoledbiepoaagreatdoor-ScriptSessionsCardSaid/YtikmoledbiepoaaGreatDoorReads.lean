/- What the fields of a call read. -/
import Derived.Test.YtikmoledbiepoaaGreatDoorFields
namespace Go.Proofs.YtikmoledbiepoaaGreatDoor
open Go.RowKit
theorem ext_grow (w : World) (n : Nat) (os : Array Obj) : Ext w («Sort».grow (w.drewN n) os) :=
  ⟨rfl, rfl, rfl, by simp [«Sort».grow, World.drewN], fun k hk => by simp [«Sort».grow, World.drewN, Array.getElem?_append, hk]⟩
theorem Itoa_any (n : Int) (w : World) (hg : Glob w) (h1 : -9223372036854775808 ≤ n) (h2 : n ≤ 9223372036854775807) :
    Calls Tryz.prog 45 #[.int .i64 n] w fun e w' => e = .returned (vS (Lib.itoa n)) ∧ Ext w w' := by
  refine (Tryz.strconv_Itoa n h1 h2 w hg.tab).mono ?_
  rintro e w' ⟨rfl, k, os, rfl⟩
  exact ⟨rfl, ext_grow w k os⟩
theorem Kept.ext_trans {S : Nat → Prop} {a b c : World} (h : Kept S a b) (k : Ext b c) : Kept S a c := h.trans (Kept.of_below k)
theorem Glob.drewN {w : World} (h : Glob w) (n : Nat) : Glob (w.drewN n) := h.mono (Nat.le_refl _) fun _ _ => rfl
theorem Reader.drewN {w : World} {br bw : Nat} {ws : List (List UInt8)} (h : Reader w br bw ws) (n : Nat) : Reader (w.drewN n) br bw ws := h.kept (Kept.drewN (fun _ => False) w n) id id
theorem CalIn.drewN {w : World} {b o : Nat} {T : TypeId} {pre post : List Value} {c : Cal} (h : CalIn w b o T pre post c) (n : Nat) : CalIn (w.drewN n) b o T pre post c := h
theorem Ext.drewN (w : World) (n : Nat) : Ext w (w.drewN n) := ⟨rfl, rfl, rfl, Nat.le_refl _, fun _ _ => rfl⟩
theorem isI_lt {k : Nat} (h : isI k = true) : k < 16 := by
  rcases isI_cases h with rfl | rfl | rfl | rfl | rfl | rfl | rfl | rfl | rfl | rfl | rfl | rfl | rfl <;> decide
theorem isS_lt {k : Nat} (h : isS k = true) : k < 16 := by
  rcases isS_cases h with rfl | rfl | rfl <;> decide

theorem rd_int_nil (m k : Nat) (c : Cal) : rd ⟨0, m, k⟩ [] c = none := rfl

set_option maxHeartbeats 400000 in
theorem intRead (lo hi bo m k : Nat) (ov : Value) (w : World) (hk : isI k = true) (hc : w.cell? ⟨bo, 0, none⟩ = some ov) (hof : Of lo hi w ov k) (hg : Glob w)
    (br bw b o : Nat) (ws : List (List UInt8)) (T : TypeId) (pre post : List Value) (c : Cal) (hr : Reader w br bw ws) (hC : CalIn w b o T pre post c) (hne : br ≠ b) (hnw : bw ≠ b) (h9 : 9 ≤ br) (hws : WsFit ws) :
    Calls Tryz.prog 116 #[.pointer (some ⟨br, 0, none⟩), .pointer (some ⟨b, o, none⟩), .pointer (some ⟨bo, 0, none⟩)] w (RdPost ⟨0, m, k⟩ ws c br bw b o T pre post w) := by
  obtain ⟨F, caps, rfl, hE, hF⟩ := hof
  have hF := hF w (SameIn.refl _ _ _) b o
  unfold Ent at hE
  go_enter Tryz.func116, Tryz.ntmps116
  go_wp2_with fail
  refine hF.mono ?_
  rintro e w1 ⟨rfl, n1, rfl⟩
  have hr1 := hr.drewN n1
  have hg1 := hg.drewN n1
  have hC1 := hC.drewN n1
  cases ws with
  | nil =>
    go_wp2_with (go_at_call 77; refine (number_nil br bw _ hr1).mono ?_; rintro e w' ⟨rfl, rfl⟩)
    exact ⟨rfl, Kept.drewN _ _ _, rfl⟩
  | cons s r =>
    go_wp2_with fail
    refine (number_cons br bw s r _ hg1 hr1 (by have := hws.1; simp at this; omega) (hws.2 s (by simp)) h9).mono ?_
    rintro e w2 ⟨hk2, hr2, he⟩
    have hk2' : Kept (fun x => x = br ∨ x = b) w w2 := (Kept.drewN _ w n1).trans (hk2.mono fun _ _ h => .inl h)
    have hC2 : CalIn w2 b o T pre post c := hC1.kept hk2 (fun e => hne e.symm)
    cases hn : numOf s with
    | none =>
      rw [hn] at he
      subst he
      have hrd : rd ⟨0, m, k⟩ (s :: r) c = none := by simp [rd, hn]
      have H := Lib.hid hrd; clear hn hrd
      go_wp2
      exact ⟨rfl, hk2', by rw [H.out]⟩
    | some v =>
      rw [hn] at he
      subst he
      have hrd : rd ⟨0, m, k⟩ (s :: r) c = some (r, c.setI k v) := by simp [rd, hn]
      have H := Lib.hid hrd; clear hn hrd
      have hold := hC2.cell (c.cellI hk)
      have hfz := hC2.frozen (o + k)
      go_wp2
      go_end0
      refine ⟨hk2'.trans (Kept.setCell (S := fun x => x = br ∨ x = b) w2 (p := ⟨b, o + k, none⟩) (.inr rfl) _), ?_⟩
      rw [H.out]
      exact ⟨rfl, hr2.kept (Kept.setCell (S := (· = b)) w2 (p := ⟨b, o + k, none⟩) rfl _) hne hnw, hC2.set (c.cells_setI v hk) (isI_lt hk)⟩

set_option maxHeartbeats 400000 in
theorem txtRead (lo hi bo m k : Nat) (ov : Value) (w : World) (hk : isS k = true) (hc : w.cell? ⟨bo, 0, none⟩ = some ov) (hof : Of lo hi w ov k) (hg : Glob w)
    (br bw b o : Nat) (ws : List (List UInt8)) (T : TypeId) (pre post : List Value) (c : Cal) (hr : Reader w br bw ws) (hC : CalIn w b o T pre post c) (hne : br ≠ b) (hnw : bw ≠ b) (h9 : 9 ≤ br) (hws : WsFit ws) :
    Calls Tryz.prog 118 #[.pointer (some ⟨br, 0, none⟩), .pointer (some ⟨b, o, none⟩), .pointer (some ⟨bo, 0, none⟩)] w (RdPost ⟨1, m, k⟩ ws c br bw b o T pre post w) := by
  obtain ⟨F, caps, rfl, hE, hF⟩ := hof
  have hF := hF w (SameIn.refl _ _ _) b o
  unfold Ent at hE
  go_enter Tryz.func118, Tryz.ntmps118
  go_wp2_with fail
  refine hF.mono ?_
  rintro e w1 ⟨rfl, n1, rfl⟩
  have hr1 := hr.drewN n1
  have hg1 := hg.drewN n1
  have hC1 := hC.drewN n1
  cases ws with
  | nil =>
    go_wp2_with (go_at_call 78; refine (text_nil br bw _ hr1).mono ?_; rintro e w' ⟨rfl, rfl⟩)
    exact ⟨rfl, Kept.drewN _ _ _, rfl⟩
  | cons s r =>
    go_wp2_with fail
    refine (text_any br bw s r _ hg1 hr1 (by have := hws.1; simp at this; omega) (hws.2 s (by simp)) h9).mono ?_
    rintro e w2 ⟨hk2, hr2, he⟩
    have hk2' : Kept (fun x => x = br ∨ x = b) w w2 := (Kept.drewN _ w n1).trans (hk2.mono fun _ _ h => .inl h)
    have hC2 : CalIn w2 b o T pre post c := hC1.kept hk2 (fun e => hne e.symm)
    cases hn : txtOf s with
    | none =>
      rw [hn] at he
      subst he
      have hrd : rd ⟨1, m, k⟩ (s :: r) c = none := by simp [rd, hn]
      have H := Lib.hid hrd; clear hn hrd
      go_wp2
      exact ⟨rfl, hk2', by rw [H.out]⟩
    | some v =>
      rw [hn] at he
      subst he
      have hrd : rd ⟨1, m, k⟩ (s :: r) c = some (r, c.setS k v) := by simp [rd, hn]
      have H := Lib.hid hrd; clear hn hrd
      have hold := hC2.cell (c.cellS hk)
      have hfz := hC2.frozen (o + k)
      unfold vS
      go_wp2
      go_end0
      refine ⟨hk2'.trans (Kept.setCell (S := fun x => x = br ∨ x = b) w2 (p := ⟨b, o + k, none⟩) (.inr rfl) _), ?_⟩
      rw [H.out]
      exact ⟨rfl, hr2.kept (Kept.setCell (S := (· = b)) w2 (p := ⟨b, o + k, none⟩) rfl _) hne hnw, hC2.set (c.cells_setS v hk) (isS_lt hk)⟩

set_option maxHeartbeats 400000 in
theorem dirRead (m k : Nat) (w : World)
    (br bw b o : Nat) (ws : List (List UInt8)) (T : TypeId) (pre post : List Value) (c : Cal) (hr : Reader w br bw ws) (hC : CalIn w b o T pre post c) (hne : br ≠ b) (hnw : bw ≠ b) (hws : WsFit ws) :
    Calls Tryz.prog 120 #[.pointer (some ⟨br, 0, none⟩), .pointer (some ⟨b, o, none⟩)] w (RdPost ⟨2, m, k⟩ ws c br bw b o T pre post w) := by
  cases ws with
  | nil =>
    go_enter Tryz.func120, Tryz.ntmps120
    go_wp2_with (go_at_call 60; refine (word_nil br bw _ hr).mono ?_; rintro e w' ⟨rfl, rfl⟩)
    exact ⟨rfl, Kept.refl _ _, rfl⟩
  | cons s r =>
    go_enter Tryz.func120, Tryz.ntmps120
    go_wp2_with fail
    refine (word_cons br bw s r _ hr (by have := hws.1; simp at this; omega)).mono ?_
    rintro e w2 ⟨rfl, hr2, hk2⟩
    have hk2' : Kept (fun x => x = br ∨ x = b) w w2 := hk2.mono fun _ _ h => .inl h
    have hC2 : CalIn w2 b o T pre post c := hC.kept hk2 (fun e => hne e.symm)
    unfold vS
    by_cases h1 : s = wBidi
    · subst h1
      unfold wBidi
      go_wp2
      go_end0
      exact ⟨hk2', rfl, hr2, hC2⟩
    · have h1' : (s == [98, 105, 100, 105]) = false := beq_eq_false_iff_ne.2 h1
      by_cases h2 : s = wUni
      · have hrd : rd ⟨2, m, k⟩ (s :: r) c = some (r, c.setI 3 1) := by simp [rd, h2, wBidi, wUni, Cal.setI]
        have H := Lib.hid hrd; clear hrd
        have hold := hC2.cell (c.cellI (k := 3) rfl)
        have hfz := hC2.frozen (o + 3)
        subst h2
        clear h1 h1'
        unfold wUni at *
        go_wp2
        first | go_end0 | refine bodyPost_ret (results_none rfl _ _ _) rfl ?_
        refine ⟨hk2'.trans (Kept.setCell (S := fun x => x = br ∨ x = b) w2 (p := ⟨b, o + 3, none⟩) (.inr rfl) _), ?_⟩
        rw [H.out]
        exact ⟨rfl, hr2.kept (Kept.setCell (S := (· = b)) w2 (p := ⟨b, o + 3, none⟩) rfl _) hne hnw, hC2.set (c.cells_setI 1 rfl) (by decide)⟩
      · have h2' : (s == [117, 110, 105]) = false := beq_eq_false_iff_ne.2 h2
        have hrd : rd ⟨2, m, k⟩ (s :: r) c = none := by simp [rd, h1, h2]
        have H := Lib.hid hrd; clear hrd h1 h2
        go_wp2
        exact ⟨rfl, hk2', by rw [H.out]⟩
end Go.Proofs.YtikmoledbiepoaaGreatDoor

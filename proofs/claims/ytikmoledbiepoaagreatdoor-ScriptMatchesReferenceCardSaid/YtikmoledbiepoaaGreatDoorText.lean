/- strconv.ParseUint as the reader calls it; the reader reads a byte string. -/
import Derived.Test.YtikmoledbiepoaaGreatDoorPu
import Derived.Lib.BufferRead
namespace Go.Proofs.YtikmoledbiepoaaGreatDoor
open Go.RowKit

theorem pairs_append : ∀ (p q : List UInt8), p.length % 2 = 0 → pairs (p ++ q) = match pairs p, pairs q with | some a, some b => some (a ++ b) | _, _ => none
  | [], q, _ => by simp [pairs]; cases pairs q <;> rfl
  | [a], q, h => by simp at h
  | a :: b :: r, q, h => by
    have ih := pairs_append r q (by simp at h; omega)
    simp only [List.cons_append, pairs, ih]
    cases hexVal a <;> cases hexVal b <;> cases pairs r <;> cases pairs q <;> rfl
theorem pairs_step (s : List UInt8) (k : Nat) (h : 2 * k + 1 < s.length) : pairs (s.take (2 * (k + 1))) = match pairs (s.take (2 * k)), hx2 (s[2 * k]) (s[2 * k + 1]) with | some l, some v => some (l ++ [UInt8.ofNat v]) | _, _ => none := by
  have e : s.take (2 * (k + 1)) = s.take (2 * k) ++ [s[2 * k], s[2 * k + 1]] := by
    rw [show 2 * (k + 1) = 2 * k + 1 + 1 by omega, List.take_succ_eq_append_getElem h, List.take_succ_eq_append_getElem (by omega), List.append_assoc]
    rfl
  rw [e, pairs_append _ _ (by rw [List.length_take]; omega)]
  simp only [pairs, hx2]
  cases hexVal (s[2 * k]) <;> cases hexVal (s[2 * k + 1]) <;> cases pairs (s.take (2 * k)) <;> rfl
theorem pairs_take_none (s : List UInt8) (k : Nat) (h : pairs (s.take (2 * k)) = none) (hk : 2 * k ≤ s.length) : pairs s = none := by
  have := pairs_append (s.take (2 * k)) (s.drop (2 * k)) (by rw [List.length_take]; omega)
  rw [List.take_append_drop, h] at this
  rw [this]
theorem pairs_take_end (s : List UInt8) (k : Nat) (h : s.length ≤ 2 * k + 1) (hk : 2 * k ≤ s.length) : pairs s = pairs (s.take (2 * k)) := by
  have := pairs_append (s.take (2 * k)) (s.drop (2 * k)) (by rw [List.length_take]; omega)
  rw [List.take_append_drop] at this
  rw [this]
  have hd : (s.drop (2 * k)).length ≤ 1 := by rw [List.length_drop]; omega
  have : pairs (s.drop (2 * k)) = some [] := by
    match s.drop (2 * k), hd with
    | [], _ => rfl
    | [_], _ => rfl
  rw [this]
  cases pairs (s.take (2 * k)) <;> simp

theorem Glob.syn_cell {w : World} (h : Glob w) : ∃ tp p, w.cell? ⟨5, 0, none⟩ = some (.iface tp p) := by
  obtain ⟨tp, p, hv⟩ := h.syn
  refine ⟨tp, p, ?_⟩
  unfold World.var? at hv
  rw [g_syn] at hv
  simp only [Option.bind_some] at hv
  split at hv
  · rename_i cs el fr hb
    simp only [Option.some.injEq] at hv
    subst hv
    simp [World.cell?, hb]
  · cases hv

def PuPost2 (a b : UInt8) (w : World) (e : Ending) (w' : World) : Prop :=
  Ext w w' ∧ match hx2 a b with
    | some v => e = .returned (.tuple #[.int .u64 (v : Int), .nilIface])
    | none => ∃ (n : Int) (N : Nat), e = .returned (.tuple #[.int .u64 n, .iface 177 (.pointer (some ⟨N, 0, none⟩))])
set_option maxHeartbeats 400000 in
theorem pu_any (a b : UInt8) (w : World) (hg : Glob w) :
    Calls Tryz.prog 109 #[.string ⟨#[a, b]⟩, .int .i64 16, .int .i64 8] w (PuPost2 a b w) := by
  go_enter Tryz.func109, Tryz.ntmps109
  go_wp2_with fail
  refine (ipu a b w).mono ?_
  rintro e w1 ⟨rfl, he⟩
  have hx := ext_bytesWorld w ⟨#[a, b]⟩
  obtain ⟨tp, p, hs⟩ := (hg.ext hx).syn_cell
  cases hn : hx2 a b with
  | some v =>
    rw [hn] at he
    subst he
    have H := Lib.hid hn; clear hn
    go_wp2
    go_ret2
    exact ⟨hx, by rw [H.out]; rfl⟩
  | none =>
    rw [hn] at he
    subst he
    have H := Lib.hid hn; clear hn
    go_wp2_with fail
    refine (Tryz.strconv_toError_syntax _ _ _ _ _ _ (by simp [ByteArray.size]) hs (.inr ⟨_, _, rfl⟩)).mono ?_
    rintro e w2 ⟨N, rfl, _, _, hb⟩
    go_wp2
    go_ret2
    exact ⟨hx.trans hb, by rw [H.out]; exact ⟨_, _, rfl⟩⟩

def TxtPost (br bw : Nat) (s : List UInt8) (r : List (List UInt8)) (w : World) (e : Ending) (w' : World) : Prop :=
  Kept (· = br) w w' ∧ Reader w' br bw r ∧ match txtOf s with
    | some v => e = .returned (vS v)
    | none => e = wrongEnd
set_option maxHeartbeats 400000 in
theorem text_nil (br bw : Nat) (w : World) (hr : Reader w br bw []) : Calls Tryz.prog 78 #[.pointer (some ⟨br, 0, none⟩)] w fun e w' => e = wrongEnd ∧ w = w' := by
  go_enter Tryz.func78, Tryz.ntmps78
  go_wp2_with (go_at_call 60; refine (word_nil br bw w hr).mono ?_; rintro e w' ⟨rfl, rfl⟩)
  exact ⟨rfl, rfl, rfl⟩
set_option maxHeartbeats 400000 in
theorem text_dash (br bw : Nat) (r : List (List UInt8)) (w : World) (hr : Reader w br bw ([45] :: r)) (hl : r.length ≤ 4294967296) :
    Calls Tryz.prog 78 #[.pointer (some ⟨br, 0, none⟩)] w (TxtPost br bw [45] r w) := by
  go_enter Tryz.func78, Tryz.ntmps78
  go_wp2_with fail
  refine (word_cons br bw _ r w hr hl).mono ?_
  rintro e w1 ⟨rfl, hr1, hk1⟩
  unfold vS
  go_wp2
  go_ret
  exact ⟨hk1, hr1, rfl⟩
theorem extract2 (s : List UInt8) (k : Nat) (h : k + 1 < s.length) : (⟨s.toArray⟩ : ByteArray).extract k (k + 2) = ⟨#[s[k], s[k + 1]]⟩ := by
  apply ByteArray.ext
  apply Array.ext'
  rw [Lib.extract_data]
  show (s.drop k).take (k + 2 - k) = [s[k], s[k + 1]]
  rw [show k + 2 - k = 2 by omega, List.drop_eq_getElem_cons (by omega), List.drop_eq_getElem_cons h]
  rfl
theorem Ext.grown {w w' : World} (h : Ext w w') : w.grownBy w' none := ⟨h.os, h.tape, h.output, h.size, fun k hk _ => h.block k hk⟩
theorem ownsRow_ext {w w' : World} {base : Nat} {e : TypeId} {size : Nat} {v : Value} {n : Nat} {xs : List Value} (h : w.ownsRow base e size v n xs) (hx : Ext w w') : w'.ownsRow base e size v n xs :=
  h.kept hx.grown (by cases v.ownBlock <;> simp)
theorem run_string_own {w : World} {base : Nat} {v : Value} {l : List UInt8} (h : w.ownsRow base 5 1 v l.length (Lib.byteCells l)) : (convert 46 9 v).run Tryz.prog w = .ok (.string ⟨l.toArray⟩) w := by
  rcases h.2 with ⟨rfl, h0⟩ | ⟨g, cap, cur, rfl, _, hg, _, _, _, htk⟩
  · have : l = [] := List.length_eq_zero_iff.1 h0
    subst this
    exact Lib.run_convert_nil_bytes w 46 9 5 0 Tryz.und46 (by kernel_rfl) Tryz.und9
  · exact run_convert_bytes_back w 46 9 5 _ cap l Tryz.und46 (by kernel_rfl) Tryz.und9 (Lib.bytes_of_row hg (by simpa using htk))
theorem hx2_lt {a b : UInt8} {v : Nat} (h : hx2 a b = some v) : v < 256 := by
  unfold hx2 at h
  split at h
  · rename_i x y hx hy
    have h1 := hexValN_lt (by rw [← hexVal_low]; exact hx)
    have h2 := hexValN_lt (by rw [← hexVal_low]; exact hy)
    simp at h; omega
  · cases h
theorem cellsB (l : List UInt8) : (Lib.byteCells l).length = l.length := by simp [Lib.byteCells]
set_option maxHeartbeats 1000000 in
set_option maxRecDepth 100000 in
theorem text_cons (br bw : Nat) (s : List UInt8) (r : List (List UInt8)) (w : World) (hg : Glob w) (hr : Reader w br bw (s :: r)) (hl : r.length ≤ 4294967296) (hs : s.length ≤ 4294967296) (h9 : 9 ≤ br) (h45 : s ≠ [45]) :
    Calls Tryz.prog 78 #[.pointer (some ⟨br, 0, none⟩)] w (TxtPost br bw s r w) := by
  obtain ⟨i0, hi, hz0, hz1, hz2⟩ := info_parts Tryz.info5
  have h45' : (s == [45]) = false := beq_eq_false_iff_ne.2 h45
  go_enter Tryz.func78, Tryz.ntmps78
  go_wp2_with fail
  refine (word_cons br bw s r w hr hl).mono ?_
  rintro e w1 ⟨rfl, hr1, hk1⟩
  unfold vS
  go_wp2_with (at_make; refine wpList_make_own _ rfl _ _ 46 rfl w1.heap.size 5 i0 (.int .u8 0) 1 Tryz.und46 hi hz0 hz1 _ _ _ (s.length / 2) rfl rfl (by omega) (by rw [hz2]; omega) (by unfold maxLen; omega) (Nat.le_refl _) ?_; intro w2 hown2 hgrow2)
  have hb2 : Below w1.heap.size w1 w2 := (Below.refl _ _).grown hgrow2 (Nat.le_refl _) (by intro k hk; cases hk)
  have hx : w1.heap.size ≤ w2.heap.size := hb2.size
  go_loopw [4, 5] (fun v i wr => ∃ (k : Nat) (l : List UInt8), 2 * k ≤ s.length ∧ i = .int .i64 (2 * k : Nat) ∧ Hid (pairs (s.take (2 * k)) = some l) ∧ l.length ≤ k ∧ wr.ownsRow w1.heap.size 5 1 v l.length (Lib.byteCells l) ∧ Below w1.heap.size w1 wr)
    (fun _ i _ => s.length - (intOf i).toNat)
  case atStart => exact ⟨0, [], by omega, rfl, rfl, Nat.le_refl _, hown2, hb2⟩
  case round =>
    obtain ⟨k, l, hk, rfl, HP, hlk, hown, hb⟩ := hrel
    by_cases hlt : 2 * k + 1 < s.length
    · have hgw : Glob wr := (hg.kept hk1 (by omega)).ext hb
      have hst := pairs_step s k hlt
      have hmul : ((2 * k : Nat) : Int) = 2 * (k : Int) := by omega
      go_wp2_with fail
      rw [extract2 s (2 * k) hlt]
      refine (pu_any _ _ wr hgw).mono ?_
      rintro e w3 ⟨hx3, he⟩
      have hb3 : Below w1.heap.size w1 w3 := hb.trans (Below.mono hx3 hb.size)
      have hown3 := ownsRow_ext hown hx3
      cases hn : hx2 (s[2 * k]) (s[2 * k + 1]) with
      | none =>
        rw [hn] at he
        obtain ⟨n, N, rfl⟩ := he
        rw [hn, HP.out] at hst
        have hN := Lib.hid (pairs_take_none s (k + 1) hst (by omega))
        clear hst hn HP hmul
        go_wp2
        exact ⟨rfl, hk1.trans (Kept.of_below (S := (· = br)) hb3), hr1.ext hb3, by rw [txtOf, if_neg h45, hN.out]⟩
      | some v =>
        rw [hn] at he
        subst he
        rw [hn, HP.out] at hst
        have hv : v < 256 := hx2_lt hn
        have HS := Lib.hid hst
        clear hst hn HP
        have hcb : Lib.byteCells (l ++ [UInt8.ofNat v]) = Lib.byteCells l ++ [.int .u8 (v : Int)] := by
          simp [Lib.byteCells, UInt8.toNat_ofNat', Nat.mod_eq_of_lt hv]
        have HC := Lib.hid hcb
        clear hcb
        go_wp2_with (at_builtin; refine wpList_append_own _ rfl _ _ 46 rfl w1.heap.size 5 i0 (.int .u8 0) 1 1 Tryz.und46 hi hz0 hz1 hz2 rfl (by decide) _ _ _ rfl (hown3.alloc _) ⟨w3.heap.size, 0, none⟩ 1 1 [.int .u8 (v : Int)] rfl rfl ?c1 ?c2 ?c3 ?c4 ?c5 ?_)
        case c1 =>
          intro j u hj
          match j, hj with
          | 0, hj => simp at hj; subst hj; simp [Addr.add]
        case c2 => intro u hu; simp at hu; subst hu; rfl
        case c3 => unfold maxLen; omega
        case c4 => omega
        case c5 => have := hb3.size; simp; omega
        intro v' w4 hown4 hgrow4 _
        go_wp2
        refine ⟨⟨k + 1, l ++ [UInt8.ofNat v], by omega, by rw [show (2 * (k : Int) + 2) = ((2 * (k + 1) : Nat) : Int) by omega], HS, by simpa using hlk, ?_, ?_⟩, by simp [intOf]; omega⟩
        · rw [HC.out]; simpa using hown4
        · exact (hb3.alloc hb3.size _).grown hgrow4 (by have := hb3.size; simp; omega) (fun k hk => (hown3.lt k hk).1)
    · have hrun := run_string_own hown
      have hk1' : Kept (· = br) w wr := hk1.trans (Kept.of_below (S := (· = br)) hb)
      have hr1' := hr1.ext hb
      have hP := Lib.hid ((pairs_take_end s k (by omega) hk).trans HP.out)
      clear HP
      go_wp2_with fail
      refine (hex_any l wr (by omega)).mono ?_
      rintro e w5 ⟨rfl, hb5⟩
      have hk5 : Kept (· = br) w w5 := hk1'.trans (Kept.of_below (S := (· = br)) hb5)
      have hr5 := hr1'.ext hb5
      clear hrun
      by_cases heq : hexB l = s
      · have heq' : (hexB l == s) = true := beq_iff_eq.2 heq
        have HE := Lib.hid heq
        clear heq
        go_wp2
        go_ret
        exact ⟨hk5, hr5, by rw [txtOf, if_neg h45, hP.out]; simp only [if_pos HE.out]; rfl⟩
      · have heq' : (hexB l == s) = false := beq_eq_false_iff_ne.2 heq
        have HE := Lib.hid heq
        clear heq
        go_wp2
        exact ⟨rfl, hk5, hr5, by rw [txtOf, if_neg h45, hP.out]; simp only [if_neg HE.out]⟩
theorem text_any (br bw : Nat) (s : List UInt8) (r : List (List UInt8)) (w : World) (hg : Glob w) (hr : Reader w br bw (s :: r)) (hl : r.length ≤ 4294967296) (hs : s.length ≤ 4294967296) (h9 : 9 ≤ br) :
    Calls Tryz.prog 78 #[.pointer (some ⟨br, 0, none⟩)] w (TxtPost br bw s r w) := by
  by_cases h : s = [45]
  · subst h; exact text_dash br bw r w hr hl
  · exact text_cons br bw s r w hg hr hl hs h9 h
end Go.Proofs.YtikmoledbiepoaaGreatDoor

/- strconv.ParseUint at two bytes, base 16, eight bits. -/
import Derived.Test.YtikmoledbiepoaaGreatDoorRead
import Derived.Lib.ConvBytes
import Derived.BigCall
import Derived.BigGuard
namespace Go.Proofs.YtikmoledbiepoaaGreatDoor
open Go.RowKit

/-- The class of a byte, as ParseUint at base 16 sees it. -/
def lowN (n : Nat) : Nat := n ||| 32
theorem low_bits (n : Nat) (h : n < 256) : bits BinOp.or IntKind.u8 (n : Int) 32 = ((lowN n : Nat) : Int) := by
  have : ∀ m : Fin 256, bits BinOp.or IntKind.u8 (m.1 : Int) 32 = ((lowN m.1 : Nat) : Int) := by decide +kernel
  exact this ⟨n, h⟩
def hexValN (n : Nat) : Option Nat :=
  if 48 ≤ n ∧ n ≤ 57 then some (n - 48) else if 97 ≤ lowN n ∧ lowN n ≤ 102 then some (lowN n - 87) else none
theorem hexVal_low (c : UInt8) : hexVal c = hexValN c.toNat := by
  have : ∀ m : Fin 256, hexVal (UInt8.ofNat m.1) = hexValN m.1 := by decide +kernel
  have h := this ⟨c.toNat, c.toNat_lt⟩
  simpa using h
theorem lowN_lt (n : Nat) (h : n < 256) : lowN n < 256 := by
  have : ∀ m : Fin 256, lowN m.1 < 256 := by decide +kernel
  exact this ⟨n, h⟩
theorem lower_at (n : Nat) (w : World) (h : n < 256) : Calls Tryz.prog 148 #[.int .u8 (n : Int)] w fun e w' => e = .returned (.int .u8 ((lowN n : Nat) : Int)) ∧ w = w' := by
  refine (Tryz.internal_strconv_lower (n : Int) w).mono ?_
  rintro e w' ⟨rfl, rfl⟩
  exact ⟨by rw [low_bits n h], rfl⟩

theorem lower_95 (w : World) : Calls Tryz.prog 148 #[.int .u8 95] w fun e w' => e = .returned (.int .u8 127) ∧ w = w' := by
  refine (lower_at 95 w (by decide)).mono ?_
  rintro e w' ⟨rfl, rfl⟩
  exact ⟨rfl, rfl⟩

def hx2 (a b : UInt8) : Option Nat :=
  match hexVal a, hexVal b with
  | some x, some y => some (16 * x + y)
  | _, _ => none
def PuPost (a b : UInt8) (W : World) (e : Ending) (w' : World) : Prop :=
  w' = W ∧ match hx2 a b with
    | some v => e = .returned (.tuple #[.int .u64 (v : Int), .nilIface])
    | none => e = .returned (.tuple #[.int .u64 0, .iface 174 (.int .i64 2)])
theorem hexValN_lt {n x : Nat} (h : hexValN n = some x) : x < 16 := by
  unfold hexValN at h
  split at h
  · simp at h; omega
  · split at h
    · simp at h; omega
    · simp at h

def PuRel (a b : UInt8) (k : Nat) (acc : Int) : Prop :=
  (k = 0 ∧ acc = 0) ∨ (k = 1 ∧ ∃ x, hexVal a = some x ∧ acc = (x : Int)) ∨ (k = 2 ∧ ∃ v, hx2 a b = some v ∧ acc = (v : Int))

theorem pu_step {a b : UInt8} {k : Nat} {acc : Int} {W : World} {B : Nat} (h0 : W.cell? ⟨B, 0, none⟩ = some (.int .u8 a.toNat)) (h1 : W.cell? ⟨B, 1, none⟩ = some (.int .u8 b.toNat))
    (h : PuRel a b k acc) (hk : k < 2) : ∃ n : Nat, n < 256 ∧ W.cell? ⟨B, k, none⟩ = some (.int .u8 (n : Int)) ∧ 0 ≤ acc ∧ acc ≤ 15 ∧
      (∀ x : Nat, hexValN n = some x → PuRel a b (k + 1) (acc * 16 + x)) ∧ (hexValN n = none → hx2 a b = none) := by
  rcases h with ⟨rfl, rfl⟩ | ⟨rfl, x, hx, rfl⟩ | ⟨rfl, _⟩
  · refine ⟨a.toNat, a.toNat_lt, h0, by omega, by omega, fun x hx => ?_, fun hx => ?_⟩
    · exact .inr (.inl ⟨rfl, x, by rw [hexVal_low]; exact hx, by omega⟩)
    · unfold hx2; rw [hexVal_low, hx]
  · have hlt : x < 16 := hexValN_lt (by rw [← hexVal_low]; exact hx)
    refine ⟨b.toNat, b.toNat_lt, h1, by omega, by omega, fun y hy => ?_, fun hy => ?_⟩
    · refine .inr (.inr ⟨rfl, 16 * x + y, ?_, by omega⟩)
      unfold hx2; rw [hx, hexVal_low b, hy]
    · unfold hx2; rw [hx, hexVal_low b, hy]
  · omega

set_option maxHeartbeats 4000000 in
set_option maxRecDepth 100000 in
theorem ipu (a b : UInt8) (w : World) :
    Calls Tryz.prog 134 #[.string ⟨#[a, b]⟩, .int .i64 16, .int .i64 8] w (PuPost a b (Lib.bytesWorld w 5 ⟨#[a, b]⟩)) := by
  have hcv := Lib.run_convert_string_bytes (P := Tryz.prog) w 9 46 5 ⟨#[a, b]⟩ (u := .string) (by kernel_rfl) (by kernel_rfl) (by kernel_rfl)
  have hB0 : (Lib.bytesWorld w 5 ⟨#[a, b]⟩).cell? ⟨w.heap.size, 0, none⟩ = some (.int .u8 a.toNat) := Lib.bytesWorld_cell w 5 ⟨#[a, b]⟩ 0 (by simp [ByteArray.size])
  have hB1 : (Lib.bytesWorld w 5 ⟨#[a, b]⟩).cell? ⟨w.heap.size, 1, none⟩ = some (.int .u8 b.toNat) := Lib.bytesWorld_cell w 5 ⟨#[a, b]⟩ 1 (by simp [ByteArray.size])
  have hsz : (⟨#[a, b]⟩ : ByteArray).size = 2 := rfl
  rw [hsz] at hcv
  obtain ⟨W1, hW1⟩ : ∃ W1, W1 = Lib.bytesWorld w 5 ⟨#[a, b]⟩ := ⟨_, rfl⟩
  rw [← hW1] at hcv hB0 hB1 ⊢
  clear hW1 hsz
  have hmv : IntKind.u64.wrap (IntKind.u64.wrap 256 - 1) = 255 := by
    rw [IntKind.wrap_u64, IntKind.wrap_u64]
    decide
  go_enter Tryz.func134, Tryz.ntmps134
  go_wp2
  go_loop [12, 13, 101] (fun vu vn vi => ∃ (k : Nat) (acc : Int), vu = .bool false ∧ vn = .int .u64 acc ∧ vi = .int .i64 k ∧ k ≤ 2 ∧ Hid (PuRel a b k acc))
    (fun _ _ vi => 2 - (intOf vi).toNat)
  case atStart => exact ⟨0, 0, rfl, rfl, rfl, by omega, .inl ⟨rfl, rfl⟩⟩
  case round =>
    obtain ⟨k, acc, rfl, rfl, rfl, hk, hh⟩ := hrel
    by_cases hk2 : k < 2
    · obtain ⟨n, hn, hc, ha0, ha1, hnext, hfail⟩ := pu_step hB0 hB1 hh.out hk2
      clear hh hB0 hB1
      have hl := lowN_lt n hn
      by_cases hd : 48 ≤ n ∧ n ≤ 57
      · have HN := Lib.hid (hnext (n - 48) (by simp [hexValN, hd]))
        clear hnext hfail
        obtain ⟨hd0, hd1⟩ := hd
        go_wp2
        go_round
        case rel => exact ⟨k + 1, acc * 16 + ((n - 48 : Nat) : Int), rfl, by first | rfl | (congr 1; omega), by go_num, by omega, HN⟩
        case measure => simp [intOf]; omega
      · by_cases h95 : n = 95
        · subst h95
          have HN := Lib.hid (hfail (by decide))
          clear hnext hfail hd hl
          go_wp2_with (go_at_call 148; refine (lower_95 _).mono ?_; rintro e w' ⟨rfl, rfl⟩)
          go_ret2
          exact ⟨rfl, by rw [HN.out]; rfl⟩
        have h95' : ((n : Int) == 95) = false := beq_eq_false_iff_ne.2 (by omega)
        clear h95
        by_cases hlow : 97 ≤ lowN n ∧ lowN n ≤ 102
        · have HN := Lib.hid (hnext (lowN n - 87) (by simp [hexValN, hd, hlow]))
          clear hnext hfail
          obtain ⟨hd0, hd1⟩ := hlow
          by_cases h48 : 48 ≤ n
          · have h57 : ¬ (n : Int) ≤ 57 := by omega
            clear hd
            go_wp2_with (go_at_call 148; refine (lower_at n _ hn).mono ?_; rintro e w' ⟨rfl, rfl⟩)
            go_round
            case rel => exact ⟨k + 1, acc * 16 + ((lowN n - 87 : Nat) : Int), rfl, by first | rfl | (congr 1; omega), by go_num, by omega, HN⟩
            case measure => simp [intOf]; omega
          · clear hd
            go_wp2_with (go_at_call 148; refine (lower_at n _ hn).mono ?_; rintro e w' ⟨rfl, rfl⟩)
            go_round
            case rel => exact ⟨k + 1, acc * 16 + ((lowN n - 87 : Nat) : Int), rfl, by first | rfl | (congr 1; omega), by go_num, by omega, HN⟩
            case measure => simp [intOf]; omega
        · have HN := Lib.hid (hfail (by simp only [hexValN, if_neg hd, if_neg hlow]))
          clear hnext hfail
          have hd' : n < 48 ∨ 57 < n := by omega
          have hl' : lowN n < 97 ∨ 102 < lowN n := by omega
          clear hd hlow
          rcases hd' with hd' | hd' <;> rcases hl' with hl' | hl'
          all_goals
            go_wp2_with (go_at_call 148; refine (lower_at n _ hn).mono ?_; rintro e w' ⟨rfl, rfl⟩)
            all_goals
              go_ret2
              exact ⟨rfl, by rw [HN.out]; rfl⟩
    · have hk3 : k = 2 := by omega
      subst hk3
      have hacc : Hid (∃ v, hx2 a b = some v ∧ acc = (v : Int)) := by
        rcases hh.out with ⟨h, _⟩ | ⟨h, _⟩ | ⟨_, h⟩
        · omega
        · omega
        · exact h
      clear hh
      go_wp2
      go_ret2
      obtain ⟨v, h1, rfl⟩ := hacc.out
      exact ⟨rfl, by rw [h1]; rfl⟩
end Go.Proofs.YtikmoledbiepoaaGreatDoor

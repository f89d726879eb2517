/- The leaf functions of package script that every claim of this seat walks through: within, the Builder's writing methods, hex. -/
import Derived.Test.YtikmoledbiepoaaGreatDoorShelf
import Derived.Test.YtikmoledbiepoaaGreatDoorPlain
import Derived.WalkKit
import Derived.WalkSpells
import Derived.WalkLawsBesides
namespace Go.Proofs.YtikmoledbiepoaaGreatDoor
open Go.RowKit

theorem Tryz.info5 : (Tryz.prog.info? 5).map (fun i => (i.zero, i.size, i.bytes)) = some (some (.int .u8 0), 1, 1) := by kernel_rfl
theorem Tryz.info67s : (Tryz.prog.info? 67).map (fun i => i.size) = some 2 := by kernel_rfl
theorem Tryz.und65 : Tryz.prog.underlying 65 = some (.pointer 67) := by kernel_rfl
theorem Tryz.und46 : Tryz.prog.underlying 46 = some (.slice 5) := by kernel_rfl
theorem Tryz.und9 : Tryz.prog.underlying 9 = some .string := by kernel_rfl

set_option maxHeartbeats 400000 in
theorem within_any (a b : Int) (w : World) :
    Calls Tryz.prog 44 #[.int .i64 a, .int .i64 b] w fun e w' => e = .returned (.bool (decide (0 ≤ a) && decide (a ≤ b))) ∧ w = w' := by
  by_cases h : 0 ≤ a
  · go_enter Tryz.func44, Tryz.ntmps44
    go_wp2
    go_ret
    exact ⟨by simp [h], rfl⟩
  · go_enter Tryz.func44, Tryz.ntmps44
    go_wp2
    go_ret
    exact ⟨by simp; omega, rfl⟩

set_option maxHeartbeats 1000000 in
set_option maxRecDepth 100000 in
theorem copyCheck_used (b : Nat) (w : World) (h0 : w.cell? ⟨b, 0, none⟩ = some (.pointer (some ⟨b, 0, none⟩))) :
    Calls Tryz.prog 47 #[.pointer (some ⟨b, 0, none⟩)] w fun e w' => e = .returned (.tuple #[]) ∧ w = w' := by
  obtain ⟨j, hj, hjs⟩ := Option.map_eq_some_iff.1 Tryz.info67s
  go_enter Tryz.func47, Tryz.ntmps47
  go_wp2
  rw [Lib.run_neq_ptr_same w _ Tryz.und65 hj]
  go_wp2
  go_end0
  exact ⟨rfl, rfl⟩

set_option maxHeartbeats 1000000 in
set_option maxRecDepth 100000 in
theorem copyCheck_fresh (b : Nat) (w : World) (h0 : w.cell? ⟨b, 0, none⟩ = some (.pointer none)) (hsh : w.shape? b = some (67, 2)) (hfz : w.frozen? ⟨b, 0, none⟩ = false) :
    Calls Tryz.prog 47 #[.pointer (some ⟨b, 0, none⟩)] w fun e w' => e = .returned (.tuple #[]) ∧ w' = w.setCell ⟨b, 0, none⟩ (.pointer (some ⟨b, 0, none⟩)) := by
  obtain ⟨j, hj, hjs⟩ := Option.map_eq_some_iff.1 Tryz.info67s
  go_enter Tryz.func47, Tryz.ntmps47
  go_wp2
  rw [Lib.run_to_unsafe w ⟨b, 0, none⟩ (by kernel_rfl) (by kernel_rfl) hj (by rw [hjs]; decide) hsh (Nat.zero_lt_succ 1)]
  simp only [Result.andThen]
  rw [Oper.upon_value]
  go_wp2
  rw [run_callFunc_extern Tryz.func72 (by kernel_rfl) (by kernel_rfl) (by kernel_rfl) (e := Extern.AbiNoEscape.same) (by kernel_rfl)]
  rw [Lib.run_noEscape]
  simp only [Result.andThen]
  rw [Oper.upon_value]
  go_wp2
  rw [Lib.run_from_unsafe w ⟨b, 0, none⟩ (by kernel_rfl) (by kernel_rfl) hj hsh (by kernel_rfl)]
  simp only [Result.andThen]
  rw [Oper.upon_value]
  go_wp2
  go_end0
  exact ⟨rfl, rfl⟩

theorem copyCheck_any (B b : Nat) (bs : List Value) (w : World) (h : Lib.IsBuilder 67 5 B b bs w) :
    Calls Tryz.prog 47 #[.pointer (some ⟨b, 0, none⟩)] w fun e w' => e = .returned (.tuple #[]) ∧ (Lib.BuilderAt 67 5 B b (.pointer (some ⟨b, 0, none⟩)) bs w' ∧ Below B w w') := by
  rcases h with h | h
  · refine (copyCheck_fresh b w h.cell0 h.shape h.frozen0).mono ?_
    rintro e w' ⟨rfl, rfl⟩
    exact ⟨rfl, h.used _, (Below.refl B w).setCell (p := ⟨b, 0, none⟩) h.1 _⟩
  · refine (copyCheck_used b w h.cell0).mono ?_
    rintro e w' ⟨rfl, rfl⟩
    exact ⟨rfl, h, Below.refl B _⟩

set_option maxHeartbeats 1000000 in
set_option maxRecDepth 100000 in
theorem WriteByte_any (B b : Nat) (bs : List Value) (c : Int) (w : World) (h : Lib.IsBuilder 67 5 B b bs w) (hlen : bs.length + 1 ≤ 140737488355328) (hBw : B ≤ w.heap.size) :
    Calls Tryz.prog 71 #[.pointer (some ⟨b, 0, none⟩), .int .u8 c] w fun e w' => e = .returned .nilIface ∧ (Lib.BuilderAt 67 5 B b (.pointer (some ⟨b, 0, none⟩)) (bs ++ [.int .u8 c]) w' ∧ Below B w w') := by
  obtain ⟨i0, hi, hz0, hz1, hz2⟩ := info_parts Tryz.info5
  go_enter Tryz.func71, Tryz.ntmps71
  go_wp2_with (go_at_call 47; refine (copyCheck_any B b bs _ h).mono ?_)
  rintro e w1 ⟨rfl, h1, hb1⟩
  obtain ⟨hB, v, hbk, hown, hne⟩ := h1
  have c0 : w1.cell? ⟨b, 0, none⟩ = some (.pointer (some ⟨b, 0, none⟩)) := by rw [Lib.cell_of_heap hbk]; rfl
  have c1 : w1.cell? ⟨b, 1, none⟩ = some v := by rw [Lib.cell_of_heap hbk]; rfl
  go_wp2_with (at_builtin; refine wpList_append_own _ rfl _ _ 46 rfl B 5 i0 (.int .u8 0) 1 1 Tryz.und46 hi hz0 hz1 hz2 rfl (by decide) _ _ _ rfl (hown.alloc _) ⟨w1.heap.size, 0, none⟩ 1 1 [.int .u8 c] rfl rfl ?c1 ?c2 ?c3 ?c4 ?c5 ?_)
  case c1 =>
    intro j u hj
    match j, hj with
    | 0, hj => simp at hj; subst hj; simp [Addr.add]
  case c2 => intro u hu; simp at hu; subst hu; rfl
  case c3 => unfold maxLen; omega
  case c4 => omega
  case c5 => have := hb1.size; simp; omega
  intro v' w2 hown' hgrow _
  have hlt : b < w1.heap.size := by
    rcases Nat.lt_or_ge b w1.heap.size with h' | h'
    · exact h'
    · simp [Array.getElem?_eq_none h'] at hbk
  have hb2 : w2.heap[b]? = some (.cells #[.pointer (some ⟨b, 0, none⟩), v] 67 (0, 0)) := by
    rw [hgrow.block b (by simp; omega) (fun e => hne e.symm), Lib.alloc_old w1 _ b hlt]
    exact hbk
  have d0 : w2.cell? ⟨b, 0, none⟩ = some (.pointer (some ⟨b, 0, none⟩)) := by rw [Lib.cell_of_heap hb2]; rfl
  have d1 : w2.cell? ⟨b, 1, none⟩ = some v := by rw [Lib.cell_of_heap hb2]; rfl
  have f1 : w2.frozen? ⟨b, 1, none⟩ = false := Lib.frozen_of_heap hb2 1
  obtain ⟨g, cap, rfl⟩ : ∃ g cap, v' = .slice (some ⟨g, 0, none⟩) (bs.length + 1) cap := by
    rcases hown'.2 with ⟨_, h0⟩ | ⟨g, cap, cur, hv, _⟩
    · omega
    · exact ⟨g, cap, hv⟩
  go_wp2
  go_ret
  refine ⟨rfl, ?_, ?_⟩
  · exact Lib.BuilderAt.put (T := 67) (e := 5) hB hb2 (bs' := bs ++ [.int .u8 c]) (by simpa using hown') (by decide)
  · exact ((hb1.alloc (by have := hb1.size; omega) _).grown hgrow (by have := hb1.size; simp; omega) (fun k hk => (hown.lt k hk).1)).setCell (p := ⟨b, 1, none⟩) hB _

set_option maxHeartbeats 1000000 in
set_option maxRecDepth 100000 in
theorem WriteString_any (B b : Nat) (bs : List Value) (s : ByteArray) (w : World) (h : Lib.IsBuilder 67 5 B b bs w) (hlen : bs.length + s.size ≤ 140737488355328) (hBw : B ≤ w.heap.size) :
    Calls Tryz.prog 29 #[.pointer (some ⟨b, 0, none⟩), .string s] w fun e w' => e = .returned (.tuple #[.int .i64 s.size, .nilIface]) ∧ (Lib.BuilderAt 67 5 B b (.pointer (some ⟨b, 0, none⟩)) (bs ++ Lib.strCells s) w' ∧ Below B w w') := by
  obtain ⟨i0, hi, hz0, hz1, hz2⟩ := info_parts Tryz.info5
  go_enter Tryz.func29, Tryz.ntmps29
  go_wp2_with (go_at_call 47; refine (copyCheck_any B b bs _ h).mono ?_)
  rintro e w1 ⟨rfl, h1, hb1⟩
  obtain ⟨hB, v, hbk, hown, hne⟩ := h1
  have c0 : w1.cell? ⟨b, 0, none⟩ = some (.pointer (some ⟨b, 0, none⟩)) := by rw [Lib.cell_of_heap hbk]; rfl
  have c1 : w1.cell? ⟨b, 1, none⟩ = some v := by rw [Lib.cell_of_heap hbk]; rfl
  go_wp2_with (at_builtin; refine Lib.wpList_append_own_string _ rfl _ _ 46 9 rfl B 5 i0 Tryz.und46 Tryz.und9 hi hz0 hz1 hz2 _ _ _ rfl hown s rfl ?c3 ?c4 ?c5 ?_)
  case c3 => unfold maxLen; omega
  case c4 => omega
  case c5 => have := hb1.size; omega
  intro v' w2 hown' hgrow _
  have hlt : b < w1.heap.size := by
    rcases Nat.lt_or_ge b w1.heap.size with h' | h'
    · exact h'
    · simp [Array.getElem?_eq_none h'] at hbk
  have hb2 : w2.heap[b]? = some (.cells #[.pointer (some ⟨b, 0, none⟩), v] 67 (0, 0)) := by
    rw [hgrow.block b hlt (fun e => hne e.symm)]
    exact hbk
  have d0 : w2.cell? ⟨b, 0, none⟩ = some (.pointer (some ⟨b, 0, none⟩)) := by rw [Lib.cell_of_heap hb2]; rfl
  have d1 : w2.cell? ⟨b, 1, none⟩ = some v := by rw [Lib.cell_of_heap hb2]; rfl
  have f1 : w2.frozen? ⟨b, 1, none⟩ = false := Lib.frozen_of_heap hb2 1
  obtain ⟨ao, n', cap, rfl⟩ : ∃ ao n' cap, v' = .slice ao n' cap := by
    rcases hown'.2 with ⟨hv, _⟩ | ⟨g, cap, cur, hv, _⟩
    · exact ⟨_, _, _, hv⟩
    · exact ⟨_, _, _, hv⟩
  go_wp2
  go_ret2
  refine ⟨rfl, ?_, ?_⟩
  · exact Lib.BuilderAt.put (T := 67) (e := 5) hB hb2 (bs' := bs ++ Lib.strCells s) (by simpa [Lib.strCells_length] using hown') (by decide)
  · exact (hb1.grown hgrow (by have := hb1.size; omega) (fun k hk => (hown.lt k hk).1)).setCell (p := ⟨b, 1, none⟩) hB _

theorem dig_at (n : Nat) (h : n < (⟨#[48, 49, 50, 51, 52, 53, 54, 55, 56, 57, 97, 98, 99, 100, 101, 102]⟩ : ByteArray).size) : (⟨#[48, 49, 50, 51, 52, 53, 54, 55, 56, 57, 97, 98, 99, 100, 101, 102]⟩ : ByteArray)[n] = dig n := by
  have h' : n < 16 := h
  have : ∀ m : Fin 16, (⟨#[48, 49, 50, 51, 52, 53, 54, 55, 56, 57, 97, 98, 99, 100, 101, 102]⟩ : ByteArray)[m.1]'(m.2) = dig m.1 := by decide
  exact this ⟨n, h'⟩
theorem byteAt (s : List UInt8) (k : Nat) (_h : k < (⟨s.toArray⟩ : ByteArray).size) (h' : k < s.length) : (⟨s.toArray⟩ : ByteArray)[k] = s[k] := rfl
set_option maxHeartbeats 400000 in
set_option maxRecDepth 100000 in
theorem hex_some (s : List UInt8) (w : World) (h0 : s ≠ []) (hs : s.length ≤ 4294967296) :
    Calls Tryz.prog 46 #[.string ⟨s.toArray⟩] w fun e w' => e = .returned (.string ⟨(hexAll s).toArray⟩) ∧ Below w.heap.size w w' := by
  have he : s.isEmpty = false := by simpa using h0
  go_enter Tryz.func46, Tryz.ntmps46
  go_wp2
  go_loopw [9] (fun i wr => ∃ k : Nat, k ≤ s.length ∧ i = .int .i64 k ∧ Lib.IsBuilder 67 5 w.heap.size w.heap.size (Lib.byteCells (hexAll (s.take k))) wr ∧ Below w.heap.size w wr) (fun i _ => s.length - (intOf i).toNat)
  case atStart => exact ⟨0, Nat.zero_le _, rfl, Lib.fresh_isBuilder 67 5 w, (Below.refl _ _).alloc (Nat.le_refl _) _⟩
  case round =>
    obtain ⟨k, hk, rfl, hB, hb⟩ := hrel
    by_cases hlt : k < s.length
    · have hk' : k < (⟨s.toArray⟩ : ByteArray).size := hlt
      have hx := (⟨s.toArray⟩ : ByteArray)[k].toNat_lt
      have h1 : 0 ≤ (((⟨s.toArray⟩ : ByteArray)[k]).toNat : Int) / 16 ∧ (((⟨s.toArray⟩ : ByteArray)[k]).toNat : Int) / 16 < 16 := by omega
      have h2 : 0 ≤ (((⟨s.toArray⟩ : ByteArray)[k]).toNat : Int) % 16 ∧ (((⟨s.toArray⟩ : ByteArray)[k]).toNat : Int) % 16 < 16 := by omega
      have hl : (Lib.byteCells (hexAll (s.take k))).length ≤ 8589934592 := by
        simp [Lib.byteCells, hexAll_length]; omega
      go_wp2_with fail
      refine (WriteByte_any w.heap.size w.heap.size _ _ _ hB (by omega) hb.size).mono ?_
      rintro e w1 ⟨rfl, hB1, hb1⟩
      go_wp2_with fail
      refine (WriteByte_any w.heap.size w.heap.size _ _ _ (.inr hB1) (by simp; omega) (by have := hb.size; have := hb1.size; omega)).mono ?_
      rintro e w2 ⟨rfl, hB2, hb2⟩
      have hB3 : Lib.IsBuilder 67 5 w.heap.size w.heap.size (Lib.byteCells (hexAll (s.take (k + 1)))) w2 := by
        rw [hexAll_snoc s k hlt]
        rw [dig_at, dig_at, byteAt s k hk' hlt] at hB2
        unfold Lib.IsBuilder
        simpa [Lib.byteCells] using Or.inr hB2
      clear hB2 hB1 hB
      go_wp2
      go_roundw
      case rel => exact ⟨k + 1, by omega, by go_num, hB3, (hb.trans hb1).trans hb2⟩
      case measure => simp [intOf]; omega
    · go_wp2_with (go_at_call 30; refine (Tryz.Builder_String_any w.heap.size w.heap.size _ _ hB hb.size).mono ?_; rintro e w' ⟨rfl, hb2⟩)
      go_ret
      have : k = s.length := by omega
      subst this
      exact ⟨by simp, hb.trans hb2⟩
set_option maxHeartbeats 400000 in
theorem hex_none (w : World) : Calls Tryz.prog 46 #[.string ⟨#[]⟩] w fun e w' => e = .returned (.string ⟨#[45]⟩) ∧ w = w' := by
  go_enter Tryz.func46, Tryz.ntmps46
  go_wp2
  go_ret
  exact ⟨rfl, rfl⟩
theorem hex_any (s : List UInt8) (w : World) (hs : s.length ≤ 4294967296) :
    Calls Tryz.prog 46 #[.string ⟨s.toArray⟩] w fun e w' => e = .returned (.string ⟨(hexB s).toArray⟩) ∧ Below w.heap.size w w' := by
  by_cases h : s = []
  · subst h
    refine (hex_none w).mono ?_
    rintro e w' ⟨rfl, rfl⟩
    exact ⟨rfl, Below.refl _ _⟩
  · rw [hexB, if_neg h]
    exact hex_some s w h hs
end Go.Proofs.YtikmoledbiepoaaGreatDoor
/- How the script's data lie in memory: what a world keeps, a reader's words, a call's cells. -/
namespace Go.Proofs.YtikmoledbiepoaaGreatDoor
open Go.RowKit

/-- A value of type int; a string. -/
def vI (n : Int) : Value := .int .i64 n
def vS (s : List UInt8) : Value := .string ⟨s.toArray⟩

/-- Outside the blocks S, what was there is as it was. -/
structure Kept (S : Nat → Prop) (w w' : World) : Prop where
  os : w'.os = w.os
  tape : w'.tape = w.tape
  output : w'.output = w.output
  size : w.heap.size ≤ w'.heap.size
  block : ∀ k, k < w.heap.size → ¬ S k → w'.heap[k]? = w.heap[k]?

theorem Kept.refl (S : Nat → Prop) (w : World) : Kept S w w := ⟨rfl, rfl, rfl, Nat.le_refl _, fun _ _ _ => rfl⟩
theorem Kept.trans {S : Nat → Prop} {a b c : World} (h : Kept S a b) (k : Kept S b c) : Kept S a c :=
  ⟨k.os.trans h.os, k.tape.trans h.tape, k.output.trans h.output, Nat.le_trans h.size k.size,
   fun i hi hs => (k.block i (Nat.lt_of_lt_of_le hi h.size) hs).trans (h.block i hi hs)⟩
theorem Kept.mono {S T : Nat → Prop} {a b : World} (h : Kept S a b) (hs : ∀ k, k < a.heap.size → S k → T k) : Kept T a b :=
  ⟨h.os, h.tape, h.output, h.size, fun i hi ht => h.block i hi fun x => ht (hs i hi x)⟩
/-- Where the blocks that may have turned are from the first world's end on. -/
theorem Kept.trans' {S T : Nat → Prop} {a b c : World} (h : Kept S a b) (k : Kept T b c) (hs : ∀ i, i < a.heap.size → T i → S i) : Kept S a c :=
  ⟨k.os.trans h.os, k.tape.trans h.tape, k.output.trans h.output, Nat.le_trans h.size k.size,
   fun i hi hn => (k.block i (Nat.lt_of_lt_of_le hi h.size) fun x => hn (hs i hi x)).trans (h.block i hi hn)⟩
theorem Kept.of_below {S : Nat → Prop} {a b : World} (h : Below a.heap.size a b) : Kept S a b :=
  ⟨h.os, h.tape, h.output, h.size, fun i hi _ => h.block i hi⟩
theorem Kept.below {S : Nat → Prop} {a b : World} {B : Nat} (h : Kept S a b) (hB : B ≤ a.heap.size) (hs : ∀ k, k < B → ¬ S k) : Below B a b :=
  ⟨h.os, h.tape, h.output, h.size, fun i hi => h.block i (by omega) (hs i hi)⟩
theorem Kept.setCell {S : Nat → Prop} (w : World) {p : Addr} (hp : S p.block) (u : Value) : Kept S w (w.setCell p u) :=
  ⟨rfl, rfl, rfl, by simp [World.setCell], fun k _ hn => Below.heap_setCell _ _ _ _ fun e => hn (e ▸ hp)⟩
theorem Kept.alloc (S : Nat → Prop) (w : World) (o : Obj) : Kept S w (w.alloc o) :=
  ⟨rfl, rfl, rfl, by simp, fun k hk _ => Below.heap_alloc _ _ _ hk⟩
theorem Kept.drewN (S : Nat → Prop) (w : World) (n : Nat) : Kept S w (w.drewN n) := ⟨rfl, rfl, rfl, Nat.le_refl _, fun _ _ _ => rfl⟩
theorem Kept.drew (S : Nat → Prop) (w : World) : Kept S w w.drew := ⟨rfl, rfl, rfl, Nat.le_refl _, fun _ _ _ => rfl⟩
theorem Kept.cell {S : Nat → Prop} {w w' : World} (h : Kept S w w') {p : Addr} (hp : p.block < w.heap.size) (hs : ¬ S p.block) : w'.cell? p = w.cell? p :=
  World.cell?_of_block (w := w) (h.block p.block hp hs)

/-- Nothing that was there has turned. -/
def Ext (w w' : World) : Prop := Below w.heap.size w w'
theorem Ext.refl (w : World) : Ext w w := Below.refl _ _
theorem Ext.trans {a b c : World} (h : Ext a b) (k : Ext b c) : Ext a c := Below.trans h (Below.mono k h.size)

theorem lt_of_block {w : World} {k : Nat} {o : Obj} (h : w.heap[k]? = some o) : k < w.heap.size := by
  rcases Nat.lt_or_ge k w.heap.size with h' | h'
  · exact h'
  · simp [Array.getElem?_eq_none h'] at h

/-- The package-level variables that the code reads hold what they should. -/
structure Glob (w : World) : Prop where
  perr : ∃ tp p, w.cell? ⟨0, 0, none⟩ = some (.iface tp p)
  maxlen : ∃ m, w.cell? ⟨1, 0, none⟩ = some (.int .i64 m)
  tab : Lib.TabIs Tryz.prog w "internal/strconv.uint64pow10" .u64 Lib.pow10Tab
  syn : ∃ tp p, World.var? Tryz.prog w "strconv.ErrSyntax" = some #[.iface tp p]
  rng : ∃ tp p, World.var? Tryz.prog w "strconv.ErrRange" = some #[.iface tp p]
  size : 9 ≤ w.heap.size

theorem g_tab : Tryz.prog.globalNamed "internal/strconv.uint64pow10" = some 2 := by kernel_rfl
theorem g_syn : Tryz.prog.globalNamed "strconv.ErrSyntax" = some 5 := by kernel_rfl
theorem g_rng : Tryz.prog.globalNamed "strconv.ErrRange" = some 6 := by kernel_rfl

theorem Glob.mono {w w' : World} (h : Glob w) (hs : w.heap.size ≤ w'.heap.size) (hb : ∀ k, k < 9 → w'.heap[k]? = w.heap[k]?) : Glob w' := by
  obtain ⟨⟨tp, p, h0⟩, ⟨m, h1⟩, h2, ⟨t5, p5, h5⟩, ⟨t6, p6, h6⟩, h9⟩ := h
  refine ⟨⟨tp, p, ?_⟩, ⟨m, ?_⟩, ?_, ⟨t5, p5, ?_⟩, ⟨t6, p6, ?_⟩, by omega⟩
  · rw [World.cell?_of_block (w := w) (a := ⟨0, 0, none⟩) (hb 0 (by omega))]; exact h0
  · rw [World.cell?_of_block (w := w) (a := ⟨1, 0, none⟩) (hb 1 (by omega))]; exact h1
  · unfold Lib.TabIs World.var? at *; rw [g_tab] at *; simp only [Option.bind_some] at *; rw [hb 2 (by omega)]; exact h2
  · unfold World.var? at *; rw [g_syn] at *; simp only [Option.bind_some] at *; rw [hb 5 (by omega)]; exact h5
  · unfold World.var? at *; rw [g_rng] at *; simp only [Option.bind_some] at *; rw [hb 6 (by omega)]; exact h6
theorem Glob.kept {S : Nat → Prop} {w w' : World} (h : Glob w) (k : Kept S w w') (hs : ∀ i, i < 9 → ¬ S i) : Glob w' :=
  h.mono k.size fun i hi => k.block i (by have := h.size; omega) (hs i hi)
theorem Glob.ext {w w' : World} (h : Glob w) (k : Ext w w') : Glob w' := h.mono k.size fun i hi => k.block i (by have := h.size; omega)

/-- The reader at block br has the words ws still to come; they lie in block bw. -/
def Reader (w : World) (br bw : Nat) (ws : List (List UInt8)) : Prop :=
  ∃ a cap, w.heap[br]? = some (.cells #[.slice a ws.length cap] 101) ∧ ws.length ≤ cap ∧ bw ≠ br ∧ bw < w.heap.size ∧
    (ws ≠ [] → ∃ o, a = some ⟨bw, o, none⟩ ∧ ∀ j s, ws[j]? = some s → w.cell? ⟨bw, o + j, none⟩ = some (vS s))
theorem Reader.kept {S : Nat → Prop} {w w' : World} {br bw : Nat} {ws : List (List UInt8)} (h : Reader w br bw ws) (k : Kept S w w') (h1 : ¬ S br) (h2 : ¬ S bw) : Reader w' br bw ws := by
  obtain ⟨a, cap, hb, hc, hne, hlt, hh⟩ := h
  refine ⟨a, cap, by rw [k.block br (lt_of_block hb) h1]; exact hb, hc, hne, Nat.lt_of_lt_of_le hlt k.size, fun hn => ?_⟩
  obtain ⟨o, rfl, hj⟩ := hh hn
  refine ⟨o, rfl, fun j s hjs => ?_⟩
  rw [k.cell (p := ⟨bw, o + j, none⟩) hlt h2]
  exact hj j s hjs
theorem Reader.ext {w w' : World} {br bw : Nat} {ws : List (List UInt8)} (h : Reader w br bw ws) (k : Ext w w') : Reader w' br bw ws :=
  h.kept (S := fun _ => False) (Kept.of_below k) id id

/-- The sixteen cells of a call. -/
def Cal.cells (c : Cal) : List Value :=
  [vI c.kind, vI c.conn, vI c.stream, vI c.n, vS c.s, vI c.code, vI c.loc, vI c.rem, vS c.tick, vS c.sec, vI c.p0, vI c.p1, vI c.p2, vI c.p3, vI c.p4, vI c.p5]
theorem Cal.cells_length (c : Cal) : c.cells.length = 16 := rfl
/-- A call lies in block b from cell o on. -/
def CalIn (w : World) (b o : Nat) (T : TypeId) (pre post : List Value) (c : Cal) : Prop :=
  pre.length = o ∧ w.heap[b]? = some (.cells (pre ++ (c.cells ++ post)).toArray T)

def isI (k : Nat) : Bool := [0, 1, 2, 3, 5, 6, 7, 10, 11, 12, 13, 14, 15].contains k
def isS (k : Nat) : Bool := [4, 8, 9].contains k
theorem isI_cases {k : Nat} (h : isI k = true) : k = 0 ∨ k = 1 ∨ k = 2 ∨ k = 3 ∨ k = 5 ∨ k = 6 ∨ k = 7 ∨ k = 10 ∨ k = 11 ∨ k = 12 ∨ k = 13 ∨ k = 14 ∨ k = 15 := by
  simpa [isI] using h
theorem isS_cases {k : Nat} (h : isS k = true) : k = 4 ∨ k = 8 ∨ k = 9 := by simpa [isS] using h
theorem Cal.cellI (c : Cal) {k : Nat} (h : isI k = true) : c.cells[k]? = some (vI (c.getI k)) := by
  rcases isI_cases h with rfl | rfl | rfl | rfl | rfl | rfl | rfl | rfl | rfl | rfl | rfl | rfl | rfl <;> rfl
theorem Cal.cellS (c : Cal) {k : Nat} (h : isS k = true) : c.cells[k]? = some (vS (c.getS k)) := by
  rcases isS_cases h with rfl | rfl | rfl <;> rfl
theorem Cal.cells_setI (c : Cal) {k : Nat} (v : Int) (h : isI k = true) : (c.setI k v).cells = c.cells.set k (vI v) := by
  rcases isI_cases h with rfl | rfl | rfl | rfl | rfl | rfl | rfl | rfl | rfl | rfl | rfl | rfl | rfl <;> rfl
theorem Cal.cells_setS (c : Cal) {k : Nat} (v : List UInt8) (h : isS k = true) : (c.setS k v).cells = c.cells.set k (vS v) := by
  rcases isS_cases h with rfl | rfl | rfl <;> rfl

theorem CalIn.cell {w : World} {b o : Nat} {T : TypeId} {pre post : List Value} {c : Cal} (h : CalIn w b o T pre post c) {k : Nat} {v : Value} (hk : c.cells[k]? = some v) :
    w.cell? ⟨b, o + k, none⟩ = some v := by
  obtain ⟨rfl, h⟩ := h
  have hlt : k < c.cells.length := by
    rcases Nat.lt_or_ge k c.cells.length with h' | h'
    · exact h'
    · simp [List.getElem?_eq_none h'] at hk
  rw [Lib.cell_of_heap h, List.getElem?_toArray, List.getElem?_append_right (by omega), Nat.add_sub_cancel_left, List.getElem?_append_left hlt]
  exact hk
theorem CalIn.frozen {w : World} {b o : Nat} {T : TypeId} {pre post : List Value} {c : Cal} (h : CalIn w b o T pre post c) (k : Nat) : w.frozen? ⟨b, k, none⟩ = false :=
  Lib.frozen_of_heap h.2 k
theorem heap_setCell_self {w : World} {b : Nat} {cs : Array Value} {T : TypeId} (h : w.heap[b]? = some (.cells cs T)) (k : Nat) (u : Value) :
    (w.setCell ⟨b, k, none⟩ u).heap[b]? = some (.cells (cs.setIfInBounds k u) T) := by
  simp [World.setCell, Array.getElem?_modify, h]
theorem CalIn.set {w : World} {b o : Nat} {T : TypeId} {pre post : List Value} {c c' : Cal} (h : CalIn w b o T pre post c) {k : Nat} {u : Value} (hc : c'.cells = c.cells.set k u) (hk : k < 16) :
    CalIn (w.setCell ⟨b, o + k, none⟩ u) b o T pre post c' := by
  obtain ⟨rfl, h⟩ := h
  refine ⟨rfl, ?_⟩
  rw [heap_setCell_self h, hc, List.setIfInBounds_toArray, List.set_append_right _ _ (by omega), Nat.add_sub_cancel_left, List.set_append_left _ _ (by rw [Cal.cells_length]; omega)]
theorem CalIn.kept {S : Nat → Prop} {w w' : World} {b o : Nat} {T : TypeId} {pre post : List Value} {c : Cal} (h : CalIn w b o T pre post c) (k : Kept S w w') (hs : ¬ S b) : CalIn w' b o T pre post c :=
  ⟨h.1, by rw [k.block b (lt_of_block h.2) hs]; exact h.2⟩

end Go.Proofs.YtikmoledbiepoaaGreatDoor

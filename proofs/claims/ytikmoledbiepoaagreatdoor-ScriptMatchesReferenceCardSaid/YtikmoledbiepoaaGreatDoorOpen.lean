/- Six parameters in memory; a session's cells. -/
import Derived.Test.YtikmoledbiepoaaGreatDoorPick
import Derived.Test.YtikmoledbiepoaaGreatDoorPrint
import Derived.Test.YtikmoledbiepoaaGreatDoorFlags
import Derived.Test.YtikmoledbiepoaaGreatDoorSess
import Derived.Deep.Slices
import Derived.ChangeSlices
import Derived.OpenShut
namespace Go.Proofs.YtikmoledbiepoaaGreatDoor
open Go.RowKit
/-- Six numbers. -/
def p6 (a b c d e f : Int) : List Value := [.int .i64 a, .int .i64 b, .int .i64 c, .int .i64 d, .int .i64 e, .int .i64 f]
theorem load24 {w : World} {b o : Nat} {p q r s t u : Int} (h : w.rangeAt b o (p6 p q r s t u)) : (Instr.loadAt 24 (.pointer (some ⟨b, o, none⟩))).run Tryz.prog w = .ok (.agg (p6 p q r s t u).toArray) w := by
  obtain ⟨fs, hu⟩ := und24
  exact run_loadAt_mid w b o 24 (p6 p q r s t u) _ h hu rfl (by kernel_rfl)
theorem load55 {w : World} {b o : Nat} {p q r s t u : Int} (h : w.rangeAt b o (p6 p q r s t u)) : (Instr.loadAt 55 (.pointer (some ⟨b, o, none⟩))).run Tryz.prog w = .ok (.agg (p6 p q r s t u).toArray) w :=
  run_loadAt_mid w b o 55 (p6 p q r s t u) (.array 6 3) h (by kernel_rfl) rfl (by kernel_rfl)
theorem range_of {w : World} {b : Nat} {T : TypeId} {cs pre l post : List Value} (h : w.heap[b]? = some (.cells cs.toArray T)) (e : cs = pre ++ l ++ post) : w.rangeAt b pre.length l := fun j v hv => by
  rw [Lib.cell_of_heap h, List.getElem?_toArray, e, List.append_assoc, List.getElem?_append_right (by omega), List.getElem?_append_left, Nat.add_sub_cancel_left, hv]
  rw [Nat.add_sub_cancel_left]
  exact (List.getElem?_eq_some_iff.1 hv).1
theorem wpList_ld24 {ops : Array Oper} {rest : List Oper} {o : Oper} {f : Act} {w : World} {Q : Exit → Act → World → Prop} (hgd : o.guard = none) (x : Operand) (ho : o.op = .load 24 x) (b k : Nat) (hx : f.eval x = .pointer (some ⟨b, k, none⟩)) (p q r s t u : Int) (hr : w.rangeAt b k (p6 p q r s t u))
    (h : wpList Tryz.prog ops Q rest (f.put o.dst (.agg (p6 p q r s t u).toArray)) w) : wpList Tryz.prog ops Q (o :: rest) f w := by
  obtain ⟨fs, hu⟩ := und24
  exact wpList_load_mid hgd 24 x ho b k hx (p6 p q r s t u) _ hr hu rfl (by kernel_rfl) h
theorem wpList_store24 {ops : Array Oper} {rest : List Oper} {o : Oper} {a : Act} {w : World} {Q : Exit → Act → World → Prop} (hgd : o.guard = none) (x y : Operand) (ho : o.op = .store 24 x y)
    (b : Nat) (p q r s t u : Int) (hx : a.eval x = .pointer (some ⟨b, 0, none⟩)) (hy : a.eval y = .agg (p6 p q r s t u).toArray) (old : Array Value) (hg : w.heap[b]? = some (.cells old 24)) (hold : old.size = 6)
    (h : wpList Tryz.prog ops Q rest (a.put o.dst undef) (w.setRow b (p6 p q r s t u).toArray)) : wpList Tryz.prog ops Q (o :: rest) a w :=
  wpList_plain hgd fun _ hK => wp_store_row 24 x y ho b (p6 p q r s t u).toArray hx hy 24 old hg (by kernel_rfl) (by rw [hold]; rfl) (by simp [p6, Value.oneCell']) (hK _ _ h)
def ses (T S : List UInt8) (p q r s t u : Int) : List Value := [.string ⟨T.toArray⟩, .string ⟨S.toArray⟩] ++ p6 p q r s t u
section
variable (T S : List UInt8) (p q r s t u : Int) (w : World)
theorem run_b26 : (Instr.build 26 #[(0, .string ⟨T.toArray⟩), (1, .string ⟨S.toArray⟩), (2, .agg (p6 p q r s t u).toArray)]).run Tryz.prog w = .ok (.agg (ses T S p q r s t u).toArray) w := by kernel_rfl
end
section
variable {T S : List UInt8} {p q r s t u : Int} {w : World} {ρ : Operand → Value} {o : Oper} {x y z : Operand}
theorem exec_b26 (ho : o.op = .build 26 #[(0, x), (1, y), (2, z)]) (hx : ρ x = .string ⟨T.toArray⟩) (hy : ρ y = .string ⟨S.toArray⟩) (hz : ρ z = .agg (p6 p q r s t u).toArray) : (execOp ρ o).run Tryz.prog w = .ok (.value (.agg (ses T S p q r s t u).toArray)) w := by
  unfold execOp
  simp only [ho, List.map_toArray, List.map_cons, List.map_nil, hx, hy, hz, Sem.run_bind, run_b26]
  rfl
end
end Go.Proofs.YtikmoledbiepoaaGreatDoor
/- What an argument of the laws is, opened: parameters of actions, actions, lists of them. -/
namespace Go.Proofs.YtikmoledbiepoaaGreatDoor
open Go.RowKit Go.ChangeShapes Go.WideShapes Go.Deep
/-- ActionParams. -/
structure Ap where
  kind : Int
  call : Int
  side : Int
  conn : Int
  stream : Int
  n : Int
  code : Int
  s : List UInt8
  fates : List Int
  q0 : Int
  q1 : Int
  q2 : Int
  q3 : Int
  q4 : Int
  q5 : Int
structure ApFit (p : Ap) : Prop where
  kind : IntFit p.kind
  call : IntFit p.call
  side : IntFit p.side
  conn : IntFit p.conn
  stream : IntFit p.stream
  n : IntFit p.n
  code : IntFit p.code
  s : p.s.length ≤ 9223372036854775807
  fates : ∀ x ∈ p.fates, IntFit x
  q0 : IntFit p.q0
  q1 : IntFit p.q1
  q2 : IntFit p.q2
  q3 : IntFit p.q3
  q4 : IntFit p.q4
  q5 : IntFit p.q5
def Ap.cells (p : Ap) (fv : Value) : List Value := [vI p.kind, vI p.call, vI p.side, vI p.conn, vI p.stream, vI p.n, vI p.code, vS p.s, fv] ++ p6 p.q0 p.q1 p.q2 p.q3 p.q4 p.q5
theorem cells3 : Tryz.prog.cellsOf 3 = 1 := by kernel_rfl
theorem cells9 : Tryz.prog.cellsOf 9 = 1 := by kernel_rfl
theorem cells29 : Tryz.prog.cellsOf 29 = 1 := by kernel_rfl
theorem cells55 : Tryz.prog.cellsOf 55 = 6 := by kernel_rfl
theorem cells57 : Tryz.prog.cellsOf 57 = 15 := by kernel_rfl
theorem cells24 : Tryz.prog.cellsOf 24 = 6 := by kernel_rfl
theorem cells26 : Tryz.prog.cellsOf 26 = 8 := by kernel_rfl
theorem cells28 : Tryz.prog.cellsOf 28 = 16 := by kernel_rfl
theorem cells31 : Tryz.prog.cellsOf 31 = 3 := by kernel_rfl
section
variable {H : Type} {enc : TypeId × Value → H} {W : World} {base : Nat} {sp : Nat → Bool} {hd : Bool} {n : Nat} {cs : List Value} {x : DataW H × List MemPlace}
theorem list6 {l : List Value} (h : l.length = 6) : ∃ a0 a1 a2 a3 a4 a5, l = [a0, a1, a2, a3, a4, a5] := by
  match l, h with
  | [a0, a1, a2, a3, a4, a5], _ => exact ⟨_, _, _, _, _, _, rfl⟩
theorem list15 {l : List Value} (h : l.length = 15) : ∃ a0 a1 a2 a3 a4 a5 a6 a7 a8 a9 a10 a11 a12 a13 a14, l = [a0, a1, a2, a3, a4, a5, a6, a7, a8, a9, a10, a11, a12, a13, a14] := by
  match l, h with
  | [a0, a1, a2, a3, a4, a5, a6, a7, a8, a9, a10, a11, a12, a13, a14], _ => exact ⟨_, _, _, _, _, _, _, _, _, _, _, _, _, _, _, rfl⟩
theorem list16 {l : List Value} (h : l.length = 16) : ∃ a0 a1 a2 a3 a4 a5 a6 a7 a8 a9 a10 a11 a12 a13 a14 a15, l = [a0, a1, a2, a3, a4, a5, a6, a7, a8, a9, a10, a11, a12, a13, a14, a15] := by
  match l, h with
  | [a0, a1, a2, a3, a4, a5, a6, a7, a8, a9, a10, a11, a12, a13, a14, a15], _ => exact ⟨_, _, _, _, _, _, _, _, _, _, _, _, _, _, _, _, rfl⟩
theorem list23 {l : List Value} (h : l.length = 23) : ∃ a0 a1 a2 a3 a4 a5 a6 a7 a8 a9 a10 a11 a12 a13 a14 a15 a16 a17 a18 a19 a20 a21 a22, l = [a0, a1, a2, a3, a4, a5, a6, a7, a8, a9, a10, a11, a12, a13, a14, a15, a16, a17, a18, a19, a20, a21, a22] := by
  match l, h with
  | [a0, a1, a2, a3, a4, a5, a6, a7, a8, a9, a10, a11, a12, a13, a14, a15, a16, a17, a18, a19, a20, a21, a22], _ => exact ⟨_, _, _, _, _, _, _, _, _, _, _, _, _, _, _, _, _, _, _, _, _, _, _, rfl⟩
theorem rd_int (h : DataW.trod enc Tryz.prog W base sp hd n 3 cs = some x) : ∃ k, cs = [.int .i64 k] ∧ IntFit k := by
  obtain ⟨k, rfl, rfl, hw⟩ := DataW.trod_int Tryz.underlying3 h
  exact ⟨k, rfl, bounds_i64 hw⟩
theorem rd_str (h : DataW.trod enc Tryz.prog W base sp hd n 9 cs = some x) : ∃ s : List UInt8, cs = [.string ⟨s.toArray⟩] ∧ s.length ≤ 9223372036854775807 := by
  obtain ⟨s, rfl, rfl, hw⟩ := DataW.trod_string Tryz.underlying9 h
  obtain ⟨⟨l⟩⟩ := s
  exact ⟨l, rfl, hw⟩
theorem rd_fates (h : DataW.trod enc Tryz.prog W base sp hd n 29 cs = some x) : ∃ (l : List Int) (s : Option Addr) (m c : Nat), cs = [.slice s m c] ∧ FatesAt W (.slice s m c) l ∧ ∀ y ∈ l, IntFit y := by
  rcases open_ints Tryz.underlying29 Tryz.underlying3 cells3 h with ⟨rfl, rfl⟩ | ⟨a, len, cap, zs, rfl, hb, hle, hmax, hzl, hx, hc, hw⟩
  · exact ⟨[], none, 0, 0, rfl, FatesAt.nil _, by simp⟩
  · have hlz : len ≤ zs.length := by rw [hzl]; split <;> omega
    have hlen : (zs.take len).length = len := by rw [List.length_take]; omega
    have hmax' : cap ≤ 9223372036854775807 := hmax
    refine ⟨zs.take len, some a, len, cap, rfl, ⟨some a, cap, by rw [hlen], by omega, by omega, fun hne => ?_⟩, fun y hy => bounds_i64 (hw y (List.mem_of_mem_take hy))⟩
    have hpos : 0 < zs.length := by
      cases zs with
      | nil => simp at hne
      | cons z r => simp
    obtain ⟨b, off, rfl, hc'⟩ := ints_at hc hpos
    refine ⟨b, off, rfl, fun j y hj => ?_⟩
    have hj2 : j < len := by
      have := (List.getElem?_eq_some_iff.1 hj).1
      omega
    rw [hc' j (by omega)]
    rw [List.getElem?_take, if_pos hj2] at hj
    rw [List.getD_eq_getElem?_getD, hj]
    rfl
theorem rd_six (h : DataW.trod enc Tryz.prog W base sp hd n 55 cs = some x) : ∃ p q r s t u, cs = p6 p q r s t u ∧ IntFit p ∧ IntFit q ∧ IntFit r ∧ IntFit s ∧ IntFit t ∧ IntFit u := by
  obtain ⟨xs, m, rfl, hx, hl, hxl, hf⟩ := DataW.trod_array Tryz.underlying55 h
  rw [cells55] at hl
  rw [cells3] at hf
  obtain ⟨c0, c1, c2, c3, c4, c5, rfl⟩ : ∃ c0 c1 c2 c3 c4 c5, cs = [c0, c1, c2, c3, c4, c5] := list6 hl
  have hg : ∀ i, i < 6 → ∃ y, xs[i]? = some y := fun i hi => ⟨_, List.getElem?_eq_getElem (by rw [hxl]; exact hi)⟩
  have hk : ∀ i, i < 6 → ∃ k, ([c0, c1, c2, c3, c4, c5].drop (i * 1)).take 1 = [.int .i64 k] ∧ IntFit k := fun i hi => by
    obtain ⟨y, e⟩ := hg i hi
    exact rd_int ((hf i hi).trans e)
  obtain ⟨k0, e0, w0⟩ := hk 0 (by decide)
  obtain ⟨k1, e1, w1⟩ := hk 1 (by decide)
  obtain ⟨k2, e2, w2⟩ := hk 2 (by decide)
  obtain ⟨k3, e3, w3⟩ := hk 3 (by decide)
  obtain ⟨k4, e4, w4⟩ := hk 4 (by decide)
  obtain ⟨k5, e5, w5⟩ := hk 5 (by decide)
  cases e0; cases e1; cases e2; cases e3; cases e4; cases e5
  exact ⟨k0, k1, k2, k3, k4, k5, rfl, w0, w1, w2, w3, w4, w5⟩
theorem rd_ap (h : DataW.trod enc Tryz.prog W base sp hd n 57 cs = some x) : ∃ (p : Ap) (s : Option Addr) (m c : Nat), cs = p.cells (.slice s m c) ∧ FatesAt W (.slice s m c) p.fates ∧ ApFit p := by
  obtain ⟨xs, m, rfl, hx, hl, hxl, hf⟩ := DataW.trod_struct Tryz.underlying57 h
  have hl' : cs.length = 15 := by rw [hl]; kernel_rfl
  clear hl
  obtain ⟨c0, c1, c2, c3, c4, c5, c6, c7, c8, c9, c10, c11, c12, c13, c14, rfl⟩ : ∃ c0 c1 c2 c3 c4 c5 c6 c7 c8 c9 c10 c11 c12 c13 c14, cs = [c0, c1, c2, c3, c4, c5, c6, c7, c8, c9, c10, c11, c12, c13, c14] := list15 hl'
  have hg : ∀ i, i < 10 → ∃ y, xs[i]? = some y := fun i hi => ⟨_, List.getElem?_eq_getElem (by rw [hxl]; exact hi)⟩
  obtain ⟨y, e⟩ := hg 0 (by decide)
  have f : DataW.trod enc Tryz.prog W base sp hd m 3 (([c0, c1, c2, c3, c4, c5, c6, c7, c8, c9, c10, c11, c12, c13, c14].drop 0).take (Tryz.prog.cellsOf 3)) = xs[0]? := hf 0 _ rfl
  rw [e, cells3] at f
  obtain ⟨k0, e0, w0⟩ := rd_int (cs := [c0]) f
  clear f e y
  obtain ⟨y, e⟩ := hg 1 (by decide)
  have f : DataW.trod enc Tryz.prog W base sp hd m 3 (([c0, c1, c2, c3, c4, c5, c6, c7, c8, c9, c10, c11, c12, c13, c14].drop 1).take (Tryz.prog.cellsOf 3)) = xs[1]? := hf 1 _ rfl
  rw [e, cells3] at f
  obtain ⟨k1, e1, w1⟩ := rd_int (cs := [c1]) f
  clear f e y
  obtain ⟨y, e⟩ := hg 2 (by decide)
  have f : DataW.trod enc Tryz.prog W base sp hd m 3 (([c0, c1, c2, c3, c4, c5, c6, c7, c8, c9, c10, c11, c12, c13, c14].drop 2).take (Tryz.prog.cellsOf 3)) = xs[2]? := hf 2 _ rfl
  rw [e, cells3] at f
  obtain ⟨k2, e2, w2⟩ := rd_int (cs := [c2]) f
  clear f e y
  obtain ⟨y, e⟩ := hg 3 (by decide)
  have f : DataW.trod enc Tryz.prog W base sp hd m 3 (([c0, c1, c2, c3, c4, c5, c6, c7, c8, c9, c10, c11, c12, c13, c14].drop 3).take (Tryz.prog.cellsOf 3)) = xs[3]? := hf 3 _ rfl
  rw [e, cells3] at f
  obtain ⟨k3, e3, w3⟩ := rd_int (cs := [c3]) f
  clear f e y
  obtain ⟨y, e⟩ := hg 4 (by decide)
  have f : DataW.trod enc Tryz.prog W base sp hd m 3 (([c0, c1, c2, c3, c4, c5, c6, c7, c8, c9, c10, c11, c12, c13, c14].drop 4).take (Tryz.prog.cellsOf 3)) = xs[4]? := hf 4 _ rfl
  rw [e, cells3] at f
  obtain ⟨k4, e4, w4⟩ := rd_int (cs := [c4]) f
  clear f e y
  obtain ⟨y, e⟩ := hg 5 (by decide)
  have f : DataW.trod enc Tryz.prog W base sp hd m 3 (([c0, c1, c2, c3, c4, c5, c6, c7, c8, c9, c10, c11, c12, c13, c14].drop 5).take (Tryz.prog.cellsOf 3)) = xs[5]? := hf 5 _ rfl
  rw [e, cells3] at f
  obtain ⟨k5, e5, w5⟩ := rd_int (cs := [c5]) f
  clear f e y
  obtain ⟨y, e⟩ := hg 6 (by decide)
  have f : DataW.trod enc Tryz.prog W base sp hd m 3 (([c0, c1, c2, c3, c4, c5, c6, c7, c8, c9, c10, c11, c12, c13, c14].drop 6).take (Tryz.prog.cellsOf 3)) = xs[6]? := hf 6 _ rfl
  rw [e, cells3] at f
  obtain ⟨k6, e6, w6⟩ := rd_int (cs := [c6]) f
  clear f e y
  obtain ⟨y, e⟩ := hg 7 (by decide)
  have f : DataW.trod enc Tryz.prog W base sp hd m 9 (([c0, c1, c2, c3, c4, c5, c6, c7, c8, c9, c10, c11, c12, c13, c14].drop 7).take (Tryz.prog.cellsOf 9)) = xs[7]? := hf 7 _ rfl
  rw [e, cells9] at f
  obtain ⟨s7, e7, w7⟩ := rd_str (cs := [c7]) f
  clear f e y
  obtain ⟨y, e⟩ := hg 8 (by decide)
  have f : DataW.trod enc Tryz.prog W base sp hd m 29 (([c0, c1, c2, c3, c4, c5, c6, c7, c8, c9, c10, c11, c12, c13, c14].drop 8).take (Tryz.prog.cellsOf 29)) = xs[8]? := hf 8 _ rfl
  rw [e, cells29] at f
  obtain ⟨l8, t8, m8, d8, e8, F8, w8⟩ := rd_fates (cs := [c8]) f
  clear f e y
  obtain ⟨y, e⟩ := hg 9 (by decide)
  have f : DataW.trod enc Tryz.prog W base sp hd m 55 (([c0, c1, c2, c3, c4, c5, c6, c7, c8, c9, c10, c11, c12, c13, c14].drop 9).take (Tryz.prog.cellsOf 55)) = xs[9]? := hf 9 _ rfl
  rw [e, cells55] at f
  obtain ⟨g0, g1, g2, g3, g4, g5, e9, v0, v1, v2, v3, v4, v5⟩ := rd_six (cs := [c9, c10, c11, c12, c13, c14]) f
  clear f e y
  cases e0; cases e1; cases e2; cases e3; cases e4; cases e5; cases e6; cases e7; cases e8; cases e9
  exact ⟨⟨k0, k1, k2, k3, k4, k5, k6, s7, l8, g0, g1, g2, g3, g4, g5⟩, t8, m8, d8, rfl, F8, ⟨w0, w1, w2, w3, w4, w5, w6, w7, w8, v0, v1, v2, v3, v4, v5⟩⟩
end
/-- A list of parameters in memory. -/
def ApsAt (w : World) (v : Value) (l : List Ap) : Prop :=
  ∃ a cap, v = .slice a l.length cap ∧ l.length ≤ cap ∧ cap ≤ 9223372036854775807 ∧ (l ≠ [] → ∃ b o, a = some ⟨b, o, none⟩ ∧ ∀ (j : Nat) (p : Ap), l[j]? = some p → ∃ s n c, w.rangeAt b (o + j * 15) (p.cells (.slice s n c)) ∧ FatesAt w (.slice s n c) p.fates)
theorem ApsAt.ext {w w' : World} {v : Value} {l : List Ap} (h : ApsAt w v l) (hx : Ext w w') : ApsAt w' v l := by
  obtain ⟨a, cap, rfl, h1, h2, h3⟩ := h
  refine ⟨a, cap, rfl, h1, h2, fun hne => ?_⟩
  obtain ⟨b, o, rfl, hc⟩ := h3 hne
  refine ⟨b, o, rfl, fun j p hj => ?_⟩
  obtain ⟨s, n, c, hr, hf⟩ := hc j p hj
  exact ⟨s, n, c, rangeAt_ext hr hx, hf.ext hx⟩
instance : Inhabited Ap := ⟨⟨0, 0, 0, 0, 0, 0, 0, [], [], 0, 0, 0, 0, 0, 0⟩⟩
section
variable {H : Type} {enc : TypeId × Value → H} {W : World} {base : Nat} {sp : Nat → Bool} {hd : Bool}
theorem rd_aps {n : Nat} {cs : List Value} {x : DataW H × List MemPlace} (h : DataW.trod enc Tryz.prog W base sp hd n 22 cs = some x) : ∃ (v : Value) (l : List Ap), cs = [v] ∧ (∃ s m c, v = .slice s m c) ∧ ApsAt W v l ∧ ∀ p ∈ l, ApFit p := by
  rcases open_slice Tryz.underlying22 h with ⟨rfl, rfl⟩ | ⟨a, len, cap, m, k, D, Pl, rfl, hb, hle, hmax, hm, hx, hel⟩
  · exact ⟨_, [], rfl, ⟨_, _, _, rfl⟩, ⟨none, 0, rfl, Nat.le_refl _, by decide, fun h => absurd rfl h⟩, by simp⟩
  · have hlm : len ≤ m := by rw [hm]; split <;> omega
    rw [cells57] at hel
    obtain ⟨f, hf⟩ := choose_lt (α := Ap) (n := len) (p := fun i p => (∃ s q c, ∃ cs', W.cells? base (a.add (i * 15)) 15 = some cs' ∧ cs' = p.cells (.slice s q c) ∧ FatesAt W (.slice s q c) p.fates) ∧ ApFit p) (fun i hi => by
      obtain ⟨cs', h1, h2⟩ := hel i (by omega)
      obtain ⟨p, s, q, c, e, hF, hA⟩ := rd_ap h2
      exact ⟨p, ⟨s, q, c, cs', h1, e, hF⟩, hA⟩)
    have hlen : ((List.range len).map f).length = len := by simp
    refine ⟨_, (List.range len).map f, rfl, ⟨_, _, _, rfl⟩, ⟨some a, cap, by rw [hlen], by omega, hmax, fun hne => ?_⟩, fun p hp => ?_⟩
    · have hpos : 0 < len := by
        cases len with
        | zero => simp at hne
        | succ l => omega
      have hsp : a.spot = none := by
        obtain ⟨⟨s, q, c, cs', h1, e, hF⟩, _⟩ := hf 0 hpos
        obtain ⟨_, hcl, hcell⟩ := World.cells?_some h1
        have := hcell 0 (by decide)
        rw [List.getElem?_eq_getElem (by omega)] at this
        have h2 := World.cell?_spot this
        obtain ⟨b, off, spot⟩ := a
        simpa [Addr.add] using h2
      obtain ⟨b, off, spot⟩ := a
      have hsp : spot = none := hsp
      subst hsp
      refine ⟨b, off, rfl, fun j p hj => ?_⟩
      have hjl : j < len := by
        have := (List.getElem?_eq_some_iff.1 hj).1
        omega
      have hpj : p = f j := by
        rw [List.getElem?_map, List.getElem?_range hjl] at hj
        exact (Option.some.inj hj).symm
      subst hpj
      obtain ⟨⟨s, q, c, cs', h1, e, hF⟩, _⟩ := hf j hjl
      obtain ⟨_, hcl, hcell⟩ := World.cells?_some h1
      refine ⟨s, q, c, fun i v hv => ?_, hF⟩
      rw [← e] at hv
      have hi := (List.getElem?_eq_some_iff.1 hv).1
      have := hcell i (by omega)
      rw [Go.WideShapes.add_plain, Go.WideShapes.add_plain] at this
      rw [this, hv]
    · obtain ⟨i, hi, rfl⟩ := List.mem_map.1 hp
      exact (hf i (List.mem_range.1 hi)).2
end
end Go.Proofs.YtikmoledbiepoaaGreatDoor

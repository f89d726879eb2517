/- The line of an action, in plain terms. -/
import Derived.Test.YtikmoledbiepoaaGreatDoorSame
namespace Go.Proofs.YtikmoledbiepoaaGreatDoor
open Go.RowKit
def wCall : List UInt8 := [99, 97, 108, 108, 32]
def wTick : List UInt8 := [116, 105, 99, 107, 32]
def wFates : List UInt8 := [102, 97, 116, 101, 115]
def wInject : List UInt8 := [105, 110, 106, 101, 99, 116, 32]
def sideW (n : Int) : List UInt8 := if n = 0 then [99, 108, 105, 101, 110, 116, 32] else [115, 101, 114, 118, 101, 114, 32]
def inR (a b : Int) : Bool := decide (0 ≤ a) && decide (a ≤ b)
def fateW (l : List Int) : List UInt8 := l.flatMap fun x => 32 :: Lib.itoa x
def Ac.none (k : Int) : Ac := ⟨k, 0, Cal.ofKind 0, 0, [], 0, 0, []⟩
/-- The action with what its kind names. -/
def Ac.want (a : Ac) : Ac :=
  if a.kind = 1 then { Ac.none a.kind with side := a.side, call := a.call }
  else if a.kind = 2 then { Ac.none a.kind with n := a.n }
  else if a.kind = 3 then { Ac.none a.kind with fates := a.fates }
  else if a.kind = 4 then { Ac.none a.kind with fr := a.fr, tgt := a.tgt, dat := a.dat }
  else Ac.none a.kind
def Ac.text (a : Ac) : List UInt8 :=
  if a.kind = 1 then wCall ++ sideW a.side ++ a.call.line.1
  else if a.kind = 2 then wTick ++ Lib.itoa a.n
  else if a.kind = 3 then wFates ++ fateW a.fates
  else if a.kind = 4 then wInject ++ Lib.itoa a.fr ++ [32] ++ Lib.itoa a.tgt ++ [32] ++ hexB a.dat
  else []
def Ac.ok (a : Ac) : Bool :=
  if a.kind = 1 then a.call.line.2
  else if a.kind = 2 then decide (1 ≤ a.n) && decide (a.n ≤ 2000)
  else if a.kind = 3 then decide (a.fates.length ≤ 64) && a.fates.all fun x => inR x 25
  else if a.kind = 4 then inR a.fr 65535 && inR a.tgt 65535 && decide (a.dat.length ≤ 1024)
  else false
/-- script.line. -/
def Ac.line (a : Ac) : List UInt8 × Bool := if a.kind = 1 ∧ inR a.side 1 = false then ([], false) else (a.text, a.ok && a.eqb a.want)
def IntFit (n : Int) : Prop := -9223372036854775808 ≤ n ∧ n ≤ 9223372036854775807
structure AcFit (a : Ac) : Prop where
  call : CalFit a.call
  n : IntFit a.n
  fr : IntFit a.fr
  tgt : IntFit a.tgt
  fates : ∀ x ∈ a.fates, IntFit x
  few : a.fates.length ≤ 4294967296
  dat : a.dat.length ≤ 2147483648
end Go.Proofs.YtikmoledbiepoaaGreatDoor
/- The readers of a tick and of an injection. -/
namespace Go.Proofs.YtikmoledbiepoaaGreatDoor
open Go.RowKit
def nextNum : List (List UInt8) → Option (List (List UInt8) × Int)
  | [] => none
  | s :: r => (numOf s).map fun v => (r, v)
def nextTxt : List (List UInt8) → Option (List (List UInt8) × List UInt8)
  | [] => none
  | s :: r => (txtOf s).map fun v => (r, v)
def NumP (br bw : Nat) (ws : List (List UInt8)) (w : World) (e : Ending) (w' : World) : Prop :=
  Kept (· = br) w w' ∧ match nextNum ws with
    | some (r, v) => e = .returned (.int .i64 v) ∧ Reader w' br bw r
    | none => e = wrongEnd
theorem number_any (br bw : Nat) (ws : List (List UInt8)) (w : World) (hg : Glob w) (hr : Reader w br bw ws) (hf : WsFit ws) (h9 : 9 ≤ br) :
    Calls Tryz.prog 77 #[.pointer (some ⟨br, 0, none⟩)] w (NumP br bw ws w) := by
  cases ws with
  | nil =>
    refine (number_nil br bw w hr).mono ?_
    rintro e w' ⟨rfl, rfl⟩
    exact ⟨Kept.refl _ _, rfl⟩
  | cons s r =>
    have h1 := hf.1
    simp at h1
    refine (number_cons br bw s r w hg hr (by omega) (hf.2 s (by simp)) h9).mono ?_
    rintro e w' ⟨hk, hr', hm⟩
    refine ⟨hk, ?_⟩
    cases hn : numOf s with
    | none => rw [hn] at hm; simp only [nextNum, hn, Option.map]; exact hm
    | some v => rw [hn] at hm; simp only [nextNum, hn, Option.map]; exact ⟨hm, hr'⟩
/-- What a reader of an action ends with. -/
def RdA (o : Option Ac) (br : Nat) (w : World) (e : Ending) (w' : World) : Prop :=
  Kept (· = br) w w' ∧ match o with
    | some a => ∃ fv, e = .returned (.agg (a.cells fv).toArray) ∧ FatesAt w' fv a.fates
    | none => e = wrongEnd
theorem Ac.one (a : Ac) (s : Option Addr) (n c : Nat) : (a.cells (.slice s n c)).toArray.all (·.oneCell') = true := by
  simp [Ac.cells, Cal.cells, vI, vS, Value.oneCell']
theorem store33 {w : World} {b : Nat} {old : Array Value} (a : Ac) (s : Option Addr) (n c : Nat) (hb : w.heap[b]? = some (.cells old 33)) (ho : old.size = 23) :
    (storeVar 33 ⟨b, 0, none⟩ (.agg (a.cells (.slice s n c)).toArray)).run Tryz.prog w = .ok () (w.setRow b (a.cells (.slice s n c)).toArray) :=
  run_storeVar_row (P := Tryz.prog) w b 33 33 old _ hb (by kernel_rfl) ho (a.one s n c)
theorem wpList_store33 {ops : Array Oper} {rest : List Oper} {o : Oper} {a : Act} {w : World} {Q : Exit → Act → World → Prop} (hgd : o.guard = none) (x y : Operand) (ho : o.op = .store 33 x y)
    (b : Nat) (cells : Array Value) (hx : a.eval x = .pointer (some ⟨b, 0, none⟩)) (hy : a.eval y = .agg cells) (old : Array Value) (hg : w.heap[b]? = some (.cells old 33)) (hold : old.size = 23) (hsz : cells.size = 23)
    (h1 : cells.all (·.oneCell') = true) (h : wpList Tryz.prog ops Q rest (a.put o.dst undef) (w.setRow b cells)) : wpList Tryz.prog ops Q (o :: rest) a w :=
  wpList_plain hgd fun _ hK => wp_store_row 33 x y ho b cells hx hy 33 old hg (by rw [hsz]; kernel_rfl) (by rw [hsz, hold]) h1 (hK _ _ h)
theorem und33 : ∃ fs, Tryz.prog.underlying 33 = some (.struct fs) := by
  have h : (match Tryz.prog.underlying 33 with | some (.struct _) => true | _ => false) = true := by kernel_rfl
  cases hu : Tryz.prog.underlying 33 with
  | none => rw [hu] at h; cases h
  | some d =>
    rw [hu] at h
    cases d <;> first | exact ⟨_, rfl⟩ | cases h
theorem res33 {fn : Func} (h : fn.results = #[.cell 2 33]) (tmps : Array Value) (w : World) (b : Nat) (cs : Array Value) (hp : tmps.getD 2 undef = .pointer (some ⟨b, 0, none⟩)) (hb : w.heap[b]? = some (.cells cs 33)) (hs : cs.size = 23) :
    (results fn tmps).run Tryz.prog w = .ok (.agg cs) w := by
  obtain ⟨d, hu⟩ := und33
  exact results_cell_row h tmps w b 33 cs (0, 0) _ hp hb hu rfl (by rw [hs]; kernel_rfl)
theorem Kept.setRow {S : Nat → Prop} {a b : World} (h : Kept S a b) (g : Nat) (cs : Array Value) (hg : a.heap.size ≤ g) : Kept S a (b.setRow g cs) :=
  ⟨h.os, h.tape, h.output, by simpa using h.size, fun k hk hs => by rw [setRow_other _ _ _ _ (by omega)]; exact h.block k hk hs⟩
def rdTick (ws : List (List UInt8)) : Option Ac := (nextNum ws).map fun x => { Ac.none 2 with n := x.2 }
set_option maxRecDepth 100000 in
set_option maxHeartbeats 1000000 in
theorem tick_any (br bw : Nat) (ws : List (List UInt8)) (w : World) (hg : Glob w) (hr : Reader w br bw ws) (hf : WsFit ws) (h9 : 9 ≤ br) :
    Calls Tryz.prog 57 #[.pointer (some ⟨br, 0, none⟩)] w (RdA (rdTick ws) br w) := by
  go_enter Tryz.func57, Tryz.ntmps57
  go_wp2_with fail
  have hx := Ext.alloc w (.cells ((Ac.none 0).cells (.slice none 0 0)).toArray 33)
  refine (number_any br bw ws _ (hg.ext hx) (hr.kept (S := fun _ => False) (Kept.of_below hx) id id) hf h9).mono ?_
  rintro e w' ⟨hk, hm⟩
  unfold rdTick RdA
  have hrl : br < w.heap.size := by obtain ⟨_, _, h, _⟩ := hr; exact lt_of_block h
  have hk' : Kept (· = br) w w' := Kept.trans' (Kept.of_below hx) hk (fun _ _ h => h)
  have hb : w'.heap[w.heap.size]? = some (.cells ((Ac.none 0).cells (.slice none 0 0)).toArray 33) := by
    rw [hk.block _ (by simp) (by omega), alloc_new]
  cases hn : nextNum ws with
  | none =>
    rw [hn] at hm
    subst hm
    exact ⟨rfl, hk', rfl⟩
  | some x =>
    obtain ⟨r, v⟩ := x
    rw [hn] at hm
    obtain ⟨rfl, hr'⟩ := hm
    go_wp2_with (refine wpList_store33 rfl _ _ rfl w.heap.size ({ Ac.none 2 with n := v }.cells (.slice none 0 0)).toArray rfl rfl _ hb rfl rfl (Ac.one _ _ _ _) ?_)
    refine bodyPost_ret (res33 rfl _ _ w.heap.size _ rfl (setRow_heap _ _ _ _ _ _ hb) (by rfl)) rfl ?_
    unfold RdA rdTick
    rw [hn]
    exact ⟨hk'.setRow _ _ (Nat.le_refl _), _, rfl, FatesAt.nil _⟩
def TxtP (br bw : Nat) (ws : List (List UInt8)) (w : World) (e : Ending) (w' : World) : Prop :=
  Kept (· = br) w w' ∧ match nextTxt ws with
    | some (r, v) => e = .returned (.string ⟨v.toArray⟩) ∧ Reader w' br bw r
    | none => e = wrongEnd
theorem txt_any (br bw : Nat) (ws : List (List UInt8)) (w : World) (hg : Glob w) (hr : Reader w br bw ws) (hf : WsFit ws) (h9 : 9 ≤ br) :
    Calls Tryz.prog 78 #[.pointer (some ⟨br, 0, none⟩)] w (TxtP br bw ws w) := by
  cases ws with
  | nil =>
    refine (text_nil br bw w hr).mono ?_
    rintro e w' ⟨rfl, rfl⟩
    exact ⟨Kept.refl _ _, rfl⟩
  | cons s r =>
    have h1 := hf.1
    simp at h1
    refine (text_any br bw s r w hg hr (by omega) (hf.2 s (by simp)) h9).mono ?_
    rintro e w' ⟨hk, hr', hm⟩
    refine ⟨hk, ?_⟩
    cases hn : txtOf s with
    | none => rw [hn] at hm; simp only [nextTxt, hn, Option.map]; exact hm
    | some v => rw [hn] at hm; simp only [nextTxt, hn, Option.map]; exact ⟨hm, hr'⟩
theorem nextNum_fit {ws r : List (List UInt8)} {v : Int} (h : nextNum ws = some (r, v)) (hf : WsFit ws) : WsFit r := by
  cases ws with
  | nil => cases h
  | cons s t =>
    simp only [nextNum] at h
    cases hn : numOf s with
    | none => rw [hn] at h; cases h
    | some x => rw [hn] at h; cases h; exact hf.drop 1
def rdInject (ws : List (List UInt8)) : Option Ac :=
  match nextNum ws with
  | none => none
  | some (r, x) => match nextNum r with
    | none => none
    | some (r2, y) => (nextTxt r2).map fun z => { Ac.none 4 with fr := x, tgt := y, dat := z.2 }
set_option maxRecDepth 100000 in
set_option maxHeartbeats 1000000 in
theorem inject_any (br bw : Nat) (ws : List (List UInt8)) (w : World) (hg : Glob w) (hr : Reader w br bw ws) (hf : WsFit ws) (h9 : 9 ≤ br) :
    Calls Tryz.prog 59 #[.pointer (some ⟨br, 0, none⟩)] w (RdA (rdInject ws) br w) := by
  go_enter Tryz.func59, Tryz.ntmps59
  go_wp2_with fail
  have hx := Ext.alloc w (.cells ((Ac.none 0).cells (.slice none 0 0)).toArray 33)
  refine (number_any br bw ws _ (hg.ext hx) (hr.kept (S := fun _ => False) (Kept.of_below hx) id id) hf h9).mono ?_
  rintro e w' ⟨hk, hm⟩
  have hrl : br < w.heap.size := by obtain ⟨_, _, h, _⟩ := hr; exact lt_of_block h
  have hk' : Kept (· = br) w w' := Kept.trans' (Kept.of_below hx) hk (fun _ _ h => h)
  have hb : w'.heap[w.heap.size]? = some (.cells ((Ac.none 0).cells (.slice none 0 0)).toArray 33) := by
    rw [hk.block _ (by simp) (by omega), alloc_new]
  cases hn : nextNum ws with
  | none =>
    rw [hn] at hm
    subst hm
    exact ⟨rfl, hk', by unfold rdInject; rw [hn]⟩
  | some x =>
    obtain ⟨r, v⟩ := x
    rw [hn] at hm
    obtain ⟨rfl, hr'⟩ := hm
    go_wp2_with fail
    refine (number_any br bw r _ (hg.kept hk' (fun i hi h => by omega)) hr' (nextNum_fit hn hf) h9).mono ?_
    rintro e w2 ⟨hk2, hm⟩
    have hk2' : Kept (· = br) w w2 := hk'.trans hk2
    have hb2 : w2.heap[w.heap.size]? = some (.cells ((Ac.none 0).cells (.slice none 0 0)).toArray 33) := by
      rw [hk2.block _ (lt_of_block hb) (by omega)]; exact hb
    cases hn2 : nextNum r with
    | none =>
      rw [hn2] at hm
      subst hm
      exact ⟨rfl, hk2', by unfold rdInject; rw [hn]; simp only [hn2]⟩
    | some x2 =>
      obtain ⟨r2, v2⟩ := x2
      rw [hn2] at hm
      obtain ⟨rfl, hr2⟩ := hm
      go_wp2_with fail
      refine (txt_any br bw r2 _ (hg.kept hk2' (fun i hi h => by omega)) hr2 (nextNum_fit hn2 (nextNum_fit hn hf)) h9).mono ?_
      rintro e w3 ⟨hk3, hm⟩
      have hk3' : Kept (· = br) w w3 := hk2'.trans hk3
      have hb3 : w3.heap[w.heap.size]? = some (.cells ((Ac.none 0).cells (.slice none 0 0)).toArray 33) := by
        rw [hk3.block _ (lt_of_block hb2) (by omega)]; exact hb2
      cases hn3 : nextTxt r2 with
      | none =>
        rw [hn3] at hm
        subst hm
        exact ⟨rfl, hk3', by unfold rdInject; rw [hn]; simp only [hn2, hn3, Option.map]⟩
      | some x3 =>
        obtain ⟨r3, v3⟩ := x3
        rw [hn3] at hm
        obtain ⟨rfl, hr3⟩ := hm
        go_wp2_with (refine wpList_store33 rfl _ _ rfl w.heap.size ({ Ac.none 4 with fr := v, tgt := v2, dat := v3 }.cells (.slice none 0 0)).toArray rfl rfl _ hb3 rfl rfl (Ac.one _ _ _ _) ?_)
        refine bodyPost_ret (res33 rfl _ _ w.heap.size _ rfl (setRow_heap _ _ _ _ _ _ hb3) (by rfl)) rfl ?_
        unfold RdA rdInject
        rw [hn]
        simp only [hn2, hn3, Option.map]
        exact ⟨hk3'.setRow _ _ (Nat.le_refl _), _, rfl, FatesAt.nil _⟩
end Go.Proofs.YtikmoledbiepoaaGreatDoor

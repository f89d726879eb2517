/- The accessors of a call's fields, and what a field reads and writes. -/
import Derived.Test.YtikmoledbiepoaaGreatDoorText
import Derived.Test.YtikmoledbiepoaaGreatDoorRegion
import Derived.Deep.QuietTactic
import Derived.BigQuiet
namespace Go.Proofs.YtikmoledbiepoaaGreatDoor
open Go.RowKit
/-- A call of function F enters it. -/
def Ent (F : FuncId) : Prop := ∀ (args : Array Value) (w : World), (callFunc F args).run Tryz.prog w = .ok (.enter F args) w
set_option maxHeartbeats 400000 in
theorem acc83 (b o : Nat) (w : World) : Calls Tryz.prog 83 #[.pointer (some ⟨b, o, none⟩)] w fun e w' => e = .returned (.pointer (some ⟨b, o + 1, none⟩)) ∧ w' = w := by
  go_enter Tryz.func83, Tryz.ntmps83
  go_wp2
  go_ret
  exact ⟨rfl, rfl⟩
theorem ent83 : Ent 83 := enters_of Tryz.func83 (by kernel_rfl) rfl
set_option maxHeartbeats 400000 in
theorem acc84 (b o : Nat) (w : World) : Calls Tryz.prog 84 #[.pointer (some ⟨b, o, none⟩)] w fun e w' => e = .returned (.pointer (some ⟨b, o + 2, none⟩)) ∧ w' = w := by
  go_enter Tryz.func84, Tryz.ntmps84
  go_wp2
  go_ret
  exact ⟨rfl, rfl⟩
theorem ent84 : Ent 84 := enters_of Tryz.func84 (by kernel_rfl) rfl
set_option maxHeartbeats 400000 in
theorem acc85 (b o : Nat) (w : World) : Calls Tryz.prog 85 #[.pointer (some ⟨b, o, none⟩)] w fun e w' => e = .returned (.pointer (some ⟨b, o + 5, none⟩)) ∧ w' = w := by
  go_enter Tryz.func85, Tryz.ntmps85
  go_wp2
  go_ret
  exact ⟨rfl, rfl⟩
theorem ent85 : Ent 85 := enters_of Tryz.func85 (by kernel_rfl) rfl
set_option maxHeartbeats 400000 in
theorem acc86 (b o : Nat) (w : World) : Calls Tryz.prog 86 #[.pointer (some ⟨b, o, none⟩)] w fun e w' => e = .returned (.pointer (some ⟨b, o + 3, none⟩)) ∧ w' = w := by
  go_enter Tryz.func86, Tryz.ntmps86
  go_wp2
  go_ret
  exact ⟨rfl, rfl⟩
theorem ent86 : Ent 86 := enters_of Tryz.func86 (by kernel_rfl) rfl
set_option maxHeartbeats 400000 in
theorem acc87 (b o : Nat) (w : World) : Calls Tryz.prog 87 #[.pointer (some ⟨b, o, none⟩)] w fun e w' => e = .returned (.pointer (some ⟨b, o + 6, none⟩)) ∧ w' = w := by
  go_enter Tryz.func87, Tryz.ntmps87
  go_wp2
  go_ret
  exact ⟨rfl, rfl⟩
theorem ent87 : Ent 87 := enters_of Tryz.func87 (by kernel_rfl) rfl
set_option maxHeartbeats 400000 in
theorem acc88 (b o : Nat) (w : World) : Calls Tryz.prog 88 #[.pointer (some ⟨b, o, none⟩)] w fun e w' => e = .returned (.pointer (some ⟨b, o + 7, none⟩)) ∧ w' = w := by
  go_enter Tryz.func88, Tryz.ntmps88
  go_wp2
  go_ret
  exact ⟨rfl, rfl⟩
theorem ent88 : Ent 88 := enters_of Tryz.func88 (by kernel_rfl) rfl
set_option maxHeartbeats 400000 in
theorem acc90 (b o : Nat) (w : World) : Calls Tryz.prog 90 #[.pointer (some ⟨b, o, none⟩)] w fun e w' => e = .returned (.pointer (some ⟨b, o + 4, none⟩)) ∧ w' = w := by
  go_enter Tryz.func90, Tryz.ntmps90
  go_wp2
  go_ret
  exact ⟨rfl, rfl⟩
theorem ent90 : Ent 90 := enters_of Tryz.func90 (by kernel_rfl) rfl
set_option maxHeartbeats 400000 in
theorem acc91 (b o : Nat) (w : World) : Calls Tryz.prog 91 #[.pointer (some ⟨b, o, none⟩)] w fun e w' => e = .returned (.pointer (some ⟨b, o + 8, none⟩)) ∧ w' = w := by
  go_enter Tryz.func91, Tryz.ntmps91
  go_wp2
  go_ret
  exact ⟨rfl, rfl⟩
theorem ent91 : Ent 91 := enters_of Tryz.func91 (by kernel_rfl) rfl
set_option maxHeartbeats 400000 in
theorem acc92 (b o : Nat) (w : World) : Calls Tryz.prog 92 #[.pointer (some ⟨b, o, none⟩)] w fun e w' => e = .returned (.pointer (some ⟨b, o + 9, none⟩)) ∧ w' = w := by
  go_enter Tryz.func92, Tryz.ntmps92
  go_wp2
  go_ret
  exact ⟨rfl, rfl⟩
theorem ent92 : Ent 92 := enters_of Tryz.func92 (by kernel_rfl) rfl
set_option maxHeartbeats 400000 in
theorem acc93 (b o : Nat) (w : World) : Calls Tryz.prog 93 #[.pointer (some ⟨b, o, none⟩)] w fun e w' => e = .returned (.pointer (some ⟨b, o + 0, none⟩)) ∧ w' = w := by
  go_enter Tryz.func93, Tryz.ntmps93
  go_wp2
  go_ret
  exact ⟨rfl, rfl⟩
theorem ent93 : Ent 93 := enters_of Tryz.func93 (by kernel_rfl) rfl
set_option maxHeartbeats 400000 in
theorem acc94 (b o : Nat) (w : World) : Calls Tryz.prog 94 #[.pointer (some ⟨b, o, none⟩)] w fun e w' => e = .returned (.pointer (some ⟨b, o + 1, none⟩)) ∧ w' = w := by
  go_enter Tryz.func94, Tryz.ntmps94
  go_wp2
  go_ret
  exact ⟨rfl, rfl⟩
theorem ent94 : Ent 94 := enters_of Tryz.func94 (by kernel_rfl) rfl
set_option maxHeartbeats 400000 in
theorem acc95 (b o : Nat) (w : World) : Calls Tryz.prog 95 #[.pointer (some ⟨b, o, none⟩)] w fun e w' => e = .returned (.pointer (some ⟨b, o + 2, none⟩)) ∧ w' = w := by
  go_enter Tryz.func95, Tryz.ntmps95
  go_wp2
  go_ret
  exact ⟨rfl, rfl⟩
theorem ent95 : Ent 95 := enters_of Tryz.func95 (by kernel_rfl) rfl
set_option maxHeartbeats 400000 in
theorem acc96 (b o : Nat) (w : World) : Calls Tryz.prog 96 #[.pointer (some ⟨b, o, none⟩)] w fun e w' => e = .returned (.pointer (some ⟨b, o + 3, none⟩)) ∧ w' = w := by
  go_enter Tryz.func96, Tryz.ntmps96
  go_wp2
  go_ret
  exact ⟨rfl, rfl⟩
theorem ent96 : Ent 96 := enters_of Tryz.func96 (by kernel_rfl) rfl
set_option maxHeartbeats 400000 in
theorem acc97 (b o : Nat) (w : World) : Calls Tryz.prog 97 #[.pointer (some ⟨b, o, none⟩)] w fun e w' => e = .returned (.pointer (some ⟨b, o + 4, none⟩)) ∧ w' = w := by
  go_enter Tryz.func97, Tryz.ntmps97
  go_wp2
  go_ret
  exact ⟨rfl, rfl⟩
theorem ent97 : Ent 97 := enters_of Tryz.func97 (by kernel_rfl) rfl
set_option maxHeartbeats 400000 in
theorem acc98 (b o : Nat) (w : World) : Calls Tryz.prog 98 #[.pointer (some ⟨b, o, none⟩)] w fun e w' => e = .returned (.pointer (some ⟨b, o + 5, none⟩)) ∧ w' = w := by
  go_enter Tryz.func98, Tryz.ntmps98
  go_wp2
  go_ret
  exact ⟨rfl, rfl⟩
theorem ent98 : Ent 98 := enters_of Tryz.func98 (by kernel_rfl) rfl
set_option maxHeartbeats 400000 in
theorem acc110 (b o : Nat) (w : World) : Calls Tryz.prog 110 #[.pointer (some ⟨b, o, none⟩)] w fun e w' => e = .returned (.pointer (some ⟨b, o + 0, none⟩)) ∧ w' = w := by
  go_enter Tryz.func110, Tryz.ntmps110
  go_wp2
  go_ret
  exact ⟨rfl, rfl⟩
theorem ent110 : Ent 110 := enters_of Tryz.func110 (by kernel_rfl) rfl
set_option maxHeartbeats 400000 in
theorem acc111 (b o : Nat) (w : World) : Calls Tryz.prog 111 #[.pointer (some ⟨b, o, none⟩)] w fun e w' => e = .returned (.pointer (some ⟨b, o + 1, none⟩)) ∧ w' = w := by
  go_enter Tryz.func111, Tryz.ntmps111
  go_wp2
  go_ret
  exact ⟨rfl, rfl⟩
theorem ent111 : Ent 111 := enters_of Tryz.func111 (by kernel_rfl) rfl
set_option maxHeartbeats 400000 in
theorem acc112 (b o : Nat) (w : World) : Calls Tryz.prog 112 #[.pointer (some ⟨b, o, none⟩)] w fun e w' => e = .returned (.pointer (some ⟨b, o + 2, none⟩)) ∧ w' = w := by
  go_enter Tryz.func112, Tryz.ntmps112
  go_wp2
  go_ret
  exact ⟨rfl, rfl⟩
theorem ent112 : Ent 112 := enters_of Tryz.func112 (by kernel_rfl) rfl
set_option maxHeartbeats 400000 in
theorem acc113 (b o : Nat) (w : World) : Calls Tryz.prog 113 #[.pointer (some ⟨b, o, none⟩)] w fun e w' => e = .returned (.pointer (some ⟨b, o + 3, none⟩)) ∧ w' = w := by
  go_enter Tryz.func113, Tryz.ntmps113
  go_wp2
  go_ret
  exact ⟨rfl, rfl⟩
theorem ent113 : Ent 113 := enters_of Tryz.func113 (by kernel_rfl) rfl
set_option maxHeartbeats 400000 in
theorem acc114 (b o : Nat) (w : World) : Calls Tryz.prog 114 #[.pointer (some ⟨b, o, none⟩)] w fun e w' => e = .returned (.pointer (some ⟨b, o + 4, none⟩)) ∧ w' = w := by
  go_enter Tryz.func114, Tryz.ntmps114
  go_wp2
  go_ret
  exact ⟨rfl, rfl⟩
theorem ent114 : Ent 114 := enters_of Tryz.func114 (by kernel_rfl) rfl
set_option maxHeartbeats 400000 in
theorem acc115 (b o : Nat) (w : World) : Calls Tryz.prog 115 #[.pointer (some ⟨b, o, none⟩)] w fun e w' => e = .returned (.pointer (some ⟨b, o + 5, none⟩)) ∧ w' = w := by
  go_enter Tryz.func115, Tryz.ntmps115
  go_wp2
  go_ret
  exact ⟨rfl, rfl⟩
theorem ent115 : Ent 115 := enters_of Tryz.func115 (by kernel_rfl) rfl
/-- A block of cells that is no row of fields. -/
def isBox (w : World) (x : Nat) : Prop := ∃ cs T fz, w.heap[x]? = some (.cells cs T fz) ∧ T ≠ 123
/-- The boxes from lo to hi are as they were. -/
def SameIn (lo hi : Nat) (w w' : World) : Prop := ∀ x, lo ≤ x → x < hi → isBox w x → w'.heap[x]? = w.heap[x]?
theorem isBox.lt {w : World} {x : Nat} (h : isBox w x) : x < w.heap.size := by
  obtain ⟨cs, T, fz, h, _⟩ := h
  exact lt_of_block h
theorem SameIn.refl (lo hi : Nat) (w : World) : SameIn lo hi w w := fun _ _ _ _ => rfl
theorem SameIn.trans {lo hi : Nat} {a b c : World} (h : SameIn lo hi a b) (k : SameIn lo hi b c) : SameIn lo hi a c := fun x h1 h2 h3 => by
  have e := h x h1 h2 h3
  have hb : isBox b x := by
    obtain ⟨cs, T, fz, h4, h5⟩ := h3
    exact ⟨cs, T, fz, by rw [e]; exact h4, h5⟩
  exact (k x h1 h2 hb).trans e
theorem SameIn.mono {lo hi lo' hi' : Nat} {a b : World} (h : SameIn lo hi a b) (h1 : lo ≤ lo') (h2 : hi' ≤ hi) : SameIn lo' hi' a b := fun x a b => h x (by omega) (by omega)
theorem SameIn.of_kept {S : Nat → Prop} {lo hi : Nat} {a b : World} (h : Kept S a b) (hs : ∀ x, lo ≤ x → x < hi → ¬ S x) : SameIn lo hi a b :=
  fun x h1 h2 h3 => h.block x h3.lt (hs x h1 h2)
theorem SameIn.of_ext {lo hi : Nat} {a b : World} (h : Ext a b) : SameIn lo hi a b := fun x _ _ h2 => h.block x h2.lt
theorem SameIn.drewN (lo hi : Nat) (w : World) (n : Nat) : SameIn lo hi w (w.drewN n) := fun _ _ _ _ => rfl
theorem SameIn.box {lo hi : Nat} {a b : World} (h : SameIn lo hi a b) {x : Nat} (h1 : lo ≤ x) (h2 : x < hi) {cs : Array Value} {T : TypeId} {fz : Nat × Nat} (hx : a.heap[x]? = some (.cells cs T fz)) (hT : T ≠ 123) : b.heap[x]? = some (.cells cs T fz) := by
  rw [h x h1 h2 ⟨cs, T, fz, hx, hT⟩]; exact hx

/-- The function value v gives, of a pointer to a call, the pointer to the cell k of the call. -/
def Of (lo hi : Nat) (w : World) (v : Value) (k : Nat) : Prop :=
  ∃ F caps, v = .func (.func F) #[] caps ∧ Ent F ∧ ∀ w2, SameIn lo hi w w2 → ∀ b o, Calls Tryz.prog F (#[.pointer (some ⟨b, o, none⟩)] ++ caps) w2 fun e w3 => e = .returned (.pointer (some ⟨b, o + k, none⟩)) ∧ ∃ n, w3 = w2.drewN n
theorem Of.mono {lo hi lo' hi' : Nat} {w w' : World} {v : Value} {k : Nat} (h : Of lo hi w v k) (hs : SameIn lo hi w w') (h1 : lo' ≤ lo) (h2 : hi ≤ hi') : Of lo' hi' w' v k := by
  obtain ⟨F, caps, rfl, hE, hC⟩ := h
  exact ⟨F, caps, rfl, hE, fun w2 h => hC w2 (hs.trans (h.mono h1 h2))⟩
theorem of_acc {F k : Nat} (hE : Ent F) (hF : ∀ b o w, Calls Tryz.prog F #[.pointer (some ⟨b, o, none⟩)] w fun e w' => e = .returned (.pointer (some ⟨b, o + k, none⟩)) ∧ w' = w) (lo hi : Nat) (w : World) :
    Of lo hi w (.func (.func F) #[] #[]) k :=
  ⟨F, #[], rfl, hE, fun w2 _ b o => (hF b o w2).mono fun _ _ ⟨h1, h2⟩ => ⟨h1, 0, h2⟩⟩
theorem ent99 : Ent 99 := enters_of Tryz.func99 (by kernel_rfl) rfl
set_option maxHeartbeats 400000 in
theorem acc99 (F b o k b1 : Nat) (w : World) (hE : Ent F) (hF : ∀ b o w, Calls Tryz.prog F #[.pointer (some ⟨b, o, none⟩)] w fun e w' => e = .returned (.pointer (some ⟨b, o + k, none⟩)) ∧ w' = w)
    (hc : w.cell? ⟨b1, 0, none⟩ = some (.func (.func F) #[] #[])) :
    Calls Tryz.prog 99 #[.pointer (some ⟨b, o, none⟩), .pointer (some ⟨b1, 0, none⟩)] w fun e w' => e = .returned (.pointer (some ⟨b, o + (10 + k), none⟩)) ∧ ∃ n, w' = w.drewN n := by
  unfold Ent at hE
  go_enter Tryz.func99, Tryz.ntmps99
  go_wp2
  go_quiet ((refine Calls.quiet_of_same (hF _ _ _)))
  go_wp2
  go_ret
  exact ⟨by simp, nq, rfl⟩
theorem of_par {F k b1 lo hi : Nat} {w : World} (hE : Ent F) (hF : ∀ b o w, Calls Tryz.prog F #[.pointer (some ⟨b, o, none⟩)] w fun e w' => e = .returned (.pointer (some ⟨b, o + k, none⟩)) ∧ w' = w)
    (hc : w.heap[b1]? = some (.cells #[.func (.func F) #[] #[]] 111)) (h1 : lo ≤ b1) (h2 : b1 < hi) : Of lo hi w (.func (.func 99) #[] #[.pointer (some ⟨b1, 0, none⟩)]) (10 + k) :=
  ⟨99, _, rfl, ent99, fun w2 hs b o => acc99 F b o k b1 w2 hE hF (by rw [Lib.cell_of_heap (hs.box h1 h2 hc (by decide))]; rfl)⟩

/-- The numbers of a call fit an int, and its strings are short. -/
structure CalFit (c : Cal) : Prop where
  ints : ∀ k, isI k = true → -9223372036854775808 ≤ c.getI k ∧ c.getI k ≤ 9223372036854775807
  strs : ∀ k, isS k = true → (c.getS k).length ≤ 2147483648
def FldOk (f : Fld) : Prop := (f.tag = 0 ∧ isI f.off = true ∧ f.most ≤ 9223372036854775807) ∨ (f.tag = 1 ∧ isS f.off = true ∧ f.most ≤ 9223372036854775807) ∨ f.tag = 2

/-- The function value v writes the field f. -/
def FldW (lo hi : Nat) (w : World) (v : Value) (f : Fld) : Prop :=
  ∃ F caps, v = .func (.func F) #[] caps ∧ Ent F ∧ ∀ w2, SameIn lo hi w w2 → Glob w2 → ∀ b o T pre post c, CalIn w2 b o T pre post c → CalFit c →
    Calls Tryz.prog F (#[.pointer (some ⟨b, o, none⟩)] ++ caps) w2 fun e w3 => e = .returned (.tuple #[vS (wr f c).1, .bool (wr f c).2]) ∧ Ext w2 w3
def RdPost (f : Fld) (ws : List (List UInt8)) (c : Cal) (br bw b o : Nat) (T : TypeId) (pre post : List Value) (w2 : World) (e : Ending) (w3 : World) : Prop :=
  Kept (fun x => x = br ∨ x = b) w2 w3 ∧ match rd f ws c with
    | some (ws', c') => e = .returned (.tuple #[]) ∧ Reader w3 br bw ws' ∧ CalIn w3 b o T pre post c'
    | none => e = wrongEnd
def WsFit (ws : List (List UInt8)) : Prop := ws.length ≤ 4294967296 ∧ ∀ s, s ∈ ws → s.length ≤ 4294967296
/-- The function value v reads the field f. -/
def FldR (lo hi : Nat) (w : World) (v : Value) (f : Fld) : Prop :=
  ∃ F caps, v = .func (.func F) #[] caps ∧ Ent F ∧ ∀ w2, SameIn lo hi w w2 → Glob w2 → ∀ br bw ws b o T pre post c, Reader w2 br bw ws → CalIn w2 b o T pre post c → br ≠ b → bw ≠ b → 9 ≤ br → WsFit ws →
    Calls Tryz.prog F (#[.pointer (some ⟨br, 0, none⟩), .pointer (some ⟨b, o, none⟩)] ++ caps) w2 (RdPost f ws c br bw b o T pre post w2)
theorem FldW.mono {lo hi lo' hi' : Nat} {w w' : World} {v : Value} {f : Fld} (h : FldW lo hi w v f) (hs : SameIn lo hi w w') (h1 : lo' ≤ lo) (h2 : hi ≤ hi') : FldW lo' hi' w' v f := by
  obtain ⟨F, caps, rfl, hE, hC⟩ := h
  exact ⟨F, caps, rfl, hE, fun w2 h => hC w2 (hs.trans (h.mono h1 h2))⟩
theorem FldR.mono {lo hi lo' hi' : Nat} {w w' : World} {v : Value} {f : Fld} (h : FldR lo hi w v f) (hs : SameIn lo hi w w') (h1 : lo' ≤ lo) (h2 : hi ≤ hi') : FldR lo' hi' w' v f := by
  obtain ⟨F, caps, rfl, hE, hC⟩ := h
  exact ⟨F, caps, rfl, hE, fun w2 h => hC w2 (hs.trans (h.mono h1 h2))⟩
end Go.Proofs.YtikmoledbiepoaaGreatDoor
/- What the fields of a call read. -/
namespace Go.Proofs.YtikmoledbiepoaaGreatDoor
open Go.RowKit
theorem ext_grow (w : World) (n : Nat) (os : Array Obj) : Ext w (Go.Sort.grow (w.drewN n) os) :=
  ⟨rfl, rfl, rfl, by simp [Go.Sort.grow, World.drewN], fun k hk => by simp [Go.Sort.grow, World.drewN, Array.getElem?_append, hk]⟩
theorem Itoa_any (n : Int) (w : World) (hg : Glob w) (h1 : -9223372036854775808 ≤ n) (h2 : n ≤ 9223372036854775807) :
    Calls Tryz.prog 45 #[.int .i64 n] w fun e w' => e = .returned (vS (Lib.itoa n)) ∧ Ext w w' := by
  refine (Tryz.strconv_Itoa n h1 h2 w hg.tab).mono ?_
  rintro e w' ⟨rfl, k, os, rfl⟩
  exact ⟨rfl, ext_grow w k os⟩
theorem Kept.ext_trans {S : Nat → Prop} {a b c : World} (h : Kept S a b) (k : Ext b c) : Kept S a c := h.trans (Kept.of_below k)
theorem Glob.drewN {w : World} (h : Glob w) (n : Nat) : Glob (w.drewN n) := h.mono (Nat.le_refl _) fun _ _ => rfl
theorem Reader.drewN {w : World} {br bw : Nat} {ws : List (List UInt8)} (h : Reader w br bw ws) (n : Nat) : Reader (w.drewN n) br bw ws := h.kept (Kept.drewN (fun _ => False) w n) id id
theorem CalIn.drewN {w : World} {b o : Nat} {T : TypeId} {pre post : List Value} {c : Cal} (h : CalIn w b o T pre post c) (n : Nat) : CalIn (w.drewN n) b o T pre post c := h
theorem Ext.drewN (w : World) (n : Nat) : Ext w (w.drewN n) := ⟨rfl, rfl, rfl, Nat.le_refl _, fun _ _ => rfl⟩
theorem isI_lt {k : Nat} (h : isI k = true) : k < 16 := by
  rcases isI_cases h with rfl | rfl | rfl | rfl | rfl | rfl | rfl | rfl | rfl | rfl | rfl | rfl | rfl <;> decide
theorem isS_lt {k : Nat} (h : isS k = true) : k < 16 := by
  rcases isS_cases h with rfl | rfl | rfl <;> decide

theorem rd_int_nil (m k : Nat) (c : Cal) : rd ⟨0, m, k⟩ [] c = none := rfl

set_option maxHeartbeats 400000 in
theorem intRead (lo hi bo m k : Nat) (ov : Value) (w : World) (hk : isI k = true) (hc : w.cell? ⟨bo, 0, none⟩ = some ov) (hof : Of lo hi w ov k) (hg : Glob w)
    (br bw b o : Nat) (ws : List (List UInt8)) (T : TypeId) (pre post : List Value) (c : Cal) (hr : Reader w br bw ws) (hC : CalIn w b o T pre post c) (hne : br ≠ b) (hnw : bw ≠ b) (h9 : 9 ≤ br) (hws : WsFit ws) :
    Calls Tryz.prog 116 #[.pointer (some ⟨br, 0, none⟩), .pointer (some ⟨b, o, none⟩), .pointer (some ⟨bo, 0, none⟩)] w (RdPost ⟨0, m, k⟩ ws c br bw b o T pre post w) := by
  obtain ⟨F, caps, rfl, hE, hF⟩ := hof
  have hF := hF w (SameIn.refl _ _ _) b o
  unfold Ent at hE
  go_enter Tryz.func116, Tryz.ntmps116
  go_wp2_with fail
  refine hF.mono ?_
  rintro e w1 ⟨rfl, n1, rfl⟩
  have hr1 := hr.drewN n1
  have hg1 := hg.drewN n1
  have hC1 := hC.drewN n1
  cases ws with
  | nil =>
    go_wp2_with (go_at_call 77; refine (number_nil br bw _ hr1).mono ?_; rintro e w' ⟨rfl, rfl⟩)
    exact ⟨rfl, Kept.drewN _ _ _, rfl⟩
  | cons s r =>
    go_wp2_with fail
    refine (number_cons br bw s r _ hg1 hr1 (by have := hws.1; simp at this; omega) (hws.2 s (by simp)) h9).mono ?_
    rintro e w2 ⟨hk2, hr2, he⟩
    have hk2' : Kept (fun x => x = br ∨ x = b) w w2 := (Kept.drewN _ w n1).trans (hk2.mono fun _ _ h => .inl h)
    have hC2 : CalIn w2 b o T pre post c := hC1.kept hk2 (fun e => hne e.symm)
    cases hn : numOf s with
    | none =>
      rw [hn] at he
      subst he
      have hrd : rd ⟨0, m, k⟩ (s :: r) c = none := by simp [rd, hn]
      have H := Lib.hid hrd; clear hn hrd
      go_wp2
      exact ⟨rfl, hk2', by rw [H.out]⟩
    | some v =>
      rw [hn] at he
      subst he
      have hrd : rd ⟨0, m, k⟩ (s :: r) c = some (r, c.setI k v) := by simp [rd, hn]
      have H := Lib.hid hrd; clear hn hrd
      have hold := hC2.cell (c.cellI hk)
      have hfz := hC2.frozen (o + k)
      go_wp2
      go_end0
      refine ⟨hk2'.trans (Kept.setCell (S := fun x => x = br ∨ x = b) w2 (p := ⟨b, o + k, none⟩) (.inr rfl) _), ?_⟩
      rw [H.out]
      exact ⟨rfl, hr2.kept (Kept.setCell (S := (· = b)) w2 (p := ⟨b, o + k, none⟩) rfl _) hne hnw, hC2.set (c.cells_setI v hk) (isI_lt hk)⟩

set_option maxHeartbeats 400000 in
theorem txtRead (lo hi bo m k : Nat) (ov : Value) (w : World) (hk : isS k = true) (hc : w.cell? ⟨bo, 0, none⟩ = some ov) (hof : Of lo hi w ov k) (hg : Glob w)
    (br bw b o : Nat) (ws : List (List UInt8)) (T : TypeId) (pre post : List Value) (c : Cal) (hr : Reader w br bw ws) (hC : CalIn w b o T pre post c) (hne : br ≠ b) (hnw : bw ≠ b) (h9 : 9 ≤ br) (hws : WsFit ws) :
    Calls Tryz.prog 118 #[.pointer (some ⟨br, 0, none⟩), .pointer (some ⟨b, o, none⟩), .pointer (some ⟨bo, 0, none⟩)] w (RdPost ⟨1, m, k⟩ ws c br bw b o T pre post w) := by
  obtain ⟨F, caps, rfl, hE, hF⟩ := hof
  have hF := hF w (SameIn.refl _ _ _) b o
  unfold Ent at hE
  go_enter Tryz.func118, Tryz.ntmps118
  go_wp2_with fail
  refine hF.mono ?_
  rintro e w1 ⟨rfl, n1, rfl⟩
  have hr1 := hr.drewN n1
  have hg1 := hg.drewN n1
  have hC1 := hC.drewN n1
  cases ws with
  | nil =>
    go_wp2_with (go_at_call 78; refine (text_nil br bw _ hr1).mono ?_; rintro e w' ⟨rfl, rfl⟩)
    exact ⟨rfl, Kept.drewN _ _ _, rfl⟩
  | cons s r =>
    go_wp2_with fail
    refine (text_any br bw s r _ hg1 hr1 (by have := hws.1; simp at this; omega) (hws.2 s (by simp)) h9).mono ?_
    rintro e w2 ⟨hk2, hr2, he⟩
    have hk2' : Kept (fun x => x = br ∨ x = b) w w2 := (Kept.drewN _ w n1).trans (hk2.mono fun _ _ h => .inl h)
    have hC2 : CalIn w2 b o T pre post c := hC1.kept hk2 (fun e => hne e.symm)
    cases hn : txtOf s with
    | none =>
      rw [hn] at he
      subst he
      have hrd : rd ⟨1, m, k⟩ (s :: r) c = none := by simp [rd, hn]
      have H := Lib.hid hrd; clear hn hrd
      go_wp2
      exact ⟨rfl, hk2', by rw [H.out]⟩
    | some v =>
      rw [hn] at he
      subst he
      have hrd : rd ⟨1, m, k⟩ (s :: r) c = some (r, c.setS k v) := by simp [rd, hn]
      have H := Lib.hid hrd; clear hn hrd
      have hold := hC2.cell (c.cellS hk)
      have hfz := hC2.frozen (o + k)
      unfold vS
      go_wp2
      go_end0
      refine ⟨hk2'.trans (Kept.setCell (S := fun x => x = br ∨ x = b) w2 (p := ⟨b, o + k, none⟩) (.inr rfl) _), ?_⟩
      rw [H.out]
      exact ⟨rfl, hr2.kept (Kept.setCell (S := (· = b)) w2 (p := ⟨b, o + k, none⟩) rfl _) hne hnw, hC2.set (c.cells_setS v hk) (isS_lt hk)⟩

set_option maxHeartbeats 400000 in
theorem dirRead (m k : Nat) (w : World)
    (br bw b o : Nat) (ws : List (List UInt8)) (T : TypeId) (pre post : List Value) (c : Cal) (hr : Reader w br bw ws) (hC : CalIn w b o T pre post c) (hne : br ≠ b) (hnw : bw ≠ b) (hws : WsFit ws) :
    Calls Tryz.prog 120 #[.pointer (some ⟨br, 0, none⟩), .pointer (some ⟨b, o, none⟩)] w (RdPost ⟨2, m, k⟩ ws c br bw b o T pre post w) := by
  cases ws with
  | nil =>
    go_enter Tryz.func120, Tryz.ntmps120
    go_wp2_with (go_at_call 60; refine (word_nil br bw _ hr).mono ?_; rintro e w' ⟨rfl, rfl⟩)
    exact ⟨rfl, Kept.refl _ _, rfl⟩
  | cons s r =>
    go_enter Tryz.func120, Tryz.ntmps120
    go_wp2_with fail
    refine (word_cons br bw s r _ hr (by have := hws.1; simp at this; omega)).mono ?_
    rintro e w2 ⟨rfl, hr2, hk2⟩
    have hk2' : Kept (fun x => x = br ∨ x = b) w w2 := hk2.mono fun _ _ h => .inl h
    have hC2 : CalIn w2 b o T pre post c := hC.kept hk2 (fun e => hne e.symm)
    unfold vS
    by_cases h1 : s = wBidi
    · subst h1
      unfold wBidi
      go_wp2
      go_end0
      exact ⟨hk2', rfl, hr2, hC2⟩
    · have h1' : (s == [98, 105, 100, 105]) = false := beq_eq_false_iff_ne.2 h1
      by_cases h2 : s = wUni
      · have hrd : rd ⟨2, m, k⟩ (s :: r) c = some (r, c.setI 3 1) := by simp [rd, h2, wBidi, wUni, Cal.setI]
        have H := Lib.hid hrd; clear hrd
        have hold := hC2.cell (c.cellI (k := 3) rfl)
        have hfz := hC2.frozen (o + 3)
        subst h2
        clear h1 h1'
        unfold wUni at *
        go_wp2
        first | go_end0 | refine bodyPost_ret (results_none rfl _ _ _) rfl ?_
        refine ⟨hk2'.trans (Kept.setCell (S := fun x => x = br ∨ x = b) w2 (p := ⟨b, o + 3, none⟩) (.inr rfl) _), ?_⟩
        rw [H.out]
        exact ⟨rfl, hr2.kept (Kept.setCell (S := (· = b)) w2 (p := ⟨b, o + 3, none⟩) rfl _) hne hnw, hC2.set (c.cells_setI 1 rfl) (by decide)⟩
      · have h2' : (s == [117, 110, 105]) = false := beq_eq_false_iff_ne.2 h2
        have hrd : rd ⟨2, m, k⟩ (s :: r) c = none := by simp [rd, h1, h2]
        have H := Lib.hid hrd; clear hrd h1 h2
        go_wp2
        exact ⟨rfl, hk2', by rw [H.out]⟩
end Go.Proofs.YtikmoledbiepoaaGreatDoor
/- What the fields of a call write. -/
namespace Go.Proofs.YtikmoledbiepoaaGreatDoor
open Go.RowKit
theorem exec_call {ρ : Operand → Value} {o : Oper} {f : Operand} {xs : Array Operand} {tys : Array TypeId} {F : FuncId} {caps args : Array Value} {w : World} (ho : o.op = .call ⟨.value f, xs, tys⟩) (hf : ρ f = .func (.func F) #[] caps) (hE : Ent F)
    (ha : xs.map ρ ++ caps = args) : (execOp ρ o).run Tryz.prog w = .ok (.enter F args) w := by
  subst ha
  unfold execOp
  simp only [ho, resolve, Deferred.ofValue, hf]
  simp [invoke, hE (xs.map ρ ++ caps)]
theorem ent44 : Ent 44 := enters_of Tryz.func44 (by kernel_rfl) rfl
theorem ent45 : Ent 45 := enters_of Tryz.func45 (by kernel_rfl) rfl
theorem mixedOrd : Tryz.prog.follows .mixedOrders = true := by kernel_rfl
set_option maxHeartbeats 1000000 in
theorem intWrite (lo hi bo bm m k : Nat) (ov : Value) (w : World) (hk : isI k = true) (hc : w.cell? ⟨bo, 0, none⟩ = some ov) (hcm : w.cell? ⟨bm, 0, none⟩ = some (.int .i64 (m : Int))) (hof : Of lo hi w ov k) (hg : Glob w)
    (b o : Nat) (T : TypeId) (pre post : List Value) (c : Cal) (hC : CalIn w b o T pre post c) (hfit : CalFit c) (hbo : bo < w.heap.size) (hbm : bm < w.heap.size) :
    Calls Tryz.prog 117 #[.pointer (some ⟨b, o, none⟩), .pointer (some ⟨bo, 0, none⟩), .pointer (some ⟨bm, 0, none⟩)] w fun e w3 => e = .returned (.tuple #[vS (wr ⟨0, m, k⟩ c).1, .bool (wr ⟨0, m, k⟩ c).2]) ∧ Ext w w3 := by
  obtain ⟨F, caps, rfl, hE, hF⟩ := hof
  have hb := lt_of_block hC.2
  obtain ⟨hx1, hx2⟩ := hfit.ints k hk
  have hcell := hC.cell (c.cellI hk)
  go_enter Tryz.func117, Tryz.ntmps117
  go_wp2
  refine wp_region_vals (fun i => [Value.func (.func F) #[] caps, .pointer (some ⟨b, o, none⟩), .pointer (some ⟨b, o + k, none⟩), .pointer (some ⟨b, o + k, none⟩), vI (c.getI k), vS (Lib.itoa (c.getI k)),
    Value.func (.func F) #[] caps, .pointer (some ⟨b, o, none⟩), .pointer (some ⟨b, o + k, none⟩), .pointer (some ⟨b, o + k, none⟩), vI (c.getI k), .int .i64 (m : Int), .bool (wr ⟨0, m, k⟩ c).2, vS (Lib.itoa (c.getI k)), .bool (wr ⟨0, m, k⟩ c).2].getD i undef)
    (fun w' => Ext w w') mixedOrd (by kernel_rfl) (by kernel_rfl) (by kernel_rfl) ⟨rfl, rfl, rfl, Nat.le_refl _, fun _ _ => rfl⟩ ?_ ?_
  · refine ⟨?_, ?_, ?_, ?_, ?_, ?_, ?_, ?_, ?_, ?_, ?_, ?_, ?_, ?_, ?_, trivial⟩
    · intro a w' hs hW
      have h1 : a.tmps[1]? = some (.pointer (some ⟨bo, 0, none⟩)) := hs.old 1 rfl
      have e2 : w'.cell? ⟨bo, 0, none⟩ = some (Value.func (.func F) #[] caps) := by rw [hW.cell (p := ⟨bo, 0, none⟩) hbo]; exact hc
      exact wpOp_val rfl rfl (by simp [execOp, go_sem, h1, e2]) ⟨rfl, hW⟩
    · intro a w' hs hW
      have h1 : a.tmps[0]? = some (.pointer (some ⟨b, o, none⟩)) := hs.old 0 rfl
      exact wpOp_val rfl rfl (by simp [execOp, go_sem, h1]) ⟨rfl, hW⟩
    · intro a w' hs hW
      have h1 : a.tmps[6]? = some (Value.func (.func F) #[] caps) := hs.made 0 6 rfl rfl
      have h2 : a.tmps[7]? = some (.pointer (some ⟨b, o, none⟩)) := hs.made 1 7 rfl rfl
      refine wpOp_call (f := F) (args := #[.pointer (some ⟨b, o, none⟩)] ++ caps) rfl rfl (exec_call rfl (ev h1) hE (by simp [ev h2])) ?_
      refine (hF w' (SameIn.of_ext hW) b o).mono ?_
      rintro e w'' ⟨rfl, n, rfl⟩
      exact ⟨_, rfl, rfl, hW.trans (Ext.drewN _ _)⟩
    · intro a w' hs hW
      have h1 : a.tmps[8]? = some (.pointer (some ⟨b, o + k, none⟩)) := hs.made 2 8 rfl rfl
      exact wpOp_val rfl rfl (by simp [execOp, go_sem, h1]) ⟨rfl, hW⟩
    · intro a w' hs hW
      have h1 : a.tmps[9]? = some (.pointer (some ⟨b, o + k, none⟩)) := hs.made 3 9 rfl rfl
      have e2 : w'.cell? ⟨b, o + k, none⟩ = some (vI (c.getI k)) := by rw [hW.cell (p := ⟨b, o + k, none⟩) hb]; exact hcell
      exact wpOp_val rfl rfl (by simp [execOp, go_sem, h1, e2]) ⟨rfl, hW⟩
    · intro a w' hs hW
      have h1 : a.tmps[10]? = some (vI (c.getI k)) := hs.made 4 10 rfl rfl
      refine wpOp_call (f := 45) (args := #[vI (c.getI k)]) rfl rfl (exec_call rfl rfl ent45 (by simp [ev h1])) ?_
      refine (Itoa_any _ w' (hg.ext hW) hx1 hx2).mono ?_
      rintro e w'' ⟨rfl, hx⟩
      exact ⟨_, rfl, rfl, hW.trans hx⟩
    · intro a w' hs hW
      have h1 : a.tmps[1]? = some (.pointer (some ⟨bo, 0, none⟩)) := hs.old 1 rfl
      have e2 : w'.cell? ⟨bo, 0, none⟩ = some (Value.func (.func F) #[] caps) := by rw [hW.cell (p := ⟨bo, 0, none⟩) hbo]; exact hc
      exact wpOp_val rfl rfl (by simp [execOp, go_sem, h1, e2]) ⟨rfl, hW⟩
    · intro a w' hs hW
      have h1 : a.tmps[0]? = some (.pointer (some ⟨b, o, none⟩)) := hs.old 0 rfl
      exact wpOp_val rfl rfl (by simp [execOp, go_sem, h1]) ⟨rfl, hW⟩
    · intro a w' hs hW
      have h1 : a.tmps[12]? = some (Value.func (.func F) #[] caps) := hs.made 6 12 rfl rfl
      have h2 : a.tmps[13]? = some (.pointer (some ⟨b, o, none⟩)) := hs.made 7 13 rfl rfl
      refine wpOp_call (f := F) (args := #[.pointer (some ⟨b, o, none⟩)] ++ caps) rfl rfl (exec_call rfl (ev h1) hE (by simp [ev h2])) ?_
      refine (hF w' (SameIn.of_ext hW) b o).mono ?_
      rintro e w'' ⟨rfl, n, rfl⟩
      exact ⟨_, rfl, rfl, hW.trans (Ext.drewN _ _)⟩
    · intro a w' hs hW
      have h1 : a.tmps[14]? = some (.pointer (some ⟨b, o + k, none⟩)) := hs.made 8 14 rfl rfl
      exact wpOp_val rfl rfl (by simp [execOp, go_sem, h1]) ⟨rfl, hW⟩
    · intro a w' hs hW
      have h1 : a.tmps[15]? = some (.pointer (some ⟨b, o + k, none⟩)) := hs.made 9 15 rfl rfl
      have e2 : w'.cell? ⟨b, o + k, none⟩ = some (vI (c.getI k)) := by rw [hW.cell (p := ⟨b, o + k, none⟩) hb]; exact hcell
      exact wpOp_val rfl rfl (by simp [execOp, go_sem, h1, e2]) ⟨rfl, hW⟩
    · intro a w' hs hW
      have h1 : a.tmps[2]? = some (.pointer (some ⟨bm, 0, none⟩)) := hs.old 2 rfl
      have e2 : w'.cell? ⟨bm, 0, none⟩ = some (.int .i64 (m : Int)) := by rw [hW.cell (p := ⟨bm, 0, none⟩) hbm]; exact hcm
      exact wpOp_val rfl rfl (by simp [execOp, go_sem, h1, e2]) ⟨rfl, hW⟩
    · intro a w' hs hW
      have h1 : a.tmps[16]? = some (vI (c.getI k)) := hs.made 10 16 rfl rfl
      have h2 : a.tmps[17]? = some (.int .i64 (m : Int)) := hs.made 11 17 rfl rfl
      refine wpOp_call (f := 44) (args := #[vI (c.getI k), .int .i64 (m : Int)]) rfl rfl (exec_call rfl rfl ent44 (by simp [ev h1, ev h2])) ?_
      refine (within_any _ _ w').mono ?_
      rintro e w'' ⟨rfl, rfl⟩
      exact ⟨_, rfl, rfl, hW⟩
    · intro a w' hs hW
      have h1 : a.tmps[11]? = some (vS (Lib.itoa (c.getI k))) := hs.made 5 11 rfl rfl
      exact wpOp_val rfl rfl (by simp [execOp, go_sem, h1]) ⟨rfl, hW⟩
    · intro a w' hs hW
      have h1 : a.tmps[18]? = some (.bool (wr ⟨0, m, k⟩ c).2) := hs.made 12 18 rfl rfl
      exact wpOp_val rfl rfl (by simp [execOp, go_sem, h1]) ⟨rfl, hW⟩
  · intro a w' hs hW
    have h4 : a.tmps[4]? = some (vS (Lib.itoa (c.getI k))) := hs.made 13 4 rfl
    have h5 : a.tmps[5]? = some (.bool (wr ⟨0, m, k⟩ c).2) := hs.made 14 5 rfl
    have hd : a.defers = [] := hs.defers
    clear hs
    go_wp2
    refine bodyPost_ret (v := .tuple #[vS (wr ⟨0, m, k⟩ c).1, .bool (wr ⟨0, m, k⟩ c).2]) (by simp [results, Tryz.results117, go_sem, h4, h5, wr]) hd ⟨rfl, hW⟩

theorem ent46 : Ent 46 := enters_of Tryz.func46 (by kernel_rfl) rfl
set_option maxHeartbeats 1000000 in
theorem txtWrite (lo hi bo bm m k : Nat) (ov : Value) (w : World) (hk : isS k = true) (hc : w.cell? ⟨bo, 0, none⟩ = some ov) (hcm : w.cell? ⟨bm, 0, none⟩ = some (.int .i64 (m : Int))) (hof : Of lo hi w ov k)
    (b o : Nat) (T : TypeId) (pre post : List Value) (c : Cal) (hC : CalIn w b o T pre post c) (hfit : CalFit c) (hbo : bo < w.heap.size) (hbm : bm < w.heap.size) :
    Calls Tryz.prog 119 #[.pointer (some ⟨b, o, none⟩), .pointer (some ⟨bo, 0, none⟩), .pointer (some ⟨bm, 0, none⟩)] w fun e w3 => e = .returned (.tuple #[vS (wr ⟨1, m, k⟩ c).1, .bool (wr ⟨1, m, k⟩ c).2]) ∧ Ext w w3 := by
  obtain ⟨F, caps, rfl, hE, hF⟩ := hof
  have hb := lt_of_block hC.2
  have hx1 := hfit.strs k hk
  have hcell := hC.cell (c.cellS hk)
  go_enter Tryz.func119, Tryz.ntmps119
  go_wp2
  refine wp_region_vals (fun i => [Value.func (.func F) #[] caps, .pointer (some ⟨b, o, none⟩), .pointer (some ⟨b, o + k, none⟩), .pointer (some ⟨b, o + k, none⟩), vS (c.getS k), vS (hexB (c.getS k)),
    Value.func (.func F) #[] caps, .pointer (some ⟨b, o, none⟩), .pointer (some ⟨b, o + k, none⟩), .pointer (some ⟨b, o + k, none⟩), vS (c.getS k), .int .i64 ((c.getS k).length : Int), .int .i64 (m : Int), .bool (wr ⟨1, m, k⟩ c).2, vS (hexB (c.getS k)), .bool (wr ⟨1, m, k⟩ c).2].getD i undef)
    (fun w' => Ext w w') mixedOrd (by kernel_rfl) (by kernel_rfl) (by kernel_rfl) ⟨rfl, rfl, rfl, Nat.le_refl _, fun _ _ => rfl⟩ ?_ ?_
  · refine ⟨?_, ?_, ?_, ?_, ?_, ?_, ?_, ?_, ?_, ?_, ?_, ?_, ?_, ?_, ?_, ?_, trivial⟩
    · intro a w' hs hW
      have h1 : a.tmps[1]? = some (.pointer (some ⟨bo, 0, none⟩)) := hs.old 1 rfl
      have e2 : w'.cell? ⟨bo, 0, none⟩ = some (Value.func (.func F) #[] caps) := by rw [hW.cell (p := ⟨bo, 0, none⟩) hbo]; exact hc
      exact wpOp_val rfl rfl (by simp [execOp, go_sem, h1, e2]) ⟨rfl, hW⟩
    · intro a w' hs hW
      have h1 : a.tmps[0]? = some (.pointer (some ⟨b, o, none⟩)) := hs.old 0 rfl
      exact wpOp_val rfl rfl (by simp [execOp, go_sem, h1]) ⟨rfl, hW⟩
    · intro a w' hs hW
      have h1 : a.tmps[6]? = some (Value.func (.func F) #[] caps) := hs.made 0 6 rfl rfl
      have h2 : a.tmps[7]? = some (.pointer (some ⟨b, o, none⟩)) := hs.made 1 7 rfl rfl
      refine wpOp_call (f := F) (args := #[.pointer (some ⟨b, o, none⟩)] ++ caps) rfl rfl (exec_call rfl (ev h1) hE (by simp [ev h2])) ?_
      refine (hF w' (SameIn.of_ext hW) b o).mono ?_
      rintro e w'' ⟨rfl, n, rfl⟩
      exact ⟨_, rfl, rfl, hW.trans (Ext.drewN _ _)⟩
    · intro a w' hs hW
      have h1 : a.tmps[8]? = some (.pointer (some ⟨b, o + k, none⟩)) := hs.made 2 8 rfl rfl
      exact wpOp_val rfl rfl (by simp [execOp, go_sem, h1]) ⟨rfl, hW⟩
    · intro a w' hs hW
      have h1 : a.tmps[9]? = some (.pointer (some ⟨b, o + k, none⟩)) := hs.made 3 9 rfl rfl
      have e2 : w'.cell? ⟨b, o + k, none⟩ = some (vS (c.getS k)) := by rw [hW.cell (p := ⟨b, o + k, none⟩) hb]; exact hcell
      exact wpOp_val rfl rfl (by simp [execOp, go_sem, h1, e2]) ⟨rfl, hW⟩
    · intro a w' hs hW
      have h1 : a.tmps[10]? = some (vS (c.getS k)) := hs.made 4 10 rfl rfl
      refine wpOp_call (f := 46) (args := #[vS (c.getS k)]) rfl rfl (exec_call rfl rfl ent46 (by simp [ev h1])) ?_
      refine (hex_any _ w' (by omega)).mono ?_
      rintro e w'' ⟨rfl, hx⟩
      exact ⟨_, rfl, rfl, hW.trans hx⟩
    · intro a w' hs hW
      have h1 : a.tmps[1]? = some (.pointer (some ⟨bo, 0, none⟩)) := hs.old 1 rfl
      have e2 : w'.cell? ⟨bo, 0, none⟩ = some (Value.func (.func F) #[] caps) := by rw [hW.cell (p := ⟨bo, 0, none⟩) hbo]; exact hc
      exact wpOp_val rfl rfl (by simp [execOp, go_sem, h1, e2]) ⟨rfl, hW⟩
    · intro a w' hs hW
      have h1 : a.tmps[0]? = some (.pointer (some ⟨b, o, none⟩)) := hs.old 0 rfl
      exact wpOp_val rfl rfl (by simp [execOp, go_sem, h1]) ⟨rfl, hW⟩
    · intro a w' hs hW
      have h1 : a.tmps[12]? = some (Value.func (.func F) #[] caps) := hs.made 6 12 rfl rfl
      have h2 : a.tmps[13]? = some (.pointer (some ⟨b, o, none⟩)) := hs.made 7 13 rfl rfl
      refine wpOp_call (f := F) (args := #[.pointer (some ⟨b, o, none⟩)] ++ caps) rfl rfl (exec_call rfl (ev h1) hE (by simp [ev h2])) ?_
      refine (hF w' (SameIn.of_ext hW) b o).mono ?_
      rintro e w'' ⟨rfl, n, rfl⟩
      exact ⟨_, rfl, rfl, hW.trans (Ext.drewN _ _)⟩
    · intro a w' hs hW
      have h1 : a.tmps[14]? = some (.pointer (some ⟨b, o + k, none⟩)) := hs.made 8 14 rfl rfl
      exact wpOp_val rfl rfl (by simp [execOp, go_sem, h1]) ⟨rfl, hW⟩
    · intro a w' hs hW
      have h1 : a.tmps[15]? = some (.pointer (some ⟨b, o + k, none⟩)) := hs.made 9 15 rfl rfl
      have e2 : w'.cell? ⟨b, o + k, none⟩ = some (vS (c.getS k)) := by rw [hW.cell (p := ⟨b, o + k, none⟩) hb]; exact hcell
      exact wpOp_val rfl rfl (by simp [execOp, go_sem, h1, e2]) ⟨rfl, hW⟩
    · intro a w' hs hW
      have h1 : a.tmps[16]? = some (vS (c.getS k)) := hs.made 10 16 rfl rfl
      unfold vS at h1
      exact wpOp_val rfl rfl (by simp [execOp, go_sem, h1]) ⟨rfl, hW⟩
    · intro a w' hs hW
      have h1 : a.tmps[2]? = some (.pointer (some ⟨bm, 0, none⟩)) := hs.old 2 rfl
      have e2 : w'.cell? ⟨bm, 0, none⟩ = some (.int .i64 (m : Int)) := by rw [hW.cell (p := ⟨bm, 0, none⟩) hbm]; exact hcm
      exact wpOp_val rfl rfl (by simp [execOp, go_sem, h1, e2]) ⟨rfl, hW⟩
    · intro a w' hs hW
      have h1 : a.tmps[17]? = some (.int .i64 ((c.getS k).length : Int)) := hs.made 11 17 rfl rfl
      have h2 : a.tmps[18]? = some (.int .i64 (m : Int)) := hs.made 12 18 rfl rfl
      have h3 : (wr ⟨1, m, k⟩ c).2 = decide ((c.getS k).length ≤ m) := by simp [wr]
      exact wpOp_val rfl rfl (by simp [execOp, go_sem, h1, h2, h3]) ⟨rfl, hW⟩
    · intro a w' hs hW
      have h1 : a.tmps[11]? = some (vS (hexB (c.getS k))) := hs.made 5 11 rfl rfl
      exact wpOp_val rfl rfl (by simp [execOp, go_sem, h1]) ⟨rfl, hW⟩
    · intro a w' hs hW
      have h1 : a.tmps[19]? = some (.bool (wr ⟨1, m, k⟩ c).2) := hs.made 13 19 rfl rfl
      exact wpOp_val rfl rfl (by simp [execOp, go_sem, h1]) ⟨rfl, hW⟩
  · intro a w' hs hW
    have h4 : a.tmps[4]? = some (vS (hexB (c.getS k))) := hs.made 14 4 rfl
    have h5 : a.tmps[5]? = some (.bool (wr ⟨1, m, k⟩ c).2) := hs.made 15 5 rfl
    have hd : a.defers = [] := hs.defers
    clear hs
    go_wp2
    refine bodyPost_ret (v := .tuple #[vS (wr ⟨1, m, k⟩ c).1, .bool (wr ⟨1, m, k⟩ c).2]) (by simp [results, Tryz.results119, go_sem, h4, h5, wr]) hd ⟨rfl, hW⟩

set_option maxHeartbeats 400000 in
theorem dirWrite (m k : Nat) (w : World) (b o : Nat) (T : TypeId) (pre post : List Value) (c : Cal) (hC : CalIn w b o T pre post c) :
    Calls Tryz.prog 121 #[.pointer (some ⟨b, o, none⟩)] w fun e w3 => e = .returned (.tuple #[vS (wr ⟨2, m, k⟩ c).1, .bool (wr ⟨2, m, k⟩ c).2]) ∧ Ext w w3 := by
  have hcell : w.cell? ⟨b, o + 3, none⟩ = some (.int .i64 c.n) := hC.cell (c.cellI (k := 3) rfl)
  by_cases h : c.n = 1
  · have hw : wr ⟨2, m, k⟩ c = (wUni, true) := by simp [wr, h]
    rw [hw]
    rw [h] at hcell
    go_enter Tryz.func121, Tryz.ntmps121
    go_wp2
    go_ret2
    exact ⟨rfl, Ext.refl _⟩
  · have hw : wr ⟨2, m, k⟩ c = (wBidi, c.n == 0) := by simp [wr, h]
    rw [hw]
    have h' : (c.n == 1) = false := beq_eq_false_iff_ne.2 h
    go_enter Tryz.func121, Tryz.ntmps121
    go_wp2
    go_quiet (fail)
    go_wp2
    go_ret2
    exact ⟨rfl, Ext.drewN _ _⟩
end Go.Proofs.YtikmoledbiepoaaGreatDoor

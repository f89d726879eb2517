/- The accessors of a call's fields, and what a field reads and writes. -/
import Derived.Test.YtikmoledbiepoaaGreatDoorText
import Derived.Test.YtikmoledbiepoaaGreatDoorRegion
import Derived.Deep.QuietTactic
import Derived.BigQuiet
namespace Go.Proofs.YtikmoledbiepoaaGreatDoor
open Go.RowKit
/-- A call of function F enters it. -/
def Ent (F : FuncId) : Prop := ∀ (args : Array Value) (w : World), (callFunc F args).run Tryz.prog w = .ok (.enter F args) w
set_option maxHeartbeats 400000 in
theorem acc83 (b o : Nat) (w : World) : Calls Tryz.prog 83 #[.pointer (some ⟨b, o, none⟩)] w fun e w' => e = .returned (.pointer (some ⟨b, o + 1, none⟩)) ∧ w' = w := by
  go_enter Tryz.func83, Tryz.ntmps83
  go_wp2
  go_ret
  exact ⟨rfl, rfl⟩
theorem ent83 : Ent 83 := enters_of Tryz.func83 (by kernel_rfl) rfl
set_option maxHeartbeats 400000 in
theorem acc84 (b o : Nat) (w : World) : Calls Tryz.prog 84 #[.pointer (some ⟨b, o, none⟩)] w fun e w' => e = .returned (.pointer (some ⟨b, o + 2, none⟩)) ∧ w' = w := by
  go_enter Tryz.func84, Tryz.ntmps84
  go_wp2
  go_ret
  exact ⟨rfl, rfl⟩
theorem ent84 : Ent 84 := enters_of Tryz.func84 (by kernel_rfl) rfl
set_option maxHeartbeats 400000 in
theorem acc85 (b o : Nat) (w : World) : Calls Tryz.prog 85 #[.pointer (some ⟨b, o, none⟩)] w fun e w' => e = .returned (.pointer (some ⟨b, o + 5, none⟩)) ∧ w' = w := by
  go_enter Tryz.func85, Tryz.ntmps85
  go_wp2
  go_ret
  exact ⟨rfl, rfl⟩
theorem ent85 : Ent 85 := enters_of Tryz.func85 (by kernel_rfl) rfl
set_option maxHeartbeats 400000 in
theorem acc86 (b o : Nat) (w : World) : Calls Tryz.prog 86 #[.pointer (some ⟨b, o, none⟩)] w fun e w' => e = .returned (.pointer (some ⟨b, o + 3, none⟩)) ∧ w' = w := by
  go_enter Tryz.func86, Tryz.ntmps86
  go_wp2
  go_ret
  exact ⟨rfl, rfl⟩
theorem ent86 : Ent 86 := enters_of Tryz.func86 (by kernel_rfl) rfl
set_option maxHeartbeats 400000 in
theorem acc87 (b o : Nat) (w : World) : Calls Tryz.prog 87 #[.pointer (some ⟨b, o, none⟩)] w fun e w' => e = .returned (.pointer (some ⟨b, o + 6, none⟩)) ∧ w' = w := by
  go_enter Tryz.func87, Tryz.ntmps87
  go_wp2
  go_ret
  exact ⟨rfl, rfl⟩
theorem ent87 : Ent 87 := enters_of Tryz.func87 (by kernel_rfl) rfl
set_option maxHeartbeats 400000 in
theorem acc88 (b o : Nat) (w : World) : Calls Tryz.prog 88 #[.pointer (some ⟨b, o, none⟩)] w fun e w' => e = .returned (.pointer (some ⟨b, o + 7, none⟩)) ∧ w' = w := by
  go_enter Tryz.func88, Tryz.ntmps88
  go_wp2
  go_ret
  exact ⟨rfl, rfl⟩
theorem ent88 : Ent 88 := enters_of Tryz.func88 (by kernel_rfl) rfl
set_option maxHeartbeats 400000 in
theorem acc90 (b o : Nat) (w : World) : Calls Tryz.prog 90 #[.pointer (some ⟨b, o, none⟩)] w fun e w' => e = .returned (.pointer (some ⟨b, o + 4, none⟩)) ∧ w' = w := by
  go_enter Tryz.func90, Tryz.ntmps90
  go_wp2
  go_ret
  exact ⟨rfl, rfl⟩
theorem ent90 : Ent 90 := enters_of Tryz.func90 (by kernel_rfl) rfl
set_option maxHeartbeats 400000 in
theorem acc91 (b o : Nat) (w : World) : Calls Tryz.prog 91 #[.pointer (some ⟨b, o, none⟩)] w fun e w' => e = .returned (.pointer (some ⟨b, o + 8, none⟩)) ∧ w' = w := by
  go_enter Tryz.func91, Tryz.ntmps91
  go_wp2
  go_ret
  exact ⟨rfl, rfl⟩
theorem ent91 : Ent 91 := enters_of Tryz.func91 (by kernel_rfl) rfl
set_option maxHeartbeats 400000 in
theorem acc92 (b o : Nat) (w : World) : Calls Tryz.prog 92 #[.pointer (some ⟨b, o, none⟩)] w fun e w' => e = .returned (.pointer (some ⟨b, o + 9, none⟩)) ∧ w' = w := by
  go_enter Tryz.func92, Tryz.ntmps92
  go_wp2
  go_ret
  exact ⟨rfl, rfl⟩
theorem ent92 : Ent 92 := enters_of Tryz.func92 (by kernel_rfl) rfl
set_option maxHeartbeats 400000 in
theorem acc93 (b o : Nat) (w : World) : Calls Tryz.prog 93 #[.pointer (some ⟨b, o, none⟩)] w fun e w' => e = .returned (.pointer (some ⟨b, o + 0, none⟩)) ∧ w' = w := by
  go_enter Tryz.func93, Tryz.ntmps93
  go_wp2
  go_ret
  exact ⟨rfl, rfl⟩
theorem ent93 : Ent 93 := enters_of Tryz.func93 (by kernel_rfl) rfl
set_option maxHeartbeats 400000 in
theorem acc94 (b o : Nat) (w : World) : Calls Tryz.prog 94 #[.pointer (some ⟨b, o, none⟩)] w fun e w' => e = .returned (.pointer (some ⟨b, o + 1, none⟩)) ∧ w' = w := by
  go_enter Tryz.func94, Tryz.ntmps94
  go_wp2
  go_ret
  exact ⟨rfl, rfl⟩
theorem ent94 : Ent 94 := enters_of Tryz.func94 (by kernel_rfl) rfl
set_option maxHeartbeats 400000 in
theorem acc95 (b o : Nat) (w : World) : Calls Tryz.prog 95 #[.pointer (some ⟨b, o, none⟩)] w fun e w' => e = .returned (.pointer (some ⟨b, o + 2, none⟩)) ∧ w' = w := by
  go_enter Tryz.func95, Tryz.ntmps95
  go_wp2
  go_ret
  exact ⟨rfl, rfl⟩
theorem ent95 : Ent 95 := enters_of Tryz.func95 (by kernel_rfl) rfl
set_option maxHeartbeats 400000 in
theorem acc96 (b o : Nat) (w : World) : Calls Tryz.prog 96 #[.pointer (some ⟨b, o, none⟩)] w fun e w' => e = .returned (.pointer (some ⟨b, o + 3, none⟩)) ∧ w' = w := by
  go_enter Tryz.func96, Tryz.ntmps96
  go_wp2
  go_ret
  exact ⟨rfl, rfl⟩
theorem ent96 : Ent 96 := enters_of Tryz.func96 (by kernel_rfl) rfl
set_option maxHeartbeats 400000 in
theorem acc97 (b o : Nat) (w : World) : Calls Tryz.prog 97 #[.pointer (some ⟨b, o, none⟩)] w fun e w' => e = .returned (.pointer (some ⟨b, o + 4, none⟩)) ∧ w' = w := by
  go_enter Tryz.func97, Tryz.ntmps97
  go_wp2
  go_ret
  exact ⟨rfl, rfl⟩
theorem ent97 : Ent 97 := enters_of Tryz.func97 (by kernel_rfl) rfl
set_option maxHeartbeats 400000 in
theorem acc98 (b o : Nat) (w : World) : Calls Tryz.prog 98 #[.pointer (some ⟨b, o, none⟩)] w fun e w' => e = .returned (.pointer (some ⟨b, o + 5, none⟩)) ∧ w' = w := by
  go_enter Tryz.func98, Tryz.ntmps98
  go_wp2
  go_ret
  exact ⟨rfl, rfl⟩
theorem ent98 : Ent 98 := enters_of Tryz.func98 (by kernel_rfl) rfl
set_option maxHeartbeats 400000 in
theorem acc110 (b o : Nat) (w : World) : Calls Tryz.prog 110 #[.pointer (some ⟨b, o, none⟩)] w fun e w' => e = .returned (.pointer (some ⟨b, o + 0, none⟩)) ∧ w' = w := by
  go_enter Tryz.func110, Tryz.ntmps110
  go_wp2
  go_ret
  exact ⟨rfl, rfl⟩
theorem ent110 : Ent 110 := enters_of Tryz.func110 (by kernel_rfl) rfl
set_option maxHeartbeats 400000 in
theorem acc111 (b o : Nat) (w : World) : Calls Tryz.prog 111 #[.pointer (some ⟨b, o, none⟩)] w fun e w' => e = .returned (.pointer (some ⟨b, o + 1, none⟩)) ∧ w' = w := by
  go_enter Tryz.func111, Tryz.ntmps111
  go_wp2
  go_ret
  exact ⟨rfl, rfl⟩
theorem ent111 : Ent 111 := enters_of Tryz.func111 (by kernel_rfl) rfl
set_option maxHeartbeats 400000 in
theorem acc112 (b o : Nat) (w : World) : Calls Tryz.prog 112 #[.pointer (some ⟨b, o, none⟩)] w fun e w' => e = .returned (.pointer (some ⟨b, o + 2, none⟩)) ∧ w' = w := by
  go_enter Tryz.func112, Tryz.ntmps112
  go_wp2
  go_ret
  exact ⟨rfl, rfl⟩
theorem ent112 : Ent 112 := enters_of Tryz.func112 (by kernel_rfl) rfl
set_option maxHeartbeats 400000 in
theorem acc113 (b o : Nat) (w : World) : Calls Tryz.prog 113 #[.pointer (some ⟨b, o, none⟩)] w fun e w' => e = .returned (.pointer (some ⟨b, o + 3, none⟩)) ∧ w' = w := by
  go_enter Tryz.func113, Tryz.ntmps113
  go_wp2
  go_ret
  exact ⟨rfl, rfl⟩
theorem ent113 : Ent 113 := enters_of Tryz.func113 (by kernel_rfl) rfl
set_option maxHeartbeats 400000 in
theorem acc114 (b o : Nat) (w : World) : Calls Tryz.prog 114 #[.pointer (some ⟨b, o, none⟩)] w fun e w' => e = .returned (.pointer (some ⟨b, o + 4, none⟩)) ∧ w' = w := by
  go_enter Tryz.func114, Tryz.ntmps114
  go_wp2
  go_ret
  exact ⟨rfl, rfl⟩
theorem ent114 : Ent 114 := enters_of Tryz.func114 (by kernel_rfl) rfl
set_option maxHeartbeats 400000 in
theorem acc115 (b o : Nat) (w : World) : Calls Tryz.prog 115 #[.pointer (some ⟨b, o, none⟩)] w fun e w' => e = .returned (.pointer (some ⟨b, o + 5, none⟩)) ∧ w' = w := by
  go_enter Tryz.func115, Tryz.ntmps115
  go_wp2
  go_ret
  exact ⟨rfl, rfl⟩
theorem ent115 : Ent 115 := enters_of Tryz.func115 (by kernel_rfl) rfl
/-- A block of cells that is no row of fields. -/
def isBox (w : World) (x : Nat) : Prop := ∃ cs T fz, w.heap[x]? = some (.cells cs T fz) ∧ T ≠ 123
/-- The boxes from lo to hi are as they were. -/
def SameIn (lo hi : Nat) (w w' : World) : Prop := ∀ x, lo ≤ x → x < hi → isBox w x → w'.heap[x]? = w.heap[x]?
theorem isBox.lt {w : World} {x : Nat} (h : isBox w x) : x < w.heap.size := by
  obtain ⟨cs, T, fz, h, _⟩ := h
  exact lt_of_block h
theorem SameIn.refl (lo hi : Nat) (w : World) : SameIn lo hi w w := fun _ _ _ _ => rfl
theorem SameIn.trans {lo hi : Nat} {a b c : World} (h : SameIn lo hi a b) (k : SameIn lo hi b c) : SameIn lo hi a c := fun x h1 h2 h3 => by
  have e := h x h1 h2 h3
  have hb : isBox b x := by
    obtain ⟨cs, T, fz, h4, h5⟩ := h3
    exact ⟨cs, T, fz, by rw [e]; exact h4, h5⟩
  exact (k x h1 h2 hb).trans e
theorem SameIn.mono {lo hi lo' hi' : Nat} {a b : World} (h : SameIn lo hi a b) (h1 : lo ≤ lo') (h2 : hi' ≤ hi) : SameIn lo' hi' a b := fun x a b => h x (by omega) (by omega)
theorem SameIn.of_kept {S : Nat → Prop} {lo hi : Nat} {a b : World} (h : Kept S a b) (hs : ∀ x, lo ≤ x → x < hi → ¬ S x) : SameIn lo hi a b :=
  fun x h1 h2 h3 => h.block x h3.lt (hs x h1 h2)
theorem SameIn.of_ext {lo hi : Nat} {a b : World} (h : Ext a b) : SameIn lo hi a b := fun x _ _ h2 => h.block x h2.lt
theorem SameIn.drewN (lo hi : Nat) (w : World) (n : Nat) : SameIn lo hi w (w.drewN n) := fun _ _ _ _ => rfl
theorem SameIn.box {lo hi : Nat} {a b : World} (h : SameIn lo hi a b) {x : Nat} (h1 : lo ≤ x) (h2 : x < hi) {cs : Array Value} {T : TypeId} {fz : Nat × Nat} (hx : a.heap[x]? = some (.cells cs T fz)) (hT : T ≠ 123) : b.heap[x]? = some (.cells cs T fz) := by
  rw [h x h1 h2 ⟨cs, T, fz, hx, hT⟩]; exact hx

/-- The function value v gives, of a pointer to a call, the pointer to the cell k of the call. -/
def Of (lo hi : Nat) (w : World) (v : Value) (k : Nat) : Prop :=
  ∃ F caps, v = .func (.func F) #[] caps ∧ Ent F ∧ ∀ w2, SameIn lo hi w w2 → ∀ b o, Calls Tryz.prog F (#[.pointer (some ⟨b, o, none⟩)] ++ caps) w2 fun e w3 => e = .returned (.pointer (some ⟨b, o + k, none⟩)) ∧ ∃ n, w3 = w2.drewN n
theorem Of.mono {lo hi lo' hi' : Nat} {w w' : World} {v : Value} {k : Nat} (h : Of lo hi w v k) (hs : SameIn lo hi w w') (h1 : lo' ≤ lo) (h2 : hi ≤ hi') : Of lo' hi' w' v k := by
  obtain ⟨F, caps, rfl, hE, hC⟩ := h
  exact ⟨F, caps, rfl, hE, fun w2 h => hC w2 (hs.trans (h.mono h1 h2))⟩
theorem of_acc {F k : Nat} (hE : Ent F) (hF : ∀ b o w, Calls Tryz.prog F #[.pointer (some ⟨b, o, none⟩)] w fun e w' => e = .returned (.pointer (some ⟨b, o + k, none⟩)) ∧ w' = w) (lo hi : Nat) (w : World) :
    Of lo hi w (.func (.func F) #[] #[]) k :=
  ⟨F, #[], rfl, hE, fun w2 _ b o => (hF b o w2).mono fun _ _ ⟨h1, h2⟩ => ⟨h1, 0, h2⟩⟩
theorem ent99 : Ent 99 := enters_of Tryz.func99 (by kernel_rfl) rfl
set_option maxHeartbeats 400000 in
theorem acc99 (F b o k b1 : Nat) (w : World) (hE : Ent F) (hF : ∀ b o w, Calls Tryz.prog F #[.pointer (some ⟨b, o, none⟩)] w fun e w' => e = .returned (.pointer (some ⟨b, o + k, none⟩)) ∧ w' = w)
    (hc : w.cell? ⟨b1, 0, none⟩ = some (.func (.func F) #[] #[])) :
    Calls Tryz.prog 99 #[.pointer (some ⟨b, o, none⟩), .pointer (some ⟨b1, 0, none⟩)] w fun e w' => e = .returned (.pointer (some ⟨b, o + (10 + k), none⟩)) ∧ ∃ n, w' = w.drewN n := by
  unfold Ent at hE
  go_enter Tryz.func99, Tryz.ntmps99
  go_wp2
  go_quiet ((refine Calls.quiet_of_same (hF _ _ _)))
  go_wp2
  go_ret
  exact ⟨by simp, nq, rfl⟩
theorem of_par {F k b1 lo hi : Nat} {w : World} (hE : Ent F) (hF : ∀ b o w, Calls Tryz.prog F #[.pointer (some ⟨b, o, none⟩)] w fun e w' => e = .returned (.pointer (some ⟨b, o + k, none⟩)) ∧ w' = w)
    (hc : w.heap[b1]? = some (.cells #[.func (.func F) #[] #[]] 111)) (h1 : lo ≤ b1) (h2 : b1 < hi) : Of lo hi w (.func (.func 99) #[] #[.pointer (some ⟨b1, 0, none⟩)]) (10 + k) :=
  ⟨99, _, rfl, ent99, fun w2 hs b o => acc99 F b o k b1 w2 hE hF (by rw [Lib.cell_of_heap (hs.box h1 h2 hc (by decide))]; rfl)⟩

/-- The numbers of a call fit an int, and its strings are short. -/
structure CalFit (c : Cal) : Prop where
  ints : ∀ k, isI k = true → -9223372036854775808 ≤ c.getI k ∧ c.getI k ≤ 9223372036854775807
  strs : ∀ k, isS k = true → (c.getS k).length ≤ 2147483648
def FldOk (f : Fld) : Prop := (f.tag = 0 ∧ isI f.off = true ∧ f.most ≤ 9223372036854775807) ∨ (f.tag = 1 ∧ isS f.off = true ∧ f.most ≤ 9223372036854775807) ∨ f.tag = 2

/-- The function value v writes the field f. -/
def FldW (lo hi : Nat) (w : World) (v : Value) (f : Fld) : Prop :=
  ∃ F caps, v = .func (.func F) #[] caps ∧ Ent F ∧ ∀ w2, SameIn lo hi w w2 → Glob w2 → ∀ b o T pre post c, CalIn w2 b o T pre post c → CalFit c →
    Calls Tryz.prog F (#[.pointer (some ⟨b, o, none⟩)] ++ caps) w2 fun e w3 => e = .returned (.tuple #[vS (wr f c).1, .bool (wr f c).2]) ∧ Ext w2 w3
def RdPost (f : Fld) (ws : List (List UInt8)) (c : Cal) (br bw b o : Nat) (T : TypeId) (pre post : List Value) (w2 : World) (e : Ending) (w3 : World) : Prop :=
  Kept (fun x => x = br ∨ x = b) w2 w3 ∧ match rd f ws c with
    | some (ws', c') => e = .returned (.tuple #[]) ∧ Reader w3 br bw ws' ∧ CalIn w3 b o T pre post c'
    | none => e = wrongEnd
def WsFit (ws : List (List UInt8)) : Prop := ws.length ≤ 4294967296 ∧ ∀ s, s ∈ ws → s.length ≤ 4294967296
/-- The function value v reads the field f. -/
def FldR (lo hi : Nat) (w : World) (v : Value) (f : Fld) : Prop :=
  ∃ F caps, v = .func (.func F) #[] caps ∧ Ent F ∧ ∀ w2, SameIn lo hi w w2 → Glob w2 → ∀ br bw ws b o T pre post c, Reader w2 br bw ws → CalIn w2 b o T pre post c → br ≠ b → bw ≠ b → 9 ≤ br → WsFit ws →
    Calls Tryz.prog F (#[.pointer (some ⟨br, 0, none⟩), .pointer (some ⟨b, o, none⟩)] ++ caps) w2 (RdPost f ws c br bw b o T pre post w2)
theorem FldW.mono {lo hi lo' hi' : Nat} {w w' : World} {v : Value} {f : Fld} (h : FldW lo hi w v f) (hs : SameIn lo hi w w') (h1 : lo' ≤ lo) (h2 : hi ≤ hi') : FldW lo' hi' w' v f := by
  obtain ⟨F, caps, rfl, hE, hC⟩ := h
  exact ⟨F, caps, rfl, hE, fun w2 h => hC w2 (hs.trans (h.mono h1 h2))⟩
theorem FldR.mono {lo hi lo' hi' : Nat} {w w' : World} {v : Value} {f : Fld} (h : FldR lo hi w v f) (hs : SameIn lo hi w w') (h1 : lo' ≤ lo) (h2 : hi ≤ hi') : FldR lo' hi' w' v f := by
  obtain ⟨F, caps, rfl, hE, hC⟩ := h
  exact ⟨F, caps, rfl, hE, fun w2 h => hC w2 (hs.trans (h.mono h1 h2))⟩
end Go.Proofs.YtikmoledbiepoaaGreatDoor

/- The actions that the laws build fit, and their lines are short. -/
import Derived.Test.YtikmoledbiepoaaGreatDoorBuilt
namespace Go.Proofs.YtikmoledbiepoaaGreatDoor
open Go.RowKit
theorem pick_fit (c : Int) {n : Int} (h : 0 < n) (h2 : n ≤ 4611686018427387904) : IntFit (pickN c n) := by
  have := pickN_lt c h
  constructor <;> omega
/-- A call's numbers fit, its strings are short. -/
structure CalS (M : Nat) (c : Cal) : Prop where
  ints : ∀ i ∈ [0, 1, 2, 3, 5, 6, 7, 10, 11, 12, 13, 14, 15], IntFit (c.getI i)
  strs : ∀ i ∈ [4, 8, 9], (c.getS i).length ≤ M
theorem CalS.mk' {M : Nat} {c : Cal} (h0 : IntFit c.kind) (h1 : IntFit c.conn) (h2 : IntFit c.stream) (h3 : IntFit c.n) (h5 : IntFit c.code) (h6 : IntFit c.loc) (h7 : IntFit c.rem)
    (g0 : IntFit c.p0) (g1 : IntFit c.p1) (g2 : IntFit c.p2) (g3 : IntFit c.p3) (g4 : IntFit c.p4) (g5 : IntFit c.p5) (l1 : c.s.length ≤ M) (l2 : c.tick.length ≤ M) (l3 : c.sec.length ≤ M) : CalS M c := by
  refine ⟨fun i hi => ?_, fun i hi => ?_⟩
  · simp only [List.mem_cons, List.not_mem_nil, or_false] at hi
    rcases hi with rfl | rfl | rfl | rfl | rfl | rfl | rfl | rfl | rfl | rfl | rfl | rfl | rfl <;> assumption
  · simp only [List.mem_cons, List.not_mem_nil, or_false] at hi
    rcases hi with rfl | rfl | rfl <;> assumption
theorem z_fit {n : Int} (h : -100 ≤ n ∧ n ≤ 100) : IntFit n := by constructor <;> omega
theorem take_le (s : List UInt8) (k : Nat) : (s.take k).length ≤ k := by rw [List.length_take]; omega
theorem callK_s (p : Ap) (k : Int) (hk : 0 ≤ k ∧ k ≤ 13) : CalS 300 (callK p k) := by
  have z0 : IntFit 0 := z_fit (by omega)
  have zk : IntFit k := z_fit (by omega)
  have y1 : IntFit 1 := z_fit (by decide)
  have y2 : IntFit 2 := z_fit (by decide)
  have y3 : IntFit 3 := z_fit (by decide)
  have y5 : IntFit 5 := z_fit (by decide)
  have y6 : IntFit 6 := z_fit (by decide)
  have y7 : IntFit 7 := z_fit (by decide)
  have y8 : IntFit 8 := z_fit (by decide)
  have y9 : IntFit 9 := z_fit (by decide)
  have y10 : IntFit 10 := z_fit (by decide)
  have y12 : IntFit 12 := z_fit (by decide)
  have e30 : ∀ c, IntFit (pickN c 1073741824) := fun c => pick_fit c (by decide) (by decide)
  have e16 : ∀ c, IntFit (pickN c 65536) := fun c => pick_fit c (by decide) (by decide)
  have t100 := take_le p.s 100
  unfold callK
  by_cases k1 : k = 1
  · rw [if_pos k1]
    by_cases kn : pickN p.n 2 = 1
    · rw [if_pos kn]
      exact CalS.mk' y1 z0 z0 z0 z0 (e16 _) (e16 _) (pick_fit _ (by decide) (by decide)) (pick_fit _ (by decide) (by decide)) (pick_fit _ (by decide) (by decide)) (pick_fit _ (by decide) (by decide)) (pick_fit _ (by decide) (by decide)) (by have := pickN_lt p.q5 (n := 99951) (by decide); show IntFit (50 + pickN p.q5 99951); constructor <;> omega) (Nat.zero_le _) (by show (p.s.take 100 ++ [116]).length ≤ 300; simp only [List.length_append, List.length_cons, List.length_nil]; omega) (by show (strF (p.s.take 100) 16).length ≤ 300; rw [strF_len]; omega)
    · rw [if_neg kn]
      exact CalS.mk' y1 z0 z0 z0 z0 (e16 _) (e16 _) z0 z0 z0 z0 z0 z0 (Nat.zero_le _) (Nat.zero_le _) (Nat.zero_le _)
  rw [if_neg k1]
  by_cases k2 : k = 2
  · rw [if_pos k2]
    exact CalS.mk' y2 z0 z0 z0 z0 z0 z0 z0 z0 z0 z0 z0 z0 (Nat.zero_le _) (Nat.zero_le _) (Nat.zero_le _)
  rw [if_neg k2]
  by_cases k3 : k = 3
  · rw [if_pos k3]
    exact CalS.mk' y3 (e30 _) z0 (pick_fit _ (by decide) (by decide)) z0 z0 z0 z0 z0 z0 z0 z0 z0 (Nat.zero_le _) (Nat.zero_le _) (Nat.zero_le _)
  rw [if_neg k3]
  by_cases k5 : k = 5
  · rw [if_pos k5]
    exact CalS.mk' y5 (e30 _) (e30 _) z0 z0 z0 z0 z0 z0 z0 z0 z0 z0 (by show (p.s.take 100).length ≤ 300; omega) (Nat.zero_le _) (Nat.zero_le _)
  rw [if_neg k5]
  by_cases k6 : k = 6
  · rw [if_pos k6]
    exact CalS.mk' y6 (e30 _) (e30 _) z0 z0 z0 z0 z0 z0 z0 z0 z0 z0 (Nat.zero_le _) (Nat.zero_le _) (Nat.zero_le _)
  rw [if_neg k6]
  by_cases k7 : k = 7
  · rw [if_pos k7]
    exact CalS.mk' y7 (e30 _) (e30 _) z0 (e30 _) z0 z0 z0 z0 z0 z0 z0 z0 (Nat.zero_le _) (Nat.zero_le _) (Nat.zero_le _)
  rw [if_neg k7]
  by_cases k8 : k = 8
  · rw [if_pos k8]
    exact CalS.mk' y8 (e30 _) (e30 _) z0 (e30 _) z0 z0 z0 z0 z0 z0 z0 z0 (Nat.zero_le _) (Nat.zero_le _) (Nat.zero_le _)
  rw [if_neg k8]
  by_cases k9 : k = 9
  · rw [if_pos k9]
    exact CalS.mk' y9 (e30 _) (e30 _) (e30 _) z0 z0 z0 z0 z0 z0 z0 z0 z0 (Nat.zero_le _) (Nat.zero_le _) (Nat.zero_le _)
  rw [if_neg k9]
  by_cases k10 : k = 10
  · rw [if_pos k10]
    exact CalS.mk' y10 (e30 _) z0 z0 (e30 _) z0 z0 z0 z0 z0 z0 z0 z0 (Nat.zero_le _) (Nat.zero_le _) (Nat.zero_le _)
  rw [if_neg k10]
  by_cases k12 : k = 12
  · rw [if_pos k12]
    exact CalS.mk' y12 (e30 _) z0 z0 z0 (e16 _) z0 z0 z0 z0 z0 z0 z0 (Nat.zero_le _) (Nat.zero_le _) (Nat.zero_le _)
  rw [if_neg k12]
  exact CalS.mk' zk (e30 _) z0 z0 z0 z0 z0 z0 z0 z0 z0 z0 z0 (Nat.zero_le _) (Nat.zero_le _) (Nat.zero_le _)
theorem callF_s (p : Ap) : CalS 300 (callF p) := by
  have := pickN_lt p.call (n := 13) (by decide)
  exact callK_s p _ (by omega)
theorem none_s (k : Int) (h : -100 ≤ k ∧ k ≤ 100) : CalS 300 (Cal.ofKind k) := by
  have z0 : IntFit 0 := z_fit (by omega)
  exact CalS.mk' (z_fit h) z0 z0 z0 z0 z0 z0 z0 z0 z0 z0 z0 z0 (Nat.zero_le _) (Nat.zero_le _) (Nat.zero_le _)
/-- An action that fits and is short. -/
structure AcS (M : Nat) (a : Ac) : Prop where
  call : CalS M a.call
  n : IntFit a.n
  fr : IntFit a.fr
  tgt : IntFit a.tgt
  fates : ∀ x ∈ a.fates, IntFit x
  few : a.fates.length ≤ M
  dat : a.dat.length ≤ M
theorem AcS.fit {M : Nat} {a : Ac} (h : AcS M a) (hM : M ≤ 2147483648) : AcFit a :=
  fit_of a h.call.ints (fun k hk => Nat.le_trans (h.call.strs k hk) hM) h.n h.fr h.tgt h.fates (Nat.le_trans h.few (by omega)) (Nat.le_trans h.dat hM)
theorem AcS.line {M : Nat} {a : Ac} (h : AcS M a) (hM : M ≤ 2147483648) : a.line.1.length ≤ 30 * M + 500 :=
  line_short (h.fit hM) (fun k hk => h.call.strs k (isS_in hk)) h.dat h.few
theorem actF_s (p : Ap) : AcS 300 (actF p) := by
  have z0 : IntFit 0 := z_fit (by omega)
  have n0 := none_s 0 (by decide)
  unfold actF
  split
  · have := pickN_lt p.n (n := 2000) (by decide)
    exact ⟨n0, (by show IntFit (1 + pickN p.n 2000); constructor <;> omega), z0, z0, (fun x hx => by cases hx), Nat.zero_le _, Nat.zero_le _⟩
  · split
    · refine ⟨n0, z0, z0, z0, fun x hx => ?_, ?_, Nat.zero_le _⟩
      · obtain ⟨y, _, rfl⟩ := List.mem_map.1 hx
        exact pick_fit y (by decide) (by decide)
      · show ((p.fates.take 64).map fun x => pickN x 26).length ≤ 300
        rw [List.length_map, List.length_take]
        omega
    · split
      · exact ⟨n0, z0, pick_fit _ (by decide) (by decide), pick_fit _ (by decide) (by decide), (fun x hx => by cases hx), Nat.zero_le _, take_le p.s 300⟩
      · exact ⟨callF_s p, z0, z0, z0, (fun x hx => by cases hx), Nat.zero_le _, Nat.zero_le _⟩
theorem scrF_s (l : List Ap) : ∀ a ∈ scrF l, AcS 300 a := fun a ha => by
  obtain ⟨p, _, rfl⟩ := List.mem_map.1 ha
  exact actF_s p
theorem scrF_fit (l : List Ap) : ∀ a ∈ scrF l, AcFit a := fun a ha => (scrF_s l a ha).fit (by decide)
/-- The text of a script is short. -/
theorem scrF_short (l : List Ap) : (linesOf (scrF l)).length ≤ 200000 := by
  have h1 := linesOf_short (l := scrF l) (M := 9500) fun a ha => (scrF_s l a ha).line (by decide)
  have h2 := scrF_len l
  have h3 := Nat.mul_le_mul_right (9500 + 1) h2
  omega
theorem scrF_print (l : List Ap) : printL (scrF l) = (linesOf (scrF l), 0) := printL_ok _ (scrF_ok l) (Nat.le_trans (scrF_len l) (by decide))
theorem scrF_parse (l : List Ap) : ParseR (linesOf (scrF l)) = .ok (scrF l) := ParseR_lines _ (scrF_ok l) (Nat.le_trans (scrF_len l) (by decide))
end Go.Proofs.YtikmoledbiepoaaGreatDoor

/- Equality of sessions and calls. -/
import Derived.Test.YtikmoledbiepoaaGreatDoorForms
namespace Go.Proofs.YtikmoledbiepoaaGreatDoor
open Go.RowKit
set_option maxRecDepth 100000 in
theorem eq26 (t s t' s' : List UInt8) (a b c d e f a' b' c' d' e' f' : Int) (w : World) :
    (binOp .eql 26 (.agg #[vS t, vS s, vI a, vI b, vI c, vI d, vI e, vI f]) (.agg #[vS t', vS s', vI a', vI b', vI c', vI d', vI e', vI f'])).run Tryz.prog w =
      .ok (.bool (t == t' && (s == s' && (a == a' && (b == b' && (c == c' && (d == d' && (e == e' && f == f')))))))) w := by
  unfold vS vI
  rw [run_eql_struct]
  simp [go_sem]
  repeat' split
  all_goals simp_all
set_option maxRecDepth 100000 in
theorem neq26 (t s t' s' : List UInt8) (a b c d e f a' b' c' d' e' f' : Int) (w : World) :
    (binOp .neq 26 (.agg #[vS t, vS s, vI a, vI b, vI c, vI d, vI e, vI f]) (.agg #[vS t', vS s', vI a', vI b', vI c', vI d', vI e', vI f'])).run Tryz.prog w =
      .ok (.bool !(t == t' && (s == s' && (a == a' && (b == b' && (c == c' && (d == d' && (e == e' && f == f')))))))) w := by
  unfold vS vI
  rw [run_neq_struct]
  simp [go_sem]
  repeat' split
  all_goals simp_all
theorem ite_eqI {a b : Int} {R : Result Value} {B : Bool} {w : World} (h : R = .ok (.bool B) w) : (if a = b then R else .ok (.bool false) w) = .ok (.bool (a == b && B)) w := by
  by_cases e : a = b
  · simp [e, h]
  · have : (a == b) = false := beq_eq_false_iff_ne.2 e
    rw [if_neg e, this]; simp
theorem ite_eqS {a b : List UInt8} {R : Result Value} {B : Bool} {w : World} (h : R = .ok (.bool B) w) : (if a = b then R else .ok (.bool false) w) = .ok (.bool (a == b && B)) w := by
  by_cases e : a = b
  · simp [e, h]
  · have : (a == b) = false := beq_eq_false_iff_ne.2 e
    rw [if_neg e, this]; simp
theorem ite_eqL {a b : Int} {w : World} : (if a = b then Result.ok (.bool true) w else .ok (.bool false) w) = (.ok (.bool (a == b)) w : Result Value) := by
  by_cases e : a = b
  · simp [e]
  · have : (a == b) = false := beq_eq_false_iff_ne.2 e
    rw [if_neg e, this]
set_option maxRecDepth 100000 in
set_option maxHeartbeats 1000000 in
theorem eq28 (x y : Cal) (w : World) : (binOp .eql 28 (.agg x.cells.toArray) (.agg y.cells.toArray)).run Tryz.prog w = .ok (.bool (x.eqb y)) w := by
  unfold Cal.cells Cal.eqb vS vI
  rw [run_eql_struct]
  simp [go_sem]
  exact ite_eqI (ite_eqI (ite_eqI (ite_eqI (ite_eqS (ite_eqI (ite_eqI (ite_eqI (ite_eqS (ite_eqS (ite_eqI (ite_eqI (ite_eqI (ite_eqI (ite_eqI ite_eqL))))))))))))))
def Cal.sess (c : Cal) : List Value := [vS c.tick, vS c.sec, vI c.p0, vI c.p1, vI c.p2, vI c.p3, vI c.p4, vI c.p5]
theorem eqSess (c : Cal) (w : World) :
    (binOp .eql 26 (.agg #[.string ⟨c.tick.toArray⟩, .string ⟨c.sec.toArray⟩, .int .i64 c.p0, .int .i64 c.p1, .int .i64 c.p2, .int .i64 c.p3, .int .i64 c.p4, .int .i64 c.p5])
      (.agg #[.string ⟨#[]⟩, .string ⟨#[]⟩, .int .i64 0, .int .i64 0, .int .i64 0, .int .i64 0, .int .i64 0, .int .i64 0])).run Tryz.prog w = .ok (.bool c.noSess) w := eq26 c.tick c.sec [] [] c.p0 c.p1 c.p2 c.p3 c.p4 c.p5 0 0 0 0 0 0 w
theorem neqSess (c : Cal) (w : World) :
    (binOp .neq 26 (.agg #[.string ⟨c.tick.toArray⟩, .string ⟨c.sec.toArray⟩, .int .i64 c.p0, .int .i64 c.p1, .int .i64 c.p2, .int .i64 c.p3, .int .i64 c.p4, .int .i64 c.p5])
      (.agg #[.string ⟨#[]⟩, .string ⟨#[]⟩, .int .i64 0, .int .i64 0, .int .i64 0, .int .i64 0, .int .i64 0, .int .i64 0])).run Tryz.prog w = .ok (.bool !c.noSess) w := neq26 c.tick c.sec [] [] c.p0 c.p1 c.p2 c.p3 c.p4 c.p5 0 0 0 0 0 0 w
end Go.Proofs.YtikmoledbiepoaaGreatDoor

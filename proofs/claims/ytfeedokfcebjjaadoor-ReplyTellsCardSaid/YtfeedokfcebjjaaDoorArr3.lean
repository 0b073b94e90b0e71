/-
  Arrays of three whole numbers: when two are equal.
-/
import Derived.Test.YtfeedokfcebjjaaDoorEnv
import Derived.Laws.StructEq
set_option linter.unusedVariables false
set_option linter.unusedSimpArgs false
namespace Go.Proofs.YtfeedokfcebjjaaDoor
open Go.RowKit
def same3 (a b c x y z : Int) : Bool := decide (a = x ∧ b = y ∧ c = z)
theorem same3_iff {a b c x y z : Int} : same3 a b c x y z = true ↔ a = x ∧ b = y ∧ c = z := by simp [same3]
theorem equal_arr3 (d : Nat) (a b c x y z : Int) (w : World) :
    (Op.equalIn (d + 2) 23 (.agg #[.int .i64 a, .int .i64 b, .int .i64 c]) (.agg #[.int .i64 x, .int .i64 y, .int .i64 z])).run Tryd.prog w = .ok (same3 a b c x y z) w := by
  have hsz : ∀ w, (sizeOf 3).run Tryd.prog w = .ok 1 w := fun _ => by kernel_rfl
  have he : Tryd.prog.underlying 3 = some (.int .i64) := Tryd.underlying3
  have hl : List.range' 0 3 1 = [0, 1, 2] := rfl
  rw [Op.equalIn]
  simp only [Sem.run_bind, run_underlying Tryd.underlying23, Result.andThen_ok, hsz, Std.Legacy.Range.forIn_eq_forIn_range', Std.Legacy.Range.size, Nat.sub_zero, Nat.add_sub_cancel, Nat.div_one, hl]
  have p0 : ∀ (u v r : Value) (k : Int) w, u = .int .i64 k → (part 3 #[u, v, r] (0 * 1)).run Tryd.prog w = .ok u w := fun u v r k w h => by subst h; simp [part, isAgg, run_underlying he]
  have p1 : ∀ (u v r : Value) (k : Int) w, v = .int .i64 k → (part 3 #[u, v, r] (1 * 1)).run Tryd.prog w = .ok v w := fun u v r k w h => by subst h; simp [part, isAgg, run_underlying he]
  have p2 : ∀ (u v r : Value) (k : Int) w, r = .int .i64 k → (part 3 #[u, v, r] (2 * 1)).run Tryd.prog w = .ok r w := fun u v r k w h => by subst h; simp [part, isAgg, run_underlying he]
  have h3 : ∀ (p q : Int) w, (Op.equalIn (d + 1) 3 (.int .i64 p) (.int .i64 q)).run Tryd.prog w = .ok (p == q) w := fun p q w => run_equalIn_int w d _ .i64 .i64 _ _ he
  simp only [List.forIn_cons, List.forIn_nil, Sem.run_bind, p0 _ _ _ a _ rfl, p0 _ _ _ x _ rfl, Result.andThen_ok, h3]
  unfold same3
  by_cases e1 : a = x
  · by_cases e2 : b = y
    · by_cases e3 : c = z
      all_goals simp [e1, e2, e3, p1 _ _ _ b _ rfl, p1 _ _ _ y _ rfl, p2 _ _ _ c _ rfl, p2 _ _ _ z _ rfl, h3]
    · simp [e1, e2, p1 _ _ _ b _ rfl, p1 _ _ _ y _ rfl, h3]
  · simp [e1]
theorem equal3 (a b c x y z : Int) (w : World) : (Op.equalIn 10000 23 (.agg #[.int .i64 a, .int .i64 b, .int .i64 c]) (.agg #[.int .i64 x, .int .i64 y, .int .i64 z])).run Tryd.prog w = .ok (same3 a b c x y z) w := equal_arr3 9998 a b c x y z w
end Go.Proofs.YtfeedokfcebjjaaDoor

/- == between two pairs, as the model has it. -/
import Derived.Laws.StructEq
import Derived.WalkKit
import Derived.Test.YtanhdcpmflmggaaProg
namespace Go.Proofs.Ytanhdcpmflmggaa

theorem run_part (xs : Array Value) (n : Nat) (v : Value) (h : xs[n]? = some v) (W : World) : (part 3 xs n).run Try.prog W = .ok v W := by
  simp [part, h, go_sem]

theorem run_equalIn_pair (D a b c d : _) (W : World) :
    (Op.equalIn (D + 2) 30 (.agg #[.int .i64 a, .int .i64 b]) (.agg #[.int .i64 c, .int .i64 d])).run Try.prog W = .ok (a == c && b == d) W := by
  have hu := Try.underlying30
  have hi := Try.underlying3
  have h0 := fun x y W => run_part #[.int .i64 x, .int .i64 y] 0 (.int .i64 x) rfl W
  have g1 := fun x y W => run_part #[.int .i64 x, .int .i64 y] 1 (.int .i64 y) rfl W
  have he := fun x y W => run_equalIn_int (P := Try.prog) W D 3 .i64 .i64 x y hi
  have hs : ∀ W, (sizeOf 3).run Try.prog W = .ok 1 W := fun W => by kernel_rfl
  rw [Op.equalIn]
  simp only [Sem.run_bind, run_underlying hu, Result.andThen_ok, hs, Std.Legacy.Range.forIn_eq_forIn_range', Std.Legacy.Range.size, List.range', Nat.sub_zero, Nat.add_sub_cancel, Nat.div_one, List.forIn_cons, List.forIn_nil, Nat.zero_mul, h0, he]
  cases e1 : (a == c) <;> cases e2 : (b == d) <;> simp [g1, he, e2]

theorem run_equal_pair (a b c d : Int) (W : World) :
    (Op.equalIn 10000 30 (.agg #[.int .i64 a, .int .i64 b]) (.agg #[.int .i64 c, .int .i64 d])).run Try.prog W = .ok (a == c && b == d) W :=
  run_equalIn_pair 9998 a b c d W
end Go.Proofs.Ytanhdcpmflmggaa

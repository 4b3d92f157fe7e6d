/- What two whole numbers come to, in the program. -/
import Derived.Test.YtikpgglbfpdhmaaGreatDoorValB
namespace Go.Proofs.YtikpgglbfpdhmaaGreatDoor
open Go.RowKit Go.Joins
attribute [local go_sem ↓] Go.wp_at_zero Go.wp_at_succ

theorem whole_add (a b : Int) (w : World) :
    Calls Tryz.prog 51 #[.string ⟨#[43]⟩, .int .i64 a, .int .i64 b] w fun e w' => e = .returned (.tuple #[.int .i64 (wrap64 (a + b)), .bool (decide (a < wrap64 (a + b)) == decide (0 < b))]) ∧ w = w' := by
  go_enter Tryz.func51, Tryz.ntmps51
  go_wp2
  go_ret2
  exact ⟨rfl, rfl⟩
theorem whole_sub (a b : Int) (w : World) :
    Calls Tryz.prog 51 #[.string ⟨#[45]⟩, .int .i64 a, .int .i64 b] w fun e w' => e = .returned (.tuple #[.int .i64 (wrap64 (a - b)), .bool (decide (wrap64 (a - b) < a) == decide (0 < b))]) ∧ w = w' := by
  go_enter Tryz.func51, Tryz.ntmps51
  go_wp2
  go_ret2
  exact ⟨rfl, rfl⟩
theorem whole_mul0 (a b : Int) (h : a = 0 ∨ b = 0) (w : World) :
    Calls Tryz.prog 51 #[.string ⟨#[42]⟩, .int .i64 a, .int .i64 b] w fun e w' => e = .returned (.tuple #[.int .i64 0, .bool true]) ∧ w = w' := by
  by_cases h0 : a = 0
  · subst h0
    clear h
    go_enter Tryz.func51, Tryz.ntmps51
    go_wp2
    go_ret2
    exact ⟨rfl, rfl⟩
  · have h1 : b = 0 := by omega
    subst h1
    clear h
    go_enter Tryz.func51, Tryz.ntmps51
    go_wp2
    go_ret2
    exact ⟨rfl, rfl⟩
theorem whole_other (op : ByteArray) (a b : Int) (h1 : (op.toList == [43]) = false) (h2 : (op.toList == [45]) = false) (h3 : (op.toList == [42]) = false) (w : World) :
    Calls Tryz.prog 51 #[.string op, .int .i64 a, .int .i64 b] w fun e w' => e = .returned (.tuple #[.int .i64 0, .bool false]) ∧ w = w' := by
  go_enter Tryz.func51, Tryz.ntmps51
  go_wp2
  go_ret2
  exact ⟨rfl, rfl⟩
set_option maxRecDepth 100000 in
set_option maxHeartbeats 1000000 in
theorem whole_mul_t (a b : Int) (h0 : (a == 0) = false) (h1 : (b == 0) = false) (hb : ¬ b = 0) (ht : (wrap64 ((wrap64 (a * b)).tdiv b) == a) = true)
    (h2 : (a == -1) = false ∨ (b == -9223372036854775808) = false) (h3 : (b == -1) = false ∨ (a == -9223372036854775808) = false) (w : World) :
    Calls Tryz.prog 51 #[.string ⟨#[42]⟩, .int .i64 a, .int .i64 b] w fun e w' => e = .returned (.tuple #[.int .i64 (wrap64 (a * b)), .bool true]) ∧ w = w' := by
  rcases h2 with h2 | h2 <;> rcases h3 with h3 | h3
  all_goals
    go_enter Tryz.func51, Tryz.ntmps51
    go_wp2
    all_goals go_ret2
    all_goals first | exact ⟨rfl, rfl⟩ | simp [*]
set_option maxRecDepth 100000 in
set_option maxHeartbeats 1000000 in
theorem whole_mul_f (a b : Int) (h0 : (a == 0) = false) (h1 : (b == 0) = false) (hb : ¬ b = 0) (ht : (wrap64 ((wrap64 (a * b)).tdiv b) == a) = false) (w : World) :
    Calls Tryz.prog 51 #[.string ⟨#[42]⟩, .int .i64 a, .int .i64 b] w fun e w' => e = .returned (.tuple #[.int .i64 (wrap64 (a * b)), .bool false]) ∧ w = w' := by
  go_enter Tryz.func51, Tryz.ntmps51
  go_wp2
  all_goals go_ret2
  all_goals first | exact ⟨rfl, rfl⟩ | simp [*]
set_option maxRecDepth 100000 in
set_option maxHeartbeats 1000000 in
theorem whole_mul_s (w : World) :
    Calls Tryz.prog 51 #[.string ⟨#[42]⟩, .int .i64 (-9223372036854775808), .int .i64 (-1)] w fun e w' => e = .returned (.tuple #[.int .i64 (-9223372036854775808), .bool false]) ∧ w = w' := by
  have hw : wrap64 9223372036854775808 = -9223372036854775808 := by unfold wrap64; omega
  go_enter Tryz.func51, Tryz.ntmps51
  go_wp2
  all_goals go_ret2
  all_goals first | exact ⟨rfl, rfl⟩ | simp [*]
end Go.Proofs.YtikpgglbfpdhmaaGreatDoor

/- The reference's whole numbers: how far from nought, by sign and size, a sum. -/
import Derived.Test.YtikpgglbfpdhmaaGreatDoorValB
import Derived.Test.YtikpgglbfpdhmaaGreatDoorVArith
namespace Go.Proofs.YtikpgglbfpdhmaaGreatDoor
open Go.RowKit Go.Joins
attribute [local go_sem ↓] Go.wp_at_zero Go.wp_at_succ

/-- A number by its sign and size. -/
def sgn (s : Bool) (n : Int) : Int := if s then -n else n
theorem sgn_f (n : Int) : sgn false n = n := rfl
theorem sgn_t (n : Int) : sgn true n = -n := rfl
theorem ret_u64 {x y : Int} (h : x = y) : Ending.returned (.int .u64 x) = Ending.returned (.int .u64 y) := by rw [h]
theorem ret_two {x y : Int} {b c : Bool} (h : x = y) (g : b = c) : Ending.returned (.tuple #[.int .i64 x, .bool b]) = Ending.returned (.tuple #[.int .i64 y, .bool c]) := by rw [h, g]
theorem ret_fit {x y : Int} (h : x = y) : ∃ r, Ending.returned (.tuple #[.int .i64 (wrap64 x), .bool (decide (Fit x))]) = .returned (.tuple #[.int .i64 r, .bool (decide (Fit y))]) ∧ (Fit y → r = y) := by
  subst h; exact ⟨_, rfl, wrap_fit⟩
theorem ret_over {y : Int} (h : ¬ Fit y) : ∃ r, Ending.returned (.tuple #[.int .i64 0, .bool false]) = .returned (.tuple #[.int .i64 r, .bool (decide (Fit y))]) ∧ (Fit y → r = y) :=
  ⟨0, by simp [h], fun g => absurd g h⟩

theorem size_is (n : Int) (h : Fit n) (w : World) :
    Calls Tryz.prog 78 #[.int .i64 n] w fun e w' => e = .returned (.int .u64 (n.natAbs : Int)) ∧ w = w' := by
  unfold Fit at h
  by_cases g : n < 0
  · have e1 : wrap64 (n + 1) = n + 1 := by unfold wrap64; omega
    have e2 : wrap64 (-(n + 1)) = -(n + 1) := by unfold wrap64; omega
    go_enter Tryz.func78, Tryz.ntmps78
    go_wp2
    go_ret
    exact ⟨ret_u64 (by omega), rfl⟩
  · go_enter Tryz.func78, Tryz.ntmps78
    go_wp2
    go_ret
    exact ⟨ret_u64 (by omega), rfl⟩
theorem rwhole_is (s : Bool) (n : Int) (h : 0 ≤ n ∧ n < 18446744073709551616) (w : World) :
    Calls Tryz.prog 79 #[.bool s, .int .u64 n] w fun e w' => e = .returned (.tuple #[.int .i64 (wrap64 (sgn s n)), .bool (decide (Fit (sgn s n)))]) ∧ w = w' := by
  cases s
  · rw [sgn_f]
    go_enter Tryz.func79, Tryz.ntmps79
    go_wp2
    go_ret2
    exact ⟨ret_two rfl (by unfold Fit; congr 1; apply propext; omega), rfl⟩
  · rw [sgn_t]
    by_cases g : 0 < n
    · go_enter Tryz.func79, Tryz.ntmps79
      go_wp2
      go_ret2
      exact ⟨ret_two (by unfold wrap64; omega) (by unfold Fit; congr 1; apply propext; omega), rfl⟩
    · obtain rfl : n = 0 := by omega
      go_enter Tryz.func79, Tryz.ntmps79
      go_wp2
      go_ret2
      exact ⟨ret_two (by unfold wrap64; omega) (by simp [Fit]), rfl⟩
set_option maxHeartbeats 1000000 in
theorem radd_pp_over (a b : Int) (ha : Fit a) (hb : Fit b) (ga : 0 ≤ a) (gb : 0 ≤ b) (go : 9223372036854775808 - (b.natAbs : Int) < (a.natAbs : Int)) (w : World) :
    Calls Tryz.prog 59 #[.int .i64 a, .int .i64 b] w fun e w' => (∃ r, e = .returned (.tuple #[.int .i64 r, .bool (decide (Fit (a + b)))]) ∧ (Fit (a + b) → r = a + b)) ∧ w = w' := by
  have xa : a.natAbs ≤ 9223372036854775808 := by unfold Fit at ha; omega
  have xb : b.natAbs ≤ 9223372036854775808 := by unfold Fit at hb; omega
  have S1 := Lib.hid (size_is a ha)
  have S2 := Lib.hid (size_is b hb)
  clear ha hb
  go_enter Tryz.func59, Tryz.ntmps59
  go_wp2_with (first | (go_at_call 78; first | (with_reducible refine (S1.out _).mono ?_; rintro e w1 ⟨rfl, rfl⟩) | (with_reducible refine (S2.out _).mono ?_; rintro e w1 ⟨rfl, rfl⟩)) | (go_at_call 79; with_reducible refine (rwhole_is _ _ (by omega) _).mono ?_; rintro e w1 ⟨rfl, rfl⟩))
  go_ret2
  exact ⟨ret_over (by unfold Fit; omega), rfl⟩
set_option maxHeartbeats 1000000 in
theorem radd_pp (a b : Int) (ha : Fit a) (hb : Fit b) (ga : 0 ≤ a) (gb : 0 ≤ b) (go : ¬ 9223372036854775808 - (b.natAbs : Int) < (a.natAbs : Int)) (w : World) :
    Calls Tryz.prog 59 #[.int .i64 a, .int .i64 b] w fun e w' => (∃ r, e = .returned (.tuple #[.int .i64 r, .bool (decide (Fit (a + b)))]) ∧ (Fit (a + b) → r = a + b)) ∧ w = w' := by
  have xa : a.natAbs ≤ 9223372036854775808 := by unfold Fit at ha; omega
  have xb : b.natAbs ≤ 9223372036854775808 := by unfold Fit at hb; omega
  have S1 := Lib.hid (size_is a ha)
  have S2 := Lib.hid (size_is b hb)
  clear ha hb
  go_enter Tryz.func59, Tryz.ntmps59
  go_wp2_with (first | (go_at_call 78; first | (with_reducible refine (S1.out _).mono ?_; rintro e w1 ⟨rfl, rfl⟩) | (with_reducible refine (S2.out _).mono ?_; rintro e w1 ⟨rfl, rfl⟩)) | (go_at_call 79; with_reducible refine (rwhole_is _ _ (by omega) _).mono ?_; rintro e w1 ⟨rfl, rfl⟩))
  go_ret2
  exact ⟨ret_fit (by unfold sgn; split <;> rename_i q <;> simp at q <;> omega), rfl⟩
set_option maxHeartbeats 1000000 in
theorem radd_nn_over (a b : Int) (ha : Fit a) (hb : Fit b) (ga : a < 0) (gb : b < 0) (go : 9223372036854775808 - (b.natAbs : Int) < (a.natAbs : Int)) (w : World) :
    Calls Tryz.prog 59 #[.int .i64 a, .int .i64 b] w fun e w' => (∃ r, e = .returned (.tuple #[.int .i64 r, .bool (decide (Fit (a + b)))]) ∧ (Fit (a + b) → r = a + b)) ∧ w = w' := by
  have xa : a.natAbs ≤ 9223372036854775808 := by unfold Fit at ha; omega
  have xb : b.natAbs ≤ 9223372036854775808 := by unfold Fit at hb; omega
  have S1 := Lib.hid (size_is a ha)
  have S2 := Lib.hid (size_is b hb)
  clear ha hb
  go_enter Tryz.func59, Tryz.ntmps59
  go_wp2_with (first | (go_at_call 78; first | (with_reducible refine (S1.out _).mono ?_; rintro e w1 ⟨rfl, rfl⟩) | (with_reducible refine (S2.out _).mono ?_; rintro e w1 ⟨rfl, rfl⟩)) | (go_at_call 79; with_reducible refine (rwhole_is _ _ (by omega) _).mono ?_; rintro e w1 ⟨rfl, rfl⟩))
  go_ret2
  exact ⟨ret_over (by unfold Fit; omega), rfl⟩
set_option maxHeartbeats 1000000 in
theorem radd_nn (a b : Int) (ha : Fit a) (hb : Fit b) (ga : a < 0) (gb : b < 0) (go : ¬ 9223372036854775808 - (b.natAbs : Int) < (a.natAbs : Int)) (w : World) :
    Calls Tryz.prog 59 #[.int .i64 a, .int .i64 b] w fun e w' => (∃ r, e = .returned (.tuple #[.int .i64 r, .bool (decide (Fit (a + b)))]) ∧ (Fit (a + b) → r = a + b)) ∧ w = w' := by
  have xa : a.natAbs ≤ 9223372036854775808 := by unfold Fit at ha; omega
  have xb : b.natAbs ≤ 9223372036854775808 := by unfold Fit at hb; omega
  have S1 := Lib.hid (size_is a ha)
  have S2 := Lib.hid (size_is b hb)
  clear ha hb
  go_enter Tryz.func59, Tryz.ntmps59
  go_wp2_with (first | (go_at_call 78; first | (with_reducible refine (S1.out _).mono ?_; rintro e w1 ⟨rfl, rfl⟩) | (with_reducible refine (S2.out _).mono ?_; rintro e w1 ⟨rfl, rfl⟩)) | (go_at_call 79; with_reducible refine (rwhole_is _ _ (by omega) _).mono ?_; rintro e w1 ⟨rfl, rfl⟩))
  go_ret2
  exact ⟨ret_fit (by unfold sgn; split <;> rename_i q <;> simp at q <;> omega), rfl⟩
set_option maxHeartbeats 1000000 in
theorem radd_pn_ge (a b : Int) (ha : Fit a) (hb : Fit b) (ga : 0 ≤ a) (gb : b < 0) (go : (b.natAbs : Int) ≤ (a.natAbs : Int)) (w : World) :
    Calls Tryz.prog 59 #[.int .i64 a, .int .i64 b] w fun e w' => (∃ r, e = .returned (.tuple #[.int .i64 r, .bool (decide (Fit (a + b)))]) ∧ (Fit (a + b) → r = a + b)) ∧ w = w' := by
  have xa : a.natAbs ≤ 9223372036854775808 := by unfold Fit at ha; omega
  have xb : b.natAbs ≤ 9223372036854775808 := by unfold Fit at hb; omega
  have S1 := Lib.hid (size_is a ha)
  have S2 := Lib.hid (size_is b hb)
  clear ha hb
  go_enter Tryz.func59, Tryz.ntmps59
  go_wp2_with (first | (go_at_call 78; first | (with_reducible refine (S1.out _).mono ?_; rintro e w1 ⟨rfl, rfl⟩) | (with_reducible refine (S2.out _).mono ?_; rintro e w1 ⟨rfl, rfl⟩)) | (go_at_call 79; with_reducible refine (rwhole_is _ _ (by omega) _).mono ?_; rintro e w1 ⟨rfl, rfl⟩))
  go_ret2
  exact ⟨ret_fit (by unfold sgn; split <;> rename_i q <;> simp at q <;> omega), rfl⟩
set_option maxHeartbeats 1000000 in
theorem radd_pn_lt (a b : Int) (ha : Fit a) (hb : Fit b) (ga : 0 ≤ a) (gb : b < 0) (go : (a.natAbs : Int) < (b.natAbs : Int)) (w : World) :
    Calls Tryz.prog 59 #[.int .i64 a, .int .i64 b] w fun e w' => (∃ r, e = .returned (.tuple #[.int .i64 r, .bool (decide (Fit (a + b)))]) ∧ (Fit (a + b) → r = a + b)) ∧ w = w' := by
  have xa : a.natAbs ≤ 9223372036854775808 := by unfold Fit at ha; omega
  have xb : b.natAbs ≤ 9223372036854775808 := by unfold Fit at hb; omega
  have S1 := Lib.hid (size_is a ha)
  have S2 := Lib.hid (size_is b hb)
  clear ha hb
  go_enter Tryz.func59, Tryz.ntmps59
  go_wp2_with (first | (go_at_call 78; first | (with_reducible refine (S1.out _).mono ?_; rintro e w1 ⟨rfl, rfl⟩) | (with_reducible refine (S2.out _).mono ?_; rintro e w1 ⟨rfl, rfl⟩)) | (go_at_call 79; with_reducible refine (rwhole_is _ _ (by omega) _).mono ?_; rintro e w1 ⟨rfl, rfl⟩))
  go_ret2
  exact ⟨ret_fit (by unfold sgn; split <;> rename_i q <;> simp at q <;> omega), rfl⟩
set_option maxHeartbeats 1000000 in
theorem radd_np_ge (a b : Int) (ha : Fit a) (hb : Fit b) (ga : a < 0) (gb : 0 ≤ b) (go : (b.natAbs : Int) ≤ (a.natAbs : Int)) (w : World) :
    Calls Tryz.prog 59 #[.int .i64 a, .int .i64 b] w fun e w' => (∃ r, e = .returned (.tuple #[.int .i64 r, .bool (decide (Fit (a + b)))]) ∧ (Fit (a + b) → r = a + b)) ∧ w = w' := by
  have xa : a.natAbs ≤ 9223372036854775808 := by unfold Fit at ha; omega
  have xb : b.natAbs ≤ 9223372036854775808 := by unfold Fit at hb; omega
  have S1 := Lib.hid (size_is a ha)
  have S2 := Lib.hid (size_is b hb)
  clear ha hb
  go_enter Tryz.func59, Tryz.ntmps59
  go_wp2_with (first | (go_at_call 78; first | (with_reducible refine (S1.out _).mono ?_; rintro e w1 ⟨rfl, rfl⟩) | (with_reducible refine (S2.out _).mono ?_; rintro e w1 ⟨rfl, rfl⟩)) | (go_at_call 79; with_reducible refine (rwhole_is _ _ (by omega) _).mono ?_; rintro e w1 ⟨rfl, rfl⟩))
  go_ret2
  exact ⟨ret_fit (by unfold sgn; split <;> rename_i q <;> simp at q <;> omega), rfl⟩
set_option maxHeartbeats 1000000 in
theorem radd_np_lt (a b : Int) (ha : Fit a) (hb : Fit b) (ga : a < 0) (gb : 0 ≤ b) (go : (a.natAbs : Int) < (b.natAbs : Int)) (w : World) :
    Calls Tryz.prog 59 #[.int .i64 a, .int .i64 b] w fun e w' => (∃ r, e = .returned (.tuple #[.int .i64 r, .bool (decide (Fit (a + b)))]) ∧ (Fit (a + b) → r = a + b)) ∧ w = w' := by
  have xa : a.natAbs ≤ 9223372036854775808 := by unfold Fit at ha; omega
  have xb : b.natAbs ≤ 9223372036854775808 := by unfold Fit at hb; omega
  have S1 := Lib.hid (size_is a ha)
  have S2 := Lib.hid (size_is b hb)
  clear ha hb
  go_enter Tryz.func59, Tryz.ntmps59
  go_wp2_with (first | (go_at_call 78; first | (with_reducible refine (S1.out _).mono ?_; rintro e w1 ⟨rfl, rfl⟩) | (with_reducible refine (S2.out _).mono ?_; rintro e w1 ⟨rfl, rfl⟩)) | (go_at_call 79; with_reducible refine (rwhole_is _ _ (by omega) _).mono ?_; rintro e w1 ⟨rfl, rfl⟩))
  go_ret2
  exact ⟨ret_fit (by unfold sgn; split <;> rename_i q <;> simp at q <;> omega), rfl⟩
theorem radd_is (a b : Int) (ha : Fit a) (hb : Fit b) (w : World) :
    Calls Tryz.prog 59 #[.int .i64 a, .int .i64 b] w fun e w' => (∃ r, e = .returned (.tuple #[.int .i64 r, .bool (decide (Fit (a + b)))]) ∧ (Fit (a + b) → r = a + b)) ∧ w = w' := by
  rcases Int.lt_or_le a 0 with ga | ga <;> rcases Int.lt_or_le b 0 with gb | gb
  · by_cases go : 9223372036854775808 - (b.natAbs : Int) < (a.natAbs : Int)
    · exact radd_nn_over a b ha hb ga gb go w
    · exact radd_nn a b ha hb ga gb go w
  · rcases Int.lt_or_le (a.natAbs : Int) (b.natAbs : Int) with go | go
    · exact radd_np_lt a b ha hb ga gb go w
    · exact radd_np_ge a b ha hb ga gb go w
  · rcases Int.lt_or_le (a.natAbs : Int) (b.natAbs : Int) with go | go
    · exact radd_pn_lt a b ha hb ga gb go w
    · exact radd_pn_ge a b ha hb ga gb go w
  · by_cases go : 9223372036854775808 - (b.natAbs : Int) < (a.natAbs : Int)
    · exact radd_pp_over a b ha hb ga gb go w
    · exact radd_pp a b ha hb ga gb go w
end Go.Proofs.YtikpgglbfpdhmaaGreatDoor

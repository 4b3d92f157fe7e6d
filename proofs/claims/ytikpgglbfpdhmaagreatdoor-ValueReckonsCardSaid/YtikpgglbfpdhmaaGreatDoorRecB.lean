/- The reference's product of whole numbers. -/
import Derived.Test.YtikpgglbfpdhmaaGreatDoorRecA
namespace Go.Proofs.YtikpgglbfpdhmaaGreatDoor
open Go.RowKit Go.Joins
attribute [local go_sem ↓] Go.wp_at_zero Go.wp_at_succ

/-- The state of the product's loop. -/
def MulAt (T x y n : Int) : Prop := 0 ≤ n ∧ n ≤ 9223372036854775808 ∧ 0 ≤ x ∧ x < 18446744073709551616 ∧ 0 ≤ y ∧ y < 18446744073709551616 ∧ (0 < y → x ≤ 9223372036854775808 ∧ (n < x ∨ x = 0)) ∧ n + x * y = T
theorem mul_split (x y : Int) : x * y = x * 2 * (y / 2) + x * (y % 2) := by
  conv => lhs; rw [← Int.mul_ediv_add_emod y 2]
  rw [Int.mul_add, Int.mul_assoc]
theorem mul_over {T x y n : Int} (hm : MulAt T x y n) (hlt : 0 < y) (h : 9223372036854775808 < n + x ∨ 9223372036854775808 < n ∨ (1 < y ∧ 4611686018427387904 < x)) : 9223372036854775808 < T := by
  obtain ⟨n0, n1, x0, x1, y0, y1, hx, hT⟩ := hm
  have a1 : x * 1 ≤ x * y := Int.mul_le_mul_of_nonneg_left (by omega) x0
  rcases h with h | h | ⟨h, h'⟩
  · omega
  · omega
  · have a2 : x * 2 ≤ x * y := Int.mul_le_mul_of_nonneg_left (by omega) x0
    omega
theorem mul_odd {T x y n : Int} (hm : MulAt T x y n) (hlt : 0 < y) (ho : y % 2 = 1) (h : n + x ≤ 9223372036854775808) (h2 : 1 < y → x ≤ 4611686018427387904) {x' : Int} (hx' : (x' = x * 2 ∧ 1 < y) ∨ (x' = IntKind.u64.wrap (x * 2) ∧ ¬ 1 < y)) : MulAt T x' (y / 2) (n + x) := by
  obtain ⟨n0, n1, x0, x1, y0, y1, hx, hT⟩ := hm
  rw [mul_split, ho] at hT
  rcases hx' with ⟨rfl, c⟩ | ⟨rfl, c⟩
  · refine ⟨by omega, by omega, by omega, by omega, by omega, by omega, by omega, by omega⟩
  · have hy : y / 2 = 0 := by omega
    rw [hy] at hT ⊢
    rw [IntKind.wrap_u64]
    refine ⟨by omega, by omega, by omega, by omega, by omega, by omega, by omega, by omega⟩
theorem mul_even {T x y n : Int} (hm : MulAt T x y n) (hlt : 0 < y) (ho : ¬ y % 2 = 1) (h : n ≤ 9223372036854775808) (h2 : 1 < y → x ≤ 4611686018427387904) {x' : Int} (hx' : (x' = x * 2 ∧ 1 < y) ∨ (x' = IntKind.u64.wrap (x * 2) ∧ ¬ 1 < y)) : MulAt T x' (y / 2) n := by
  have ho' : y % 2 = 0 := by omega
  obtain ⟨n0, n1, x0, x1, y0, y1, hx, hT⟩ := hm
  rw [mul_split, ho'] at hT
  rcases hx' with ⟨rfl, c⟩ | ⟨rfl, c⟩
  · refine ⟨by omega, by omega, by omega, by omega, by omega, by omega, by omega, by omega⟩
  · omega
theorem mul_big {a b : Int} (h : 9223372036854775808 < (a.natAbs : Int) * (b.natAbs : Int)) : ¬ Fit (a * b) := by
  rw [← Int.natCast_mul, ← Int.natAbs_mul] at h
  unfold Fit
  omega
theorem sgn_mul (a b : Int) : sgn (decide (a < 0) != decide (b < 0)) ((a.natAbs : Int) * (b.natAbs : Int)) = a * b := by
  unfold sgn
  rcases Int.lt_or_le a 0 with ga | ga <;> rcases Int.lt_or_le b 0 with gb | gb
  · rw [show (a.natAbs : Int) = -a by omega, show (b.natAbs : Int) = -b by omega]; simp [ga, gb, Int.neg_mul_neg]
  · rw [show (a.natAbs : Int) = -a by omega, show (b.natAbs : Int) = b by omega]; simp [ga, show ¬ b < 0 by omega, Int.neg_mul]
  · rw [show (a.natAbs : Int) = a by omega, show (b.natAbs : Int) = -b by omega]; simp [gb, show ¬ a < 0 by omega, Int.mul_neg]
  · rw [show (a.natAbs : Int) = a by omega, show (b.natAbs : Int) = b by omega]; simp [show ¬ a < 0 by omega, show ¬ b < 0 by omega]
set_option maxHeartbeats 1000000 in
theorem rmul_is (a b : Int) (ha : Fit a) (hb : Fit b) (w : World) :
    Calls Tryz.prog 60 #[.int .i64 a, .int .i64 b] w fun e w' => (∃ r, e = .returned (.tuple #[.int .i64 r, .bool (decide (Fit (a * b)))]) ∧ (Fit (a * b) → r = a * b)) ∧ w = w' := by
  have xa : a.natAbs ≤ 9223372036854775808 := by unfold Fit at ha; omega
  have xb : b.natAbs ≤ 9223372036854775808 := by unfold Fit at hb; omega
  have S1 := Lib.hid (size_is a ha)
  have S2 := Lib.hid (size_is b hb)
  clear ha hb
  go_enter Tryz.func60, Tryz.ntmps60
  go_wp2_with (go_at_call 78; first | (with_reducible refine (S1.out _).mono ?_; rintro e w1 ⟨rfl, rfl⟩) | (with_reducible refine (S2.out _).mono ?_; rintro e w1 ⟨rfl, rfl⟩))
  go_loopw [6, 7, 8] (fun sx sy sn wr => ∃ x y n : Int, sx = .int .u64 x ∧ sy = .int .u64 y ∧ sn = .int .u64 n ∧ MulAt (a.natAbs * b.natAbs) x y n ∧ wr = w) (fun _ sy _ _ => (intOf sy).toNat)
  case atStart =>
    refine ⟨_, _, _, rfl, rfl, rfl, ?_, rfl⟩
    refine ⟨by omega, by omega, by omega, by omega, by omega, by omega, by omega, by omega⟩
  case round =>
    obtain ⟨x, y, n, rfl, rfl, rfl, hm, rfl⟩ := hrel
    obtain ⟨n0, n1, x0, x1, y0, y1, hx, hT⟩ := id hm
    by_cases hlt : 0 < y
    · obtain ⟨hx1, hx2⟩ := hx hlt
      by_cases ho : y % 2 = 1
      · go_wp2
        all_goals first
          | (go_ret2; exact ⟨ret_over (mul_big (mul_over hm hlt (by omega))), rfl⟩)
          | exact ⟨⟨_, _, _, rfl, rfl, rfl, mul_odd hm hlt ho (by omega) (by omega) (by first | (left; exact ⟨rfl, by omega⟩) | (right; exact ⟨rfl, by omega⟩)), trivial⟩, by simp [intOf]; omega⟩
      · go_wp2
        all_goals first
          | (go_ret2; exact ⟨ret_over (mul_big (mul_over hm hlt (by omega))), rfl⟩)
          | exact ⟨⟨_, _, _, rfl, rfl, rfl, mul_even hm hlt ho (by omega) (by omega) (by first | (left; exact ⟨rfl, by omega⟩) | (right; exact ⟨rfl, by omega⟩)), trivial⟩, by simp [intOf]; omega⟩
    · have hy : y = 0 := by omega
      subst hy
      have hn : n = (a.natAbs : Int) * (b.natAbs : Int) := by omega
      clear hm hx hlt
      go_wp2_with (go_at_call 79; with_reducible refine (rwhole_is _ _ (by omega) _).mono ?_; rintro e w1 ⟨rfl, rfl⟩)
      go_ret2
      exact ⟨ret_fit (sgn_mul a b), rfl⟩
end Go.Proofs.YtikpgglbfpdhmaaGreatDoor

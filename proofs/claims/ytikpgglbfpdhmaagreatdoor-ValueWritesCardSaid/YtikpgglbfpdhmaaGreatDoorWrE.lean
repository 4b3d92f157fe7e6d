/- Printing a float: the shift, bits and bounds. -/
import Derived.Test.YtikpgglbfpdhmaaGreatDoorWrA
import Derived.Test.YtikpgglbfpdhmaaGreatDoorShelf
namespace Go.Proofs.YtikpgglbfpdhmaaGreatDoor
open Go.RowKit Go.Joins

/-- The scale's shift, at each place that is reached. -/
theorem shift_small (e z p lp : Int) (h0 : -1137 ≤ e) (h1 : e ≤ 960) (hz : 11 ≤ z ∧ z ≤ 63) (hez : e + z = -1074 ∨ z = 11) (hp : p = -((e + z) * 78913 / 262144) ∨ p = -(((e + z) * 631305 - 261663) / 2097152)) (hl : lp = p * 108853 / 32768) :
    0 ≤ -(e + lp + 3) ∧ -(e + lp + 3) ≤ 60 ∧ -348 ≤ p ∧ p ≤ 347 := by
  subst hl
  rcases hp with rfl | rfl <;> omega
theorem mul64 : Hid (∀ (x y : Nat), x < 18446744073709551616 → y < 18446744073709551616 → ∀ w, Calls Tryz.prog 192 #[.int .u64 x, .int .u64 y] w fun e w' => e = .returned (.tuple #[.int .u64 ((x * y / 18446744073709551616 : Nat) : Int), .int .u64 ((x * y % 18446744073709551616 : Nat) : Int)]) ∧ w' = w) :=
  Lib.hid fun x y hx hy w => Tryz.bits_Mul64 x y hx hy w
end Go.Proofs.YtikpgglbfpdhmaaGreatDoor

namespace Go.Proofs.YtikpgglbfpdhmaaGreatDoor
open Go.RowKit Go.Joins

theorem and63 (s : Nat) (h : s < 64) : bits BinOp.and IntKind.i64 (s : Int) 63 = (s : Int) := by
  revert s; decide +kernel
theorem or_nat (a b : Nat) (ha : a < 18446744073709551616) (hb : b < 18446744073709551616) : bits BinOp.or IntKind.u64 (a : Int) (b : Int) = ((a ||| b : Nat) : Int) := by
  have h : a ||| b < 2 ^ 64 := Nat.or_lt_two_pow (by omega) (by omega)
  show IntKind.u64.wrap (((BitVec.ofInt 64 (a : Int)) ||| (BitVec.ofInt 64 (b : Int))).toNat : Int) = _
  rw [BitVec.toNat_or, BitVec.ofInt_natCast, BitVec.ofInt_natCast, BitVec.toNat_ofNat, BitVec.toNat_ofNat, Nat.mod_eq_of_lt (by omega), Nat.mod_eq_of_lt (by omega), IntKind.wrap_u64]
  omega
theorem b2n_nat (b : Bool) : ∃ k : Nat, b2n b = (k : Int) ∧ k ≤ 1 := by
  cases b
  · exact ⟨0, rfl, by omega⟩
  · exact ⟨1, rfl, by omega⟩
/-- What scaling gives is a number from 0, less than 2^64. -/
theorem usc_nat (x hi lo s : Nat) (hx : x < 18446744073709551616) (hh : hi < 18446744073709551616) : ∃ u : Nat, usc x hi lo s = (u : Int) ∧ u < 18446744073709551616 := by
  have hH : x * hi / 18446744073709551616 < 18446744073709551616 := by
    rw [Nat.div_lt_iff_lt_mul (by omega)]
    exact Nat.lt_of_lt_of_le (Nat.mul_lt_mul_of_lt_of_le hx (Nat.le_of_lt hh) (by omega)) (by omega)
  unfold usc
  have eH : ((x : Int) * hi / 18446744073709551616) = ((x * hi / 18446744073709551616 : Nat) : Int) := by omega
  rw [eH]
  generalize x * hi / 18446744073709551616 = H at *
  split
  · have e : ((H : Int) / 2 ^ s) = ((H / 2 ^ s : Nat) : Int) := by rw [Int.natCast_ediv, Int.natCast_pow]; rfl
    have l : H / 2 ^ s < 18446744073709551616 := Nat.lt_of_le_of_lt (Nat.div_le_self _ _) hH
    rw [e, show (1 : Int) = ((1 : Nat) : Int) from rfl, or_nat _ _ l (by omega)]
    exact ⟨_, rfl, Nat.or_lt_two_pow (n := 64) l (by omega)⟩
  · obtain ⟨k, ek, hk⟩ := b2n_nat (decide ((x : Int) * hi % 18446744073709551616 < x * lo / 18446744073709551616))
    obtain ⟨j, ej, hj⟩ := b2n_nat (decide (1 < IntKind.u64.wrap ((x : Int) * hi % 18446744073709551616 - x * lo / 18446744073709551616)))
    rw [ek, ej]
    have hw : ∃ G : Nat, IntKind.u64.wrap ((H : Int) - k) = (G : Int) ∧ G < 18446744073709551616 := ⟨(IntKind.u64.wrap ((H : Int) - k)).toNat, by rw [IntKind.wrap_u64]; omega, by rw [IntKind.wrap_u64]; omega⟩
    obtain ⟨G, eG, hG⟩ := hw
    rw [eG]
    have e : ((G : Int) / 2 ^ s) = ((G / 2 ^ s : Nat) : Int) := by rw [Int.natCast_ediv, Int.natCast_pow]; rfl
    have l : G / 2 ^ s < 18446744073709551616 := Nat.lt_of_le_of_lt (Nat.div_le_self _ _) hG
    rw [e, or_nat _ _ l (by omega)]
    exact ⟨_, rfl, Nat.or_lt_two_pow (n := 64) l (by omega)⟩
theorem or_ge (a b : Nat) : a ≤ a ||| b := Nat.left_le_or
/-- .. and at least 1 where the high half is more than the shift takes. -/
theorem usc_pos (x hi lo s : Nat) (hx : x < 18446744073709551616) (hh : hi < 18446744073709551616) (h1 : 2 * 2 ^ s ≤ x * hi / 18446744073709551616) : 1 ≤ usc x hi lo s := by
  have hH : x * hi / 18446744073709551616 < 18446744073709551616 := by
    rw [Nat.div_lt_iff_lt_mul (by omega)]
    exact Nat.lt_of_lt_of_le (Nat.mul_lt_mul_of_lt_of_le hx (Nat.le_of_lt hh) (by omega)) (by omega)
  have h2 : 1 ≤ 2 ^ s := Nat.one_le_two_pow
  unfold usc
  have eH : ((x : Int) * hi / 18446744073709551616) = ((x * hi / 18446744073709551616 : Nat) : Int) := by omega
  rw [eH]
  generalize x * hi / 18446744073709551616 = H at *
  split
  · have e : ((H : Int) / 2 ^ s) = ((H / 2 ^ s : Nat) : Int) := by rw [Int.natCast_ediv, Int.natCast_pow]; rfl
    have l : H / 2 ^ s < 18446744073709551616 := Nat.lt_of_le_of_lt (Nat.div_le_self _ _) hH
    have g : 1 ≤ H / 2 ^ s := (Nat.le_div_iff_mul_le (by omega)).2 (by omega)
    rw [e, show (1 : Int) = ((1 : Nat) : Int) from rfl, or_nat _ _ l (by omega)]
    have := or_ge (H / 2 ^ s) 1
    omega
  · obtain ⟨k, ek, hk⟩ := b2n_nat (decide ((x : Int) * hi % 18446744073709551616 < x * lo / 18446744073709551616))
    obtain ⟨j, ej, hj⟩ := b2n_nat (decide (1 < IntKind.u64.wrap ((x : Int) * hi % 18446744073709551616 - x * lo / 18446744073709551616)))
    rw [ek, ej]
    have hw : IntKind.u64.wrap ((H : Int) - k) = ((H - k : Nat) : Int) := by rw [IntKind.wrap_u64]; omega
    rw [hw]
    have hG : H - k < 18446744073709551616 := by omega
    have hG2 : 2 ^ s ≤ H - k := by omega
    generalize H - k = G at *
    have e : ((G : Int) / 2 ^ s) = ((G / 2 ^ s : Nat) : Int) := by rw [Int.natCast_ediv, Int.natCast_pow]; rfl
    have l : G / 2 ^ s < 18446744073709551616 := Nat.lt_of_le_of_lt (Nat.div_le_self _ _) hG
    have g : 1 ≤ G / 2 ^ s := (Nat.le_div_iff_mul_le (by omega)).2 (by omega)
    rw [e, or_nat _ _ l (by omega)]
    have := or_ge (G / 2 ^ s) j
    omega
end Go.Proofs.YtikpgglbfpdhmaaGreatDoor

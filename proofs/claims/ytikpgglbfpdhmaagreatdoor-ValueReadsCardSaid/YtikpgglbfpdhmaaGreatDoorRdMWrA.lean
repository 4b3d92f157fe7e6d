/- Printing a float: the small functions on whole numbers, scaling, the scale, rounding. -/
import Derived.Test.YtikpgglbfpdhmaaGreatDoorRdMKit
import Derived.Test.YtikpgglbfpdhmaaGreatDoorRdMVArith
import Derived.Test.YtikpgglbfpdhmaaGreatDoorShelf
import Derived.Test.YtikpgglbfpdhmaaGreatDoorProg
namespace Go.Proofs.YtikpgglbfpdhmaaGreatDoor
open Go.RowKit Go.Joins
attribute [local go_sem ↓] Go.wp_at_zero Go.wp_at_succ

theorem ret_i64 {x y : Int} (h : x = y) : Ending.returned (.int .i64 x) = Ending.returned (.int .i64 y) := by rw [h]
theorem log10Pow2_is (x : Int) (h0 : -5000 ≤ x) (h1 : x ≤ 5000) (w : World) :
    Calls Tryz.prog 114 #[.int .i64 x] w fun e w' => e = .returned (.int .i64 (x * 78913 / 262144)) ∧ w = w' := by
  go_enter Tryz.func114, Tryz.ntmps114
  go_wp2
  go_ret
  exact ⟨ret_i64 (by simp), rfl⟩
theorem log2Pow10_is (x : Int) (h0 : -5000 ≤ x) (h1 : x ≤ 5000) (w : World) :
    Calls Tryz.prog 168 #[.int .i64 x] w fun e w' => e = .returned (.int .i64 (x * 108853 / 32768)) ∧ w = w' := by
  go_enter Tryz.func168, Tryz.ntmps168
  go_wp2
  go_ret
  exact ⟨ret_i64 (by simp), rfl⟩
theorem skewed_is (x : Int) (h0 : -5000 ≤ x) (h1 : x ≤ 5000) (w : World) :
    Calls Tryz.prog 166 #[.int .i64 x] w fun e w' => e = .returned (.int .i64 ((x * 631305 - 261663) / 2097152)) ∧ w = w' := by
  go_enter Tryz.func166, Tryz.ntmps166
  go_wp2
  go_ret
  exact ⟨ret_i64 (by simp), rfl⟩
theorem ret_u64' {x y : Int} (h : x = y) : Ending.returned (.int .u64 x) = Ending.returned (.int .u64 y) := by rw [h]
theorem unfloor_is (x : Int) (h0 : 0 ≤ x) (h1 : x < 18446744073709551616) (w : World) :
    Calls Tryz.prog 172 #[.int .u64 x] w fun e w' => e = .returned (.int .u64 (x / 4)) ∧ w = w' := by
  go_enter Tryz.func172, Tryz.ntmps172
  go_wp2
  go_ret
  exact ⟨ret_u64' (by simp), rfl⟩
theorem unceil_is (x : Int) (h0 : 0 ≤ x) (h1 : x < 18446744073709551613) (w : World) :
    Calls Tryz.prog 171 #[.int .u64 x] w fun e w' => e = .returned (.int .u64 ((x + 3) / 4)) ∧ w = w' := by
  go_enter Tryz.func171, Tryz.ntmps171
  go_wp2
  go_ret
  exact ⟨ret_u64' (by simp), rfl⟩
theorem bool2u_is (b : Bool) (w : World) :
    Calls Tryz.prog 193 #[.bool b] w fun e w' => e = .returned (.int .u64 (if b then 1 else 0)) ∧ w = w' := by
  cases b
  all_goals
    go_enter Tryz.func193, Tryz.ntmps193
    go_wp2
    go_ret
    exact ⟨rfl, rfl⟩
theorem bool2w_is (b : Bool) (w : World) :
    Calls Tryz.prog 150 #[.bool b] w fun e w' => e = .returned (.int .u64 (if b then 1 else 0)) ∧ w = w' := by
  cases b
  all_goals
    go_enter Tryz.func150, Tryz.ntmps150
    go_wp2
    go_ret
    exact ⟨rfl, rfl⟩
end Go.Proofs.YtikpgglbfpdhmaaGreatDoor

namespace Go.Proofs.YtikpgglbfpdhmaaGreatDoor
open Go.RowKit Go.Joins
attribute [local go_sem ↓] Go.wp_at_zero Go.wp_at_succ

def b2n (b : Bool) : Int := if b then 1 else 0
/-- What scaling gives, as the program reckons it. -/
def usc (x hi lo : Int) (s : Nat) : Int :=
  if (IntKind.u64.wrap (x * hi / 18446744073709551616 / 2 ^ s * 2 ^ s) != x * hi / 18446744073709551616) = true then bits BinOp.or IntKind.u64 (x * hi / 18446744073709551616 / 2 ^ s) 1
  else bits BinOp.or IntKind.u64 (IntKind.u64.wrap (x * hi / 18446744073709551616 - b2n (decide (x * hi % 18446744073709551616 < x * lo / 18446744073709551616))) / 2 ^ s) (b2n (decide (1 < IntKind.u64.wrap (x * hi % 18446744073709551616 - x * lo / 18446744073709551616))))
theorem usc_t {x hi lo : Int} {s : Nat} (h : (IntKind.u64.wrap (x * hi / 18446744073709551616 / 2 ^ s * 2 ^ s) != x * hi / 18446744073709551616) = true) : usc x hi lo s = bits BinOp.or IntKind.u64 (x * hi / 18446744073709551616 / 2 ^ s) 1 := if_pos h
theorem usc_f {x hi lo : Int} {s : Nat} (h : (IntKind.u64.wrap (x * hi / 18446744073709551616 / 2 ^ s * 2 ^ s) != x * hi / 18446744073709551616) = false) : usc x hi lo s = bits BinOp.or IntKind.u64 (IntKind.u64.wrap (x * hi / 18446744073709551616 - b2n (decide (x * hi % 18446744073709551616 < x * lo / 18446744073709551616))) / 2 ^ s) (b2n (decide (1 < IntKind.u64.wrap (x * hi % 18446744073709551616 - x * lo / 18446744073709551616)))) := if_neg (by rw [h]; decide)
theorem bool2w_n (b : Bool) (w : World) :
    Calls Tryz.prog 150 #[.bool b] w fun e w' => e = .returned (.int .u64 (b2n b)) ∧ w = w' := bool2w_is b w
theorem bool2u_n (b : Bool) (w : World) :
    Calls Tryz.prog 193 #[.bool b] w fun e w' => e = .returned (.int .u64 (b2n b)) ∧ w = w' := bool2u_is b w
theorem uscale_is (M : Hid (∀ (x y : Nat), x < 18446744073709551616 → y < 18446744073709551616 → ∀ w, Calls Tryz.prog 192 #[.int .u64 x, .int .u64 y] w fun e w' => e = .returned (.tuple #[.int .u64 ((x * y / 18446744073709551616 : Nat) : Int), .int .u64 ((x * y % 18446744073709551616 : Nat) : Int)]) ∧ w' = w))
    (x hi lo s B : Nat) (hx : x < 18446744073709551616) (hhi : hi < 18446744073709551616) (hlo : lo < 18446744073709551616) (hs : s < 64) (hand : bits BinOp.and IntKind.i64 (s : Int) 63 = (s : Int)) (w : World)
    (c0 : w.cell? ⟨B, 0, none⟩ = some (.int .u64 hi)) (c1 : w.cell? ⟨B, 1, none⟩ = some (.int .u64 lo)) (c2 : w.cell? ⟨B, 2, none⟩ = some (.int .i64 s)) :
    Calls Tryz.prog 169 #[.int .u64 x, .pointer (some ⟨B, 0, none⟩)] w fun e w' => e = .returned (.int .u64 (usc x hi lo s)) ∧ Below w.heap.size w w' := by
  go_enter Tryz.func169, Tryz.ntmps169
  go_wp2_with (first
    | (go_at_call 192; first | (with_reducible refine (M.out x hi hx hhi _).mono ?_; rintro e w1 ⟨rfl, rfl⟩) | (with_reducible refine (M.out x lo hx hlo _).mono ?_; rintro e w1 ⟨rfl, rfl⟩))
    | (go_at_call 150; with_reducible refine (bool2w_n _ _).mono ?_; rintro e w1 ⟨rfl, rfl⟩)
    | (go_at_call 193; with_reducible refine (bool2u_n _ _).mono ?_; rintro e w1 ⟨rfl, rfl⟩))
  · go_ret
    exact ⟨by rw [usc_t (by assumption)]; rfl, (by repeat' (first | with_reducible exact Below.refl _ _ | with_reducible refine below_step ?_ (by assumption) | with_reducible apply below_set' | with_reducible apply below_alloc' | with_reducible apply Below.drew | with_reducible apply below_drewN' | (simp; done) | omega | (simp; omega)))⟩
  · go_quiet ((go_at_call 150; exact Calls.quiet_of_same ((bool2w_n _ _).mono fun _ _ h => ⟨h.1, h.2.symm⟩)))
    go_wp2
    go_ret
    exact ⟨by rw [usc_f (by assumption)]; rfl, (by repeat' (first | with_reducible exact Below.refl _ _ | with_reducible refine below_step ?_ (by assumption) | with_reducible apply below_set' | with_reducible apply below_alloc' | with_reducible apply Below.drew | with_reducible apply below_drewN' | (simp; done) | omega | (simp; omega)))⟩
end Go.Proofs.YtikpgglbfpdhmaaGreatDoor

namespace Go.Proofs.YtikpgglbfpdhmaaGreatDoor
open Go.RowKit Go.Joins
attribute [local go_sem ↓] Go.wp_at_zero Go.wp_at_succ

theorem prescale_is (B : Nat) (e p lp : Int) (i hi lo : Nat) (hi9 : i < 696) (hp : p = (i : Int) - 348) (he0 : -5000 ≤ e) (he1 : e ≤ 5000) (hl0 : -5000 ≤ lp) (hl1 : lp ≤ 5000) (w : World)
    (t0 : w.cell? ⟨15, i * 2, none⟩ = some (.int .u64 hi)) (t1 : w.cell? ⟨15, i * 2 + 1, none⟩ = some (.int .u64 lo))
    (c0 : w.cell? ⟨B, 0, none⟩ = some (.int .u64 0)) (c1 : w.cell? ⟨B, 1, none⟩ = some (.int .u64 0)) (c2 : w.cell? ⟨B, 2, none⟩ = some (.int .i64 0)) (fz : ∀ o, w.frozen? ⟨B, o, none⟩ = false) :
    Calls Tryz.prog 167 #[.pointer (some ⟨B, 0, none⟩), .int .i64 e, .int .i64 p, .int .i64 lp] w fun r w' => r = .returned (.tuple #[]) ∧ w' = ((w.setCell ⟨B, 0, none⟩ (.int .u64 hi)).setCell ⟨B, 1, none⟩ (.int .u64 lo)).setCell ⟨B, 2, none⟩ (.int .i64 (-(e + lp + 3))) := by
  subst hp
  have e1 : wrap64 ((i : Int) - 348 - -348) = i := by unfold wrap64; omega
  go_enter Tryz.func167, Tryz.ntmps167
  go_wp2
  exact bodyPost_end (by simp [results, Tryz.results167, go_sem]) rfl ⟨rfl, by simp⟩
end Go.Proofs.YtikpgglbfpdhmaaGreatDoor

namespace Go.Proofs.YtikpgglbfpdhmaaGreatDoor
open Go.RowKit Go.Joins
attribute [local go_sem ↓] Go.wp_at_zero Go.wp_at_succ

theorem nudge_is (x d : Int) (h0 : 1 ≤ x) (h1 : x < 18446744073709551615) (hd0 : -1 ≤ d) (hd1 : d ≤ 1) (w : World) :
    Calls Tryz.prog 170 #[.int .u64 x, .int .i64 d] w fun e w' => e = .returned (.int .u64 (x + d)) ∧ w = w' := by
  rcases (show d = -1 ∨ d = 0 ∨ d = 1 by omega) with rfl | rfl | rfl
  · have e1 : IntKind.u64.wrap (x + 18446744073709551615) = x + -1 := by rw [IntKind.wrap_u64]; omega
    go_enter Tryz.func170, Tryz.ntmps170
    go_wp2
    go_ret
    exact ⟨ret_u64' (by first | rfl | omega | exact e1), rfl⟩
  · go_enter Tryz.func170, Tryz.ntmps170
    go_wp2
    go_ret
    exact ⟨ret_u64' (by first | rfl | omega), rfl⟩
  · go_enter Tryz.func170, Tryz.ntmps170
    go_wp2
    go_ret
    exact ⟨ret_u64' (by first | rfl | omega), rfl⟩
theorem unround_is (x : Int) (h0 : 0 ≤ x) (h1 : x < 18446744073709551610) (hb : bits BinOp.and IntKind.u64 (x / 4) 1 = x / 4 % 2) (w : World) :
    Calls Tryz.prog 173 #[.int .u64 x] w fun e w' => e = .returned (.int .u64 ((x + 1 + x / 4 % 2) / 4)) ∧ w = w' := by
  go_enter Tryz.func173, Tryz.ntmps173
  go_wp2
  go_ret
  exact ⟨ret_u64' (by simp), rfl⟩
end Go.Proofs.YtikpgglbfpdhmaaGreatDoor

namespace Go.Proofs.YtikpgglbfpdhmaaGreatDoor
open Go.RowKit Go.Joins

/-- The scale's shift, at each place that is reached. -/
theorem shift_small (e z p lp : Int) (h0 : -1137 ≤ e) (h1 : e ≤ 960) (hz : 11 ≤ z ∧ z ≤ 63) (hez : e + z = -1074 ∨ z = 11) (hp : p = -((e + z) * 78913 / 262144) ∨ p = -(((e + z) * 631305 - 261663) / 2097152)) (hl : lp = p * 108853 / 32768) :
    0 ≤ -(e + lp + 3) ∧ -(e + lp + 3) ≤ 60 ∧ -348 ≤ p ∧ p ≤ 347 := by
  subst hl
  rcases hp with rfl | rfl <;> omega
theorem mul64 : Hid (∀ (x y : Nat), x < 18446744073709551616 → y < 18446744073709551616 → ∀ w, Calls Tryz.prog 192 #[.int .u64 x, .int .u64 y] w fun e w' => e = .returned (.tuple #[.int .u64 ((x * y / 18446744073709551616 : Nat) : Int), .int .u64 ((x * y % 18446744073709551616 : Nat) : Int)]) ∧ w' = w) :=
  Lib.hid fun x y hx hy w => Tryz.bits_Mul64 x y hx hy w
end Go.Proofs.YtikpgglbfpdhmaaGreatDoor

namespace Go.Proofs.YtikpgglbfpdhmaaGreatDoor
open Go.RowKit Go.Joins

theorem and63 (s : Nat) (h : s < 64) : bits BinOp.and IntKind.i64 (s : Int) 63 = (s : Int) := by
  revert s; decide +kernel
theorem or_nat (a b : Nat) (ha : a < 18446744073709551616) (hb : b < 18446744073709551616) : bits BinOp.or IntKind.u64 (a : Int) (b : Int) = ((a ||| b : Nat) : Int) := by
  have h : a ||| b < 2 ^ 64 := Nat.or_lt_two_pow (by omega) (by omega)
  show IntKind.u64.wrap (((BitVec.ofInt 64 (a : Int)) ||| (BitVec.ofInt 64 (b : Int))).toNat : Int) = _
  rw [BitVec.toNat_or, BitVec.ofInt_natCast, BitVec.ofInt_natCast, BitVec.toNat_ofNat, BitVec.toNat_ofNat, Nat.mod_eq_of_lt (by omega), Nat.mod_eq_of_lt (by omega), IntKind.wrap_u64]
  omega
theorem b2n_nat (b : Bool) : ∃ k : Nat, b2n b = (k : Int) ∧ k ≤ 1 := by
  cases b
  · exact ⟨0, rfl, by omega⟩
  · exact ⟨1, rfl, by omega⟩
/-- What scaling gives is a number from 0, less than 2^64. -/
theorem usc_nat (x hi lo s : Nat) (hx : x < 18446744073709551616) (hh : hi < 18446744073709551616) : ∃ u : Nat, usc x hi lo s = (u : Int) ∧ u < 18446744073709551616 := by
  have hH : x * hi / 18446744073709551616 < 18446744073709551616 := by
    rw [Nat.div_lt_iff_lt_mul (by omega)]
    exact Nat.lt_of_lt_of_le (Nat.mul_lt_mul_of_lt_of_le hx (Nat.le_of_lt hh) (by omega)) (by omega)
  unfold usc
  have eH : ((x : Int) * hi / 18446744073709551616) = ((x * hi / 18446744073709551616 : Nat) : Int) := by omega
  rw [eH]
  generalize x * hi / 18446744073709551616 = H at *
  split
  · have e : ((H : Int) / 2 ^ s) = ((H / 2 ^ s : Nat) : Int) := by rw [Int.natCast_ediv, Int.natCast_pow]; rfl
    have l : H / 2 ^ s < 18446744073709551616 := Nat.lt_of_le_of_lt (Nat.div_le_self _ _) hH
    rw [e, show (1 : Int) = ((1 : Nat) : Int) from rfl, or_nat _ _ l (by omega)]
    exact ⟨_, rfl, Nat.or_lt_two_pow (n := 64) l (by omega)⟩
  · obtain ⟨k, ek, hk⟩ := b2n_nat (decide ((x : Int) * hi % 18446744073709551616 < x * lo / 18446744073709551616))
    obtain ⟨j, ej, hj⟩ := b2n_nat (decide (1 < IntKind.u64.wrap ((x : Int) * hi % 18446744073709551616 - x * lo / 18446744073709551616)))
    rw [ek, ej]
    have hw : ∃ G : Nat, IntKind.u64.wrap ((H : Int) - k) = (G : Int) ∧ G < 18446744073709551616 := ⟨(IntKind.u64.wrap ((H : Int) - k)).toNat, by rw [IntKind.wrap_u64]; omega, by rw [IntKind.wrap_u64]; omega⟩
    obtain ⟨G, eG, hG⟩ := hw
    rw [eG]
    have e : ((G : Int) / 2 ^ s) = ((G / 2 ^ s : Nat) : Int) := by rw [Int.natCast_ediv, Int.natCast_pow]; rfl
    have l : G / 2 ^ s < 18446744073709551616 := Nat.lt_of_le_of_lt (Nat.div_le_self _ _) hG
    rw [e, or_nat _ _ l (by omega)]
    exact ⟨_, rfl, Nat.or_lt_two_pow (n := 64) l (by omega)⟩
theorem or_ge (a b : Nat) : a ≤ a ||| b := Nat.left_le_or
/-- .. and at least 1 where the high half is more than the shift takes. -/
theorem usc_pos (x hi lo s : Nat) (hx : x < 18446744073709551616) (hh : hi < 18446744073709551616) (h1 : 2 * 2 ^ s ≤ x * hi / 18446744073709551616) : 1 ≤ usc x hi lo s := by
  have hH : x * hi / 18446744073709551616 < 18446744073709551616 := by
    rw [Nat.div_lt_iff_lt_mul (by omega)]
    exact Nat.lt_of_lt_of_le (Nat.mul_lt_mul_of_lt_of_le hx (Nat.le_of_lt hh) (by omega)) (by omega)
  have h2 : 1 ≤ 2 ^ s := Nat.one_le_two_pow
  unfold usc
  have eH : ((x : Int) * hi / 18446744073709551616) = ((x * hi / 18446744073709551616 : Nat) : Int) := by omega
  rw [eH]
  generalize x * hi / 18446744073709551616 = H at *
  split
  · have e : ((H : Int) / 2 ^ s) = ((H / 2 ^ s : Nat) : Int) := by rw [Int.natCast_ediv, Int.natCast_pow]; rfl
    have l : H / 2 ^ s < 18446744073709551616 := Nat.lt_of_le_of_lt (Nat.div_le_self _ _) hH
    have g : 1 ≤ H / 2 ^ s := (Nat.le_div_iff_mul_le (by omega)).2 (by omega)
    rw [e, show (1 : Int) = ((1 : Nat) : Int) from rfl, or_nat _ _ l (by omega)]
    have := or_ge (H / 2 ^ s) 1
    omega
  · obtain ⟨k, ek, hk⟩ := b2n_nat (decide ((x : Int) * hi % 18446744073709551616 < x * lo / 18446744073709551616))
    obtain ⟨j, ej, hj⟩ := b2n_nat (decide (1 < IntKind.u64.wrap ((x : Int) * hi % 18446744073709551616 - x * lo / 18446744073709551616)))
    rw [ek, ej]
    have hw : IntKind.u64.wrap ((H : Int) - k) = ((H - k : Nat) : Int) := by rw [IntKind.wrap_u64]; omega
    rw [hw]
    have hG : H - k < 18446744073709551616 := by omega
    have hG2 : 2 ^ s ≤ H - k := by omega
    generalize H - k = G at *
    have e : ((G : Int) / 2 ^ s) = ((G / 2 ^ s : Nat) : Int) := by rw [Int.natCast_ediv, Int.natCast_pow]; rfl
    have l : G / 2 ^ s < 18446744073709551616 := Nat.lt_of_le_of_lt (Nat.div_le_self _ _) hG
    have g : 1 ≤ G / 2 ^ s := (Nat.le_div_iff_mul_le (by omega)).2 (by omega)
    rw [e, or_nat _ _ l (by omega)]
    have := or_ge (G / 2 ^ s) j
    omega
end Go.Proofs.YtikpgglbfpdhmaaGreatDoor

namespace Go.Proofs.YtikpgglbfpdhmaaGreatDoor

/-- Scaling on halves, in natural numbers. -/
def uscN (H mid mid2 S : Nat) : Nat :=
  if H / S * S = H then (H - (if mid < mid2 then 1 else 0)) / S ||| (if 1 < (mid + 18446744073709551616 - mid2) % 18446744073709551616 then 1 else 0) else H / S ||| 1
theorem usc_uscN (x hi lo s : Nat) (hx : x < 18446744073709551616) (hh : hi < 18446744073709551616) (hl : lo < 18446744073709551616) (h1 : 1 ≤ x * hi / 18446744073709551616) :
    usc x hi lo s = (uscN (x * hi / 18446744073709551616) (x * hi % 18446744073709551616) (x * lo / 18446744073709551616) (2 ^ s) : Nat) := by
  have hH : x * hi / 18446744073709551616 < 18446744073709551616 := by
    rw [Nat.div_lt_iff_lt_mul (by omega)]
    exact Nat.lt_of_lt_of_le (Nat.mul_lt_mul_of_lt_of_le hx (Nat.le_of_lt hh) (by omega)) (by omega)
  have hL : x * lo / 18446744073709551616 < 18446744073709551616 := by
    rw [Nat.div_lt_iff_lt_mul (by omega)]
    exact Nat.lt_of_lt_of_le (Nat.mul_lt_mul_of_lt_of_le hx (Nat.le_of_lt hl) (by omega)) (by omega)
  have hm : x * hi % 18446744073709551616 < 18446744073709551616 := Nat.mod_lt _ (by omega)
  have eH : ((x : Int) * hi / 18446744073709551616) = ((x * hi / 18446744073709551616 : Nat) : Int) := by omega
  have em : ((x : Int) * hi % 18446744073709551616) = ((x * hi % 18446744073709551616 : Nat) : Int) := by omega
  have eL : ((x : Int) * lo / 18446744073709551616) = ((x * lo / 18446744073709551616 : Nat) : Int) := by omega
  unfold usc
  rw [eH, em, eL]
  generalize x * hi / 18446744073709551616 = H at *
  generalize x * hi % 18446744073709551616 = mid at *
  generalize x * lo / 18446744073709551616 = mid2 at *
  have e1 : ((H : Int) / 2 ^ s) = ((H / 2 ^ s : Nat) : Int) := by rw [Int.natCast_ediv, Int.natCast_pow]; rfl
  have e2 : ((H : Int) / 2 ^ s * 2 ^ s) = ((H / 2 ^ s * 2 ^ s : Nat) : Int) := by rw [e1, Int.natCast_mul, Int.natCast_pow]; rfl
  have hle : H / 2 ^ s * 2 ^ s ≤ H := Nat.div_mul_le_self _ _
  have l := Nat.lt_of_le_of_lt (Nat.div_le_self H (2 ^ s)) hH
  unfold uscN
  rw [e2]
  have hw : IntKind.u64.wrap ((H / 2 ^ s * 2 ^ s : Nat) : Int) = ((H / 2 ^ s * 2 ^ s : Nat) : Int) := by rw [IntKind.wrap_u64]; omega
  rw [hw]
  by_cases hc : H / 2 ^ s * 2 ^ s = H
  · rw [if_neg (by rw [hc]; simp), if_pos hc]
    have hb : b2n (decide ((mid : Int) < mid2)) = ((if mid < mid2 then 1 else 0 : Nat) : Int) := by
      by_cases h : mid < mid2
      · rw [if_pos h, decide_eq_true (by omega)]; rfl
      · rw [if_neg h, decide_eq_false (by omega)]; rfl
    have hj : b2n (decide (1 < IntKind.u64.wrap ((mid : Int) - mid2))) = ((if 1 < (mid + 18446744073709551616 - mid2) % 18446744073709551616 then 1 else 0 : Nat) : Int) := by
      by_cases h : 1 < (mid + 18446744073709551616 - mid2) % 18446744073709551616
      · rw [if_pos h, decide_eq_true (by rw [IntKind.wrap_u64]; omega)]; rfl
      · rw [if_neg h, decide_eq_false (by rw [IntKind.wrap_u64]; omega)]; rfl
    rw [hb, hj]
    have hg : (if mid < mid2 then 1 else 0) ≤ 1 := by split <;> omega
    generalize (if mid < mid2 then 1 else 0) = k at *
    have hw2 : IntKind.u64.wrap ((H : Int) - (k : Nat)) = ((H - k : Nat) : Int) := by rw [IntKind.wrap_u64]; omega
    rw [hw2]
    have e3 : (((H - k : Nat) : Int) / 2 ^ s) = (((H - k) / 2 ^ s : Nat) : Int) := by rw [Int.natCast_ediv, Int.natCast_pow]; rfl
    have l2 := Nat.lt_of_le_of_lt (Nat.div_le_self (H - k) (2 ^ s)) (show H - k < 18446744073709551616 by omega)
    rw [e3, or_nat _ _ l2 (by split <;> omega)]
  · rw [if_pos (by simpa using fun h => hc (by omega)), if_neg hc, e1, show (1 : Int) = ((1 : Nat) : Int) from rfl, or_nat _ _ l (by omega)]
theorem div_of {H S q r : Nat} (h : H = S * q + r) (hr : r < S) : H / S = q := by
  rw [h, Nat.mul_add_div (by omega), Nat.div_eq_of_lt hr, Nat.add_zero]
set_option maxRecDepth 20000 in
/-- Where the product keeps off the whole numbers, scaling gives its whole part, and tells whether there is more. -/
theorem uscN_exact (H mid mid2 lo2 S q r1 r0 : Nat) (hS : 1 ≤ S) (hmid : mid < 18446744073709551616) (hmid2 : mid2 < 18446744073709551616) (hlo : lo2 < 18446744073709551616)
    (ht : mid2 * 18446744073709551616 + lo2 ≤ 340282366920938463426481119284349108225)
    (hr1 : r1 < S) (hr0 : r0 < 340282366920938463463374607431768211456)
    (hW : H * 340282366920938463463374607431768211456 + mid * 18446744073709551616 = (S * q + r1) * 340282366920938463463374607431768211456 + r0 + (mid2 * 18446744073709551616 + lo2)) (k : Nat)
    (hk : (k = 0 ∧ r1 = 0 ∧ r0 < 18446744073709551616) ∨ (k = 1 ∧ (1 ≤ r1 ∨ 36893488147419103232 ≤ r0) ∧ (r1 + 1 = S → r0 + 18446744073709551616 < 340282366920938463463374607431768211456))) :
    uscN H mid mid2 S = q ||| k := by
  have hc : ∃ c, c ≤ 1 ∧ H = S * q + r1 + c ∧ mid * 18446744073709551616 + c * 340282366920938463463374607431768211456 = r0 + (mid2 * 18446744073709551616 + lo2) := by
    generalize S * q + r1 = Z at *
    have hge : Z ≤ H := by
      rcases Nat.lt_or_ge H Z with h | h
      · exfalso
        have := Nat.mul_le_mul_right 340282366920938463463374607431768211456 h
        rw [Nat.succ_mul] at this
        omega
      · exact h
    obtain ⟨c, hcH⟩ : ∃ c, H = Z + c := ⟨H - Z, by omega⟩
    rw [hcH, Nat.add_mul] at hW
    have e : mid * 18446744073709551616 + c * 340282366920938463463374607431768211456 = r0 + (mid2 * 18446744073709551616 + lo2) := by
      rw [Nat.add_assoc, Nat.add_assoc] at hW
      rw [Nat.add_comm]
      exact Nat.add_left_cancel hW
    refine ⟨c, ?_, hcH, e⟩
    rcases Nat.lt_or_ge 1 c with h | h
    · exfalso
      have := Nat.mul_le_mul_right 340282366920938463463374607431768211456 h
      omega
    · exact h
  obtain ⟨c, hc1, hH, hm⟩ := hc
  unfold uscN
  rcases hk with ⟨rfl, rfl, h0⟩ | ⟨rfl, h0, h1⟩
  · have hc0 : c = 0 := by omega
    subst hc0
    have hq : H / S = q := div_of (r := 0) (by omega) (by omega)
    rw [hq, if_pos (by rw [Nat.mul_comm]; omega), if_neg (by omega), if_neg (by omega), Nat.sub_zero, hq]
  · by_cases hmul : H / S * S = H
    · rw [if_pos hmul]
      have h2 : r1 + c = 0 ∨ r1 + c = S := by
        rcases Nat.lt_or_ge (r1 + c) S with hlt | hge
        · left
          have hq : H / S = q := div_of (r := r1 + c) (by omega) hlt
          rw [hq, Nat.mul_comm] at hmul
          omega
        · right; omega
      rcases h2 with h2 | h2
      · have hc0 : c = 0 := by omega
        have hr : r1 = 0 := by omega
        subst hc0 hr
        have hq : H / S = q := div_of (r := 0) (by omega) (by omega)
        rw [if_neg (by omega), if_pos (by omega), Nat.sub_zero, hq]
      · have hc0 : c = 1 := by omega
        subst hc0
        have h3 := h1 (by omega)
        have hb : mid < mid2 := by omega
        have hq : (H - 1) / S = q := div_of (r := S - 1) (by omega) (by omega)
        rw [if_pos hb, if_pos (by omega), hq]
    · rw [if_neg hmul]
      have hlt : r1 + c < S := by
        rcases Nat.lt_or_ge (r1 + c) S with hlt | hge
        · exact hlt
        · exfalso
          have e : H = S * (q + 1) + 0 := by rw [Nat.mul_add]; omega
          have hq : H / S = q + 1 := div_of e (by omega)
          rw [hq, Nat.mul_comm] at hmul
          omega
      have hq : H / S = q := div_of (r := r1 + c) (by omega) hlt
      rw [hq]
/-- Of a number that is divided: its whole part, and 1 beside it where there is more. -/
def unr (a b : Nat) : Nat := a / b ||| (if a % b = 0 then 0 else 1)
set_option maxRecDepth 20000 in
theorem usc_exact (x hi lo s N D : Nat) (hx : x < 18446744073709551616) (hh : hi < 18446744073709551616) (hl : lo < 18446744073709551616) (h1 : 1 ≤ x * hi / 18446744073709551616) (hD : 1 ≤ D)
    (p1 : N ≤ D * (hi * 18446744073709551616 - lo)) (p2 : D * (hi * 18446744073709551616 - lo) < N + D) (hhl : lo ≤ hi * 18446744073709551616)
    (hgap : x * N % (D * 2 ^ (128 + s)) = 0 ∨ (D * 36893488147419103232 ≤ x * N % (D * 2 ^ (128 + s)) ∧ x * N % (D * 2 ^ (128 + s)) + D * 36893488147419103232 ≤ D * 2 ^ (128 + s))) :
    usc x hi lo s = (unr (x * N) (D * 2 ^ (128 + s)) : Nat) := by
  rw [usc_uscN x hi lo s hx hh hl h1]
  congr 1
  have hS : 1 ≤ 2 ^ s := Nat.one_le_two_pow
  have hK : 2 ^ (128 + s) = 340282366920938463463374607431768211456 * 2 ^ s := by rw [Nat.pow_add]
  rw [hK] at hgap ⊢
  generalize 2 ^ s = S at *
  -- the product with the table's number
  obtain ⟨W, hW⟩ : ∃ W, W = x * (hi * 18446744073709551616 - lo) := ⟨_, rfl⟩
  have a1 : x * N ≤ D * W := by
    rw [hW, Nat.mul_left_comm]; exact Nat.mul_le_mul_left x p1
  have a2 : D * W ≤ x * N + D * 18446744073709551615 := by
    rw [hW, Nat.mul_left_comm]
    have h2 := Nat.mul_le_mul_left x (Nat.le_of_lt p2)
    have h3 : x * D ≤ D * 18446744073709551615 := by rw [Nat.mul_comm]; exact Nat.mul_le_mul_left D (by omega)
    rw [Nat.mul_add] at h2
    omega
  have hWt : W + x * lo = x * hi * 18446744073709551616 := by
    rw [hW, ← Nat.mul_add, Nat.sub_add_cancel hhl, Nat.mul_assoc]
  -- its whole part and rest
  have hq := Nat.div_add_mod (x * N) (D * (340282366920938463463374607431768211456 * S))
  have hRlt := Nat.mod_lt (x * N) (show 0 < D * (340282366920938463463374607431768211456 * S) from Nat.mul_pos hD (Nat.mul_pos (by omega) hS))
  unfold unr
  generalize x * N / (D * (340282366920938463463374607431768211456 * S)) = q at *
  generalize x * N % (D * (340282366920938463463374607431768211456 * S)) = R at *
  rw [← hq] at a1 a2
  rw [Nat.mul_assoc] at a1 a2
  have hKq : 340282366920938463463374607431768211456 * S * q ≤ W := Nat.le_of_mul_le_mul_left (show D * (340282366920938463463374607431768211456 * S * q) ≤ D * W by omega) hD
  obtain ⟨ρ, hρ⟩ : ∃ ρ, W = 340282366920938463463374607431768211456 * S * q + ρ := ⟨W - 340282366920938463463374607431768211456 * S * q, by omega⟩
  rw [hρ, Nat.mul_add] at a1 a2
  have b1 : R ≤ D * ρ := by omega
  have b2 : D * ρ ≤ R + D * 18446744073709551615 := by omega
  have key : (R = 0 ∧ ρ < 18446744073709551616) ∨ (R ≠ 0 ∧ 36893488147419103232 ≤ ρ ∧ ρ + 18446744073709551616 < 340282366920938463463374607431768211456 * S) := by
    rcases hgap with h0 | ⟨g1, g2⟩
    · left
      refine ⟨h0, ?_⟩
      have : D * ρ ≤ D * 18446744073709551615 := by omega
      have := Nat.le_of_mul_le_mul_left this hD
      omega
    · right
      have c1 : D * 36893488147419103232 ≤ D * ρ := by omega
      have c1' := Nat.le_of_mul_le_mul_left c1 hD
      have c2 : D * (ρ + 18446744073709551617) ≤ D * (340282366920938463463374607431768211456 * S) := by
        rw [Nat.mul_add]; omega
      have c2' := Nat.le_of_mul_le_mul_left c2 hD
      refine ⟨?_, c1', by omega⟩
      intro h0
      have : 1 * 36893488147419103232 ≤ D * 36893488147419103232 := Nat.mul_le_mul_right _ hD
      omega
  have hρK : ρ < 340282366920938463463374607431768211456 * S := by
    rcases key with ⟨_, h⟩ | ⟨_, _, h⟩
    · have : 340282366920938463463374607431768211456 * 1 ≤ 340282366920938463463374607431768211456 * S := Nat.mul_le_mul_left _ hS
      omega
    · omega
  have ht : x * lo ≤ 340282366920938463426481119284349108225 := Nat.mul_le_mul (Nat.le_of_lt_succ (show x < 18446744073709551615 + 1 by omega)) (Nat.le_of_lt_succ (show lo < 18446744073709551615 + 1 by omega))
  have e1 := Nat.div_add_mod (x * hi) 18446744073709551616
  have e2 := Nat.div_add_mod (x * lo) 18446744073709551616
  have hmid := Nat.mod_lt (x * hi) (show 0 < 18446744073709551616 by omega)
  have hlo2 := Nat.mod_lt (x * lo) (show 0 < 18446744073709551616 by omega)
  have e3 := Nat.div_add_mod ρ 340282366920938463463374607431768211456
  have hr0 := Nat.mod_lt ρ (show 0 < 340282366920938463463374607431768211456 by omega)
  have hr1 : ρ / 340282366920938463463374607431768211456 < S := by rw [Nat.div_lt_iff_lt_mul (by omega), Nat.mul_comm]; exact hρK
  refine uscN_exact _ _ _ (x * lo % 18446744073709551616) S q (ρ / 340282366920938463463374607431768211456) (ρ % 340282366920938463463374607431768211456) hS hmid (by omega) hlo2 (by omega) hr1 hr0 ?_ _ ?_
  · have e4 : 340282366920938463463374607431768211456 * S * q = 340282366920938463463374607431768211456 * (S * q) := Nat.mul_assoc _ _ _
    rw [e4] at hρ
    generalize S * q = Z at *
    generalize x * hi = xh at *
    generalize x * lo = xl at *
    omega
  · rcases key with ⟨h0, h1⟩ | ⟨h0, h1, h2⟩
    · left
      rw [if_pos h0]
      exact ⟨rfl, by omega, by omega⟩
    · right
      rw [if_neg h0]
      refine ⟨rfl, by omega, fun hS1 => ?_⟩
      rw [← hS1] at h2
      omega
end Go.Proofs.YtikpgglbfpdhmaaGreatDoor

namespace Go.Proofs.YtikpgglbfpdhmaaGreatDoor

theorem lattice (x r u v q1 q2 r1 r2 m : Int) (hm : 0 < m) (hd : q1 * r2 + q2 * r1 = m) (hu : m * u = x * r2 + r * q2) (hv : m * v = x * r1 - r * q1) : x = u * q1 + v * q2 ∧ r = u * r1 - v * r2 := by
  have h1 : m * x = m * (u * q1 + v * q2) := by grind
  have h2 : m * r = m * (u * r1 - v * r2) := by grind
  exact ⟨Int.eq_of_mul_eq_mul_left (by omega) h1, Int.eq_of_mul_eq_mul_left (by omega) h2⟩
theorem mul_ge {a b c : Int} (ha : 1 ≤ a) (hb : c ≤ b) (hc : 0 ≤ c) : c ≤ a * b := by
  have h1 : 1 * b ≤ a * b := Int.mul_le_mul_of_nonneg_right ha (by omega)
  omega
theorem pos_of {m u : Int} (hm : 0 < m) (h : 0 < m * u) : 1 ≤ u := by
  by_cases h' : 1 ≤ u
  · exact h'
  · exfalso
    have : m * u ≤ 0 := by
      rw [Int.mul_comm]
      exact Int.mul_nonpos_of_nonpos_of_nonneg (by omega) (by omega)
    omega
/-- No multiple up to N keeps nearer to a multiple of m than g, but 0. -/
theorem off_whole (a m N g q1 q2 r1 r2 : Nat) (hm : 1 ≤ m) (hN : N < q1 + q2) (h1 : g ≤ r1) (h2 : g ≤ r2) (hg : 1 ≤ g) (hq1 : 1 ≤ q1) (hq2 : 1 ≤ q2)
    (e1 : a * q1 % m = r1 % m) (e2 : (a * q2 + r2) % m = 0) (hd : q1 * r2 + q2 * r1 = m) (x : Nat) (hx : x ≤ N) : x * a % m = 0 ∨ (g ≤ x * a % m ∧ x * a % m + g ≤ m) := by
  have hr := Nat.mod_lt (x * a) hm
  obtain ⟨y, hy⟩ : ∃ y, x * a = m * y + x * a % m := ⟨x * a / m, (Nat.div_add_mod _ _).symm⟩
  generalize x * a % m = r at *
  obtain ⟨y1, hy1⟩ : ∃ y1 : Int, (a : Int) * q1 = r1 + m * y1 := by
    have := Nat.div_add_mod (a * q1) m
    have h' := Nat.div_add_mod r1 m
    refine ⟨((a * q1 / m : Nat) : Int) - ((r1 / m : Nat) : Int), ?_⟩
    rw [e1] at this
    have t1 : (m : Int) * ((a * q1 / m : Nat) : Int) + ((r1 % m : Nat) : Int) = (a : Int) * q1 := by exact_mod_cast this
    have t2 : (m : Int) * ((r1 / m : Nat) : Int) + ((r1 % m : Nat) : Int) = (r1 : Int) := by exact_mod_cast h'
    rw [Int.mul_sub]
    omega
  obtain ⟨y2, hy2⟩ : ∃ y2 : Int, (a : Int) * q2 + r2 = m * y2 := by
    have := Nat.div_add_mod (a * q2 + r2) m
    rw [e2, Nat.add_zero] at this
    exact ⟨((a * q2 + r2) / m : Nat), by exact_mod_cast this.symm⟩
  have hyi : (x : Int) * a = m * y + r := by exact_mod_cast hy
  have hdi : (q1 : Int) * r2 + q2 * r1 = m := by exact_mod_cast hd
  rcases Nat.eq_zero_or_pos x with rfl | hx1
  · left
    rcases Nat.eq_zero_or_pos r with h | h
    · exact h
    · exfalso
      rw [Nat.zero_mul] at hy
      omega
  right
  have hu : (m : Int) * ((x : Int) * y2 - y * q2) = x * r2 + r * q2 := by grind
  have hv : (m : Int) * (y * q1 - (x : Int) * y1) = x * r1 - r * q1 := by grind
  generalize ((x : Int) * y2 - y * q2) = u at *
  generalize (y * q1 - (x : Int) * y1) = v at *
  obtain ⟨hxu, hru⟩ := lattice x r u v q1 q2 r1 r2 m (by omega) hdi hu hv
  have hnot : ¬ (1 ≤ u ∧ 1 ≤ v) := by
    rintro ⟨h3, h4⟩
    have h5 := mul_ge h3 (Int.le_refl (q1 : Int)) (by omega)
    have h6 := mul_ge h4 (Int.le_refl (q2 : Int)) (by omega)
    omega
  constructor
  · -- r is not less than g
    rcases Nat.lt_or_ge r g with hlt | hge
    · exfalso
      have hpos : 0 < (m : Int) * u := by
        rw [hu]
        have h3 : 0 < (x : Int) * r2 := Int.mul_pos (by omega) (by omega)
        have h4 : 0 ≤ (r : Int) * q2 := Int.mul_nonneg (by omega) (by omega)
        omega
      have hu1 : 1 ≤ u := by
        exact pos_of (by omega) hpos
      have hv0 : v ≤ 0 := by
        by_cases h : 1 ≤ v
        · exact absurd ⟨hu1, h⟩ hnot
        · omega
      have h5 := mul_ge hu1 (show (r1 : Int) ≤ r1 from Int.le_refl _) (by omega)
      have h6 : v * (r2 : Int) ≤ 0 := Int.mul_nonpos_of_nonpos_of_nonneg hv0 (by omega)
      omega
    · exact hge
  · rcases Nat.lt_or_ge m (r + g) with hlt | hge
    · exfalso
      -- the next multiple of m is nearer than g
      have hu' : (m : Int) * (u - q2) = x * r2 - (m - r) * q2 := by grind
      have hv' : (m : Int) * (v + q1) = x * r1 + (m - r) * q1 := by grind
      obtain ⟨hxu', hru'⟩ := lattice x (r - m) (u - q2) (v + q1) q1 q2 r1 r2 m (by omega) hdi (by grind) (by grind)
      have hpos : 0 < (m : Int) * (v + q1) := by
        rw [hv']
        have h3 : 0 < (x : Int) * r1 := Int.mul_pos (by omega) (by omega)
        have h4 : 0 ≤ ((m : Int) - r) * q1 := Int.mul_nonneg (by omega) (by omega)
        omega
      have hv1 : 1 ≤ v + q1 := by
        exact pos_of (by omega) hpos
      have hu0 : u - q2 ≤ 0 := by
        by_cases h : 1 ≤ u - q2
        · exfalso
          have h5 := mul_ge h (Int.le_refl (q1 : Int)) (by omega)
          have h6 := mul_ge hv1 (Int.le_refl (q2 : Int)) (by omega)
          omega
        · omega
      have h5 := mul_ge hv1 (show (r2 : Int) ≤ r2 from Int.le_refl _) (by omega)
      have h6 : (u - q2) * (r1 : Int) ≤ 0 := Int.mul_nonpos_of_nonpos_of_nonneg hu0 (by omega)
      omega
    · exact hge
/-- Two vectors, as near as multiples up to N come. -/
def steps (N : Nat) : Nat → Nat → Nat → Nat → Nat → Nat × Nat × Nat × Nat
  | 0, q1, r1, q2, r2 => (q1, r1, q2, r2)
  | f + 1, q1, r1, q2, r2 =>
    if N < q1 + q2 then (q1, r1, q2, r2)
    else if r2 < r1 then steps N f (q1 + min ((r1 - 1) / r2) ((N - q1) / q2) * q2) (r1 - min ((r1 - 1) / r2) ((N - q1) / q2) * r2) q2 r2
    else steps N f q1 r1 (q2 + min ((r2 - 1) / r1) ((N - q2) / q1) * q1) (r2 - min ((r2 - 1) / r1) ((N - q2) / q1) * r1)
def sure (a m N g : Nat) : Nat × Nat × Nat × Nat → Bool
  | (q1, r1, q2, r2) => decide (N < q1 + q2) && decide (g ≤ r1) && decide (g ≤ r2) && decide (1 ≤ g) && decide (1 ≤ q1) && decide (1 ≤ q2) && decide (1 ≤ m) && (a * q1 % m == r1 % m) && ((a * q2 + r2) % m == 0) && (q1 * r2 + q2 * r1 == m)
/-- Is it sure that multiples of a, up to N, keep off multiples of m by g? -/
def keeps (a m N g : Nat) : Bool := (decide (1 ≤ m) && decide (g ≤ Nat.gcd a m)) || sure a m N g (steps N 300 1 (a % m) 1 (m - a % m))
theorem keeps_off {a m N g : Nat} (h : keeps a m N g = true) (x : Nat) (hx : x ≤ N) : x * a % m = 0 ∨ (g ≤ x * a % m ∧ x * a % m + g ≤ m) := by
  unfold keeps at h
  rw [Bool.or_eq_true] at h
  rcases h with h | h
  · rw [Bool.and_eq_true, decide_eq_true_eq, decide_eq_true_eq] at h
    obtain ⟨hm, hg⟩ := h
    have d1 : Nat.gcd a m ∣ x * a % m := (Nat.dvd_mod_iff (Nat.gcd_dvd_right a m)).2 (Nat.dvd_trans (Nat.gcd_dvd_left a m) (Nat.dvd_mul_left a x))
    have d2 : Nat.gcd a m ∣ m := Nat.gcd_dvd_right a m
    have hr := Nat.mod_lt (x * a) hm
    generalize x * a % m = r at *
    rcases Nat.eq_zero_or_pos r with h0 | h0
    · exact .inl h0
    · right
      have h1 := Nat.le_of_dvd h0 d1
      have h2 := Nat.le_of_dvd (show 0 < m - r by omega) (Nat.dvd_sub d2 d1)
      omega
  · generalize steps N 300 1 (a % m) 1 (m - a % m) = t at h
    obtain ⟨q1, r1, q2, r2⟩ := t
    simp only [sure, Bool.and_eq_true, decide_eq_true_eq, beq_iff_eq] at h
    obtain ⟨⟨⟨⟨⟨⟨⟨⟨⟨a1, a2⟩, a3⟩, a4⟩, a5⟩, a6⟩, a7⟩, a8⟩, a9⟩, a10⟩ := h
    exact off_whole a m N g q1 q2 r1 r2 a7 a1 a2 a3 a4 a5 a6 a8 a9 a10 x hx
#print axioms keeps_off
end Go.Proofs.YtikpgglbfpdhmaaGreatDoor

namespace Go.Proofs.YtikpgglbfpdhmaaGreatDoor
open Go.RowKit Go.Joins
attribute [local go_sem ↓] Go.wp_at_zero Go.wp_at_succ

theorem uscale_to (x hi lo s u B : Nat) (hu : usc x hi lo s = (u : Int)) (hx : x < 18446744073709551616) (hhi : hi < 18446744073709551616) (hlo : lo < 18446744073709551616) (hs : s < 64) (w : World)
    (c0 : w.cell? ⟨B, 0, none⟩ = some (.int .u64 hi)) (c1 : w.cell? ⟨B, 1, none⟩ = some (.int .u64 lo)) (c2 : w.cell? ⟨B, 2, none⟩ = some (.int .i64 s)) :
    Calls Tryz.prog 169 #[.int .u64 x, .pointer (some ⟨B, 0, none⟩)] w fun e w' => e = .returned (.int .u64 u) ∧ Below w.heap.size w w' := by
  rw [← hu]
  exact uscale_is mul64 x hi lo s B hx hhi hlo hs (and63 s hs) w c0 c1 c2
theorem prescale_to (B : Nat) (e p lp : Int) (i hi lo s : Nat) (hs : -(e + lp + 3) = (s : Int)) (hi9 : i < 696) (hp : p = (i : Int) - 348) (he0 : -5000 ≤ e) (he1 : e ≤ 5000) (hl0 : -5000 ≤ lp) (hl1 : lp ≤ 5000) (w : World)
    (t0 : w.cell? ⟨15, i * 2, none⟩ = some (.int .u64 hi)) (t1 : w.cell? ⟨15, i * 2 + 1, none⟩ = some (.int .u64 lo))
    (c0 : w.cell? ⟨B, 0, none⟩ = some (.int .u64 0)) (c1 : w.cell? ⟨B, 1, none⟩ = some (.int .u64 0)) (c2 : w.cell? ⟨B, 2, none⟩ = some (.int .i64 0)) (fz : ∀ o, w.frozen? ⟨B, o, none⟩ = false) :
    Calls Tryz.prog 167 #[.pointer (some ⟨B, 0, none⟩), .int .i64 e, .int .i64 p, .int .i64 lp] w fun r w' => r = .returned (.tuple #[]) ∧ w' = ((w.setCell ⟨B, 0, none⟩ (.int .u64 hi)).setCell ⟨B, 1, none⟩ (.int .u64 lo)).setCell ⟨B, 2, none⟩ (.int .i64 s) := by
  rw [← hs]
  exact prescale_is B e p lp i hi lo hi9 hp he0 he1 hl0 hl1 w t0 t1 c0 c1 c2 fz

theorem and1 (n : Nat) : bits BinOp.and IntKind.u64 (n : Int) 1 = (n : Int) % 2 := by
  show IntKind.u64.wrap (((BitVec.ofInt 64 (n : Int)) &&& (BitVec.ofInt 64 1)).toNat : Int) = _
  rw [BitVec.toNat_and, BitVec.ofInt_natCast, BitVec.toNat_ofNat, show (BitVec.ofInt 64 1).toNat = 1 from rfl, Nat.and_one_is_mod, IntKind.wrap_u64]
  omega
theorem unround_to (u : Nat) (h1 : u < 1152921504606846976) (w : World) :
    Calls Tryz.prog 173 #[.int .u64 u] w fun e w' => e = .returned (.int .u64 (((u + 1 + u / 4 % 2) / 4 : Nat) : Int)) ∧ w = w' := by
  have := unround_is (u : Int) (by omega) (by omega) (by have := and1 (u / 4); rw [show ((u : Int) / 4) = ((u / 4 : Nat) : Int) by omega]; exact this) w
  refine this.mono ?_
  rintro e w1 ⟨rfl, rfl⟩
  exact ⟨ret_u64' (by omega), rfl⟩
theorem ceil_to (u o : Nat) (h1 : u < 1152921504606846976) (ho : o ≤ 1) (w : World) :
    Calls Tryz.prog 171 #[.int .u64 ((u : Int) + o)] w fun e w' => e = .returned (.int .u64 (((u + o + 3) / 4 : Nat) : Int)) ∧ w = w' := by
  refine (unceil_is ((u : Int) + o) (by omega) (by omega) w).mono ?_
  rintro e w1 ⟨rfl, rfl⟩
  exact ⟨ret_u64' (by omega), rfl⟩
theorem floor_to (u o : Nat) (h1 : u < 1152921504606846976) (h2 : 1 ≤ u) (ho : o ≤ 1) (w : World) :
    Calls Tryz.prog 172 #[.int .u64 ((u : Int) + -(o : Int))] w fun e w' => e = .returned (.int .u64 (((u - o) / 4 : Nat) : Int)) ∧ w = w' := by
  refine (unfloor_is ((u : Int) + -(o : Int)) (by omega) (by omega) w).mono ?_
  rintro e w1 ⟨rfl, rfl⟩
  exact ⟨ret_u64' (by omega), rfl⟩
/-- The digits, as the program chooses them. -/
def sfD (a b u3 : Nat) : Nat := if a ≤ b / 10 * 10 then b / 10 else if a < b then (u3 + 1 + u3 / 4 % 2) / 4 else a
def sfQ (a b : Nat) (p : Int) : Int := if a ≤ b / 10 * 10 then -(p - 1) else -p
theorem ret_pair {x y p q : Int} (h : x = y) (g : p = q) : Ending.returned (.tuple #[.int .u64 x, .int .i64 p]) = Ending.returned (.tuple #[.int .u64 y, .int .i64 q]) := by rw [h, g]

set_option maxRecDepth 100000 in
set_option maxHeartbeats 4000000 in
theorem shortFloat_is (m mn mx u1 u2 u3 i hi lo s o : Nat) (e p : Int) (he : -1137 ≤ e ∧ e ≤ 960)
    (hm : 9223372036854775808 ≤ m ∧ m < 18446744073709551616) (hmn : mn < 18446744073709551616) (hmx : mx < 18446744073709551616)
    (hhi : hi < 18446744073709551616) (hlo : lo < 18446744073709551616) (hs4 : s < 64) (hi9 : i < 696) (hp0 : -348 ≤ p ∧ p ≤ 347) (hp : Hid (p = (i : Int) - 348)) (ho : o ≤ 1)
    (hs : Hid (-(e + p * 108853 / 32768 + 3) = (s : Int)))
    (U1 : Hid (usc mn hi lo s = (u1 : Int))) (U2 : Hid (usc mx hi lo s = (u2 : Int))) (U3 : Hid (usc m hi lo s = (u3 : Int)))
    (b1 : 1 ≤ u1 ∧ u1 < 1152921504606846976) (b2 : 1 ≤ u2 ∧ u2 < 1152921504606846976) (b3 : u3 < 1152921504606846976)
    (HC : Hid ((m = 9223372036854775808 → -1085 < e → -(((e + 11) * 631305 - 261663) / 2097152) = p ∧ (9223372036854775296 : Int) = mn ∧ (9223372036854776832 : Int) = mx ∧ bits BinOp.and IntKind.i64 4503599627370496 1 = o) ∧
      (¬ (m = 9223372036854775808 ∧ -1085 < e) → -1085 ≤ e → -((e + 11) * 78913 / 262144) = p ∧ (m : Int) - 1024 = mn ∧ IntKind.u64.wrap ((m : Int) + 1024) = mx ∧ bits BinOp.and IntKind.i64 ((m : Int) / 2048) 1 = o) ∧
      (e < -1085 → -((e + (11 + (-1085 - e))) * 78913 / 262144) = p ∧ IntKind.u64.wrap ((m : Int) - IntKind.u64.wrap (2 ^ ((11 + (-1085 - e)).toNat - 1))) = mn ∧
        IntKind.u64.wrap ((m : Int) + IntKind.u64.wrap (2 ^ ((11 + (-1085 - e)).toNat - 1))) = mx ∧ bits BinOp.and IntKind.i64 (wrap64 ((m : Int) / 2 ^ (11 + (-1085 - e)).toNat)) 1 = o))) (w : World)
    (t0 : w.cell? ⟨15, i * 2, none⟩ = some (.int .u64 hi)) (t1 : w.cell? ⟨15, i * 2 + 1, none⟩ = some (.int .u64 lo)) :
    Calls Tryz.prog 139 #[.int .u64 m, .int .i64 e] w fun r w' => r = .returned (.tuple #[.int .u64 (sfD ((u1 + o + 3) / 4) ((u2 - o) / 4) u3 : Nat), .int .i64 (sfQ ((u1 + o + 3) / 4) ((u2 - o) / 4) p)]) ∧ Below w.heap.size w w' := by
  go_enter Tryz.func139, Tryz.ntmps139
  go_upto_region 12 with fail
  go_cut [0, 28] (fun s0 s28 wx => s0 = .int .u64 m ∧ s28 = .bool (decide (m = 9223372036854775808 ∧ -1085 < e)) ∧ wx = w)
  case first =>
    go_wp2_with fail
    all_goals
      go_meet
      refine ⟨?_, ?_, rfl⟩
      · first | rfl | (congr 1; done) | (congr 1; omega)
      · refine congrArg Value.bool ?_
        first
          | (refine (decide_eq_true ?_).symm; omega)
          | (refine (decide_eq_false ?_).symm; omega)
          | (refine decide_eq_decide.2 ?_; constructor <;> intro h <;> omega)
  case rest =>
    obtain ⟨rfl, rfl, hwc⟩ := hcut
    subst w
    go_upto_if 28 with fail
    go_cut [0, 5, 8, 9, 10] (fun s0 s5 s8 s9 s10 wx => s0 = .int .u64 m ∧ s5 = .int .i64 p ∧ s8 = .int .u64 mn ∧ s9 = .int .u64 mx ∧ s10 = .int .i64 o ∧ wx = wc)
    case first =>
      go_wp2_with (first
        | (go_at_call 166; with_reducible refine (skewed_is _ (by omega) (by omega) _).mono ?_; rintro e w1 ⟨rfl, rfl⟩)
        | (go_at_call 114; with_reducible refine (log10Pow2_is _ (by omega) (by omega) _).mono ?_; rintro e w1 ⟨rfl, rfl⟩))
      all_goals go_meet
      all_goals first
        | (obtain ⟨h1, h2, h3, h4⟩ := HC.out.1 (by omega) (by omega); exact ⟨congrArg _ (by omega), congrArg _ h1, congrArg _ h2, congrArg _ h3, congrArg _ h4, rfl⟩)
        | (obtain ⟨h1, h2, h3, h4⟩ := HC.out.2.1 (by omega) (by omega); exact ⟨rfl, congrArg _ h1, congrArg _ h2, congrArg _ h3, congrArg _ h4, rfl⟩)
        | (obtain ⟨h1, h2, h3, h4⟩ := HC.out.2.2 (by omega); exact ⟨rfl, congrArg _ h1, congrArg _ h2, congrArg _ h3, congrArg _ h4, rfl⟩)
    case rest =>
      rename_i wd
      obtain ⟨rfl, rfl, rfl, rfl, rfl, hwc⟩ := hcut
      subst hwc
      clear HC
      have g0 := World.block_lt_of_cell? _ _ t0
      go_wp2_with (first
        | (go_at_call 168; with_reducible refine (log2Pow10_is _ (by omega) (by omega) _).mono ?_; rintro e w1 ⟨rfl, rfl⟩)
        | (go_at_call 167; (with_reducible refine (prescale_to _ _ _ _ i hi lo s hs.out hi9 hp.out (by omega) (by omega) (by omega) (by omega) _ (by rw [World.cell?_alloc_past _ _ _ g0]; exact t0) (by rw [World.cell?_alloc_past _ _ _ g0]; exact t1) (by simp [go_sem]) (by simp [go_sem]) (by simp [go_sem]) (by intro o; simp [go_sem])).mono ?_; rintro e w1 ⟨rfl, rfl⟩))
        | (go_at_call 169; first | (with_reducible refine (uscale_to mn hi lo s u1 wc.heap.size U1.out hmn hhi hlo hs4 _ (by simp [*, go_sem]) (by simp [*, go_sem]) (by simp [*, go_sem])).mono ?_; rintro e w1 ⟨rfl, hb⟩; obtain ⟨hc, hf, hz⟩ := newc hb wc.heap.size (by first | assumption | (simp; done) | omega | (simp; omega))) | (with_reducible refine (uscale_to mx hi lo s u2 wc.heap.size U2.out hmx hhi hlo hs4 _ (by simp [*, go_sem]) (by simp [*, go_sem]) (by simp [*, go_sem])).mono ?_; rintro e w1 ⟨rfl, hb⟩; obtain ⟨hc, hf, hz⟩ := newc hb wc.heap.size (by first | assumption | (simp; done) | omega | (simp; omega))) | (with_reducible refine (uscale_to m hi lo s u3 wc.heap.size U3.out hm.2 hhi hlo hs4 _ (by simp [*, go_sem]) (by simp [*, go_sem]) (by simp [*, go_sem])).mono ?_; rintro e w1 ⟨rfl, hb⟩; obtain ⟨hc, hf, hz⟩ := newc hb wc.heap.size (by first | assumption | (simp; done) | omega | (simp; omega))))
        | (go_at_call 170; with_reducible refine (nudge_is _ _ (by omega) (by omega) (by omega) (by omega) _).mono ?_; rintro e w1 ⟨rfl, rfl⟩)
        | (go_at_call 171; with_reducible refine (ceil_to u1 o (by omega) (by omega) _).mono ?_; rintro e w1 ⟨rfl, rfl⟩)
        | (go_at_call 172; with_reducible refine (floor_to u2 o (by omega) (by omega) (by omega) _).mono ?_; rintro e w1 ⟨rfl, rfl⟩)
        | (go_at_call 173; with_reducible refine (unround_to u3 (by omega) _).mono ?_; rintro e w1 ⟨rfl, rfl⟩))
      all_goals
        go_ret2
        exact ⟨ret_pair (by unfold sfD; split <;> (try split) <;> omega) (by unfold sfQ; split <;> omega), (by repeat' (first | with_reducible exact Below.refl _ _ | with_reducible refine below_step ?_ (by assumption) | with_reducible apply below_set' | with_reducible apply below_alloc' | with_reducible apply Below.drew | with_reducible apply below_drewN' | (simp; done) | omega | (simp; omega)))⟩
end Go.Proofs.YtikpgglbfpdhmaaGreatDoor

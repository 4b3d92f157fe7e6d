/- Reading a float: the exact powers of ten, a float turned, floats compared. No program in sight. -/
import Derived.Test.YtikpgglbfpdhmaaGreatDoorRdMRdM
import Derived.Test.YtikpgglbfpdhmaaGreatDoorRdMVOrd
import Derived.Test.YtikpgglbfpdhmaaGreatDoorRdMRdF
namespace Go.Proofs.YtikpgglbfpdhmaaGreatDoor

/-- The floats 1, 10, .. 1e22: mantissa and exponent. -/
def m10 (k : Nat) : Nat := 10 ^ k * 2 ^ (52 - (10 ^ k).log2) / 2 ^ ((10 ^ k).log2 - 52)
def x10 (k : Nat) : Int := (10 ^ k).log2 - 52
def pw10 : List Nat := [4607182418800017408, 4621819117588971520, 4636737291354636288, 4652007308841189376, 4666723172467343360, 4681608360884174848, 4696837146684686336, 4711630319722168320, 4726483295884279808, 4741671816366391296, 4756540486875873280, 4771362005757984768, 4786511204640096256, 4801453603149578240, 4816244402031689728, 4831355200913801216, 4846369599423283200, 4861130398305394688, 4876203697187506176, 4891288408196988160, 4906019910204099648, 4921056587992461136, 4936209963552724370]
def tenOk (k : Nat) : Bool := decide (pw10.getD k 0 = fw false (m10 k) (x10 k)) && decide (4503599627370496 ≤ m10 k ∧ m10 k < 9007199254740992) && decide (-52 ≤ x10 k ∧ x10 k ≤ 30) && decide (m10 k * 2 ^ (x10 k + 52).toNat = 10 ^ k * 2 ^ 52)
theorem tens_ok : allFrom tenOk 23 0 = true := by decide +kernel
theorem ten_fw (k : Nat) (h : k ≤ 22) : pw10.getD k 0 = fw false (m10 k) (x10 k) ∧ (4503599627370496 ≤ m10 k ∧ m10 k < 9007199254740992) ∧ (-52 ≤ x10 k ∧ x10 k ≤ 30) ∧ (m10 k : Rat) * b2 (x10 k) = b10 (k : Int) := by
  have ht := allFrom_at 23 0 k tens_ok (by omega) (by omega)
  simp only [tenOk, Bool.and_eq_true, decide_eq_true_eq] at ht
  obtain ⟨⟨⟨h1, h2⟩, h3⟩, h4⟩ := ht
  refine ⟨h1, h2, h3, ?_⟩
  obtain ⟨n, hn⟩ : ∃ n : Nat, x10 k + 52 = n := ⟨(x10 k + 52).toNat, by omega⟩
  rw [hn, Int.toNat_natCast] at h4
  have h5 : ((m10 k * 2 ^ n : Nat) : Rat) = ((10 ^ k * 2 ^ 52 : Nat) : Rat) := by rw [h4]
  rw [cast_mul, cast_mul, ← b2_nat, ← b2_nat, ← b10_nat, show ((52 : Nat) : Int) = 52 from rfl] at h5
  have h6 : b2 (n : Int) = b2 (x10 k) * b2 52 := by rw [← b2_add, ← hn]
  have h7 := b2_pos 52
  rw [h6] at h5
  have h8 := (mul_le_iff (a := (m10 k : Rat) * b2 (x10 k)) (b := b10 (k : Int)) h7).1 (by grind)
  have h9 := (mul_le_iff (a := b10 (k : Int)) (b := (m10 k : Rat) * b2 (x10 k)) h7).1 (by grind)
  grind
theorem neg_fw (mt : Nat) (x : Int) (hm : mt < 9007199254740992) (hx : -1074 ≤ x ∧ x ≤ 971) : Op.negFloat .f64 (fw false mt x) = fw true mt x := by
  have e : Op.negFloat .f64 (fw false mt x) = fw false mt x ^^^ 2 ^ 63 := rfl
  have h1 := fneg_low (fw false mt x)
  obtain ⟨r, hr⟩ : ∃ r, r = (x + 1074).toNat * 4503599627370496 + mt := ⟨_, rfl⟩
  have hr9 : r < 9223372036854775808 := by omega
  have f0 : fw false mt x = r := by unfold fw; rw [← hr]; simp
  have f1 : fw true mt x = 9223372036854775808 + r := by unfold fw; rw [← hr]; simp
  rw [f0] at h1 ⊢
  rw [f1]
  have h3 : r ^^^ 2 ^ 63 = r ||| 2 ^ 63 := by
    apply Nat.eq_of_testBit_eq
    intro i
    rw [Nat.testBit_xor, Nat.testBit_or, Nat.testBit_two_pow]
    by_cases h : 63 = i
    · subst h
      rw [Nat.testBit_lt_two_pow (show r < 2 ^ 63 by omega)]
      rfl
    · rw [decide_eq_false h]; simp
  have e2 := Nat.two_pow_add_eq_or_of_lt (i := 63) (b := r) (by omega) 1
  rw [show Op.negFloat .f64 r = r ^^^ 2 ^ 63 from rfl, h3, Nat.or_comm, show (2 : Nat) ^ 63 = 2 ^ 63 * 1 from rfl, ← e2]
/-- The float of a sign. -/
theorem sign_fw (neg : Bool) (mt : Nat) (x : Int) (hm : mt < 9007199254740992) (hx : -1074 ≤ x ∧ x ≤ 971) : (if neg then Op.negFloat .f64 (fw false mt x) else fw false mt x) = fw neg mt x := by
  cases neg
  · rfl
  · rw [if_pos rfl]; exact neg_fw mt x hm hx
end Go.Proofs.YtikpgglbfpdhmaaGreatDoor

namespace Go.Proofs.YtikpgglbfpdhmaaGreatDoor
open Go.RowKit Go.Joins

theorem near_exact {m : Nat} {x : Int} : Near m x ((m : Rat) * b2 x) := by
  have hx := b2_pos x
  refine near_of_round rfl ?_ ?_ (fun _ => ⟨?_, ?_⟩) (fun _ => ?_) <;> grind
theorem order_fw (s t : Bool) (m n : Nat) (x y : Int) (hm : 4503599627370496 ≤ m ∧ m < 9007199254740992) (hn : 4503599627370496 ≤ n ∧ n < 9007199254740992) (hx : -1074 ≤ x ∧ x ≤ 971) (hy : -1074 ≤ y ∧ y ≤ 971) :
    FloatKind.f64.format.order (fw s m x) (fw t n y) = some (compare (Ieee.signed s m (x - min x y).toNat) (Ieee.signed t n (y - min x y).toNat)) := by
  unfold Ieee.Format.order
  rw [read_fw s m x hm hx, read_fw t n y hn hy]
  rfl
theorem more_of {m n : Nat} {x y : Int} (h : (n : Rat) * b2 y < (m : Rat) * b2 x) : n <<< (y - min x y).toNat < m <<< (x - min x y).toNat := by
  rw [Nat.shiftLeft_eq, Nat.shiftLeft_eq]
  have hb := b2_pos (min x y)
  have e1 : b2 x = b2 (((x - min x y).toNat : Nat) : Int) * b2 (min x y) := by rw [← b2_add]; congr 1; omega
  have e2 : b2 y = b2 (((y - min x y).toNat : Nat) : Int) * b2 (min x y) := by rw [← b2_add]; congr 1; omega
  rw [e1, e2, b2_nat, b2_nat] at h
  have h2 := (mul_lt_iff (a := (n : Rat) * ((2 ^ (y - min x y).toNat : Nat) : Rat)) (b := (m : Rat) * ((2 ^ (x - min x y).toNat : Nat) : Rat)) hb).1 (by grind)
  rw [← cast_mul, ← cast_mul, Rat.natCast_lt_natCast] at h2
  exact h2
theorem order_gt (m n : Nat) (x y : Int) (hm : 4503599627370496 ≤ m ∧ m < 9007199254740992) (hn : 4503599627370496 ≤ n ∧ n < 9007199254740992) (hx : -1074 ≤ x ∧ x ≤ 971) (hy : -1074 ≤ y ∧ y ≤ 971) (h : (n : Rat) * b2 y < (m : Rat) * b2 x) :
    (FloatKind.f64.format.order (fw false m x) (fw false n y) == some .gt) = true := by
  have h1 := more_of h
  rw [order_fw false false m n x y hm hn hx hy]
  have h2 : compare (Ieee.signed false m (x - min x y).toNat) (Ieee.signed false n (y - min x y).toNat) = .gt := by
    rw [Int.compare_eq_gt]
    simp only [Ieee.signed, Bool.false_eq_true, if_false]
    omega
  rw [h2]; rfl
theorem order_lt (m n : Nat) (x y : Int) (hm : 4503599627370496 ≤ m ∧ m < 9007199254740992) (hn : 4503599627370496 ≤ n ∧ n < 9007199254740992) (hx : -1074 ≤ x ∧ x ≤ 971) (hy : -1074 ≤ y ∧ y ≤ 971) (h : (n : Rat) * b2 y < (m : Rat) * b2 x) :
    (FloatKind.f64.format.order (fw true m x) (fw true n y) == some .lt) = true := by
  have h1 := more_of h
  rw [order_fw true true m n x y hm hn hx hy]
  have h2 : compare (Ieee.signed true m (x - min x y).toNat) (Ieee.signed true n (y - min x y).toNat) = .lt := by
    rw [Int.compare_eq_lt]
    simp only [Ieee.signed, if_true]
    omega
  rw [h2]; rfl
/-- A whole number less than 2^53 is a float. -/
theorem whole_fw (d : Nat) (h1 : 1 ≤ d) (h2 : d < 9007199254740992) : ∃ (m : Nat) (x : Int), (4503599627370496 ≤ m ∧ m < 9007199254740992) ∧ (-52 ≤ x ∧ x ≤ 0) ∧ (m : Rat) * b2 x = (d : Rat) := by
  have hl := log2_bounds (a := 0) (b := 52) (m := d) (by omega) (by omega)
  have a1 : 2 ^ d.log2 ≤ d := Nat.log2_self_le (by omega)
  have a2 : d < 2 ^ (d.log2 + 1) := Nat.lt_log2_self
  generalize d.log2 = l at *
  have h3 := Nat.mul_le_mul_right (2 ^ (52 - l)) a1
  have h4 := (Nat.mul_lt_mul_right (Nat.two_pow_pos (52 - l))).2 a2
  rw [← Nat.pow_add, show l + (52 - l) = 52 by omega] at h3
  rw [← Nat.pow_add, show l + 1 + (52 - l) = 53 by omega] at h4
  refine ⟨d * 2 ^ (52 - l), (l : Int) - 52, by omega, by omega, ?_⟩
  rw [cast_mul, ← b2_nat]
  have : b2 ((52 - l : Nat) : Int) * b2 ((l : Int) - 52) = 1 := by rw [← b2_add, show ((52 - l : Nat) : Int) + ((l : Int) - 52) = 0 by omega, b2_zero]
  grind
theorem fOfInt (d : Nat) : floatOfInt .f64 (d : Int) = FloatKind.f64.format.nearest false d 0 := by
  unfold floatOfInt
  show FloatKind.f64.encode (.number (decide ((d : Int) < 0)) (d : Int).natAbs 0) = _
  rw [decide_eq_false (by omega), Int.natAbs_natCast]
  rfl
theorem lim15 : (4831355200913801216 : Nat) = fw false (m10 15) (x10 15) ∧ (14054727237768577024 : Nat) = fw true (m10 15) (x10 15) := by decide +kernel
end Go.Proofs.YtikpgglbfpdhmaaGreatDoor

namespace Go.Proofs.YtikpgglbfpdhmaaGreatDoor

/-- There is a float to which a number is rounded. -/
theorem near_ex (mag : Nat) (place : Int) (A : Rat) (hm : 1 ≤ mag) (hT : Told mag A) (hr : -1000 ≤ place + mag.log2 ∧ place + mag.log2 ≤ 1000) :
    ∃ (m : Nat) (x : Int), Canon m x ∧ 4503599627370496 ≤ m ∧ -1074 ≤ x ∧ x ≤ 971 ∧ Near m x (A * b2 place) := by
  have l1 : 2 ^ mag.log2 ≤ mag := Nat.log2_self_le (by omega)
  have l2 : mag < 2 ^ (mag.log2 + 1) := Nat.lt_log2_self
  generalize mag.log2 = lm at *
  by_cases h : lm ≤ 52
  · have hA : A = (mag : Rat) := by
      rcases hT with h2 | ⟨h2, _⟩
      · exact h2
      · exfalso
        have := Nat.pow_le_pow_right (n := 2) (by omega) (show lm + 1 ≤ 53 by omega)
        omega
    have k1 : 4503599627370496 ≤ mag * 2 ^ (52 - lm) ∧ mag * 2 ^ (52 - lm) < 9007199254740992 := by
      have h3 := Nat.mul_le_mul_right (2 ^ (52 - lm)) l1
      have h4 := (Nat.mul_lt_mul_right (Nat.two_pow_pos (52 - lm))).2 l2
      rw [← Nat.pow_add, show lm + (52 - lm) = 52 by omega] at h3
      rw [← Nat.pow_add, show lm + 1 + (52 - lm) = 53 by omega] at h4
      omega
    obtain ⟨k, hk⟩ : ∃ k, k = mag * 2 ^ (52 - lm) := ⟨_, rfl⟩
    rw [← hk] at k1
    have hv : A * b2 place = (k : Rat) * b2 (place + lm - 52) := by
      rw [hA, hk, cast_mul, ← b2_nat]
      have : b2 place = b2 ((52 - lm : Nat) : Int) * b2 (place + lm - 52) := by rw [← b2_add]; congr 1; omega
      rw [this]; grind
    have hn := near_of_round (m := k) hv (by grind) (by grind) (fun _ => ⟨by grind, by grind⟩) (fun _ => by grind)
    exact ⟨k, _, ⟨k1.2, by omega, .inl k1.1⟩, k1.1, by omega, by omega, hn⟩
  · obtain ⟨g, hg⟩ : ∃ g, g = 2 ^ (lm - 53) := ⟨_, rfl⟩
    have hg1 : 1 ≤ g := by rw [hg]; exact Nat.one_le_two_pow
    obtain ⟨k, hk⟩ : ∃ k, cutAt mag g = k := ⟨_, rfl⟩
    obtain ⟨c1, c2, c3⟩ := cutAt_bounds mag g k hg1 hk
    have ev : ∀ n, A = (mag : Rat) ∨ (n * g) % 2 = 0 := by
      intro n
      rcases hT with h2 | ⟨h2, _⟩
      · exact .inl h2
      · right
        have h3 : 54 ≤ lm := by
          rcases Nat.lt_or_ge lm 54 with h4 | h4
          · exfalso
            have := Nat.pow_le_pow_right (n := 2) (by omega) (show lm + 1 ≤ 54 by omega)
            omega
          · exact h4
        have h4 : g = 2 * 2 ^ (lm - 54) := by rw [hg, ← Nat.pow_succ']; congr 1; omega
        rw [h4, ← Nat.mul_assoc, Nat.mul_comm n 2, Nat.mul_assoc]
        omega
    -- W: the number at its place
    obtain ⟨W, hW⟩ : ∃ W : Rat, W = A * b2 (-((lm : Int) - 52)) := ⟨_, rfl⟩
    have hAW : A = 2 * W * (g : Rat) := by
      have e1 : 2 * (g : Rat) = b2 ((lm : Int) - 52) := by
        rw [hg, ← b2_nat, ← b2_succ]; congr 1; omega
      have e2 : b2 (-((lm : Int) - 52)) * b2 ((lm : Int) - 52) = 1 := by rw [← b2_add, show -((lm : Int) - 52) + ((lm : Int) - 52) = 0 by omega, b2_zero]
      rw [hW]; grind
    have hv : A * b2 place = W * b2 (place + lm - 52) := by
      have : b2 place = b2 (-((lm : Int) - 52)) * b2 (place + lm - 52) := by rw [← b2_add]; congr 1; omega
      rw [hW, this]; grind
    have hgp := nat_pos hg1
    have q1 : ((2 * k * g + g : Nat) : Rat) = (2 * (k : Rat) + 1) * (g : Rat) := by
      rw [show 2 * k * g + g = (2 * k + 1) * g by rw [Nat.add_mul, Nat.one_mul], cast_mul, nat_add_one, cast_mul]; rfl
    have p1 := told_le hT ((2 * k + 1) * g) (ev (2 * k + 1))
    have q1' : (((2 * k + 1) * g : Nat) : Rat) = (2 * (k : Rat) + 1) * (g : Rat) := by rw [cast_mul, nat_add_one, cast_mul]; rfl
    have e3 : (2 * k + 1) * g = 2 * k * g + g := by rw [Nat.add_mul, Nat.one_mul]
    rw [q1', e3, hAW] at p1
    have r1 : 2 * W ≤ 2 * (k : Rat) + 1 := (mul_le_iff hgp).1 (p1.1.2 c2)
    -- the least: 2^52
    have hWl : 4503599627370496 ≤ W := by
      have e4 : 2 ^ lm = 9007199254740992 * g := by rw [hg, show lm = 53 + (lm - 53) by omega, Nat.pow_add, show 53 + (lm - 53) - 53 = lm - 53 by omega]
      have p2 := (told_le hT (9007199254740992 * g) (ev _)).2
      rw [cast_mul, hAW] at p2
      have h3 : ¬ (2 * W * (g : Rat) < ((9007199254740992 : Nat) : Rat) * (g : Rat)) := fun h4 => by have := p2.1 h4; omega
      rw [mul_lt_iff hgp] at h3
      have : ((9007199254740992 : Nat) : Rat) = 9007199254740992 := rfl
      rw [this] at h3
      grind
    have hk52 : 4503599627370496 ≤ k := by
      rcases Nat.lt_or_ge k 4503599627370496 with h3 | h3
      · exfalso
        have h4 : (k : Rat) ≤ 4503599627370495 := cast_le (show k ≤ 4503599627370495 by omega)
        grind
      · exact h3
    have hk53 : k ≤ 9007199254740992 := by
      rcases Nat.lt_or_ge 9007199254740992 k with h3 | h3
      · exfalso
        have e4 : 2 ^ (lm + 1) = 18014398509481984 * g := by rw [hg, show lm + 1 = 54 + (lm - 53) by omega, Nat.pow_add]
        have h4 : 2 * 9007199254740993 * g ≤ 2 * k * g := Nat.mul_le_mul_right g (by omega)
        omega
      · exact h3
    obtain ⟨j, hj⟩ : ∃ j, k = j + 1 := ⟨k - 1, by omega⟩
    have p3 := told_le hT ((2 * j + 1) * g) (ev (2 * j + 1))
    have q3 : (((2 * j + 1) * g : Nat) : Rat) = (2 * (k : Rat) - 1) * (g : Rat) := by
      have a2 : ((2 * j + 1 : Nat) : Rat) = 2 * (j : Rat) + 1 := by rw [Rat.natCast_add, Rat.natCast_mul]; rfl
      have a3 : (k : Rat) = (j : Rat) + 1 := by rw [hj]; exact Rat.natCast_add j 1
      rw [cast_mul, a2, a3]; grind
    have e5 : (2 * j + 1) * g + g = 2 * k * g := by rw [hj, Nat.mul_add, Nat.add_mul, Nat.add_mul]; omega
    rw [q3, hAW] at p3
    have r2 : 2 * (k : Rat) - 1 ≤ 2 * W := by
      have h3 : ¬ (2 * W * (g : Rat) < (2 * (k : Rat) - 1) * (g : Rat)) := fun h4 => by have := p3.2.1 h4; omega
      rw [mul_lt_iff hgp] at h3
      grind
    have r3 : k % 2 = 1 → 2 * W < 2 * (k : Rat) + 1 ∧ 2 * (k : Rat) - 1 < 2 * W := by
      intro ho
      refine ⟨(mul_lt_iff hgp).1 (p1.2.2 (c3 ho).2), ?_⟩
      have h3 : ¬ (2 * W * (g : Rat) ≤ (2 * (k : Rat) - 1) * (g : Rat)) := fun h4 => by have := p3.1.1 h4; have := (c3 ho).1; omega
      rw [mul_le_iff hgp] at h3
      grind
    rcases Nat.lt_or_ge k 9007199254740992 with hlt | hge
    · have hn := near_of_round hv r1 r2 r3 (fun h => by
        have h4 : (k : Rat) = 4503599627370496 := by rw [h.1]; rfl
        grind)
      exact ⟨k, _, ⟨hlt, by omega, .inl hk52⟩, hk52, by omega, by omega, hn⟩
    · have hk2 : k = 9007199254740992 := by omega
      have h4 : (k : Rat) = 9007199254740992 := by rw [hk2]; rfl
      have hv2 : A * b2 place = W * (1 / 2) * b2 (place + lm - 52 + 1) := by
        rw [hv, b2_succ]; grind
      have h5 : ((4503599627370496 : Nat) : Rat) = 4503599627370496 := rfl
      have hn := near_of_round (m := 4503599627370496) hv2 (by rw [h5]; grind) (by rw [h5]; grind) (fun h => by omega) (fun _ => by rw [h5]; grind)
      exact ⟨4503599627370496, _, ⟨by omega, by omega, .inl (by omega)⟩, by omega, by omega, by omega, hn⟩
end Go.Proofs.YtikpgglbfpdhmaaGreatDoor

namespace Go.Proofs.YtikpgglbfpdhmaaGreatDoor
open Go.RowKit Go.Joins

/-- The slice of exact powers of ten. -/
def PowAt (N o c : Nat) (w : World) : Prop := w.cell? ⟨12, 0, none⟩ = some (.slice (some ⟨N, o, none⟩) 23 c) ∧ ∀ k, k ≤ 22 → w.cell? ⟨N, o + k, none⟩ = some (.float .f64 (pw10.getD k 0))
/-- What atof64exact gives is right, where it gives something. -/
def Exact (neg : Bool) (mt : Nat) (x : Int) (w : World) (e : Ending) (w' : World) : Prop := ∃ F ok, e = .returned (.tuple #[.float .f64 F, .bool ok]) ∧ (ok = true → F = fw neg mt x) ∧ w = w'
theorem run_mul_f {x y r : Nat} (h : FloatKind.f64.format.mul x y = some r) : ∀ t w, (binOp .mul t (.float .f64 x) (.float .f64 y)).run Tryz.prog w = .ok (.float .f64 r) w := fun t w => run_float_arith w .mul t .f64 x y r h
theorem run_quo_f {x y r : Nat} (h : FloatKind.f64.format.div x y = some r) : ∀ t w, (binOp .quo t (.float .f64 x) (.float .f64 y)).run Tryz.prog w = .ok (.float .f64 r) w := fun t w => run_float_arith w .quo t .f64 x y r h
theorem canon_of {m : Nat} {x : Int} (h : 4503599627370496 ≤ m ∧ m < 9007199254740992) (hx : -1074 ≤ x) : Canon m x := ⟨h.2, hx, .inl h.1⟩
theorem exact_all (neg : Bool) (mt : Nat) (x : Int) (hcan : Canon mt x) (d : Nat) (hd0 : 1 ≤ d) (p : Int) (hnear : Near mt x ((d : Rat) * b10 p)) (N o c : Nat) (w : World)
    (i0 : w.cell? ⟨7, 0, none⟩ = some (.int .u64 52)) (hp : PowAt N o c w) :
    Calls Tryz.prog 152 #[.int .u64 d, .int .i64 p, .bool neg] w (Exact neg mt x w) := by
  obtain ⟨t0, tk⟩ := hp
  by_cases hd : d < 4503599627370496
  rotate_left
  · refine (exact_no d p neg (by rw [bne_iff_ne]; omega) w i0).mono ?_
    rintro e w' ⟨rfl, rfl⟩
    exact ⟨_, _, rfl, by simp, rfl⟩
  have hdd : ((d : Int) / 4503599627370496 != 0) = false := by
    rw [bne_eq_false_iff_eq]; omega
  obtain ⟨m0, x0, hm0, hx0, hv0⟩ := whole_fw d hd0 (by omega)
  have hf : floatOfInt .f64 (d : Int) = fw false m0 x0 := by
    rw [fOfInt]
    exact int_fw d m0 x0 hd0 (by omega) (canon_of hm0 (by omega)) (by rw [← hv0]; exact near_exact)
  have hh := sign_fw neg m0 x0 hm0.2 (by omega)
  have give : ∀ F ok, F = fw neg mt x → ∀ e w', e = Ending.returned (.tuple #[.float .f64 F, .bool ok]) ∧ w = w' → Exact neg mt x w e w' := fun F ok hF e w' h => ⟨F, ok, h.1, fun _ => hF, h.2⟩
  have none' : ∀ F, ∀ e w', e = Ending.returned (.tuple #[.float .f64 F, .bool false]) ∧ w = w' → Exact neg mt x w e w' := fun F e w' h => ⟨F, false, h.1, by simp, h.2⟩
  rcases Int.lt_or_le 37 p with hp | hp
  · exact (exact_far d _ _ p neg hdd hf (Lib.hid hh) (.inl hp) w i0).mono (none' _)
  rcases Int.lt_or_le p (-22) with hp2 | hp2
  · exact (exact_far d _ _ p neg hdd hf (Lib.hid hh) (.inr hp2) w i0).mono (none' _)
  rcases Int.lt_or_le p 0 with hp3 | hp3
  · -- a quotient
    obtain ⟨k, rfl⟩ : ∃ k : Nat, p = -(k : Int) := ⟨(-p).toNat, by omega⟩
    obtain ⟨a1, a2, a3, a4⟩ := ten_fw k (by omega)
    have htk := tk k (by omega)
    rw [a1] at htk
    have hA : (m0 : Rat) * 36028797018963968 / (m10 k : Rat) * (m10 k : Rat) = (m0 : Rat) * 36028797018963968 := by
      have := nat_pos (show 1 ≤ m10 k by omega)
      rw [Rat.div_def, Rat.mul_assoc, Rat.inv_mul_cancel _ (by grind), Rat.mul_one]
    have hq : (m0 : Rat) * 36028797018963968 / (m10 k : Rat) * b2 (x0 - x10 k - 55) = (d : Rat) * b10 (-(k : Int)) := by
      obtain ⟨A, hAA⟩ : ∃ A, A = (m0 : Rat) * 36028797018963968 / (m10 k : Rat) := ⟨_, rfl⟩
      rw [← hAA] at hA ⊢
      have e1 : b10 (-(k : Int)) * b10 (k : Int) = 1 := by rw [← b10_add, show -(k : Int) + (k : Int) = 0 by omega, b10_zero]
      have e2 : b2 x0 = b2 (x0 - x10 k - 55) * b2 55 * b2 (x10 k) := by rw [← b2_add, ← b2_add]; congr 1; omega
      have e3 : b2 55 = 36028797018963968 := by
        have := b2_nat 55
        rw [show ((55 : Nat) : Int) = 55 from rfl] at this
        rw [this]; rfl
      rw [e3] at e2
      rw [← a4] at e1
      rw [e2] at hv0
      have hmp := nat_pos (show 1 ≤ m10 k by omega)
      have hbp := b2_pos (x10 k)
      grind
    have hdiv := div_fw neg false m0 (m10 k) x0 (x10 k) mt x _ hm0 a2 (by omega) (by omega) hA hcan (by rw [hq]; exact hnear)
    rw [Bool.xor_false] at hdiv
    exact (exact_div d _ _ k (by omega) neg hdd hf (Lib.hid hh) w i0 N o c _ t0 htk _ (run_quo_f hdiv)).mono (give _ _ rfl)
  rcases Int.lt_or_le 22 p with hp4 | hp4
  · -- a product of two powers
    obtain ⟨k, rfl⟩ : ∃ k : Nat, p = (k : Int) + 22 := ⟨(p - 22).toNat, by omega⟩
    obtain ⟨a1, a2, a3, a4⟩ := ten_fw k (by omega)
    have htk := tk k (by omega)
    rw [a1] at htk
    have hprod : (m0 : Rat) * (m10 k : Rat) * b2 (x0 + x10 k) = ((d * 10 ^ k : Nat) : Rat) := by
      rw [b2_add, cast_mul, ← b10_nat, ← a4, ← hv0]; grind
    by_cases hs : d * 10 ^ k < 9007199254740992
    · have hdk : 1 ≤ d * 10 ^ k := Nat.mul_pos hd0 (Nat.pow_pos (by omega))
      obtain ⟨m1, x1, hm1, hx1, hv1⟩ := whole_fw _ hdk hs
      have hr1 := mul_fw neg false m0 (m10 k) x0 (x10 k) m1 x1 hm0 a2 (by omega) (by omega) (canon_of hm1 (by omega)) (by rw [hprod, ← hv1]; exact near_exact)
      rw [Bool.xor_false] at hr1
      obtain ⟨c1, c2, c3, c4⟩ := ten_fw 22 (by omega)
      have htk2 := tk 22 (by omega)
      rw [c1] at htk2
      have hr2 := mul_fw neg false m1 (m10 22) x1 (x10 22) mt x hm1 c2 (by omega) (by omega) hcan (by
        have : (m1 : Rat) * (m10 22 : Rat) * b2 (x1 + x10 22) = (d : Rat) * b10 ((k : Int) + 22) := by
          rw [b2_add, b10_add, show (22 : Int) = ((22 : Nat) : Int) from rfl, ← c4, b10_nat k]
          rw [cast_mul] at hv1
          grind
        rw [this]; exact hnear)
      rw [Bool.xor_false] at hr2
      cases g1 : (FloatKind.f64.format.order (fw neg m1 x1) 4831355200913801216 == some .gt) with
      | true => exact (exact_bigo d _ _ k (by omega) neg hdd hf (Lib.hid hh) w i0 N o c _ t0 htk _ (run_mul_f hr1) (.inl g1)).mono (none' _)
      | false =>
        cases g2 : (FloatKind.f64.format.order (fw neg m1 x1) 14054727237768577024 == some .lt) with
        | true => exact (exact_bigo d _ _ k (by omega) neg hdd hf (Lib.hid hh) w i0 N o c _ t0 htk _ (run_mul_f hr1) (.inr ⟨g1, g2⟩)).mono (none' _)
        | false => exact (exact_big d _ _ k (by omega) neg hdd hf (Lib.hid hh) w i0 N o c _ t0 htk _ (run_mul_f hr1) _ htk2 _ (run_mul_f hr2) g1 g2).mono (give _ _ rfl)
    · -- the product is more than 1e15
      have h9 : 9007199254740992 ≤ d * 10 ^ k := by omega
      have hl1 : 2 ^ 104 ≤ m0 * m10 k := Nat.le_trans (by decide) (Nat.mul_le_mul hm0.1 a2.1)
      have hl2 : m0 * m10 k < 2 ^ (105 + 1) := Nat.lt_of_le_of_lt (Nat.mul_le_mul (Nat.le_of_lt_succ (show m0 < 9007199254740991 + 1 by omega)) (Nat.le_of_lt_succ (show m10 k < 9007199254740991 + 1 by omega))) (by decide)
      have hl := log2_bounds hl1 hl2
      obtain ⟨m1, x1, hc1, hm1, hx1, hx2, hn1⟩ := near_ex (m0 * m10 k) (x0 + x10 k) ((m0 * m10 k : Nat) : Rat) (Nat.le_trans (Nat.one_le_two_pow) hl1) (.inl rfl) (by omega)
      rw [cast_mul, hprod] at hn1
      have hm1' : 4503599627370496 ≤ m1 ∧ m1 < 9007199254740992 := ⟨hm1, hc1.1⟩
      have hr1 := mul_fw neg false m0 (m10 k) x0 (x10 k) m1 x1 hm0 a2 (by omega) (by omega) hc1 (by rw [hprod]; exact hn1)
      rw [Bool.xor_false] at hr1
      have hbig : (m10 15 : Rat) * b2 (x10 15) < (m1 : Rat) * b2 x1 := by
        obtain ⟨_, _, _, d4⟩ := ten_fw 15 (by omega)
        rw [d4, b10_nat]
        have h10 := cast_le h9
        have h11 := hn1.up
        have h12 : (4503599627370496 : Rat) ≤ (m1 : Rat) := cast_le hm1
        have h13 := b2_pos x1
        have h14 : ((10 ^ 15 : Nat) : Rat) = 1000000000000000 := rfl
        have h15 : ((9007199254740992 : Nat) : Rat) = 9007199254740992 := rfl
        rw [h14]
        rw [h15] at h10
        have h16 : 1 * b2 x1 ≤ (m1 : Rat) * b2 x1 := (mul_le_iff h13).2 (by grind)
        grind
      have b15 := ten_fw 15 (by omega)
      refine (exact_bigo d _ _ k (by omega) neg hdd hf (Lib.hid hh) w i0 N o c _ t0 htk _ (run_mul_f hr1) ?_).mono (none' _)
      cases neg
      · left
        rw [lim15.1]
        exact order_gt m1 (m10 15) x1 (x10 15) hm1' b15.2.1 (by omega) (by have := b15.2.2.1; omega) hbig
      · by_cases g1 : (FloatKind.f64.format.order (fw true m1 x1) 4831355200913801216 == some .gt) = true
        · exact .inl g1
        · right
          refine ⟨by simpa using g1, ?_⟩
          rw [lim15.2]
          exact order_lt m1 (m10 15) x1 (x10 15) hm1' b15.2.1 (by omega) (by have := b15.2.2.1; omega) hbig
  rcases Int.lt_or_le 0 p with hp5 | hp5
  · -- a product
    obtain ⟨k, rfl⟩ : ∃ k : Nat, p = (k : Int) := ⟨p.toNat, by omega⟩
    obtain ⟨a1, a2, a3, a4⟩ := ten_fw k (by omega)
    have htk := tk k (by omega)
    rw [a1] at htk
    have hr := mul_fw neg false m0 (m10 k) x0 (x10 k) mt x hm0 a2 (by omega) (by omega) hcan (by
      have : (m0 : Rat) * (m10 k : Rat) * b2 (x0 + x10 k) = (d : Rat) * b10 (k : Int) := by
        rw [b2_add, ← a4, ← hv0]; grind
      rw [this]; exact hnear)
    rw [Bool.xor_false] at hr
    cases g1 : (FloatKind.f64.format.order (fw neg m0 x0) 4831355200913801216 == some .gt) with
    | true => exact (exact_over d _ _ k (by omega) neg hdd hf (Lib.hid hh) w i0 (.inl g1)).mono (none' _)
    | false =>
      cases g2 : (FloatKind.f64.format.order (fw neg m0 x0) 14054727237768577024 == some .lt) with
      | true => exact (exact_over d _ _ k (by omega) neg hdd hf (Lib.hid hh) w i0 (.inr ⟨g1, g2⟩)).mono (none' _)
      | false => exact (exact_mul d _ _ k (by omega) neg hdd hf (Lib.hid hh) w i0 N o c _ t0 htk _ (run_mul_f hr) g1 g2).mono (give _ _ rfl)
  · obtain rfl : p = 0 := by omega
    have hnn : Near mt x ((m0 : Rat) * b2 x0) := by
      rw [hv0]
      rw [b10_zero, Rat.mul_one] at hnear
      exact hnear
    obtain ⟨rfl, rfl⟩ := near_one near_exact hnn (canon_of hm0 (by omega)) hcan
    exact (exact_zero d _ _ neg hdd hf (Lib.hid hh) w i0).mono (give _ _ rfl)
end Go.Proofs.YtikpgglbfpdhmaaGreatDoor

namespace Go.Proofs.YtikpgglbfpdhmaaGreatDoor
open Go.RowKit Go.Joins
attribute [local go_sem ↓] Go.wp_at_zero Go.wp_at_succ

theorem len_all (d L : Nat) (h1 : d < 1152921504606846976) (hs : Lib.bitLen d = L) (w : World) :
    Calls Tryz.prog 115 #[.int .u64 d] w fun e w' => e = .returned (.int .i64 (L : Int)) ∧ w = w' := by
  refine (Tryz.bits_Len64 (d : Int) w (by omega) (by omega)).mono ?_
  rintro e w1 ⟨rfl, rfl⟩
  rw [Int.toNat_natCast, hs]
  exact ⟨rfl, rfl⟩
theorem unmin_53 (w : World) : Calls Tryz.prog 174 #[.int .u64 9007199254740992] w fun e w' => e = .returned (.int .u64 36028797018963966) ∧ w = w' := by
  go_enter Tryz.func174, Tryz.ntmps174
  go_wp2
  go_ret
  exact ⟨rfl, rfl⟩
theorem bool2i_n (b : Bool) (w : World) : Calls Tryz.prog 116 #[.bool b] w fun e w' => e = .returned (.int .i64 (b2n b)) ∧ w = w' := by
  cases b
  all_goals
    go_enter Tryz.func116, Tryz.ntmps116
    go_wp2
    go_ret
    exact ⟨rfl, rfl⟩
/-- The low bit beside the half. -/
theorem or_low (u : Nat) (h : u < 18446744073709551616) : bits BinOp.or IntKind.u64 (u : Int) ((u % 2 : Nat) : Int) = (u : Int) := by
  rw [or_nat _ _ h (by omega), or_bit _ _ (by omega)]
  split <;> omega
theorem or_half (u : Nat) (h : u < 18446744073709551616) : bits BinOp.or IntKind.u64 ((u / 2 : Nat) : Int) ((u % 2 : Nat) : Int) = ((u / 2 ||| u % 2 : Nat) : Int) := or_nat _ _ (by omega) (by omega)
theorem pack64_to (neg : Bool) (mt : Nat) (x : Int) (hc : Canon mt x) (hx : x ≤ 971) (w : World) :
    Calls Tryz.prog 187 #[.int .u64 ((sgb neg : Int) + (mt : Int)), .int .i64 x] w fun e w' => e = .returned (.tuple #[.float .f64 (fw neg mt x), .nilIface]) ∧ w = w' := by
  have := pack64_is neg mt x hc hx w
  rw [Int.natCast_add] at this
  exact this
theorem round_to (u mt : Nat) (h : rnd u = mt) (h1 : u < 1152921504606846976) (w : World) :
    Calls Tryz.prog 173 #[.int .u64 u] w fun e w' => e = .returned (.int .u64 mt) ∧ w = w' := by
  rw [← h]
  exact unround_to u h1 w
set_option maxRecDepth 100000 in
set_option maxHeartbeats 2000000 in
theorem parse_lo (neg : Bool) (d b i s u x0 hi lo : Nat) (mt : Nat) (e x : Int) (hd : d < 1152921504606846976) (hb : 1 ≤ b ∧ b ≤ 60) (hbl : Hid (Lib.bitLen d = b)) (p : Int) (hp0 : -345 ≤ p ∧ p ≤ 310) (hp : Hid (p = (i : Int) - 348)) (hi9 : i < 696)
    (he : min (1074 : Int) (53 - (b : Int) - p * 108853 / 32768) = e) (he9 : -1100 ≤ e ∧ e ≤ 1074) (hs : Hid (-(e - (64 - b) + p * 108853 / 32768 + 3) = (s : Int))) (hs63 : s < 64)
    (hx0 : IntKind.u64.wrap ((d : Int) * 2 ^ (64 - b)) = (x0 : Int)) (hx9 : x0 < 18446744073709551616) (hhi : hi < 18446744073709551616) (hlo : lo < 18446744073709551616)
    (hu : Hid (usc x0 hi lo s = (u : Int))) (hu9 : u < 72057594037927936) (hc : Hid (Canon mt x)) (hx : x ≤ 971) (_hm9 : mt < 9007199254740992)
    (hlt : u < 36028797018963966) (u2 c : Nat) (hu2 : rnd u2 = mt) (hu29 : u2 < 72057594037927936) (hand : bits BinOp.and IntKind.u64 (u : Int) 1 = (c : Int)) (hor : bits BinOp.or IntKind.u64 ((u : Int)) (c : Int) = (u2 : Int)) (hxe : x = -e) (hsg : bits BinOp.or IntKind.u64 (sgb neg : Int) (mt : Int) = ((sgb neg + mt : Nat) : Int)) (w : World)
    (t0 : w.cell? ⟨15, i * 2, none⟩ = some (.int .u64 hi)) (t1 : w.cell? ⟨15, i * 2 + 1, none⟩ = some (.int .u64 lo)) :
    Calls Tryz.prog 153 #[.int .u64 d, .int .i64 p, .int .u64 (sgb neg)] w fun e w' => e = .returned (.tuple #[.float .f64 (fw neg mt x), .nilIface]) ∧ Below w.heap.size w w' := by
  have g0 := World.block_lt_of_cell? _ _ t0
  have hdec : b2n (decide ((36028797018963966 : Int) ≤ (u : Int))) = 0 := by rw [show decide ((36028797018963966 : Int) ≤ (u : Int)) = false from decide_eq_false (by omega)]; rfl
  subst hxe
  go_enter Tryz.func153, Tryz.ntmps153
  go_wp2_with (first
    | (go_at_call 115; with_reducible refine (len_all d b (by omega) hbl.out _).mono ?_; rintro e w1 ⟨rfl, rfl⟩)
    | (go_at_call 168; with_reducible refine (log2Pow10_is _ (by omega) (by omega) _).mono ?_; rintro e w1 ⟨rfl, rfl⟩)
    | (go_at_call 167; with_reducible refine (prescale_to _ _ _ _ i hi lo s hs.out hi9 hp.out (by omega) (by omega) (by omega) (by omega) _ (by rw [World.cell?_alloc_past _ _ _ g0]; exact t0) (by rw [World.cell?_alloc_past _ _ _ g0]; exact t1) (by simp [go_sem]) (by simp [go_sem]) (by simp [go_sem]) (by intro o; simp [go_sem])).mono ?_; rintro e w1 ⟨rfl, rfl⟩)
    | (go_at_call 169; with_reducible refine (uscale_to x0 hi lo s u w.heap.size hu.out hx9 hhi hlo hs63 _ (by simp [*, go_sem]) (by simp [*, go_sem]) (by simp [*, go_sem])).mono ?_; rintro e w1 ⟨rfl, hb⟩)
    | (go_at_call 174; with_reducible refine (unmin_53 _).mono ?_; rintro e w1 ⟨rfl, rfl⟩)
    | (go_at_call 116; with_reducible refine (bool2i_n _ _).mono ?_; rintro e w1 ⟨rfl, rfl⟩; rw [hdec])
    | (go_at_call 173; with_reducible refine (round_to u2 mt hu2 (by omega) _).mono ?_; rintro e w1 ⟨rfl, rfl⟩)
    | (go_at_call 187; with_reducible refine (pack64_to neg mt _ hc.out (by omega) _).mono ?_; rintro e w1 ⟨rfl, rfl⟩))
  go_ret2
  exact ⟨rfl, (by repeat' (first | with_reducible exact Below.refl _ _ | with_reducible refine below_step ?_ (by assumption) | with_reducible apply below_set' | with_reducible apply below_alloc' | with_reducible apply Below.drew | with_reducible apply below_drewN' | (simp; done) | omega | (simp; omega)))⟩
set_option maxRecDepth 100000 in
set_option maxHeartbeats 2000000 in
theorem parse_hi (neg : Bool) (d b i s u x0 hi lo : Nat) (mt : Nat) (e x : Int) (hd : d < 1152921504606846976) (hb : 1 ≤ b ∧ b ≤ 60) (hbl : Hid (Lib.bitLen d = b)) (p : Int) (hp0 : -345 ≤ p ∧ p ≤ 310) (hp : Hid (p = (i : Int) - 348)) (hi9 : i < 696)
    (he : min (1074 : Int) (53 - (b : Int) - p * 108853 / 32768) = e) (he9 : -1100 ≤ e ∧ e ≤ 1074) (hs : Hid (-(e - (64 - b) + p * 108853 / 32768 + 3) = (s : Int))) (hs63 : s < 64)
    (hx0 : IntKind.u64.wrap ((d : Int) * 2 ^ (64 - b)) = (x0 : Int)) (hx9 : x0 < 18446744073709551616) (hhi : hi < 18446744073709551616) (hlo : lo < 18446744073709551616)
    (hu : Hid (usc x0 hi lo s = (u : Int))) (hu9 : u < 72057594037927936) (hc : Hid (Canon mt x)) (hx : x ≤ 971) (_hm9 : mt < 9007199254740992)
    (hlt : 36028797018963966 ≤ u) (u2 c : Nat) (hu2 : rnd u2 = mt) (hu29 : u2 < 72057594037927936) (hand : bits BinOp.and IntKind.u64 (u : Int) 1 = (c : Int)) (hor : bits BinOp.or IntKind.u64 ((u : Int) / 2) (c : Int) = (u2 : Int)) (hxe : x = -(e - 1)) (hsg : bits BinOp.or IntKind.u64 (sgb neg : Int) (mt : Int) = ((sgb neg + mt : Nat) : Int)) (w : World)
    (t0 : w.cell? ⟨15, i * 2, none⟩ = some (.int .u64 hi)) (t1 : w.cell? ⟨15, i * 2 + 1, none⟩ = some (.int .u64 lo)) :
    Calls Tryz.prog 153 #[.int .u64 d, .int .i64 p, .int .u64 (sgb neg)] w fun e w' => e = .returned (.tuple #[.float .f64 (fw neg mt x), .nilIface]) ∧ Below w.heap.size w w' := by
  have g0 := World.block_lt_of_cell? _ _ t0
  have hdec : b2n (decide ((36028797018963966 : Int) ≤ (u : Int))) = 1 := by rw [show decide ((36028797018963966 : Int) ≤ (u : Int)) = true from decide_eq_true (by omega)]; rfl
  subst hxe
  go_enter Tryz.func153, Tryz.ntmps153
  go_wp2_with (first
    | (go_at_call 115; with_reducible refine (len_all d b (by omega) hbl.out _).mono ?_; rintro e w1 ⟨rfl, rfl⟩)
    | (go_at_call 168; with_reducible refine (log2Pow10_is _ (by omega) (by omega) _).mono ?_; rintro e w1 ⟨rfl, rfl⟩)
    | (go_at_call 167; with_reducible refine (prescale_to _ _ _ _ i hi lo s hs.out hi9 hp.out (by omega) (by omega) (by omega) (by omega) _ (by rw [World.cell?_alloc_past _ _ _ g0]; exact t0) (by rw [World.cell?_alloc_past _ _ _ g0]; exact t1) (by simp [go_sem]) (by simp [go_sem]) (by simp [go_sem]) (by intro o; simp [go_sem])).mono ?_; rintro e w1 ⟨rfl, rfl⟩)
    | (go_at_call 169; with_reducible refine (uscale_to x0 hi lo s u w.heap.size hu.out hx9 hhi hlo hs63 _ (by simp [*, go_sem]) (by simp [*, go_sem]) (by simp [*, go_sem])).mono ?_; rintro e w1 ⟨rfl, hb⟩)
    | (go_at_call 174; with_reducible refine (unmin_53 _).mono ?_; rintro e w1 ⟨rfl, rfl⟩)
    | (go_at_call 116; with_reducible refine (bool2i_n _ _).mono ?_; rintro e w1 ⟨rfl, rfl⟩; rw [hdec])
    | (go_at_call 173; with_reducible refine (round_to u2 mt hu2 (by omega) _).mono ?_; rintro e w1 ⟨rfl, rfl⟩)
    | (go_at_call 187; with_reducible refine (pack64_to neg mt _ hc.out (by omega) _).mono ?_; rintro e w1 ⟨rfl, rfl⟩))
  go_ret2
  exact ⟨rfl, (by repeat' (first | with_reducible exact Below.refl _ _ | with_reducible refine below_step ?_ (by assumption) | with_reducible apply below_set' | with_reducible apply below_alloc' | with_reducible apply Below.drew | with_reducible apply below_drewN' | (simp; done) | omega | (simp; omega)))⟩
set_option maxRecDepth 100000 in
/-- parseFloat64 gives the float to which the number is rounded. -/
theorem parse_is (neg : Bool) (mt : Nat) (x : Int) (hcan : Canon mt x) (h1 : 1 ≤ mt) (hx : x ≤ 971) (d : Nat) (hd : d < 1152921504606846976) (p : Int) (hp : -345 ≤ p ∧ p ≤ 310) (hnear : Near mt x ((d : Rat) * b10 p)) (w : World) (ht : TenAt w) :
    Calls Tryz.prog 153 #[.int .u64 d, .int .i64 p, .int .u64 (sgb neg)] w fun e w' => e = .returned (.tuple #[.float .f64 (fw neg mt x), .nilIface]) ∧ Below w.heap.size w w' := by
  have hd0 : d ≠ 0 := by
    rintro rfl
    have h2 := near_low hnear
    have h3 : (1 : Rat) ≤ (mt : Rat) := cast_le h1
    have h4 : 1 * b2 x ≤ (2 * (mt : Rat) - 1) * b2 x := (mul_le_iff (b2_pos x)).2 (by grind)
    have h5 := b2_pos x
    have : ((0 : Nat) : Rat) = 0 := rfl
    rw [this] at h2
    grind
  obtain ⟨b1, b2', b3⟩ := bitLen_two d hd0 (by omega)
  have b60 := Lib.bitLen_le d 60 (by omega) (by omega)
  obtain ⟨b, hb⟩ : ∃ b, Lib.bitLen d = b := ⟨_, rfl⟩
  rw [hb] at b1 b2' b3 b60
  obtain ⟨i, hi⟩ : ∃ i : Nat, p = (i : Int) - 348 := ⟨(p + 348).toNat, by omega⟩
  rw [hi] at hnear
  obtain ⟨s, u, hs, hs63, hu, hu9, hcase⟩ := read_one mt x d b i hcan h1 hnear ⟨b1, b60⟩ b2' b3 (by omega)
  rw [← hi] at hs hcase
  have htab := tab_ok i (by omega)
  obtain ⟨t0, t1⟩ := ht i (by omega)
  obtain ⟨e, he⟩ : ∃ e, eOf b p = e := ⟨_, rfl⟩
  rw [he] at hs hcase
  have he2 : min (1074 : Int) (53 - (b : Int) - p * 108853 / 32768) = e := by rw [← he]; rfl
  have he9 : -1100 ≤ e ∧ e ≤ 1074 := by omega
  have hlt : d * 2 ^ (64 - b) < 18446744073709551616 := by
    have h3 := (Nat.mul_lt_mul_right (Nat.two_pow_pos (64 - b))).2 b3
    rw [← Nat.pow_add, show b + (64 - b) = 64 by omega] at h3
    omega
  have hx0 : IntKind.u64.wrap ((d : Int) * 2 ^ (64 - b)) = ((d * 2 ^ (64 - b) : Nat) : Int) := by
    rw [IntKind.wrap_u64, show ((d : Int) * 2 ^ (64 - b)) = ((d * 2 ^ (64 - b) : Nat) : Int) by rw [Int.natCast_mul, Int.natCast_pow]; rfl]
    omega
  have hm9 := hcan.1
  have hsg := bits_sign neg mt (by omega)
  have hand : bits BinOp.and IntKind.u64 (u : Int) 1 = ((u % 2 : Nat) : Int) := by rw [and1]; omega
  rcases hcase with ⟨c1, c2, c3⟩ | ⟨c1, c2, c3⟩
  · exact parse_lo neg d b i s u (d * 2 ^ (64 - b)) (phi i) (plo i) mt e x hd ⟨b1, b60⟩ (Lib.hid hb) p hp (Lib.hid hi) (by omega) he2 he9 (Lib.hid hs.symm) hs63 hx0 hlt htab.2.1 htab.2.2 (Lib.hid hu) hu9 (Lib.hid hcan) hx hm9
      c1 u (u % 2) c2 hu9 hand (or_low u (by omega)) c3 hsg w t0 t1
  · have hoh := or_half u (by omega)
    rw [show ((u / 2 : Nat) : Int) = (u : Int) / 2 by omega] at hoh
    have h2 : u / 2 ||| u % 2 < 72057594037927936 := Nat.or_lt_two_pow (n := 56) (by omega) (by omega)
    exact parse_hi neg d b i s u (d * 2 ^ (64 - b)) (phi i) (plo i) mt e x hd ⟨b1, b60⟩ (Lib.hid hb) p hp (Lib.hid hi) (by omega) he2 he9 (Lib.hid hs.symm) hs63 hx0 hlt htab.2.1 htab.2.2 (Lib.hid hu) hu9 (Lib.hid hcan) hx hm9
      c1 (u / 2 ||| u % 2) (u % 2) c2 h2 hand hoh c3 hsg w t0 t1
end Go.Proofs.YtikpgglbfpdhmaaGreatDoor

/- Reading a float: bits are put together. -/
import Derived.Test.YtikpgglbfpdhmaaGreatDoorRdMRdF
import Derived.Test.YtikpgglbfpdhmaaGreatDoorRdMWrO
import Derived.Test.YtikpgglbfpdhmaaGreatDoorRdMKit
namespace Go.Proofs.YtikpgglbfpdhmaaGreatDoor
open Go.RowKit Go.Joins
attribute [local go_sem ↓] Go.wp_at_zero Go.wp_at_succ

theorem run_sfloat64frombits (n : Int) (w : World) : (callFunc 151 #[.int .u64 n]).run Tryz.prog w = .ok (.value (.float .f64 n.toNat)) w := by
  rw [run_callFunc_extern (e := Extern.MathFloatBits.float64frombits) Tryz.func151 (by kernel_rfl) rfl (by kernel_rfl) (by kernel_rfl)]
  rfl
/-- A float's word. -/
def fw (neg : Bool) (mt : Nat) (x : Int) : Nat := (if neg then 9223372036854775808 else 0) + ((x + 1074).toNat * 4503599627370496 + mt)
def sgb (neg : Bool) : Nat := if neg then 9223372036854775808 else 0
theorem or_52 (r : Nat) (h : r / 4503599627370496 % 2 = 0) : r ||| 4503599627370496 = r + 4503599627370496 := by
  have e1 := Nat.two_pow_add_eq_or_of_lt (i := 53) (b := r % 4503599627370496 + 4503599627370496) (by omega) (r / 9007199254740992)
  have e2 := Nat.two_pow_add_eq_or_of_lt (i := 53) (b := r % 4503599627370496) (by omega) (r / 9007199254740992)
  have e3 := Nat.two_pow_add_eq_or_of_lt (i := 52) (b := r % 4503599627370496) (by omega) 1
  have h1 : 2 ^ 53 * (r / 9007199254740992) + r % 4503599627370496 = r := by omega
  have h2 : 2 ^ 53 * (r / 9007199254740992) + (r % 4503599627370496 + 4503599627370496) = r + 4503599627370496 := by omega
  rw [h1] at e2
  rw [h2] at e1
  rw [e1]
  conv => lhs; rw [e2]
  rw [Nat.or_assoc]
  congr 1
  rw [Nat.or_comm, show (4503599627370496 : Nat) = 2 ^ 52 * 1 from rfl, ← e3]
  omega
theorem and_52 (s : Nat) : s &&& 4503599627370496 = s / 4503599627370496 % 2 * 4503599627370496 := by
  have e : (4503599627370496 : Nat) = 2 ^ 52 := rfl
  apply Nat.eq_of_testBit_eq
  intro i
  rw [Nat.testBit_and, e, Nat.testBit_two_pow]
  by_cases h : 52 = i
  · subst h
    rw [Nat.testBit_eq_decide_div_mod_eq]
    rcases Nat.mod_two_eq_zero_or_one (s / 2 ^ 52) with h | h
    · rw [h, Nat.zero_mul, Nat.zero_testBit]; rfl
    · rw [h, Nat.one_mul, Nat.testBit_two_pow]; rfl
  · rw [decide_eq_false h, Bool.and_false]
    rcases Nat.mod_two_eq_zero_or_one (s / 2 ^ 52) with h2 | h2
    · rw [h2, Nat.zero_mul, Nat.zero_testBit]
    · rw [h2, Nat.one_mul, Nat.testBit_two_pow, decide_eq_false h]
theorem bits_and52 (s : Nat) (h : s < 18446744073709551616) : bits BinOp.and IntKind.u64 (s : Int) 4503599627370496 = ((s / 4503599627370496 % 2 * 4503599627370496 : Nat) : Int) := by
  show IntKind.u64.wrap (((BitVec.ofInt 64 (s : Int)) &&& (BitVec.ofInt 64 ((4503599627370496 : Nat) : Int))).toNat : Int) = _
  rw [BitVec.toNat_and, BitVec.ofInt_natCast, BitVec.ofInt_natCast, BitVec.toNat_ofNat, BitVec.toNat_ofNat, Nat.mod_eq_of_lt (a := s) (by omega), Nat.mod_eq_of_lt (a := 4503599627370496) (by omega), and_52, IntKind.wrap_u64]
  omega
theorem bits_not52 (s r : Nat) (hs : s = r + 4503599627370496) (hr : r / 4503599627370496 % 2 = 0) (h : s < 18446744073709551616) : bits BinOp.andNot IntKind.u64 (s : Int) 4503599627370496 = (r : Int) := by
  have key : ((BitVec.ofNat 64 s) &&& ~~~(BitVec.ofNat 64 4503599627370496)) = BitVec.ofNat 64 r := by
    have e : s = r ||| 4503599627370496 := by rw [or_52 r hr, hs]
    rw [e, BitVec.ofNat_or]
    have h0 : (BitVec.ofNat 64 r &&& BitVec.ofNat 64 4503599627370496) = 0#64 := by
      apply BitVec.eq_of_toNat_eq
      rw [BitVec.toNat_and, BitVec.toNat_ofNat, BitVec.toNat_ofNat, Nat.mod_eq_of_lt (a := r) (by omega), Nat.mod_eq_of_lt (a := 4503599627370496) (by omega), and_52, hr]
      rfl
    apply BitVec.eq_of_getLsbD_eq
    intro i hi
    have h1 := congrArg (fun v => BitVec.getLsbD v i) h0
    simp only [BitVec.getLsbD_and, BitVec.getLsbD_zero] at h1
    simp only [BitVec.getLsbD_and, BitVec.getLsbD_or, BitVec.getLsbD_not, hi, decide_true, Bool.true_and]
    cases h2 : (BitVec.ofNat 64 r).getLsbD i <;> cases h3 : (BitVec.ofNat 64 4503599627370496).getLsbD i <;> simp_all
  show IntKind.u64.wrap (((BitVec.ofInt 64 (s : Int)) &&& ~~~(BitVec.ofInt 64 ((4503599627370496 : Nat) : Int))).toNat : Int) = _
  rw [BitVec.ofInt_natCast, BitVec.ofInt_natCast, key, BitVec.toNat_ofNat, Nat.mod_eq_of_lt (a := r) (by omega), IntKind.wrap_u64]
  omega
theorem sgb_or (neg : Bool) (b : Nat) (h : b < 9223372036854775808) : sgb neg ||| b = sgb neg + b := by
  cases neg
  · show 0 ||| b = 0 + b
    rw [Nat.zero_or, Nat.zero_add]
  · have := Nat.two_pow_add_eq_or_of_lt (i := 63) (b := b) (by omega) 1
    exact this.symm
theorem bits_join (neg : Bool) (lo E : Nat) (hlo : lo < 4503599627370496) (hE : E < 2048) : bits BinOp.or IntKind.u64 ((sgb neg + lo : Nat) : Int) ((E * 4503599627370496 : Nat) : Int) = ((sgb neg + (E * 4503599627370496 + lo) : Nat) : Int) := by
  have hs : sgb neg ≤ 9223372036854775808 := by cases neg <;> decide
  rw [or_nat _ _ (by omega) (by omega)]
  congr 1
  have e := Nat.two_pow_add_eq_or_of_lt (i := 52) (b := lo) (by omega) E
  rw [← sgb_or neg lo (by omega), Nat.or_assoc, Nat.or_comm lo, Nat.mul_comm E, show (4503599627370496 : Nat) = 2 ^ 52 from rfl, ← e, sgb_or neg _ (by omega)]
theorem bits_sign (neg : Bool) (m : Nat) (h : m < 9223372036854775808) : bits BinOp.or IntKind.u64 (sgb neg : Int) (m : Int) = ((sgb neg + m : Nat) : Int) := by
  have hs : sgb neg ≤ 9223372036854775808 := by cases neg <;> decide
  rw [or_nat _ _ (by omega) (by omega), sgb_or neg m h]
set_option maxRecDepth 100000 in
theorem pack64_is (neg : Bool) (mt : Nat) (x : Int) (hc : Canon mt x) (hx : x ≤ 971) (w : World) :
    Calls Tryz.prog 187 #[.int .u64 ((sgb neg + mt : Nat) : Int), .int .i64 x] w fun e w' => e = .returned (.tuple #[.float .f64 (fw neg mt x), .nilIface]) ∧ w = w' := by
  have hs : sgb neg = 0 ∨ sgb neg = 9223372036854775808 := by cases neg <;> simp [sgb]
  obtain ⟨c1, c2, c3⟩ := hc
  have hfw : fw neg mt x = sgb neg + ((x + 1074).toNat * 4503599627370496 + mt) := rfl
  have h1 := bits_and52 (sgb neg + mt) (by omega)
  by_cases h : mt < 4503599627370496
  · have hx1 : x = -1074 := by omega
    subst hx1
    have e1 : (sgb neg + mt) / 4503599627370496 % 2 = 0 := by omega
    rw [e1, Nat.zero_mul] at h1
    have e2 : fw neg mt (-1074) = sgb neg + mt := by rw [hfw]; simp
    have hf := run_sfloat64frombits ((sgb neg + mt : Nat) : Int)
    rw [e2]
    clear hs hfw e1 e2
    obtain ⟨S, hS⟩ : ∃ S, S = sgb neg + mt := ⟨_, rfl⟩
    rw [← hS] at h1 hf ⊢
    clear hS
    go_enter Tryz.func187, Tryz.ntmps187
    go_wp2
    go_ret2
    exact ⟨rfl, rfl⟩
  · have e1 : (sgb neg + mt) / 4503599627370496 % 2 = 1 := by omega
    rw [e1, Nat.one_mul] at h1
    obtain ⟨lo, hlo⟩ : ∃ lo, mt = lo + 4503599627370496 := ⟨mt - 4503599627370496, by omega⟩
    obtain ⟨E, hE⟩ : ∃ E : Nat, 1075 + x = (E : Int) := ⟨(1075 + x).toNat, by omega⟩
    have h2 := bits_not52 (sgb neg + mt) (sgb neg + lo) (by omega) (by omega) (by omega)
    have h3 := bits_join neg lo E (by omega) (by omega)
    have e2 : fw neg mt x = sgb neg + (E * 4503599627370496 + lo) := by rw [hfw]; omega
    have hf := run_sfloat64frombits ((sgb neg + (E * 4503599627370496 + lo) : Nat) : Int)
    have hE9 : E ≤ 2046 := by omega
    have hx9 : x < 972 := by omega
    rw [e2]
    have hS9 : sgb neg + mt < 18446744073709551616 := by omega
    obtain ⟨F, hF⟩ : ∃ F, F = sgb neg + (E * 4503599627370496 + lo) := ⟨_, rfl⟩
    obtain ⟨R, hR⟩ : ∃ R, R = sgb neg + lo := ⟨_, rfl⟩
    obtain ⟨S, hS⟩ : ∃ S, S = sgb neg + mt := ⟨_, rfl⟩
    rw [← hS] at h1 h2 hS9 ⊢
    rw [← hF] at h3 hf ⊢
    rw [← hR] at h2 h3
    clear hs hfw e1 e2 hlo c1 c3 h hS hF hR
    have h4 : ((E * 4503599627370496 : Nat) : Int) = (E : Int) * 4503599627370496 := by omega
    rw [h4] at h3
    go_enter Tryz.func187, Tryz.ntmps187
    go_wp2
    go_ret2
    exact ⟨rfl, rfl⟩
end Go.Proofs.YtikpgglbfpdhmaaGreatDoor

namespace Go.Proofs.YtikpgglbfpdhmaaGreatDoor

theorem fmt64s : FloatKind.f64.format.signWeight = 9223372036854775808 := by decide +kernel
theorem word_gen (F : Ieee.Format) (W : Nat) (h : F.signWeight = W) (neg : Bool) (r : Nat) : F.word neg r = (if neg then W else 0) + r := by
  unfold Ieee.Format.word
  rw [h]
  cases neg
  · simp
  · rfl
theorem fw_word (neg : Bool) (mt : Nat) (x : Int) : FloatKind.f64.format.word neg ((x + 1074).toNat * 4503599627370496 + mt) = fw neg mt x := word_gen _ _ fmt64s neg _
theorem read_gen (F : Ieee.Format) (S B I : Nat) (f0 : F.signWeight = S) (f1 : F.binade = B) (f2 : F.infRung = I) (f3 : F.leastPlace = -1074) (neg : Bool) (r : Nat) (w : Nat) (hw : w / S % 2 = (if neg then 1 else 0)) (hr : w % S = r) (h1 : B ≤ r) (h2 : r < I) :
    F.read w = .number neg (B + r % B) (-1074 + (r / B - 1 : Nat)) := by
  unfold Ieee.Format.read
  rw [f0, f1, f2, f3, hr, hw]
  simp only
  rw [if_neg (by omega), if_pos h2]
  cases neg <;> rfl
/-- What a float's word says. -/
theorem read_fw (neg : Bool) (mt : Nat) (x : Int) (hm : 4503599627370496 ≤ mt ∧ mt < 9007199254740992) (hx : -1074 ≤ x ∧ x ≤ 971) : FloatKind.f64.format.read (fw neg mt x) = .number neg mt x := by
  obtain ⟨n, hn⟩ : ∃ n : Nat, x + 1074 = n := ⟨(x + 1074).toNat, by omega⟩
  have hfw : fw neg mt x = (if neg then 9223372036854775808 else 0) + (n * 4503599627370496 + mt) := by unfold fw; rw [hn, Int.toNat_natCast]
  have hlt : n * 4503599627370496 + mt < 9218868437227405312 := by omega
  have e1 : fw neg mt x / 9223372036854775808 % 2 = (if neg then 1 else 0) := by
    rw [hfw]; cases neg
    · simp only [Bool.false_eq_true, if_false]; omega
    · simp only [if_true]; omega
  have e2 : fw neg mt x % 9223372036854775808 = n * 4503599627370496 + mt := by
    rw [hfw]; cases neg
    · simp only [Bool.false_eq_true, if_false]; omega
    · simp only [if_true]; omega
  rw [read_gen _ _ _ _ fmt64s fmt64.1 fmt64.2.1 fmt64.2.2.1 neg _ _ e1 e2 (by omega) hlt]
  congr 1
  · omega
  · omega
theorem log2_of {m k : Nat} (h1 : 2 ^ k ≤ m) (h2 : m < 2 ^ (k + 1)) : m.log2 = k := by
  have a1 : 2 ^ m.log2 ≤ m := Nat.log2_self_le (by have := Nat.two_pow_pos k; omega)
  have a2 : m < 2 ^ (m.log2 + 1) := Nat.lt_log2_self
  rcases Nat.lt_trichotomy m.log2 k with h | h | h
  · exfalso
    have := Nat.pow_le_pow_right (n := 2) (by omega) (show m.log2 + 1 ≤ k from h)
    omega
  · exact h
  · exfalso
    have := Nat.pow_le_pow_right (n := 2) (by omega) (show k + 1 ≤ m.log2 from h)
    omega
theorem log2_bounds {m a b : Nat} (h1 : 2 ^ a ≤ m) (h2 : m < 2 ^ (b + 1)) : a ≤ m.log2 ∧ m.log2 ≤ b := by
  have a1 : 2 ^ m.log2 ≤ m := Nat.log2_self_le (by have := Nat.two_pow_pos a; omega)
  have a2 : m < 2 ^ (m.log2 + 1) := Nat.lt_log2_self
  constructor
  · rcases Nat.lt_or_ge m.log2 a with h | h
    · exfalso
      have := Nat.pow_le_pow_right (n := 2) (by omega) (show m.log2 + 1 ≤ a from h)
      omega
    · exact h
  · rcases Nat.lt_or_ge b m.log2 with h | h
    · exfalso
      have := Nat.pow_le_pow_right (n := 2) (by omega) (show b + 1 ≤ m.log2 from h)
      omega
    · exact h
/-- A product of floats. -/
theorem mul_fw (s t : Bool) (m n : Nat) (x y : Int) (mt : Nat) (z : Int) (hm : 4503599627370496 ≤ m ∧ m < 9007199254740992) (hn : 4503599627370496 ≤ n ∧ n < 9007199254740992) (hx : -400 ≤ x ∧ x ≤ 400) (hy : -400 ≤ y ∧ y ≤ 400)
    (hc : Canon mt z) (hnear : Near mt z ((m : Rat) * (n : Rat) * b2 (x + y))) : FloatKind.f64.format.mul (fw s m x) (fw t n y) = some (fw (s ^^ t) mt z) := by
  have h1 : 2 ^ 104 ≤ m * n := by
    have := Nat.mul_le_mul hm.1 hn.1
    exact Nat.le_trans (by decide) this
  have h2 : m * n < 2 ^ (105 + 1) := by
    have := Nat.mul_le_mul (Nat.le_of_lt_succ (show m < 9007199254740991 + 1 by omega)) (Nat.le_of_lt_succ (show n < 9007199254740991 + 1 by omega))
    exact Nat.lt_of_le_of_lt this (by decide)
  have hl := log2_bounds h1 h2
  unfold Ieee.Format.mul
  rw [read_fw s m x hm (by omega), read_fw t n y hn (by omega)]
  show some (FloatKind.f64.format.nearest (s ^^ t) (m * n) (x + y)) = _
  have hp : 1 ≤ m * n := Nat.le_trans (Nat.one_le_two_pow) h1
  rw [nearest_is (s ^^ t) (m * n) (x + y) ((m * n : Nat) : Rat) mt z hc hp (.inl rfl) (by omega) (by rw [cast_mul]; exact hnear), fw_word]
/-- A whole number's float. -/
theorem int_fw (d mt : Nat) (z : Int) (h1 : 1 ≤ d) (h2 : d < 18446744073709551616) (hc : Canon mt z) (hnear : Near mt z (d : Rat)) : FloatKind.f64.format.nearest false d 0 = fw false mt z := by
  have hl := log2_bounds (a := 0) (b := 63) (m := d) (by omega) (by omega)
  rw [nearest_is false d 0 (d : Rat) mt z hc h1 (.inl rfl) (by omega) (by rw [b2_zero]; grind), fw_word]
theorem quot_gen (s t : Bool) (m n : Nat) (x y : Int) (hn : 1 ≤ n) (hl : n.log2 = m.log2) : (Ieee.Datum.number s m x).quotient 54 (.number t n y) = some (.number (s ^^ t) (2 * (m * 18014398509481984 / n) + (m * 18014398509481984 % n != 0).toNat) (x - y - 55)) := by
  unfold Ieee.Datum.quotient
  have h0 : ¬ n = 0 := by omega
  simp only
  rw [if_neg h0, hl, show 54 + m.log2 - m.log2 = 54 by omega, Nat.shiftLeft_eq, show (2 : Nat) ^ 54 = 18014398509481984 from rfl]
  congr 2
  omega
/-- A quotient of floats. -/
theorem div_fw (s t : Bool) (m n : Nat) (x y : Int) (mt : Nat) (z : Int) (A : Rat) (hm : 4503599627370496 ≤ m ∧ m < 9007199254740992) (hn : 4503599627370496 ≤ n ∧ n < 9007199254740992) (hx : -400 ≤ x ∧ x ≤ 400) (hy : -400 ≤ y ∧ y ≤ 400)
    (hA : A * (n : Rat) = (m : Rat) * 36028797018963968) (hc : Canon mt z) (hnear : Near mt z (A * b2 (x - y - 55))) : FloatKind.f64.format.div (fw s m x) (fw t n y) = some (fw (s ^^ t) mt z) := by
  have l1 : m.log2 = 52 := log2_of (by omega) (by omega)
  have l2 : n.log2 = 52 := log2_of (by omega) (by omega)
  unfold Ieee.Format.div
  rw [read_fw s m x hm (by omega), read_fw t n y hn (by omega), show FloatKind.f64.format.fractionBits + 2 = 54 by rw [fmt64.2.2.2], quot_gen s t m n x y (by omega) (by omega)]
  have hd := (Nat.div_add_mod (m * 18014398509481984) n).symm
  have hr := Nat.mod_lt (m * 18014398509481984) (show 0 < n by omega)
  obtain ⟨q, hq⟩ : ∃ q, q = m * 18014398509481984 / n := ⟨_, rfl⟩
  obtain ⟨r, hrr⟩ : ∃ r, r = m * 18014398509481984 % n := ⟨_, rfl⟩
  rw [← hq, ← hrr] at hd ⊢
  rw [← hrr] at hr
  have hq1 : 9007199254740992 ≤ q := by
    rcases Nat.lt_or_ge q 9007199254740992 with h | h
    · exfalso
      have := Nat.mul_le_mul_left n (show q ≤ 9007199254740991 by omega)
      omega
    · exact h
  have hq2 : q < 36028797018963968 := by
    rcases Nat.lt_or_ge q 36028797018963968 with h | h
    · exact h
    · exfalso
      have := Nat.mul_le_mul_left n h
      omega
  obtain ⟨c, hcc⟩ : ∃ c, c = (r != 0).toNat := ⟨_, rfl⟩
  have hc0 : (r = 0 ∧ c = 0) ∨ (r ≠ 0 ∧ c = 1) := by
    rw [hcc]
    by_cases h : r = 0
    · left; rw [h]; exact ⟨rfl, rfl⟩
    · right
      refine ⟨h, ?_⟩
      have : (r != 0) = true := by simpa using h
      rw [this]; rfl
  rw [← hcc]
  have hnp := nat_pos (show 1 ≤ n by omega)
  have hT : Told (2 * q + c) A := by
    right
    refine ⟨by omega, fun k => ?_⟩
    have f1 := le_iff hd hr k
    have f2 := lt_iff hd hr k
    have e1 : ((m * 18014398509481984 : Nat) : Rat) * 2 = A * (n : Rat) := by rw [hA, cast_mul]; have : ((18014398509481984 : Nat) : Rat) = 18014398509481984 := rfl; rw [this]; grind
    have e2 : ((n * k : Nat) : Rat) * 2 = ((2 * k : Nat) : Rat) * (n : Rat) := by rw [cast_mul, cast_mul]; have : ((2 : Nat) : Rat) = 2 := rfl; rw [this]; grind
    have g1 : A ≤ ((2 * k : Nat) : Rat) ↔ m * 18014398509481984 ≤ n * k := by
      rw [← mul_le_iff (c := (n : Rat)) hnp, ← e1, ← e2, mul_le_iff (show (0 : Rat) < 2 by decide), Rat.natCast_le_natCast]
    have g2 : A < ((2 * k : Nat) : Rat) ↔ m * 18014398509481984 < n * k := by
      rw [← mul_lt_iff (c := (n : Rat)) hnp, ← e1, ← e2, mul_lt_iff (show (0 : Rat) < 2 by decide), Rat.natCast_lt_natCast]
    rw [g1, g2, f1, f2]
    rcases hc0 with ⟨h1, h2⟩ | ⟨h1, h2⟩ <;> rw [h2] <;> constructor <;> constructor <;> intro h3 <;> omega
  have hl := log2_bounds (a := 54) (b := 56) (m := 2 * q + c) (by omega) (by omega)
  show some (FloatKind.f64.format.nearest (s ^^ t) (2 * q + c) (x - y - 55)) = _
  rw [nearest_is (s ^^ t) (2 * q + c) (x - y - 55) A mt z hc (by omega) hT (by omega) hnear, fw_word]
end Go.Proofs.YtikpgglbfpdhmaaGreatDoor

namespace Go.Proofs.YtikpgglbfpdhmaaGreatDoor
open Go.RowKit Go.Joins

theorem clean_1 (n : Int) (f : Nat) (s : ByteArray) (w : World) :
    Calls Tryz.prog 30 #[.agg #[.int .i64 1, .int .i64 n, .float .f64 f, .string s]] w fun e w' => e = .returned (.agg #[.int .i64 1, .int .i64 n, .float .f64 0, .string ⟨#[]⟩]) ∧ Below w.heap.size w w' := by
  go_enter Tryz.func30, Tryz.ntmps30
  go_wp2_with (go_at_call 16; refine (ofInt_any _ _).mono ?_; rintro e w1 ⟨rfl, hb⟩; obtain ⟨hc0, hf0, hz0⟩ := newc hb w.heap.size (by first | omega | (simp; done) | (simp; omega)); obtain ⟨hc1, hf1, hz1⟩ := newc hb (w.heap.size + 1) (by first | omega | (simp; done) | (simp; omega)))
  exact bodyPost_ret (by simp [results, Tryz.results30, go_sem, *]) rfl ⟨rfl, (by repeat' (first | with_reducible exact Below.refl _ _ | with_reducible refine below_step ?_ (by assumption) | with_reducible apply below_set' | with_reducible apply below_alloc' | with_reducible apply Below.drew | with_reducible apply below_drewN' | (simp; done) | omega | (simp; omega)))⟩
theorem clean_2 (n : Int) (f : Nat) (s : ByteArray) (w : World) :
    Calls Tryz.prog 30 #[.agg #[.int .i64 2, .int .i64 n, .float .f64 f, .string s]] w fun e w' => e = .returned (.agg #[.int .i64 2, .int .i64 0, .float .f64 (freal f), .string ⟨#[]⟩]) ∧ Below w.heap.size w w' := by
  go_enter Tryz.func30, Tryz.ntmps30
  go_wp2_with (go_at_call 22; refine (ofReal_any _ _).mono ?_; rintro e w1 ⟨rfl, hb⟩; obtain ⟨hc0, hf0, hz0⟩ := newc hb w.heap.size (by first | omega | (simp; done) | (simp; omega)); obtain ⟨hc1, hf1, hz1⟩ := newc hb (w.heap.size + 1) (by first | omega | (simp; done) | (simp; omega)))
  exact bodyPost_ret (by simp [results, Tryz.results30, go_sem, *]) rfl ⟨rfl, (by repeat' (first | with_reducible exact Below.refl _ _ | with_reducible refine below_step ?_ (by assumption) | with_reducible apply below_set' | with_reducible apply below_alloc' | with_reducible apply Below.drew | with_reducible apply below_drewN' | (simp; done) | omega | (simp; omega)))⟩
theorem clean_3 (n : Int) (f : Nat) (s : ByteArray) (w : World) :
    Calls Tryz.prog 30 #[.agg #[.int .i64 3, .int .i64 n, .float .f64 f, .string s]] w fun e w' => e = .returned (.agg #[.int .i64 3, .int .i64 0, .float .f64 0, .string s]) ∧ Below w.heap.size w w' := by
  go_enter Tryz.func30, Tryz.ntmps30
  go_wp2_with (go_at_call 23; refine (ofText_any _ _).mono ?_; rintro e w1 ⟨rfl, hb⟩; obtain ⟨hc0, hf0, hz0⟩ := newc hb w.heap.size (by first | omega | (simp; done) | (simp; omega)); obtain ⟨hc1, hf1, hz1⟩ := newc hb (w.heap.size + 1) (by first | omega | (simp; done) | (simp; omega)))
  exact bodyPost_ret (by simp [results, Tryz.results30, go_sem, *]) rfl ⟨rfl, (by repeat' (first | with_reducible exact Below.refl _ _ | with_reducible refine below_step ?_ (by assumption) | with_reducible apply below_set' | with_reducible apply below_alloc' | with_reducible apply Below.drew | with_reducible apply below_drewN' | (simp; done) | omega | (simp; omega)))⟩
theorem clean_4 (n : Int) (f : Nat) (s : ByteArray) (w : World) :
    Calls Tryz.prog 30 #[.agg #[.int .i64 4, .int .i64 n, .float .f64 f, .string s]] w fun e w' => e = .returned (.agg #[.int .i64 4, .int .i64 (b2i (n != 0)), .float .f64 0, .string ⟨#[]⟩]) ∧ Below w.heap.size w w' := by
  go_enter Tryz.func30, Tryz.ntmps30
  go_wp2_with (go_at_call 24; refine (ofBool_any _ _).mono ?_; rintro e w1 ⟨rfl, hb⟩; obtain ⟨hc0, hf0, hz0⟩ := newc hb w.heap.size (by first | omega | (simp; done) | (simp; omega)); obtain ⟨hc1, hf1, hz1⟩ := newc hb (w.heap.size + 1) (by first | omega | (simp; done) | (simp; omega)))
  exact bodyPost_ret (by simp [results, Tryz.results30, go_sem, *]) rfl ⟨rfl, (by repeat' (first | with_reducible exact Below.refl _ _ | with_reducible refine below_step ?_ (by assumption) | with_reducible apply below_set' | with_reducible apply below_alloc' | with_reducible apply Below.drew | with_reducible apply below_drewN' | (simp; done) | omega | (simp; omega)))⟩
theorem clean_5 (k n : Int) (f : Nat) (s : ByteArray) (w : World) (h1 : ¬ k = 1) (h2 : ¬ k = 2) (h3 : ¬ k = 3) (h4 : ¬ k = 4) :
    Calls Tryz.prog 30 #[.agg #[.int .i64 k, .int .i64 n, .float .f64 f, .string s]] w fun e w' => e = .returned (.agg #[.int .i64 0, .int .i64 0, .float .f64 0, .string ⟨#[]⟩]) ∧ Below w.heap.size w w' := by
  go_enter Tryz.func30, Tryz.ntmps30
  go_wp2
  exact bodyPost_ret (by simp [results, Tryz.results30, go_sem, *]) rfl ⟨rfl, (by repeat' (first | with_reducible exact Below.refl _ _ | with_reducible refine below_step ?_ (by assumption) | with_reducible apply below_set' | with_reducible apply below_alloc' | with_reducible apply Below.drew | with_reducible apply below_drewN' | (simp; done) | omega | (simp; omega)))⟩
theorem clean_any (k n : Int) (f : Nat) (s : ByteArray) (w : World) :
    Calls Tryz.prog 30 #[.agg #[.int .i64 k, .int .i64 n, .float .f64 f, .string s]] w fun e w' => e = .returned (.agg #[.int .i64 (cK k), .int .i64 (cN k n), .float .f64 (cF k f), .string (cS k s)]) ∧ Below w.heap.size w w' := by
  by_cases h1 : k = 1
  · subst h1; exact clean_1 n f s w
  by_cases h2 : k = 2
  · subst h2; exact clean_2 n f s w
  by_cases h3 : k = 3
  · subst h3; exact clean_3 n f s w
  by_cases h4 : k = 4
  · subst h4
    have e : b2i (n != 0) = cN 4 n := by unfold b2i cN; by_cases h : n = 0 <;> simp [h]
    have := clean_4 n f s w
    rw [e] at this
    exact this
  · have e0 : cK k = 0 := by unfold cK; split <;> omega
    have e1 : cN k n = 0 := by unfold cN; rw [if_neg h1, if_neg h4]
    have e2 : cF k f = 0 := by unfold cF; rw [if_neg h2]
    have e3 : cS k s = ⟨#[]⟩ := by unfold cS; rw [if_neg h3]
    rw [e0, e1, e2, e3]
    exact clean_5 k n f s w h1 h2 h3 h4
end Go.Proofs.YtikpgglbfpdhmaaGreatDoor

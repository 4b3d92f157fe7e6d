/- Reading a float: what stands in a float's text. No program in sight. -/
import Derived.Test.YtikpgglbfpdhmaaGreatDoorRdMRdV
import Derived.Test.YtikpgglbfpdhmaaGreatDoorRdMWrI
import Derived.Test.YtikpgglbfpdhmaaGreatDoorRdMWrO
import Derived.Test.YtikpgglbfpdhmaaGreatDoorRdMRdF
import Derived.Test.YtikpgglbfpdhmaaGreatDoorRdMWrJ
namespace Go.Proofs.YtikpgglbfpdhmaaGreatDoor
open Go.Lib

/-- What digits come to, behind what was read before. -/
def valOf : List UInt8 → Nat → Nat
  | [], m => m
  | c :: l, m => valOf l (m * 10 + (c.toNat - 48))
theorem valOf_append : ∀ (a b : List UInt8) (m : Nat), valOf (a ++ b) m = valOf b (valOf a m)
  | [], _, _ => rfl
  | c :: a, b, m => by rw [List.cons_append, valOf, valOf, valOf_append a b]
theorem valOf_zeros : ∀ (k m : Nat), valOf (List.replicate k 48) m = m * 10 ^ k
  | 0, m => by simp [valOf]
  | k + 1, m => by
    rw [List.replicate_succ, valOf, valOf_zeros k, show (48 : UInt8).toNat - 48 = 0 from rfl, Nat.pow_succ', Nat.add_zero, Nat.mul_assoc]
theorem valOf_lt : ∀ (l : List UInt8) (m k : Nat), (∀ x ∈ l, isDig x = true) → m < 10 ^ k → valOf l m < 10 ^ (k + l.length)
  | [], m, k, _, h => h
  | c :: l, m, k, hd, h => by
    have hc := dig_bounds (hd c (by simp))
    rw [valOf, List.length_cons, show k + (l.length + 1) = (k + 1) + l.length by omega]
    refine valOf_lt l _ (k + 1) (fun x hx => hd x (by simp [hx])) ?_
    rw [Nat.pow_succ]
    omega
theorem valOf_ge : ∀ (l : List UInt8) (m : Nat), m ≤ valOf l m
  | [], m => Nat.le_refl _
  | c :: l, m => by
    rw [valOf]
    exact Nat.le_trans (by omega) (valOf_ge l _)
theorem scan_digs : ∀ (l r : List UInt8) (m nd : Nat) (dp : Int) (dot dig : Bool), (∀ x ∈ l, isDig x = true) → (1 ≤ nd ∨ l.getD 0 0 ≠ 48) → m < 10 ^ nd → nd + l.length ≤ 18 →
    scan (l ++ r) ⟨m, nd, dp, dot, dig⟩ = scan r ⟨valOf l m, nd + l.length, dp, dot, dig || !l.isEmpty⟩
  | [], r, m, nd, dp, dot, dig, _, _, _, _ => by simp [valOf]
  | c :: l, r, m, nd, dp, dot, dig, hd, h0, hm, hn => by
    have hc := hd c (by simp)
    have hb := dig_bounds hc
    have h46 : c ≠ 46 := fun h => by rw [h] at hc; cases hc
    have h48 : ¬ (c = 48 ∧ nd = 0) := fun ⟨h1, h2⟩ => by
      rcases h0 with h | h
      · omega
      · exact h (by rw [h1]; rfl)
    have hnd : nd < 18 := by simp only [List.length_cons] at hn; omega
    have hm9 : m < 100000000000000000 := Nat.lt_of_lt_of_le hm (Nat.pow_le_pow_right (n := 10) (j := 17) (by omega) (by omega))
    have h10 : m * 10 + (c.toNat - 48) < 10 ^ (nd + 1) := by rw [Nat.pow_succ]; omega
    rw [List.cons_append, scan, if_neg h46, if_neg (by rw [hc]; decide), if_neg h48, if_pos ⟨hnd, hm9⟩]
    show scan (l ++ r) ⟨m * 10 + (c.toNat - 48), nd + 1, dp, dot, true⟩ = _
    rw [scan_digs l r _ (nd + 1) dp dot true (fun x hx => hd x (by simp [hx])) (.inl (by omega)) h10 (by simp only [List.length_cons] at hn; omega)]
    simp [valOf, Nat.add_assoc, Nat.add_comm 1]
theorem scan_zeros : ∀ (k : Nat) (r : List UInt8) (dp : Int) (dot dig : Bool), -900 ≤ dp - k → dp ≤ 100 →
    scan (List.replicate k 48 ++ r) ⟨0, 0, dp, dot, dig⟩ = scan r ⟨0, 0, dp - k, dot, dig || decide (0 < k)⟩
  | 0, r, dp, dot, dig, _, _ => by simp
  | k + 1, r, dp, dot, dig, h, h9 => by
    rw [List.replicate_succ, List.cons_append, scan, if_neg (by decide), if_neg (by decide), if_pos ⟨rfl, rfl⟩]
    show (if dp ≤ -1000 then none else scan (List.replicate k 48 ++ r) ⟨0, 0, dp - 1, dot, true⟩) = _
    rw [if_neg (by omega), scan_zeros k r (dp - 1) dot true (by omega) (by omega), show dp - 1 - (k : Int) = dp - ((k + 1 : Nat) : Int) by omega]
    simp
theorem scan_point (r : List UInt8) (m nd : Nat) (dp : Int) (dig : Bool) : scan (46 :: r) ⟨m, nd, dp, false, dig⟩ = scan r ⟨m, nd, nd, true, dig⟩ := by
  rw [scan, if_pos rfl]
  rfl
theorem dec_val : ∀ D : Nat, valOf (decDigits D) 0 = D := by
  intro D
  induction D using Nat.strongRecOn with
  | ind D ih =>
    have hu : ∀ n : Nat, n < 10 → (UInt8.ofNat (48 + n)).toNat - 48 = n := by decide
    rw [decDigits]
    split
    · rename_i h
      simp [valOf]
      omega
    · rename_i h
      rw [valOf_append, ih (D / 10) (by omega), valOf, valOf, hu _ (by omega)]
      omega
theorem take_nz (l : List UInt8) : ∀ k, k ≤ l.length → l.take k = l.take (nzLen l k) ++ List.replicate (k - nzLen l k) 48
  | 0, _ => rfl
  | j + 1, h => by
    by_cases h1 : l.getD j 0 = 48
    · have hle := nzLen_le l j
      rw [nzLen_hit h1, show j + 1 - nzLen l j = (j - nzLen l j) + 1 by omega, List.replicate_succ', ← List.append_assoc, ← take_nz l j (by omega), List.take_add_one, List.getElem?_eq_getElem (by omega)]
      rw [List.getD_eq_getElem?_getD, List.getElem?_eq_getElem (by omega)] at h1
      simp at h1
      simp [h1]
    · rw [nzLen_miss h1]
      simp
theorem kept_split (D : Nat) : decDigits D = kept D ++ List.replicate (nDigits D - (kept D).length) 48 := by
  have h := take_nz (decDigits D) (nDigits D) (by rw [decDigits_length]; omega)
  rw [List.take_of_length_le (by rw [decDigits_length]; omega)] at h
  rw [kept_len]
  exact h
theorem kept_val (D : Nat) : valOf (kept D) 0 * 10 ^ (nDigits D - (kept D).length) = D := by
  have h := dec_val D
  rw [kept_split D, valOf_append, valOf_zeros] at h
  exact h
theorem kept_head (D : Nat) (h : 1 ≤ D) : (kept D).getD 0 0 ≠ 48 := by
  have h1 := kept_pos D h
  have h2 := dec_head D h
  rw [kept_split D, List.getD_eq_getElem?_getD, List.getElem?_append_left (by omega), ← List.getD_eq_getElem?_getD] at h2
  exact h2
theorem kept_le (D : Nat) : (kept D).length ≤ nDigits D := by rw [kept_len]; exact nzLen_le _ _
theorem expo_val (a : Nat) (h : a < 1000) : expVal (expoN a) 0 = some a := by
  have : ∀ a : Fin 1000, expVal (expoN a.val) 0 = some a.val := by decide +kernel
  exact this ⟨a, h⟩
theorem expo_len (a : Nat) : 1 ≤ (expoN a).length := by
  unfold expoN
  repeat' split
  all_goals simp
end Go.Proofs.YtikpgglbfpdhmaaGreatDoor

namespace Go.Proofs.YtikpgglbfpdhmaaGreatDoor
open Go.Lib

theorem b10_mono {a b : Int} (h : a ≤ b) : b10 a ≤ b10 b := by
  obtain ⟨n, hn⟩ := Int.eq_ofNat_of_zero_le (show 0 ≤ b - a by omega)
  rw [show b = a + (n : Int) by omega, b10_add, b10_nat]
  have h1 := b10_pos a
  have h2 : (1 : Rat) ≤ ((10 ^ n : Nat) : Rat) := by
    have : ((1 : Nat) : Rat) ≤ ((10 ^ n : Nat) : Rat) := Rat.natCast_le_natCast.2 (Nat.one_le_pow _ _ (by omega))
    simpa using this
  have h3 := Rat.mul_le_mul_of_nonneg_left h2 (Rat.le_of_lt h1)
  grind
theorem dbl_cast (a b : Nat) (h : (a : Rat) ≤ 2 * (b : Rat)) : a ≤ 2 * b := by
  have : (a : Rat) ≤ ((2 * b : Nat) : Rat) := by rw [Rat.natCast_mul]; exact h
  exact Rat.natCast_le_natCast.1 this
def tenTo (n : Nat) : Nat := 10 ^ n
def twoTo (n : Nat) : Nat := 2 ^ n
theorem b10_tens (n : Nat) : b10 (n : Int) = ((tenTo n : Nat) : Rat) := b10_nat n
theorem b2_twos (n : Nat) : b2 (n : Int) = ((twoTo n : Nat) : Rat) := b2_nat n
theorem place_top : ¬ (2 * tenTo 311 ≤ 18014398509481984 * twoTo 971) := by decide +kernel
theorem place_low : ¬ (tenTo 328 ≤ 2 * twoTo 1074) := by decide +kernel
/-- The place of a number near a float. -/
theorem near_place {mt : Nat} {x : Int} (hcan : Canon mt x) (h1 : 1 ≤ mt) (hx : x ≤ 971) {d : Nat} (hd : 1 ≤ d) (hd9 : d < 1000000000000000000) {p : Int} (h : Near mt x ((d : Rat) * b10 p)) : -345 ≤ p ∧ p ≤ 310 := by
  have hd1 : (1 : Rat) ≤ (d : Rat) := cast_le hd
  constructor
  · rcases Int.lt_or_le p (-345) with hp | hp
    · exfalso
      have a1 := near_low h
      have a2 : (1 : Rat) ≤ (mt : Rat) := cast_le h1
      have a3 : 1 * b2 x ≤ (2 * (mt : Rat) - 1) * b2 x := (mul_le_iff (b2_pos x)).2 (by grind)
      have a4 : b2 (-1074) ≤ b2 x := b2_mono hcan.2.1
      have a5 : b10 p ≤ b10 (-346) := b10_mono (by omega)
      have a6 : (d : Rat) ≤ b10 18 := by
        rw [show (18 : Int) = ((18 : Nat) : Int) from rfl, b10_nat]
        exact cast_le (by have : (10 : Nat) ^ 18 = 1000000000000000000 := by decide
                          omega)
      have a7 : (d : Rat) * b10 p ≤ b10 18 * b10 (-346) := by
        have e1 : (d : Rat) * b10 p ≤ b10 18 * b10 p := (mul_le_iff (b10_pos p)).2 a6
        have e2 := Rat.mul_le_mul_of_nonneg_left a5 (Rat.le_of_lt (b10_pos 18))
        exact Rat.le_trans e1 e2
      rw [← b10_add, show (18 : Int) + -346 = -328 by decide] at a7
      have a8 : b2 (-1074) ≤ 2 * b10 (-328) := by grind
      have a9 : b2 (-1074) * b2 ((1074 : Nat) : Int) = 1 := by rw [← b2_add, show (-1074 : Int) + ((1074 : Nat) : Int) = 0 by decide, b2_zero]
      have a10 : b10 (-328) * b10 ((328 : Nat) : Int) = 1 := by rw [← b10_add, show (-328 : Int) + ((328 : Nat) : Int) = 0 by decide, b10_zero]
      have p1 := b2_pos ((1074 : Nat) : Int)
      have p2 := b10_pos ((328 : Nat) : Int)
      have a11 := (mul_le_iff (b10_pos ((328 : Nat) : Int))).2 ((mul_le_iff (b2_pos ((1074 : Nat) : Int))).2 a8)
      have a12 : b10 ((328 : Nat) : Int) ≤ 2 * b2 ((1074 : Nat) : Int) := by
        have e1 : b2 (-1074) * b2 ((1074 : Nat) : Int) * b10 ((328 : Nat) : Int) = b10 ((328 : Nat) : Int) := by rw [a9]; grind
        have e2 : 2 * b10 (-328) * b2 ((1074 : Nat) : Int) * b10 ((328 : Nat) : Int) = 2 * (b10 (-328) * b10 ((328 : Nat) : Int)) * b2 ((1074 : Nat) : Int) := by grind
        rw [e1, e2, a10] at a11
        grind
      obtain ⟨A, hA, hA2⟩ : ∃ A : Nat, b10 ((328 : Nat) : Int) = (A : Rat) ∧ A = tenTo 328 := ⟨_, b10_tens 328, rfl⟩
      obtain ⟨B, hB, hB2⟩ : ∃ B : Nat, b2 ((1074 : Nat) : Int) = (B : Rat) ∧ B = twoTo 1074 := ⟨_, b2_twos 1074, rfl⟩
      rw [hA, hB] at a12
      have a13 := dbl_cast A B a12
      rw [hA2, hB2] at a13
      exact place_low a13
    · exact hp
  · rcases Int.lt_or_le 310 p with hp | hp
    · exfalso
      have a1 := h.up
      have a2 : (mt : Rat) ≤ 9007199254740991 := cast_le (show mt ≤ 9007199254740991 by have := hcan.1; omega)
      have a3 : b2 x ≤ b2 ((971 : Nat) : Int) := b2_mono hx
      have a4 : b10 ((311 : Nat) : Int) ≤ b10 p := b10_mono (by omega)
      have a5 : 1 * b10 p ≤ (d : Rat) * b10 p := (mul_le_iff (b10_pos p)).2 hd1
      have a6 : (2 * (mt : Rat) + 1) * b2 x ≤ 18014398509481984 * b2 x := (mul_le_iff (b2_pos x)).2 (by grind)
      have a7 : (18014398509481984 : Rat) * b2 x ≤ 18014398509481984 * b2 ((971 : Nat) : Int) := Rat.mul_le_mul_of_nonneg_left a3 (by decide)
      have a8 : 2 * b10 ((311 : Nat) : Int) ≤ 18014398509481984 * b2 ((971 : Nat) : Int) := by grind
      obtain ⟨A, hA, hA2⟩ : ∃ A : Nat, b10 ((311 : Nat) : Int) = (A : Rat) ∧ A = tenTo 311 := ⟨_, b10_tens 311, rfl⟩
      obtain ⟨B, hB, hB2⟩ : ∃ B : Nat, b2 ((971 : Nat) : Int) = (B : Rat) ∧ B = twoTo 971 := ⟨_, b2_twos 971, rfl⟩
      rw [hA, hB] at a8
      have a13 : ((2 * A : Nat) : Rat) ≤ ((18014398509481984 * B : Nat) : Rat) := by rw [Rat.natCast_mul, Rat.natCast_mul]; exact a8
      have a14 := Rat.natCast_le_natCast.1 a13
      rw [hA2, hB2] at a14
      exact place_top a14
    · exact hp
/-- A text, with its mark. -/
def digL (S : List UInt8) : List UInt8 := if marks S = true then S else S ++ [46, 48]
/-- A text that is read as a number. -/
def Reads (neg : Bool) (S : List UInt8) (V : Rat) : Prop := ∃ P E F x, S = sgn neg ++ (P ++ E) ∧ scan P ⟨0, 0, 0, false, false⟩ = some F ∧ F.dig = true ∧ ExpText E x ∧ 1 ≤ F.m ∧ F.m < 1000000000000000000 ∧ (F.m : Rat) * b10 ((if F.dot then F.dp else F.nd) + x - F.nd) = V
theorem marks_mem {S : List UInt8} {b : UInt8} (h : b ∈ S) (hb : b = 46 ∨ b = 101) : marks S = true := by
  unfold marks
  refine List.any_eq_true.2 ⟨b, h, ?_⟩
  rcases hb with rfl | rfl <;> rfl
theorem marks_none {S : List UInt8} (h : ∀ b ∈ S, b ≠ 46 ∧ b ≠ 101) : marks S = false := by
  unfold marks
  refine List.any_eq_false.2 fun b hb => ?_
  have := h b hb
  simp [this.1, this.2]
theorem dig_no {b : UInt8} (h : isDig b = true) : b ≠ 46 ∧ b ≠ 101 := by
  constructor <;> (rintro rfl; cases h)
theorem expText_of (y : Int) (h : -999 ≤ y ∧ y ≤ 999) : ExpText (101 :: expo y) y := by
  refine .inr ⟨decide (y < 0), expoN y.natAbs, y.natAbs, ?_, expo_len _, expo_val _ (by omega), by omega, ?_⟩
  · unfold expo
    by_cases h1 : y < 0
    · rw [if_pos h1, if_pos (by simpa using h1)]
    · rw [if_neg h1, if_neg (by simpa using h1)]
  · by_cases h1 : y < 0
    · rw [if_pos (by simpa using h1)]; omega
    · rw [if_neg (by simpa using h1)]; omega
theorem text_reads (neg : Bool) (ds : List UInt8) (dp : Int) (hd : ∀ x ∈ ds, isDig x = true) (h0 : ds.getD 0 0 ≠ 48) (hn : 1 ≤ ds.length) (hn9 : ds.length ≤ 18) (hv : 1 ≤ valOf ds 0) (hdp : -900 ≤ dp ∧ dp ≤ 900) :
    Reads neg (digL (gform neg ds dp)) ((valOf ds 0 : Rat) * b10 (dp - ds.length)) := by
  have hv9 : valOf ds 0 < 10 ^ ds.length := by have := valOf_lt ds 0 0 hd (by decide); simpa using this
  have hv8 : valOf ds 0 < 1000000000000000000 := Nat.lt_of_lt_of_le hv9 (Nat.pow_le_pow_right (n := 10) (j := 18) (by omega) hn9)
  unfold gform
  by_cases hc : dp < -3 ∨ 7 ≤ dp
  · rw [if_pos hc]
    obtain ⟨c, l, rfl⟩ : ∃ c l, ds = c :: l := by
      cases ds with
      | nil => simp at hn
      | cons c l => exact ⟨c, l, rfl⟩
    have hm : marks (eform neg (c :: l) dp) = true := marks_mem (b := 101) (by unfold eform; simp) (.inr rfl)
    unfold digL
    rw [if_pos hm]
    have hx := expText_of (dp - 1) (by omega)
    cases l with
    | nil =>
      refine ⟨[c], 101 :: expo (dp - 1), ⟨valOf [c] 0, 0 + 1, 0, false, false || true⟩, dp - 1, by unfold eform; simp, ?_, rfl, hx, hv, hv8, ?_⟩
      · have := scan_digs [c] [] 0 0 0 false false hd (.inr h0) (by decide) (by simp)
        simpa [scan] using this
      · show ((valOf [c] 0 : Nat) : Rat) * b10 ((((0 + 1 : Nat)) : Int) + (dp - 1) - ((0 + 1 : Nat) : Int)) = _
        congr 2
        simp
        omega
    | cons c2 l =>
      refine ⟨c :: 46 :: c2 :: l, 101 :: expo (dp - 1), ⟨valOf (c :: c2 :: l) 0, (c :: c2 :: l).length, 1, true, true⟩, dp - 1, by unfold eform; simp, ?_, rfl, hx, hv, hv8, ?_⟩
      · have s1 := scan_digs [c] (46 :: c2 :: l) 0 0 0 false false (fun x hx => hd x (by simp at hx; simp [hx])) (.inr h0) (by decide) (by simp)
        rw [List.singleton_append] at s1
        rw [s1, scan_point]
        have hb := dig_bounds (hd c (by simp))
        have s2 := scan_digs (c2 :: l) [] (valOf [c] 0) (0 + [c].length) ((0 + [c].length : Nat) : Int) true (false || ![c].isEmpty) (fun x hx => hd x (by simp only [List.mem_cons] at hx ⊢; exact .inr hx)) (.inl (by simp)) (by show 0 * 10 + (c.toNat - 48) < 10 ^ 1; omega) (by simp at hn9 ⊢; omega)
        rw [List.append_nil] at s2
        rw [s2]
        show some _ = some _
        congr 2
        simp; omega
      · show _ * b10 (1 + (dp - 1) - ((c :: c2 :: l).length : Int)) = _
        congr 2
        omega
  · rw [if_neg hc]
    by_cases hp : 0 < dp
    · obtain ⟨q, rfl⟩ : ∃ q : Nat, dp = (q : Int) := ⟨dp.toNat, by omega⟩
      by_cases hq : q < ds.length
      · have e1 : fform neg ds q = sgn neg ++ ((ds.take q ++ 46 :: ds.drop q) ++ []) := by
          unfold fform
          rw [if_pos hp, if_pos (by omega), Int.toNat_natCast, show q - ds.length = 0 by omega, show (-(q : Int)).toNat = 0 by omega]
          simp
        have hm : marks (fform neg ds q) = true := marks_mem (b := 46) (by rw [e1]; simp) (.inl rfl)
        unfold digL
        rw [if_pos hm]
        have h0' : (ds.take q).getD 0 0 ≠ 48 := by
          rw [List.getD_eq_getElem?_getD, List.getElem?_take, if_pos (by omega), ← List.getD_eq_getElem?_getD]; exact h0
        have hl : (ds.take q).length = q := by rw [List.length_take]; omega
        have hl2 : (ds.drop q).length = ds.length - q := List.length_drop ..
        have ev : valOf (ds.drop q) (valOf (ds.take q) 0) = valOf ds 0 := by rw [← valOf_append, List.take_append_drop]
        refine ⟨ds.take q ++ 46 :: ds.drop q, [], ⟨valOf ds 0, ds.length, q, true, true⟩, 0, e1, ?_, rfl, .inl ⟨rfl, rfl⟩, hv, hv8, ?_⟩
        · have hlt := valOf_lt (ds.take q) 0 0 (fun x hx => hd x (List.mem_of_mem_take hx)) (by decide)
          rw [scan_digs (ds.take q) (46 :: ds.drop q) 0 0 0 false false (fun x hx => hd x (List.mem_of_mem_take hx)) (.inr h0') (by decide) (by omega), scan_point]
          have s2 := scan_digs (ds.drop q) [] (valOf (ds.take q) 0) (0 + (ds.take q).length) ((0 + (ds.take q).length : Nat) : Int) true (false || !(ds.take q).isEmpty) (fun x hx => hd x (List.mem_of_mem_drop hx)) (.inl (by omega)) hlt (by omega)
          rw [List.append_nil] at s2
          rw [s2, ev]
          show some _ = some _
          have hne : (ds.take q).isEmpty = false := by
            cases hh : ds.take q with
            | nil => rw [hh] at hl; simp at hl; omega
            | cons a b => rfl
          rw [hl, hl2, hne]
          congr 2
          · omega
          · omega
        · show _ * b10 ((q : Int) + 0 - (ds.length : Int)) = _
          rw [Int.add_zero]
      · have e1 : fform neg ds q = sgn neg ++ (ds ++ List.replicate (q - ds.length) 48) := by
          unfold fform
          rw [if_pos hp, if_neg (by omega), Int.toNat_natCast, List.take_of_length_le (by omega)]
          simp
        have hm : marks (fform neg ds q) = false := marks_none fun b hb => by
          rw [e1] at hb
          simp only [List.mem_append] at hb
          rcases hb with hb | hb | hb
          · cases neg
            · cases hb
            · rw [show sgn true = [45] from rfl, List.mem_singleton] at hb; subst hb; decide
          · exact dig_no (hd b hb)
          · rw [List.eq_of_mem_replicate hb]; decide
        unfold digL
        rw [if_neg (by rw [hm]; decide), e1]
        have hz : ∀ x ∈ ds ++ List.replicate (q - ds.length) 48, isDig x = true := fun x hx => by
          rcases List.mem_append.1 hx with hx | hx
          · exact hd x hx
          · rw [List.eq_of_mem_replicate hx]; rfl
        have hzl : (ds ++ List.replicate (q - ds.length) 48).length = q := by rw [List.length_append, List.length_replicate]; omega
        have hz0 : (ds ++ List.replicate (q - ds.length) 48).getD 0 0 ≠ 48 := by
          rw [List.getD_eq_getElem?_getD, List.getElem?_append_left (by omega), ← List.getD_eq_getElem?_getD]; exact h0
        have hzv : valOf (ds ++ List.replicate (q - ds.length) 48) 0 = valOf ds 0 * 10 ^ (q - ds.length) := by rw [valOf_append, valOf_zeros]
        have hzp : 1 ≤ 10 ^ (q - ds.length) := Nat.one_le_pow _ _ (by omega)
        have hz1 : 1 ≤ valOf ds 0 * 10 ^ (q - ds.length) := Nat.mul_pos hv hzp
        have hz9 : valOf ds 0 * 10 ^ (q - ds.length) < 10 ^ q := by
          have := valOf_lt _ 0 0 hz (by decide)
          rw [hzv, hzl] at this
          simpa using this
        have hq6 : 10 ^ q ≤ 10 ^ 6 := Nat.pow_le_pow_right (by omega) (by omega)
        refine ⟨(ds ++ List.replicate (q - ds.length) 48) ++ [46, 48], [], ⟨valOf ds 0 * 10 ^ (q - ds.length) * 10, q + 1, q, true, true⟩, 0, by simp, ?_, rfl, .inl ⟨rfl, rfl⟩, by show 1 ≤ valOf ds 0 * 10 ^ (q - ds.length) * 10; omega, by show valOf ds 0 * 10 ^ (q - ds.length) * 10 < 1000000000000000000; omega, ?_⟩
        · rw [scan_digs _ [46, 48] 0 0 0 false false hz (.inr hz0) (by decide) (by omega), scan_point, hzv, hzl]
          have s2 := scan_digs [48] [] (valOf ds 0 * 10 ^ (q - ds.length)) (0 + q) ((0 + q : Nat) : Int) true (false || !(ds ++ List.replicate (q - ds.length) 48).isEmpty) (by simp; rfl) (.inl (by omega)) (by rw [Nat.zero_add]; exact hz9) (by simp; omega)
          rw [List.append_nil] at s2
          rw [s2]
          show some _ = some _
          congr 2
          · show (0 + q) + 1 = q + 1; omega
          · omega
          · simp
        · show ((valOf ds 0 * 10 ^ (q - ds.length) * 10 : Nat) : Rat) * b10 ((q : Int) + 0 - ((q + 1 : Nat) : Int)) = _
          rw [show valOf ds 0 * 10 ^ (q - ds.length) * 10 = valOf ds 0 * 10 ^ (q - ds.length + 1) by rw [Nat.pow_succ, Nat.mul_assoc], Rat.natCast_mul, ← b10_nat, Rat.mul_assoc, ← b10_add]
          congr 2
          omega
    · obtain ⟨k, hk⟩ : ∃ k : Nat, dp = -(k : Int) := ⟨(-dp).toNat, by omega⟩
      have e1 : fform neg ds dp = sgn neg ++ ((48 :: 46 :: (List.replicate k 48 ++ ds)) ++ []) := by
        unfold fform
        rw [if_neg hp, if_pos (by omega), show (-dp).toNat = k by omega, show dp.toNat = 0 by omega]
        simp
      have hm : marks (fform neg ds dp) = true := marks_mem (b := 46) (by rw [e1]; simp) (.inl rfl)
      unfold digL
      rw [if_pos hm]
      refine ⟨48 :: 46 :: (List.replicate k 48 ++ ds), [], ⟨valOf ds 0, ds.length, dp, true, true⟩, 0, e1, ?_, rfl, .inl ⟨rfl, rfl⟩, hv, hv8, ?_⟩
      · have s0 := scan_zeros 1 (46 :: (List.replicate k 48 ++ ds)) 0 false false (by omega) (by omega)
        rw [show List.replicate 1 (48 : UInt8) ++ 46 :: (List.replicate k 48 ++ ds) = 48 :: 46 :: (List.replicate k 48 ++ ds) from rfl] at s0
        rw [s0, scan_point, scan_zeros k ds _ true _ (by omega) (by omega)]
        have s2 := scan_digs ds [] 0 0 (((0 : Nat) : Int) - (k : Int)) true (false || decide (0 < 1) || decide (0 < k)) hd (.inr h0) (by decide) (by omega)
        rw [List.append_nil] at s2
        rw [s2]
        show some _ = some _
        congr 2
        all_goals first | omega | simp
      · show _ * b10 (dp + 0 - (ds.length : Int)) = _
        rw [Int.add_zero]
/-- A printed number is read as itself. -/
theorem print_reads (neg : Bool) (D : Nat) (h1 : 1 ≤ D) (h9 : D < 1000000000000000000) (Q : Int) (hq : -400 ≤ Q ∧ Q ≤ 400) : Reads neg (digL (gform neg (kept D) (nDigits D + Q))) ((D : Rat) * b10 Q) := by
  have hk := kept_val D
  have hle := kept_le D
  have hn : nDigits D ≤ 18 := nDigits_lt 18 D (by omega) (by omega)
  have hv : 1 ≤ valOf (kept D) 0 := by
    rcases Nat.eq_zero_or_pos (valOf (kept D) 0) with h | h
    · rw [h, Nat.zero_mul] at hk; omega
    · exact h
  have := text_reads neg (kept D) (nDigits D + Q) (kept_dig D) (kept_head D h1) (kept_pos D h1) (by omega) hv (by omega)
  have e : ((valOf (kept D) 0 : Nat) : Rat) * b10 ((nDigits D : Int) + Q - ((kept D).length : Int)) = (D : Rat) * b10 Q := by
    conv => rhs; rw [← hk]
    rw [Rat.natCast_mul, ← b10_nat, Rat.mul_assoc, ← b10_add]
    congr 2
    omega
  rw [e] at this
  exact this
end Go.Proofs.YtikpgglbfpdhmaaGreatDoor

namespace Go.Proofs.YtikpgglbfpdhmaaGreatDoor
open Go.RowKit Go.Joins

def widthOk (k : Nat) : Bool :=
  let e : Int := (k : Int) - 1137
  let i := (pOf e + 348).toNat
  let s := (-(e + lpw (pOf e) + 3)).toNat
  decide (tenD i * 2 ^ (128 + s) * 4 < 2 ^ zOf e * tenN i) || (decide (e = -11) && decide (tenD i * 2 ^ (128 + s) * 4 ≤ 2 ^ zOf e * tenN i))
theorem width_keeps : allFrom widthOk 2098 0 = true := by decide +kernel
def pSk (e : Int) : Int := -(((e + 11) * 631305 - 261663) / 2097152)
def offOk (r g m : Nat) : Bool := decide (r = 0) || (decide (g ≤ r) && decide (r + g ≤ m))
def skewOk (k : Nat) : Bool :=
  let e : Int := (k : Int) - 1084
  let i := (pSk e + 348).toNat
  let s := (-(e + lpw (pSk e) + 3)).toNat
  let m := tenD i * 2 ^ (128 + s)
  offOk (9223372036854775808 * tenN i % m) (tenD i * 36893488147419103232) m && offOk (9223372036854775296 * tenN i % m) (tenD i * 36893488147419103232) m && offOk (9223372036854776832 * tenN i % m) (tenD i * 36893488147419103232) m && decide (m * 4 ≤ 1536 * tenN i)
theorem skew_keeps : allFrom skewOk 2045 0 = true := by decide +kernel
theorem short_near_of (m mn mx o : Nat) (e p z : Int) (he : -1137 ≤ e ∧ e ≤ 960) (hz : 11 ≤ z ∧ z ≤ 63) (hez : e + z = -1074 ∨ z = 11)
    (hpp : p = -((e + z) * 78913 / 262144) ∨ p = -(((e + z) * 631305 - 261663) / 2097152))
    (hm : 9223372036854775808 ≤ m ∧ m < 18446744073709551616) (hmn : 4611686018427387904 ≤ mn ∧ mn < 18446744073709551616) (hmx : 9223372036854775808 ≤ mx ∧ mx < 18446744073709551616) (ho : o ≤ 1)
    (HC : Hid ((m = 9223372036854775808 → -1085 < e → -(((e + 11) * 631305 - 261663) / 2097152) = p ∧ (9223372036854775296 : Int) = mn ∧ (9223372036854776832 : Int) = mx ∧ bits BinOp.and IntKind.i64 4503599627370496 1 = o) ∧
      (¬ (m = 9223372036854775808 ∧ -1085 < e) → -1085 ≤ e → -((e + 11) * 78913 / 262144) = p ∧ (m : Int) - 1024 = mn ∧ IntKind.u64.wrap ((m : Int) + 1024) = mx ∧ bits BinOp.and IntKind.i64 ((m : Int) / 2048) 1 = o) ∧
      (e < -1085 → -((e + (11 + (-1085 - e))) * 78913 / 262144) = p ∧ IntKind.u64.wrap ((m : Int) - IntKind.u64.wrap (2 ^ ((11 + (-1085 - e)).toNat - 1))) = mn ∧
        IntKind.u64.wrap ((m : Int) + IntKind.u64.wrap (2 ^ ((11 + (-1085 - e)).toNat - 1))) = mx ∧ bits BinOp.and IntKind.i64 (wrap64 ((m : Int) / 2 ^ (11 + (-1085 - e)).toNat)) 1 = o)))  (hc : 2 * (m : Int) = mn + mx ∨ (o = 0 ∧ 3 * (m : Int) = 2 * mn + mx))
    (hgap : ∀ x, x = mn ∨ x = mx ∨ x = m → x * tenN (p + 348).toNat % (tenD (p + 348).toNat * 2 ^ (128 + (-(e + lpw p + 3)).toNat)) = 0 ∨
      (tenD (p + 348).toNat * 36893488147419103232 ≤ x * tenN (p + 348).toNat % (tenD (p + 348).toNat * 2 ^ (128 + (-(e + lpw p + 3)).toNat)) ∧
        x * tenN (p + 348).toNat % (tenD (p + 348).toNat * 2 ^ (128 + (-(e + lpw p + 3)).toNat)) + tenD (p + 348).toNat * 36893488147419103232 ≤ tenD (p + 348).toNat * 2 ^ (128 + (-(e + lpw p + 3)).toNat)))
    (hw : (mn : Rat) * b2 e * b10 p + 1 ≤ (mx : Rat) * b2 e * b10 p) (hw1 : o = 1 → (mn : Rat) * b2 e * b10 p + 1 < (mx : Rat) * b2 e * b10 p ∨ ∀ k : Nat, (mn : Rat) * b2 e * b10 p ≠ k) :
    ∃ D Q, Short m e D Q ∧ (mn : Rat) * b2 e * b10 p ≤ (D : Rat) * b10 Q * b10 p ∧ (D : Rat) * b10 Q * b10 p ≤ (mx : Rat) * b2 e * b10 p ∧ (o = 1 → (mn : Rat) * b2 e * b10 p < (D : Rat) * b10 Q * b10 p ∧ (D : Rat) * b10 Q * b10 p < (mx : Rat) * b2 e * b10 p) := by
  have hsm := shift_small e z p _ he.1 he.2 hz hez hpp rfl
  have hs4 : 4 ≤ -(e + p * 108853 / 32768 + 3) := by
    rcases hpp with rfl | rfl <;> omega
  obtain ⟨s, es⟩ : ∃ s : Nat, -(e + p * 108853 / 32768 + 3) = (s : Int) := ⟨(-(e + p * 108853 / 32768 + 3)).toNat, by omega⟩
  obtain ⟨i, ei⟩ : ∃ i : Nat, p = (i : Int) - 348 := ⟨(p + 348).toNat, by omega⟩
  have hi9 : i < 696 := by omega
  have ht := tab_ok i hi9
  have hp60 := pow60 s (by omega)
  have hs : 4 ≤ s ∧ s < 64 := by omega
  generalize hhi : phi i = hi at *
  generalize hlo : plo i = lo at *
  have gm := high_ge m hi 4611686018427387904 (by omega) ht.1
  have gmn := high_ge mn hi 2305843009213693952 (by omega) ht.1
  have gmx := high_ge mx hi 4611686018427387904 (by omega) ht.1
  obtain ⟨u1, e1, _⟩ := usc_nat mn hi lo s hmn.2 ht.2.1
  obtain ⟨u2, e2, _⟩ := usc_nat mx hi lo s hmx.2 ht.2.1
  obtain ⟨u3, e3, _⟩ := usc_nat m hi lo s hm.2 ht.2.1
  have l1 := usc_ge 1 mn hi lo s hmn.2 ht.2.1 (by omega)
  have l2 := usc_ge 1 mx hi lo s hmx.2 ht.2.1 (by omega)
  have l3 := usc_ge 3 m hi lo s hm.2 ht.2.1 (by omega)
  have k1 := usc_lt mn hi lo s hmn.2 ht.2.1 hs.1 (by omega)
  have k2 := usc_lt mx hi lo s hmx.2 ht.2.1 hs.1 (by omega)
  have k3 := usc_lt m hi lo s hm.2 ht.2.1 hs.1 (by omega)
  rw [e1] at l1 k1
  rw [e2] at l2 k2
  rw [e3] at l3 k3
  -- scaling is exact here
  have hten := ten_exact i hi9
  rw [hhi, hlo] at hten
  rw [show (p + 348).toNat = i by omega, show (-(e + lpw p + 3)).toNat = s by unfold lpw; omega] at hgap
  have hhl : lo ≤ hi * 18446744073709551616 := by omega
  have x1 := usc_exact mn hi lo s (tenN i) (tenD i) hmn.2 ht.2.1 ht.2.2 (by omega) hten.1 hten.2.1 hten.2.2 hhl (hgap mn (.inl rfl))
  have x2 := usc_exact mx hi lo s (tenN i) (tenD i) hmx.2 ht.2.1 ht.2.2 (by omega) hten.1 hten.2.1 hten.2.2 hhl (hgap mx (.inr (.inl rfl)))
  have x3 := usc_exact m hi lo s (tenN i) (tenD i) hm.2 ht.2.1 ht.2.2 (by omega) hten.1 hten.2.1 hten.2.2 hhl (hgap m (.inr (.inr rfl)))
  have y1 : u1 = unr (mn * tenN i) (tenD i * 2 ^ (128 + s)) := by rw [e1] at x1; exact_mod_cast x1
  have y2 : u2 = unr (mx * tenN i) (tenD i * 2 ^ (128 + s)) := by rw [e2] at x2; exact_mod_cast x2
  have y3 : u3 = unr (m * tenN i) (tenD i * 2 ^ (128 + s)) := by rw [e3] at x3; exact_mod_cast x3
  have hsi : (s : Int) = -(e + lpw ((i : Int) - 348) + 3) := by rw [← ei]; unfold lpw; omega
  have hpi : b10 p = b10 ((i : Int) - 348) := by rw [ei]
  have hE := ends_of i s e hsi hten.1 mn mx o (by omega) (by rw [← y2]; omega)
  have hN := near_of i s e hsi hten.1 m
  rw [← y1, ← y2, ← hpi] at hE
  rw [← y3, ← hpi] at hN
  have hdm : 1 ≤ (u1 + o + 3) / 4 := by omega
  have hmeet := ends_meet hE (by omega) hdm hw hw1
  have hcr : 2 * ((m : Rat) * b2 e * b10 p) = (mn : Rat) * b2 e * b10 p + (mx : Rat) * b2 e * b10 p ∨ (o = 0 ∧ 3 * ((m : Rat) * b2 e * b10 p) = 2 * ((mn : Rat) * b2 e * b10 p) + (mx : Rat) * b2 e * b10 p) := by
    rcases hc with h | ⟨h0, h⟩
    · left
      have : 2 * (m : Rat) = (mn : Rat) + (mx : Rat) := by
        have h' : ((2 * m : Nat) : Rat) = ((mn + mx : Nat) : Rat) := by rw [show 2 * m = mn + mx by omega]
        rw [Rat.natCast_mul, Rat.natCast_add] at h'
        exact h'
      grind
    · right
      refine ⟨h0, ?_⟩
      have : 3 * (m : Rat) = 2 * (mn : Rat) + (mx : Rat) := by
        have h' : ((3 * m : Nat) : Rat) = ((2 * mn + mx : Nat) : Rat) := by rw [show 3 * m = 2 * mn + mx by omega]
        rw [Rat.natCast_mul, Rat.natCast_add, Rat.natCast_mul] at h'
        exact h'
      grind
  refine ⟨sfD ((u1 + o + 3) / 4) ((u2 - o) / 4) u3, sfQ ((u1 + o + 3) / 4) ((u2 - o) / 4) p, ⟨?_, ?_, ?_, ?_, fun w hT => ?_⟩, chosen hE hdm hmeet hN.1 hN.2 hcr p⟩
  · unfold sfD; split <;> (try split) <;> omega
  · unfold sfD; split <;> (try split) <;> omega
  · unfold sfQ; split <;> omega
  · unfold sfQ; split <;> omega
  · have hT' := hT i hi9
    rw [hhi, hlo] at hT'
    exact shortFloat_is m mn mx u1 u2 u3 i hi lo s o e p he hm hmn.2 hmx.2 ht.2.1 ht.2.2 hs.2 hi9 (by omega) (Lib.hid ei) ho (Lib.hid es) (Lib.hid e1) (Lib.hid e2) (Lib.hid e3) (by omega) (by omega) (by omega) HC w hT'.1 hT'.2
end Go.Proofs.YtikpgglbfpdhmaaGreatDoor

namespace Go.Proofs.YtikpgglbfpdhmaaGreatDoor
open Go.RowKit Go.Joins

theorem gap_of {e : Int} {z : Nat} (he : -1137 ≤ e ∧ e ≤ 960) (hz : zOf e = z) (y : Nat) (hy : y ≤ 2 ^ (65 - z)) :
    y * 2 ^ (z - 1) * tenN (pOf e + 348).toNat % (tenD (pOf e + 348).toNat * 2 ^ (128 + (-(e + lpw (pOf e) + 3)).toNat)) = 0 ∨
      (tenD (pOf e + 348).toNat * 36893488147419103232 ≤ y * 2 ^ (z - 1) * tenN (pOf e + 348).toNat % (tenD (pOf e + 348).toNat * 2 ^ (128 + (-(e + lpw (pOf e) + 3)).toNat)) ∧
        y * 2 ^ (z - 1) * tenN (pOf e + 348).toNat % (tenD (pOf e + 348).toNat * 2 ^ (128 + (-(e + lpw (pOf e) + 3)).toNat)) + tenD (pOf e + 348).toNat * 36893488147419103232 ≤ tenD (pOf e + 348).toNat * 2 ^ (128 + (-(e + lpw (pOf e) + 3)).toNat)) := by
  have h := allFrom_at 2098 0 (e + 1137).toNat print_keeps (by omega) (by omega)
  unfold printOk at h
  have ee : (((e + 1137).toNat : Nat) : Int) - 1137 = e := by omega
  simp only [ee, hz] at h
  have := keeps_off h y hy
  rw [← Nat.mul_assoc] at this
  exact this
theorem b2_split (e : Int) (z : Nat) (x : Int) (h : e + z = x) (k : Nat) (hk : k ≤ z) : ((2 ^ (z - k) : Nat) : Rat) * b2 e = b2 (x - k) := by
  rw [← b2_nat, ← b2_add]
  congr 1
  omega
theorem scale_ge (i s : Nat) (e : Int) (hs : (s : Int) = -(e + lpw ((i : Int) - 348) + 3)) (hD : 1 ≤ tenD i) (x k : Nat) (h : tenD i * 2 ^ (128 + s) * k ≤ x * tenN i) : (k : Rat) ≤ (x : Rat) * b2 e * b10 ((i : Int) - 348) * 4 := by
  have h1 : ¬ x * tenN i < tenD i * 2 ^ (128 + s) * k := by omega
  rw [scale_lt i s e hs hD] at h1
  grind
theorem scale_gt (i s : Nat) (e : Int) (hs : (s : Int) = -(e + lpw ((i : Int) - 348) + 3)) (hD : 1 ≤ tenD i) (x k : Nat) (h : tenD i * 2 ^ (128 + s) * k < x * tenN i) : (k : Rat) < (x : Rat) * b2 e * b10 ((i : Int) - 348) * 4 := by
  have h1 : ¬ x * tenN i ≤ tenD i * 2 ^ (128 + s) * k := by omega
  rw [scale_le i s e hs hD] at h1
  grind
theorem off_of {r g m : Nat} (h : offOk r g m = true) : r = 0 ∨ (g ≤ r ∧ r + g ≤ m) := by
  simpa [offOk] using h
theorem two_b2 (x : Int) : b2 x = 2 * b2 (x - 1) := by
  rw [← b2_succ]; congr 1; omega
theorem cancel10 {v w : Rat} (p : Int) (h : v * b10 p ≤ w * b10 p) : v ≤ w := (mul_le_iff (b10_pos p)).1 h
theorem cancel10' {v w : Rat} (p : Int) (h : v * b10 p < w * b10 p) : v < w := (mul_lt_iff (b10_pos p)).1 h
theorem dbl_le {a b c v : Rat} (t : b = 2 * c) (h : a * c ≤ v) : a * b ≤ 2 * v := by rw [t]; grind
theorem dbl_ge {a b c v : Rat} (t : b = 2 * c) (h : v ≤ a * c) : 2 * v ≤ a * b := by rw [t]; grind
theorem dbl_lt {a b c v : Rat} (t : b = 2 * c) (h : a * c < v) : a * b < 2 * v := by rw [t]; grind
theorem dbl_gt {a b c v : Rat} (t : b = 2 * c) (h : v < a * c) : 2 * v < a * b := by rw [t]; grind
theorem print_near (mt s : Nat) (x : Int) (h1 : 1 ≤ mt) (hmt : mt < 9007199254740992) (hs : 11 ≤ s ∧ s ≤ 63) (hm : 9223372036854775808 ≤ mt * 2 ^ s) (hm2 : mt * 2 ^ s + 2 ^ s ≤ 18446744073709551616) (h11 : 4503599627370496 ≤ mt → s = 11)
    (hx : -1074 ≤ x ∧ x ≤ 971) (hx1 : mt < 4503599627370496 → x = -1074) : ∃ D Q, Short (mt * 2 ^ s) (x - s) D Q ∧ Near mt x ((D : Rat) * b10 Q) := by
  have hp := Nat.two_pow_pos s
  have hs2 : 2 ^ s = 2 * 2 ^ (s - 1) := by rw [← Nat.pow_succ']; congr 1; omega
  have hs11 : 2048 ≤ 2 ^ s := Nat.pow_le_pow_right (n := 2) (i := 11) (by omega) hs.1
  have hs62 : 2 ^ (s - 1) ≤ 4611686018427387904 := Nat.pow_le_pow_right (n := 2) (j := 62) (by omega) (by omega)
  have h12 : mt < 4503599627370496 → 12 ≤ s := fun h => by
    rcases Nat.lt_or_ge s 12 with h2 | h2
    · exfalso
      have : s = 11 := by omega
      rw [this] at hm
      omega
    · exact h2
  have he : -1137 ≤ x - s ∧ x - s ≤ 960 := by
    rcases Nat.lt_or_ge mt 4503599627370496 with h | h
    · have := hx1 h; omega
    · have := h11 h; omega
  have hz : zOf (x - s) = s := by
    unfold zOf
    rcases Nat.lt_or_ge mt 4503599627370496 with h | h
    · have := hx1 h; have := h12 h; rw [if_pos (by omega)]; omega
    · have := h11 h; rw [if_neg (by omega)]; omega
  obtain ⟨e, hee⟩ : ∃ e : Int, e = x - s := ⟨_, rfl⟩
  rw [← hee] at he hz ⊢
  by_cases hsk : mt = 4503599627370496 ∧ -1074 < x
  · -- a power of two: the float below is nearer
    obtain ⟨hmt2, hxx⟩ := hsk
    have hs1 : s = 11 := h11 (by omega)
    subst hs1 hmt2
    have hsk := allFrom_at 2045 0 (e + 1084).toNat skew_keeps (by omega) (by omega)
    unfold skewOk at hsk
    have ee : (((e + 1084).toNat : Nat) : Int) - 1084 = e := by omega
    simp only [ee, Bool.and_eq_true, decide_eq_true_eq] at hsk
    obtain ⟨⟨⟨g1, g2⟩, g3⟩, g4⟩ := hsk
    have hm63 : 4503599627370496 * 2 ^ 11 = 9223372036854775808 := by decide
    rw [hm63]
    have hi : pSk e = (((pSk e + 348).toNat : Nat) : Int) - 348 := by unfold pSk; omega
    have hsh : (((-(e + lpw (pSk e) + 3)).toNat : Nat) : Int) = -(e + lpw (((pSk e + 348).toNat : Nat) - 348) + 3) := by rw [← hi]; unfold lpw pSk; omega
    have hi9 : (pSk e + 348).toNat < 696 := by unfold pSk; omega
    have hten := ten_exact _ hi9
    have hwid := scale_ge _ _ e hsh hten.1 1536 4 g4
    rw [← hi] at hwid
    have hwd : ((9223372036854775296 : Nat) : Rat) * b2 e * b10 (pSk e) + 1 ≤ ((9223372036854776832 : Nat) : Rat) * b2 e * b10 (pSk e) := by
      have q : ((9223372036854776832 : Nat) : Rat) = ((9223372036854775296 : Nat) : Rat) + ((1536 : Nat) : Rat) := by rw [← Rat.natCast_add]
      rw [q]
      have q4 : ((4 : Nat) : Rat) = 4 := rfl
      rw [q4] at hwid
      grind
    obtain ⟨D, Q, hS, l, u, _⟩ := short_near_of 9223372036854775808 9223372036854775296 9223372036854776832 0 e (pSk e) 11 he (by omega) (.inr rfl) (.inr rfl) (by omega) (by omega) (by omega) (by omega)
      (Lib.hid ⟨fun _ _ => ⟨rfl, rfl, rfl, by have := and1i 4503599627370496 (by omega); simpa using this⟩, fun h => absurd ⟨rfl, by omega⟩ h, fun h => by omega⟩)
      (.inr ⟨rfl, by omega⟩) (fun y hy => by
        rcases hy with rfl | rfl | rfl
        · exact off_of g2
        · exact off_of g3
        · exact off_of g1) hwd (fun h => by omega)
    refine ⟨D, Q, hS, ?_⟩
    have l' := cancel10 _ l
    have u' := cancel10 _ u
    have w1 : ((9223372036854775296 : Nat) : Rat) * b2 e = (4 * ((4503599627370496 : Nat) : Rat) - 1) * b2 (x - 2) := by
      have := b2_split e 11 x (by omega) 2 (by omega)
      have q : ((9223372036854775296 : Nat) : Rat) = (4 * ((4503599627370496 : Nat) : Rat) - 1) * ((2 ^ (11 - 2) : Nat) : Rat) := by decide +kernel
      rw [q]; grind
    have w2 : ((9223372036854776832 : Nat) : Rat) * b2 e = (2 * ((4503599627370496 : Nat) : Rat) + 1) * b2 (x - 1) := by
      have := b2_split e 11 x (by omega) 1 (by omega)
      have q : ((9223372036854776832 : Nat) : Rat) = (2 * ((4503599627370496 : Nat) : Rat) + 1) * ((2 ^ (11 - 1) : Nat) : Rat) := by decide +kernel
      rw [q]; grind
    have t1 := two_b2 x
    have t2 : b2 (x - 1) = 2 * b2 (x - 2) := by have := two_b2 (x - 1); rw [show x - 1 - 1 = x - 2 by omega] at this; exact this
    refine ⟨⟨fun _ => ?_, fun h => absurd ⟨rfl, hxx⟩ h⟩, ?_, fun h => by omega⟩
    · rw [w1] at l'
      grind
    · rw [w2] at u'
      grind
  · -- else both are as near
    have cm : (2 * mt - 1) * 2 ^ (s - 1) = mt * 2 ^ s - 2 ^ (s - 1) := by
      rw [Nat.sub_mul, hs2, Nat.one_mul, Nat.mul_comm 2 mt, Nat.mul_assoc]
    have cp : (2 * mt + 1) * 2 ^ (s - 1) = mt * 2 ^ s + 2 ^ (s - 1) := by
      rw [Nat.add_mul, hs2, Nat.one_mul, Nat.mul_comm 2 mt, Nat.mul_assoc]
    have cc : (2 * mt) * 2 ^ (s - 1) = mt * 2 ^ s := by rw [hs2, Nat.mul_comm 2 mt, Nat.mul_assoc]
    have hy : 2 * mt + 1 ≤ 2 ^ (65 - s) := by
      have h3 : (2 * mt + 1) * 2 ^ (s - 1) ≤ 2 ^ (65 - s) * 2 ^ (s - 1) := by
        rw [cp, ← Nat.pow_add, show 65 - s + (s - 1) = 64 by omega]
        omega
      exact Nat.le_of_mul_le_mul_right h3 (Nat.two_pow_pos _)
    have hw := allFrom_at 2098 0 (e + 1137).toNat width_keeps (by omega) (by omega)
    unfold widthOk at hw
    have ee : (((e + 1137).toNat : Nat) : Int) - 1137 = e := by omega
    simp only [ee, hz, Bool.or_eq_true, Bool.and_eq_true, decide_eq_true_eq] at hw
    have hpr : -348 ≤ pOf e ∧ pOf e ≤ 347 := by unfold pOf; rw [hz]; omega
    have hi : pOf e = (((pOf e + 348).toNat : Nat) : Int) - 348 := by omega
    have hsh : (((-(e + lpw (pOf e) + 3)).toNat : Nat) : Int) = -(e + lpw (((pOf e + 348).toNat : Nat) - 348) + 3) := by rw [← hi]; unfold lpw pOf; rw [hz]; omega
    have hten := ten_exact (pOf e + 348).toNat (by omega)
    have q4 : ((4 : Nat) : Rat) = 4 := rfl
    have hadd : ((mt * 2 ^ s + 2 ^ (s - 1) : Nat) : Rat) = ((mt * 2 ^ s - 2 ^ (s - 1) : Nat) : Rat) + ((2 ^ s : Nat) : Rat) := by
      rw [← Rat.natCast_add]
      congr 1
      omega
    have hwd : ((mt * 2 ^ s - 2 ^ (s - 1) : Nat) : Rat) * b2 e * b10 (pOf e) + 1 ≤ ((mt * 2 ^ s + 2 ^ (s - 1) : Nat) : Rat) * b2 e * b10 (pOf e) := by
      have h3 : tenD (pOf e + 348).toNat * 2 ^ (128 + (-(e + lpw (pOf e) + 3)).toNat) * 4 ≤ 2 ^ s * tenN (pOf e + 348).toNat := by
        rcases hw with h | ⟨_, h⟩ <;> omega
      have h4 := scale_ge _ _ e hsh hten.1 (2 ^ s) 4 h3
      rw [← hi, q4] at h4
      rw [hadd]
      grind
    have t1 := two_b2 x
    have w1 : ((mt * 2 ^ s - 2 ^ (s - 1) : Nat) : Rat) * b2 e = (2 * (mt : Rat) - 1) * b2 (x - 1) := by
      have := b2_split e s x (by omega) 1 (by omega)
      have q : ((mt * 2 ^ s - 2 ^ (s - 1) : Nat) : Rat) = (2 * (mt : Rat) - 1) * ((2 ^ (s - 1) : Nat) : Rat) := by
        rw [← cm, cast_mul]
        congr 1
        have : ((2 * mt - 1 : Nat) : Rat) + 1 = 2 * (mt : Rat) := by
          rw [← nat_add_one, show 2 * mt - 1 + 1 = 2 * mt by omega, cast_mul]; rfl
        grind
      rw [q]; grind
    have w2 : ((mt * 2 ^ s + 2 ^ (s - 1) : Nat) : Rat) * b2 e = (2 * (mt : Rat) + 1) * b2 (x - 1) := by
      have := b2_split e s x (by omega) 1 (by omega)
      have q : ((mt * 2 ^ s + 2 ^ (s - 1) : Nat) : Rat) = (2 * (mt : Rat) + 1) * ((2 ^ (s - 1) : Nat) : Rat) := by
        rw [← cp, cast_mul]
        congr 1
        rw [nat_add_one, cast_mul]; rfl
      rw [q]; grind
    have hw1 : mt % 2 = 1 → ((mt * 2 ^ s - 2 ^ (s - 1) : Nat) : Rat) * b2 e * b10 (pOf e) + 1 < ((mt * 2 ^ s + 2 ^ (s - 1) : Nat) : Rat) * b2 e * b10 (pOf e) ∨ ∀ k : Nat, ((mt * 2 ^ s - 2 ^ (s - 1) : Nat) : Rat) * b2 e * b10 (pOf e) ≠ k := by
      intro _
      rcases hw with h | ⟨h, _⟩
      · left
        have h4 := scale_gt _ _ e hsh hten.1 (2 ^ s) 4 (by omega)
        rw [← hi, q4] at h4
        rw [hadd]
        grind
      · right
        intro k hk
        have hs1 : s = 11 := by
          rcases Nat.lt_or_ge mt 4503599627370496 with h5 | h5
          · have := hx1 h5; omega
          · exact h11 h5
        have hp0 : pOf e = 0 := by unfold pOf; rw [hz, h, hs1]; rfl
        have hx0 : x - 1 = -1 := by omega
        rw [w1, hp0, b10_zero, hx0] at hk
        have hb : b2 0 = 2 * b2 (-1) := by have := two_b2 0; exact this
        rw [b2_zero] at hb
        have h6 : 2 * (mt : Rat) = 2 * (k : Rat) + 1 := by grind
        have h7 : ((2 * mt : Nat) : Rat) = ((2 * k + 1 : Nat) : Rat) := by
          rw [nat_add_one, cast_mul, cast_mul]; exact h6
        have := Rat.natCast_inj.1 h7
        omega
    have HCx : Hid ((mt * 2 ^ s = 9223372036854775808 → -1085 < e → -(((e + 11) * 631305 - 261663) / 2097152) = pOf e ∧ (9223372036854775296 : Int) = (mt * 2 ^ s - 2 ^ (s - 1) : Nat) ∧ (9223372036854776832 : Int) = (mt * 2 ^ s + 2 ^ (s - 1) : Nat) ∧ bits BinOp.and IntKind.i64 4503599627370496 1 = (mt % 2 : Nat)) ∧
      (¬ (mt * 2 ^ s = 9223372036854775808 ∧ -1085 < e) → -1085 ≤ e → -((e + 11) * 78913 / 262144) = pOf e ∧ ((mt * 2 ^ s : Nat) : Int) - 1024 = (mt * 2 ^ s - 2 ^ (s - 1) : Nat) ∧ IntKind.u64.wrap (((mt * 2 ^ s : Nat) : Int) + 1024) = (mt * 2 ^ s + 2 ^ (s - 1) : Nat) ∧ bits BinOp.and IntKind.i64 (((mt * 2 ^ s : Nat) : Int) / 2048) 1 = (mt % 2 : Nat)) ∧
      (e < -1085 → -((e + (11 + (-1085 - e))) * 78913 / 262144) = pOf e ∧ IntKind.u64.wrap (((mt * 2 ^ s : Nat) : Int) - IntKind.u64.wrap (2 ^ ((11 + (-1085 - e)).toNat - 1))) = (mt * 2 ^ s - 2 ^ (s - 1) : Nat) ∧
        IntKind.u64.wrap (((mt * 2 ^ s : Nat) : Int) + IntKind.u64.wrap (2 ^ ((11 + (-1085 - e)).toNat - 1))) = (mt * 2 ^ s + 2 ^ (s - 1) : Nat) ∧ bits BinOp.and IntKind.i64 (wrap64 (((mt * 2 ^ s : Nat) : Int) / 2 ^ (11 + (-1085 - e)).toNat)) 1 = (mt % 2 : Nat))) := by
      have hdv : mt * 2 ^ s / 2 ^ s = mt := Nat.mul_div_cancel _ hp
      refine Lib.hid ⟨fun a b => ?_, fun a b => ?_, fun a => ?_⟩
      · -- a power of two above the least: not here
        exfalso
        apply hsk
        have hs1 : s = 11 := by
          rcases Nat.lt_or_ge mt 4503599627370496 with h5 | h5
          · have := hx1 h5; have := h12 h5; omega
          · exact h11 h5
        rw [hs1] at a
        exact ⟨by omega, by omega⟩
      · have hs1 : s = 11 := by
          rcases Nat.lt_or_ge mt 4503599627370496 with h5 | h5
          · have := hx1 h5; have := h12 h5; omega
          · exact h11 h5
        subst hs1
        refine ⟨by unfold pOf; rw [hz]; rfl, by omega, by rw [IntKind.wrap_u64]; omega, ?_⟩
        have := and1i mt (by omega)
        rw [show (((mt * 2 ^ 11 : Nat) : Int) / 2048) = (mt : Int) by omega]
        exact this
      · have ez : (11 + (-1085 - e)).toNat = s := by
          rcases Nat.lt_or_ge mt 4503599627370496 with h5 | h5
          · have := hx1 h5; omega
          · have := h11 h5; omega
        have hww : IntKind.u64.wrap (2 ^ (s - 1)) = ((2 ^ (s - 1) : Nat) : Int) := by
          rw [IntKind.wrap_u64, show ((2 : Int) ^ (s - 1)) = ((2 ^ (s - 1) : Nat) : Int) by rw [Int.natCast_pow]; rfl]
          omega
        refine ⟨by unfold pOf; rw [hz]; congr 4; omega, ?_, ?_, ?_⟩
        · rw [ez, hww, IntKind.wrap_u64]; omega
        · rw [ez, hww, IntKind.wrap_u64]; omega
        · have e2 : (((mt * 2 ^ s : Nat) : Int) / 2 ^ (11 + (-1085 - e)).toNat) = (mt : Int) := by
            rw [ez]
            have : (((mt * 2 ^ s : Nat) : Int) / ((2 ^ s : Nat) : Int)) = ((mt * 2 ^ s / 2 ^ s : Nat) : Int) := (Int.natCast_ediv _ _).symm
            rw [hdv] at this
            rw [← this, Int.natCast_pow]; rfl
          rw [e2, wrap64_small mt (by omega)]
          exact and1i mt (by omega)
    have hmo := Nat.mod_lt mt (show 0 < 2 by omega)
    obtain ⟨D, Q, hS, l, u, st⟩ := short_near_of (mt * 2 ^ s) (mt * 2 ^ s - 2 ^ (s - 1)) (mt * 2 ^ s + 2 ^ (s - 1)) (mt % 2) e (pOf e) s he (by omega)
      (by rcases Nat.lt_or_ge mt 4503599627370496 with h5 | h5
          · have := hx1 h5; left; omega
          · have := h11 h5; right; omega) (.inl (by unfold pOf; rw [hz])) ⟨hm, by omega⟩ (by omega) (by omega) (by omega) HCx (.inl (by omega)) (fun y hy' => by
        rcases hy' with rfl | rfl | rfl
        · rw [← cm]; exact gap_of he hz _ (by omega)
        · rw [← cp]; exact gap_of he hz _ hy
        · rw [← cc]; exact gap_of he hz _ (by omega)) hwd hw1
    refine ⟨D, Q, hS, ?_⟩
    have l' := cancel10 _ l
    have u' := cancel10 _ u
    rw [w1] at l'
    rw [w2] at u'
    refine ⟨⟨fun h => absurd h hsk, fun _ => dbl_le t1 l'⟩, dbl_ge t1 u', fun h => ?_⟩
    have s1 := cancel10' _ (st h).1
    have s2 := cancel10' _ (st h).2
    rw [w1] at s1
    rw [w2] at s2
    exact ⟨dbl_lt t1 s1, dbl_gt t1 s2⟩
end Go.Proofs.YtikpgglbfpdhmaaGreatDoor

namespace Go.Proofs.YtikpgglbfpdhmaaGreatDoor
open Go.RowKit Go.Joins Go.Sort Go.Lib
attribute [local go_sem ↓] Go.wp_at_zero Go.wp_at_succ

/-- A slice of bytes that was made behind block B holds l. -/
structure Own0 (B : Nat) (w0 w : World) (v : Value) (l : List UInt8) : Prop where
  own : w.ownsRow B 5 1 v l.length (byteCells l)
  below : Below B w0 w
  size : B ≤ w.heap.size
theorem app_0 {ops : Array Oper} {rest : List Oper} {o : Oper} {a : Act} {Q : Exit → Act → World → Prop} (s x : Operand) (hgd : o.guard = none)
    (ho : o.op = .call { callee := .builtin .append, args := #[s, x], argTypes := #[94, 94] })
    {B : Nat} {w0 wr : World} {v : Value} {l : List UInt8} (hD : Own0 B w0 wr v l) (hs : a.eval s = v)
    (cs : Array Value) (m c : Nat) (hx : a.eval x = .slice (some ⟨wr.heap.size, 0, none⟩) m c) (news : List UInt8) (hcs : cs.toList = byteCells news) (hm : news.length = m) (hl : l.length + news.length ≤ 2000)
    (h : ∀ v' w', Own0 B w0 w' v' (l ++ news) → wpList Tryz.prog ops Q rest (a.put o.dst v') w') : wpList Tryz.prog ops Q (o :: rest) a (wr.alloc (.cells cs 5)) := by
  obtain ⟨i0, hi, hz0, hz1, hz2⟩ := info_parts info5
  refine wpList_append_own _ hgd s x 94 ho B 5 i0 (.int .u8 0) 1 1 Tryz.underlying94 hi hz0 hz1 hz2 rfl (by decide) v l.length (byteCells l) hs (hD.own.alloc _) ⟨wr.heap.size, 0, none⟩ m c (byteCells news) hx (by rw [byteCells_length]; omega) ?_ (bytes_one news) (by unfold maxLen; omega) (by omega) (by have := hD.size; simp; omega) ?_
  · intro j u hu
    rw [add_zero, World.cell?_alloc_new, ← Array.getElem?_toList, hcs]
    exact hu
  · intro v' w' hown hgrow _
    refine h v' w' ⟨?_, (hD.below.alloc hD.size _).grown hgrow (by have := hD.size; simp; omega) (fun k hk => (hD.own.lt k hk).1), Nat.le_trans hD.size (Nat.le_trans (by simp) hgrow.size)⟩
    rw [List.length_append, byteCells_append, hm]; exact hown
set_option maxRecDepth 100000 in
set_option maxHeartbeats 4000000 in
theorem zero_is (B : Nat) (neg : Bool) (v : Value) (l : List UInt8) (w : World) (hD0 : Own0 B w w v l) (hl : l.length ≤ 100) :
    Calls Tryz.prog 132 #[v, .bool neg, .slice none 0 0, .int .i64 0, .int .i64 0, .int .i64 (-1), .int .u8 103, .bool true] w fun e w' => ∃ v', e = .returned v' ∧ Own0 B w w' v' (l ++ fform neg [] 0) := by
  have HD := Lib.hid hD0
  have hsg : (sgn neg).length ≤ 1 := by cases neg <;> decide
  clear hD0
  go_enter Tryz.func132, Tryz.ntmps132
  go_upto_if 178 with fail
  go_cut [0, 1] (fun s0 s1 wx => s1 = .bool neg ∧ Hid (Own0 B w wx s0 (l ++ sgn neg)))
  case first => as_aux_lemma =>
    go_wp2_with (at_builtin; refine app_0 _ _ rfl rfl HD.out rfl _ _ _ rfl [45] rfl rfl (by simp; omega) ?_; intro v1 w1 hD1)
    all_goals go_meet
    · have hneg : neg = true := by assumption
      exact ⟨congrArg Value.bool hneg.symm, Lib.hid (by rw [hneg]; exact hD1)⟩
    · have hneg : neg = false := by assumption
      exact ⟨rfl, Lib.hid (by rw [hneg, show sgn false = [] from rfl, List.append_nil]; exact HD.out)⟩
  case rest => as_aux_lemma =>
    obtain ⟨rfl, HD1⟩ := hcut
    clear HD
    go_wp2_with (at_builtin; refine app_0 (.tmp 209) (.tmp 210) rfl rfl HD1.out rfl _ _ _ rfl [48] rfl rfl (by simp; omega) ?_; intro v2 w2 hD2)
    go_ret
    refine ⟨_, rfl, ?_⟩
    have e : l ++ fform neg [] 0 = l ++ sgn neg ++ [48] := by
      rw [List.append_assoc]
      rfl
    rw [e]
    exact hD2
end Go.Proofs.YtikpgglbfpdhmaaGreatDoor

namespace Go.Proofs.YtikpgglbfpdhmaaGreatDoor
open Go.RowKit Go.Joins Go.Sort Go.Lib
attribute [local go_sem ↓] Go.wp_at_zero Go.wp_at_succ

set_option maxRecDepth 100000 in
set_option maxHeartbeats 4000000 in
theorem ftoa_zero (f : Nat) (neg : Bool) (B : Nat) (v : Value) (hf : f < 18446744073709551616)
    (h1 : ((f : Int) / 9223372036854775808 != 0) = neg) (h2 : bits BinOp.and IntKind.i64 ((f : Int) / 4503599627370496) 2047 = 0) (h3 : bits BinOp.and IntKind.u64 (f : Int) 4503599627370495 = 0) (w : World)
    (hB : B ≤ w.heap.size) (hown : w.ownsRow B 5 1 v 0 []) :
    Calls Tryz.prog 106 #[v, .float .f64 f, .int .u8 103, .int .i64 (-1)] w fun e w' => ∃ v', e = .returned v' ∧ w'.ownsRow B 5 1 v' (gform neg [] 0).length (byteCells (gform neg [] 0)) ∧ RowKit.Below B w w' := by
  have HO := Lib.hid hown
  have hfb := run_sfloat64bits f
  have hG := Lib.hid (zero_is B neg v [] w.drew ⟨hown, Below.refl _ _, hB⟩ (by simp))
  clear hown
  go_enter Tryz.func106, Tryz.ntmps106
  go_upto_region 14 with fail
  go_region
  go_wp2_with (go_at_call 132; with_reducible refine (hG.out).mono ?_; rintro e w3 ⟨v', rfl, hD3⟩)
  go_ret
  exact ⟨v', rfl, hD3.own, (Below.refl _ _).drew.trans hD3.below⟩
end Go.Proofs.YtikpgglbfpdhmaaGreatDoor

/- The order of values is a line: plain laws. No program in sight. -/
import Derived.Test.YtikpgglbfpdhmaaGreatDoorVMore
namespace Go.Proofs.YtikpgglbfpdhmaaGreatDoor
open Ieee

theorem signed_scale (s : Bool) (m a c : Nat) : signed s m (a + c) = signed s m a * (2 : Int) ^ c := by
  unfold signed
  have e : ((m <<< (a + c) : Nat) : Int) = ((m <<< a : Nat) : Int) * (2 : Int) ^ c := by
    rw [Nat.shiftLeft_eq, Nat.shiftLeft_eq, Nat.pow_add, ← Nat.mul_assoc]
    simp [Int.natCast_pow]
  cases s
  · simp only [Bool.false_eq_true, if_false]; exact e
  · simp only [if_true]; rw [e, Int.neg_mul]
/-- Where a number stands on the line. -/
def dkey : Datum → Int
  | .number s m i => signed s m (i + 1074).toNat
  | .infinity s => if s then -(2 : Int) ^ 2200 else (2 : Int) ^ 2200
  | .nan _ _ => (2 : Int) ^ 3000
def fkey (x : Nat) : Int := dkey (rd64 x)
/-- What a read number is bound to. -/
def Fin64 : Datum → Prop
  | .number _ m i => m < 2 ^ 53 ∧ -1074 ≤ i ∧ i ≤ 971
  | _ => True
theorem read_fin (x : Nat) : Fin64 (rd64 x) := by
  have c1 : FloatKind.f64.format.signWeight = 9223372036854775808 := by decide +kernel
  have c2 : FloatKind.f64.format.binade = 4503599627370496 := by decide +kernel
  have c3 : FloatKind.f64.format.infRung = 9218868437227405312 := by decide +kernel
  have c4 : FloatKind.f64.format.leastPlace = -1074 := by decide +kernel
  unfold rd64 Format.read
  rw [c1, c2, c3, c4]
  simp only
  generalize x % 9223372036854775808 = r
  split
  · unfold Fin64; omega
  · split
    · unfold Fin64
      have : r % 4503599627370496 < 4503599627370496 := Nat.mod_lt _ (by omega)
      have : r / 4503599627370496 < 2047 := by omega
      refine ⟨by omega, by omega, by omega⟩
    · split <;> trivial
set_option exponentiation.threshold 5000 in
theorem signed_bound (s : Bool) (m a : Nat) (hm : m < 2 ^ 53) (ha : a ≤ 2045) : -(2 : Int) ^ 2200 < signed s m a ∧ signed s m a < (2 : Int) ^ 2200 := by
  have h1 : m <<< a < 2 ^ 2200 := by
    rw [Nat.shiftLeft_eq]
    calc m * 2 ^ a < 2 ^ 53 * 2 ^ a := Nat.mul_lt_mul_of_pos_right hm (Nat.two_pow_pos a)
      _ = 2 ^ (53 + a) := by rw [Nat.pow_add]
      _ ≤ 2 ^ 2200 := Nat.pow_le_pow_right (by omega) (by omega)
  have h2 : ((m <<< a : Nat) : Int) < (2 : Int) ^ 2200 := by
    have : ((2 ^ 2200 : Nat) : Int) = (2 : Int) ^ 2200 := by simp
    rw [← this]; exact_mod_cast h1
  have h3 : (0 : Int) ≤ ((m <<< a : Nat) : Int) := Int.natCast_nonneg _
  unfold signed
  generalize ((m <<< a : Nat) : Int) = q at *
  generalize (2 : Int) ^ 2200 = p at *
  cases s <;> simp <;> omega
theorem compare_scale (a b : Int) (c : Nat) : compare (a * (2 : Int) ^ c) (b * (2 : Int) ^ c) = compare a b := by
  have hp : (0 : Int) < (2 : Int) ^ c := Int.pow_pos (by omega)
  simp only [compare, compareOfLessAndEq]
  by_cases h : a < b
  · rw [if_pos h, if_pos (Int.mul_lt_mul_of_pos_right h hp)]
  · rw [if_neg h, if_neg (fun g => h (Int.lt_of_mul_lt_mul_right g (Int.le_of_lt hp)))]
    by_cases e : a = b
    · rw [if_pos e, if_pos (by rw [e])]
    · rw [if_neg e, if_neg (fun g => e (Int.eq_of_mul_eq_mul_right (by omega) g))]
theorem cmp_lt {a b : Int} (h : a < b) : compare a b = .lt := by simp [compare, compareOfLessAndEq, h]
theorem cmp_gt {a b : Int} (h : b < a) : compare a b = .gt := by
  have h1 : ¬ a < b := by omega
  have h2 : ¬ a = b := by omega
  simp [compare, compareOfLessAndEq, h1, h2]
set_option exponentiation.threshold 5000 in
theorem datum_order {d e : Datum} (hd : Fin64 d) (he : Fin64 e) (nd : d.isNaN = false) (ne : e.isNaN = false) : d.order e = some (compare (dkey d) (dkey e)) := by
  cases d with
  | nan => cases nd
  | infinity s =>
    cases e with
    | nan => cases ne
    | infinity t =>
      have hp : -(2 : Int) ^ 2200 < (2 : Int) ^ 2200 := by
        have : (0 : Int) < (2 : Int) ^ 2200 := Int.pow_pos (by omega)
        omega
      simp only [Datum.order, dkey]
      generalize (2 : Int) ^ 2200 = p at *
      cases s <;> cases t
      · simp [compare, compareOfLessAndEq]
      · simp only [Bool.false_eq_true, if_false, if_true]; rw [cmp_gt (by omega)]; rfl
      · simp only [Bool.false_eq_true, if_false, if_true]; rw [cmp_lt (by omega)]; rfl
      · simp [compare, compareOfLessAndEq]
    | number t n j =>
      obtain ⟨h1, h2, h3⟩ := he
      obtain ⟨b1, b2⟩ := signed_bound t n (j + 1074).toNat h1 (by omega)
      simp only [Datum.order, dkey]
      generalize (2 : Int) ^ 2200 = p at *
      generalize signed t n (j + 1074).toNat = q at *
      cases s
      · simp only [Bool.false_eq_true, if_false]; rw [cmp_gt (by omega)]
      · simp only [if_true]; rw [cmp_lt (by omega)]
  | number s m i =>
    obtain ⟨h1, h2, h3⟩ := hd
    cases e with
    | nan => cases ne
    | infinity t =>
      obtain ⟨b1, b2⟩ := signed_bound s m (i + 1074).toNat h1 (by omega)
      simp only [Datum.order, dkey]
      generalize (2 : Int) ^ 2200 = p at *
      generalize signed s m (i + 1074).toNat = q at *
      cases t
      · simp only [Bool.false_eq_true, if_false]; rw [cmp_lt (by omega)]
      · simp only [if_true]; rw [cmp_gt (by omega)]
    | number t n j =>
      obtain ⟨g1, g2, g3⟩ := he
      simp only [Datum.order, dkey]
      have e1 : (i + 1074).toNat = (i - min i j).toNat + (min i j + 1074).toNat := by omega
      have e2 : (j + 1074).toNat = (j - min i j).toNat + (min i j + 1074).toNat := by omega
      rw [e1, e2, signed_scale, signed_scale, compare_scale]
theorem order_key {x y : Nat} (hx : fnan x = false) (hy : fnan y = false) : FloatKind.f64.format.order x y = some (compare (fkey x) (fkey y)) :=
  datum_order (read_fin x) (read_fin y) (by rw [← fnan_iff]; exact hx) (by rw [← fnan_iff]; exact hy)
set_option exponentiation.threshold 5000 in
theorem fkey_nan {x : Nat} (h : fnan x = true) : fkey x = (2 : Int) ^ 3000 := by
  rw [fnan_iff] at h
  unfold fkey
  generalize rd64 x = d at h ⊢
  cases d <;> first | (cases h; done) | rfl
set_option exponentiation.threshold 5000 in
theorem fkey_num {x : Nat} (h : fnan x = false) : fkey x < (2 : Int) ^ 3000 := by
  rw [fnan_iff] at h
  have hf := read_fin x
  have hp : (2 : Int) ^ 2200 < (2 : Int) ^ 3000 := by simp
  have h0 : (0 : Int) < (2 : Int) ^ 2200 := Int.pow_pos (by omega)
  unfold fkey
  generalize rd64 x = d at h hf ⊢
  cases d with
  | nan => cases h
  | infinity s => simp only [dkey]; generalize (2 : Int) ^ 2200 = p at *; generalize (2 : Int) ^ 3000 = q at *; cases s <;> simp <;> omega
  | number s m i =>
    obtain ⟨b1, b2⟩ := signed_bound s m (i + 1074).toNat hf.1 (by have := hf.2; omega)
    simp only [dkey]
    generalize (2 : Int) ^ 2200 = p at *
    generalize (2 : Int) ^ 3000 = q at *
    omega
set_option exponentiation.threshold 5000 in
theorem ford_key (x y : Nat) : ford x y = icmp (fkey x) (fkey y) := by
  unfold ford
  cases hx : fnan x <;> cases hy : fnan y
  · simp only [Bool.false_eq_true, if_false]
    unfold fcmp
    rw [hx, hy]
    simp only [Bool.false_eq_true, if_false]
    unfold flt fgt icmp
    rw [order_key hx hy]
    generalize fkey x = a
    generalize fkey y = b
    by_cases h : a < b
    · simp [compare, compareOfLessAndEq, h]
    · by_cases e : a = b
      · subst e; simp [compare, compareOfLessAndEq]
      · simp [compare, compareOfLessAndEq, h, e, show b < a from by omega]
  · simp only [Bool.false_eq_true, if_false, if_true]
    unfold icmp
    rw [fkey_nan hy, if_pos (fkey_num hx)]
  · simp only [Bool.false_eq_true, if_false, if_true]
    unfold icmp
    have := fkey_num hy
    rw [fkey_nan hx, if_neg (by omega), if_pos this]
  · simp only [if_true]
    unfold icmp
    rw [fkey_nan hx, fkey_nan hy]
    simp
/-- What a comparison is to be. -/
structure Line {α : Type} (cmp : α → α → Int) : Prop where
  sign : ∀ x y, Sign (cmp x y)
  turn : ∀ x y, cmp y x = - cmp x y
  rise : ∀ x y z, cmp x y ≤ 0 → cmp y z ≤ 0 → cmp x z ≤ 0 ∧ (cmp x z = 0 ↔ cmp x y = 0 ∧ cmp y z = 0)
theorem icmp_is (a b : Int) : (icmp a b = -1 ∧ a < b) ∨ (icmp a b = 0 ∧ a = b) ∨ (icmp a b = 1 ∧ b < a) := by
  unfold icmp
  by_cases h : a < b
  · left; rw [if_pos h]; exact ⟨rfl, h⟩
  · by_cases g : b < a
    · right; right; rw [if_neg h, if_pos g]; exact ⟨rfl, g⟩
    · right; left; rw [if_neg h, if_neg g]; exact ⟨rfl, by omega⟩
theorem icmp_line : Line icmp := ⟨icmp_sign, fun x y => by have := icmp_is x y; have := icmp_is y x; omega, fun x y z _ _ => by
  have := icmp_is x y; have := icmp_is y z; have := icmp_is x z; omega⟩
theorem bytes_turn : ∀ a b : List UInt8, Lib.compareBytes b a = - Lib.compareBytes a b
  | [], [] => rfl
  | [], _ :: _ => rfl
  | _ :: _, [] => rfl
  | x :: xs, y :: ys => by
    simp only [Lib.compareBytes]
    have ih := bytes_turn xs ys
    by_cases h : x < y
    · have g : ¬ y < x := by rw [UInt8.lt_iff_toNat_lt] at *; omega
      simp [h, g]
    · by_cases g : y < x
      · simp [h, g]
      · simp [h, g, ih]
theorem bytes_rise : ∀ a b c : List UInt8, Lib.compareBytes a b ≤ 0 → Lib.compareBytes b c ≤ 0 → Lib.compareBytes a c ≤ 0 ∧ (Lib.compareBytes a c = 0 ↔ Lib.compareBytes a b = 0 ∧ Lib.compareBytes b c = 0)
  | [], [], [] => by simp [Lib.compareBytes]
  | [], [], _ :: _ => by simp [Lib.compareBytes]
  | [], _ :: _, [] => by simp [Lib.compareBytes]
  | [], _ :: _, _ :: _ => by simp [Lib.compareBytes]
  | _ :: _, [], _ => by simp [Lib.compareBytes]
  | _ :: _, _ :: _, [] => by simp [Lib.compareBytes]
  | x :: xs, y :: ys, z :: zs => by
    simp only [Lib.compareBytes]
    have ih := bytes_rise xs ys zs
    simp only [UInt8.lt_iff_toNat_lt]
    by_cases a : x.toNat < y.toNat <;> by_cases a' : y.toNat < x.toNat <;> by_cases b : y.toNat < z.toNat <;> by_cases b' : z.toNat < y.toNat <;> by_cases c : x.toNat < z.toNat <;> by_cases c' : z.toNat < x.toNat <;> simp only [a, a', b, b', c, c', if_true, if_false] <;> first | omega | (intro h g; exact ih h g) | (intro h g; omega)
theorem bytes_line : Line Lib.compareBytes := ⟨compareBytes_sign, bytes_turn, bytes_rise⟩
theorem Line.self {α : Type} {cmp : α → α → Int} (L : Line cmp) (x : α) : cmp x x = 0 := by have := L.turn x x; omega
theorem vord_line : Line vord := by
  have hT : ∀ a b, vord b a = - vord a b := fun a b => by
    unfold vord pord
    by_cases h : cK a.k = cK b.k
    · rw [h]
      simp only [if_true]
      by_cases h2 : cK b.k = 2
      · simp only [h2, if_true]; rw [ford_key, ford_key]; exact icmp_line.turn _ _
      · by_cases h3 : cK b.k = 3
        · simp only [h3]; exact bytes_line.turn _ _
        · simp only [h2, h3, if_false]; exact icmp_line.turn _ _
    · rw [if_neg h, if_neg (fun g => h g.symm)]; exact icmp_line.turn _ _
  refine ⟨fun a b => pord_sign _ _ _ _ _ _ _ _, hT, fun a b c => ?_⟩
  unfold vord pord
  by_cases h : cK a.k = cK b.k
  · rw [h]
    by_cases g : cK b.k = cK c.k
    · rw [g]
      simp only [if_true]
      by_cases h2 : cK c.k = 2
      · simp only [h2, if_true]; rw [ford_key, ford_key, ford_key]; exact icmp_line.rise _ _ _
      · by_cases h3 : cK c.k = 3
        · simp only [h3]; exact bytes_line.rise _ _ _
        · simp only [h2, h3, if_false]; exact icmp_line.rise _ _ _
    · simp only [if_true, g, if_false]
      have s := icmp_sign (cK b.k) (cK c.k)
      have n0 : icmp (cK b.k) (cK c.k) ≠ 0 := by have := icmp_is (cK b.k) (cK c.k); omega
      intro _ h2
      exact ⟨h2, by constructor <;> intro q <;> omega⟩
  · have n0 : icmp (cK a.k) (cK b.k) ≠ 0 := by have := icmp_is (cK a.k) (cK b.k); omega
    by_cases g : cK b.k = cK c.k
    · rw [← g]
      simp only [h, if_true, if_false]
      intro h1 _
      exact ⟨h1, by constructor <;> intro q <;> omega⟩
    · have m0 : icmp (cK b.k) (cK c.k) ≠ 0 := by have := icmp_is (cK b.k) (cK c.k); omega
      simp only [h, g, if_false]
      intro h1 h2
      have r := icmp_line.rise _ _ _ h1 h2
      by_cases k : cK a.k = cK c.k
      · exfalso
        rw [k] at h1 n0
        have := icmp_line.turn (cK c.k) (cK b.k)
        omega
      · rw [if_neg k]; exact r
end Go.Proofs.YtikpgglbfpdhmaaGreatDoor

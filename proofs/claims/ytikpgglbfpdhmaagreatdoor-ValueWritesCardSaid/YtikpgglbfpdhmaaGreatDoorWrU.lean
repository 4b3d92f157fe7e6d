/- A float's text: bounds, turned; the text's ends; a text with its quotes doubled. No program in sight. -/
import Derived.Test.YtikpgglbfpdhmaaGreatDoorWrG
import Derived.Test.YtikpgglbfpdhmaaGreatDoorRecG
import Derived.Lib.Replace
namespace Go.Proofs.YtikpgglbfpdhmaaGreatDoor
open Go.Lib

theorem neg_sign (f : Nat) : (Op.negFloat .f64 f / 9223372036854775808 % 2 == 1) = !(f / 9223372036854775808 % 2 == 1) := by
  have e : Op.negFloat .f64 f = f ^^^ 2 ^ 63 := rfl
  have h := Nat.testBit_xor f (2 ^ 63) 63
  rw [← e, Nat.testBit_two_pow_self, Nat.testBit_eq_decide_div_mod_eq, Nat.testBit_eq_decide_div_mod_eq] at h
  rw [show (9223372036854775808 : Nat) = 2 ^ 63 from rfl]
  have b1 : ∀ n : Nat, (n == 1) = decide (n = 1) := fun n => rfl
  rw [b1, b1, h]
  cases decide (f / 2 ^ 63 % 2 = 1) <;> rfl
def flip : Ieee.Datum → Ieee.Datum
  | .number s m i => .number (!s) m i
  | .infinity s => .infinity (!s)
  | .nan s k => .nan (!s) k
theorem read_neg (f : Nat) : FloatKind.f64.format.read (Op.negFloat .f64 f) = flip (FloatKind.f64.format.read f) := by
  have c1 : FloatKind.f64.format.signWeight = 9223372036854775808 := by decide +kernel
  unfold Ieee.Format.read
  rw [c1]
  simp only [neg_sign, fneg_low]
  split
  · rfl
  · split
    · rfl
    · split <;> rfl
theorem neg_cmp (x y : Int) : (compare (-x) y == .gt) = (compare x (-y) == .lt) := by
  have h1 := Int.compare_eq_lt (a := x) (b := -y)
  have h2 := Int.compare_eq_gt (a := -x) (b := y)
  cases hc : compare x (-y) <;> cases hd : compare (-x) y <;> simp_all <;> omega
theorem neg_gt (f : Nat) : fgt (Op.negFloat .f64 f) 9218868437227405311 = flt f 18442240474082181119 := by
  have e1 : FloatKind.f64.format.read 9218868437227405311 = .number false 9007199254740991 971 := by decide +kernel
  have e2 : FloatKind.f64.format.read 18442240474082181119 = .number true 9007199254740991 971 := by decide +kernel
  unfold fgt flt Ieee.Format.order
  rw [e1, e2, read_neg]
  cases FloatKind.f64.format.read f with
  | nan s k => rfl
  | infinity s => cases s <;> rfl
  | number s m i =>
    show ((some (compare (Ieee.signed (!s) m (i - min i 971).toNat) (Ieee.signed false 9007199254740991 (971 - min i 971).toNat)) : Option Ordering) == some .gt) =
      ((some (compare (Ieee.signed s m (i - min i 971).toNat) (Ieee.signed true 9007199254740991 (971 - min i 971).toNat)) : Option Ordering) == some .lt)
    have h1 : Ieee.signed (!s) m (i - min i 971).toNat = -Ieee.signed s m (i - min i 971).toNat := by
      cases s <;> simp [Ieee.signed]
    have h2 : Ieee.signed true 9007199254740991 (971 - min i 971).toNat = -Ieee.signed false 9007199254740991 (971 - min i 971).toNat := by
      simp [Ieee.signed]
    rw [h1, h2]
    have h3 := neg_cmp (Ieee.signed s m (i - min i 971).toNat) (Ieee.signed false 9007199254740991 (971 - min i 971).toNat)
    simpa using h3
/-- A text with its quotes doubled. -/
def dq : List UInt8 → List UInt8
  | [] => []
  | b :: l => if b = 39 then 39 :: 39 :: dq l else b :: dq l
theorem repl_miss (b : UInt8) (hb : b ≠ 39) (new : List UInt8) : ∀ (k : Nat) (l : List UInt8), replaceK [39] new k (b :: l) = b :: replaceK [39] new k l
  | 0, _ => rfl
  | k + 1, l => by
    have hp : ([39] : List UInt8).isPrefixOf (b :: l) = false := by simp [List.isPrefixOf, Ne.symm hb]
    have hix : index (b :: l) [39] = if index l [39] == -1 then -1 else index l [39] + 1 := by rw [index, hp]; simp
    by_cases hm : index l [39] = -1
    · rw [replaceK, replaceK, hix, if_pos (beq_iff_eq.2 hm)]
      simp [hm]
    · have hge := index_ge l [39]
      obtain ⟨i, hi⟩ : ∃ i : Nat, index l [39] = i := ⟨(index l [39]).toNat, by omega⟩
      have hi2 : index (b :: l) [39] = ((i + 1 : Nat) : Int) := by rw [hix, if_neg (by simpa using hm), hi]; omega
      rw [replaceK_hit _ _ _ _ _ hi2, replaceK_hit _ _ _ _ _ hi]
      simp
theorem repl_hit (new : List UInt8) (k : Nat) (l : List UInt8) : replaceK [39] new (k + 1) (39 :: l) = new ++ replaceK [39] new k l := by
  have hix : index (39 :: l) [39] = ((0 : Nat) : Int) := by rw [index]; simp [List.isPrefixOf]
  rw [replaceK_hit _ _ _ _ _ hix]
  simp
theorem repl_dq : ∀ s : List UInt8, replaceK [39] [39, 39] (count s [39]) s = dq s
  | [] => by rw [count_one]; rfl
  | b :: l => by
    by_cases hb : b = 39
    · subst hb
      rw [count_cons_eq, Nat.add_comm, repl_hit, repl_dq l]
      simp [dq]
    · rw [count_cons_ne b 39 l hb, repl_miss b hb, repl_dq l]
      simp [dq, hb]
theorem replaceAll_dq (s : List UInt8) : replaceAll s [39] [39, 39] = dq s := by
  unfold replaceAll replace replaceNum
  rw [if_neg (by decide), if_pos (by omega)]
  exact repl_dq s
theorem dq_len : ∀ s : List UInt8, (dq s).length ≤ 2 * s.length
  | [] => Nat.le_refl _
  | b :: l => by
    have := dq_len l
    unfold dq
    split <;> simp <;> omega
theorem dq_append : ∀ s t : List UInt8, dq (s ++ t) = dq s ++ dq t
  | [], _ => rfl
  | b :: l, t => by
    simp only [List.cons_append, dq]
    rw [dq_append l t]
    split <;> simp
end Go.Proofs.YtikpgglbfpdhmaaGreatDoor

/- What is printed lies in the float's rounding. No program in sight. -/
import Derived.Test.YtikpgglbfpdhmaaGreatDoorRdMWrI
import Derived.Lib.SlTrimSet
import Derived.Test.YtikpgglbfpdhmaaGreatDoorRdMKit
namespace Go.Proofs.YtikpgglbfpdhmaaGreatDoor

/-- The least and the greatest of the digits that may be, between a and b; o: the ends are out. -/
structure Ends (a b : Rat) (o dmin dmax : Nat) : Prop where
  l1 : ∀ k : Nat, dmin ≤ k → a ≤ k ∧ (o = 1 → a < k)
  l2 : ∀ k : Nat, k < dmin → (k : Rat) ≤ a ∧ (o = 0 → (k : Rat) < a)
  u1 : ∀ k : Nat, k ≤ dmax → (k : Rat) ≤ b ∧ (o = 1 → (k : Rat) < b)
  u2 : ∀ k : Nat, dmax < k → b ≤ k ∧ (o = 0 → b < k)
theorem nat_add_one (k : Nat) : ((k + 1 : Nat) : Rat) = (k : Rat) + 1 := Rat.natCast_add k 1
theorem ends_meet {a b : Rat} {o dmin dmax : Nat} (h : Ends a b o dmin dmax) (ho : o = 0 ∨ o = 1) (h1 : 1 ≤ dmin) (hw : a + 1 ≤ b) (hw1 : o = 1 → a + 1 < b ∨ ∀ k : Nat, a ≠ k) : dmin ≤ dmax := by
  rcases Nat.lt_or_ge dmax dmin with hlt | hge
  · exfalso
    obtain ⟨k, hk⟩ : ∃ k, dmin = k + 1 := ⟨dmin - 1, by omega⟩
    have e1 := h.l2 k (by omega)
    have e2 := h.u2 dmin hlt
    rw [hk, nat_add_one] at e2
    rcases ho with rfl | rfl
    · have := e1.2 rfl
      have := e2.2 rfl
      grind
    · rcases hw1 rfl with h3 | h3
      · grind
      · exact h3 k (by grind)
  · exact hge
/-- The digits that are chosen lie between. -/
theorem chosen {a b c : Rat} {o dmin dmax u3 : Nat} (h : Ends a b o dmin dmax) (h1 : 1 ≤ dmin) (hm : dmin ≤ dmax)
    (r1 : c ≤ (rnd u3 : Nat) + 1 / 2) (r2 : 1 ≤ rnd u3 → ((rnd u3 : Nat) : Rat) ≤ c + 1 / 2) (hc : 2 * c = a + b ∨ (o = 0 ∧ 3 * c = 2 * a + b)) (p : Int) :
    a ≤ (sfD dmin dmax u3 : Nat) * b10 (sfQ dmin dmax p) * b10 p ∧ ((sfD dmin dmax u3 : Nat) : Rat) * b10 (sfQ dmin dmax p) * b10 p ≤ b ∧
      (o = 1 → a < ((sfD dmin dmax u3 : Nat) : Rat) * b10 (sfQ dmin dmax p) * b10 p ∧ ((sfD dmin dmax u3 : Nat) : Rat) * b10 (sfQ dmin dmax p) * b10 p < b) := by
  have e0 : b10 (-p) * b10 p = 1 := by rw [← b10_add, show -p + p = 0 by omega, b10_zero]
  have key : ∃ k : Nat, dmin ≤ k ∧ k ≤ dmax ∧ ((sfD dmin dmax u3 : Nat) : Rat) * b10 (sfQ dmin dmax p) * b10 p = (k : Rat) := by
    unfold sfD sfQ
    split
    · refine ⟨dmax / 10 * 10, by assumption, Nat.div_mul_le_self _ _, ?_⟩
      have e1 : b10 (-(p - 1)) = 10 * b10 (-p) := by
        rw [show -(p - 1) = 1 + -p by omega, b10_add]
        have : b10 1 = 10 := by
          have := b10_nat 1
          rw [show ((10 ^ 1 : Nat) : Rat) = 10 by rfl] at this
          exact this
        rw [this]
      rw [e1, cast_mul]
      have : ((10 : Nat) : Rat) = 10 := rfl
      rw [this]
      grind
    · split
      · rename_i hlt
        have hR : rnd u3 = (u3 + 1 + u3 / 4 % 2) / 4 := rfl
        rw [← hR]
        have b1 := h.u1 dmax (Nat.le_refl _)
        have b2' := h.u2 (dmax + 1) (by omega)
        have a1 := h.l1 dmin (Nat.le_refl _)
        obtain ⟨k, hk⟩ : ∃ k, dmin = k + 1 := ⟨dmin - 1, by omega⟩
        have a2 := h.l2 k (by omega)
        have d1 : (dmin : Rat) + 1 ≤ (dmax : Rat) := by rw [← nat_add_one]; exact cast_le (by omega)
        have d2 : (dmin : Rat) = (k : Rat) + 1 := by rw [hk, nat_add_one]
        rw [nat_add_one] at b2'
        refine ⟨rnd u3, ?_, ?_, by grind⟩
        · rcases Nat.lt_or_ge (rnd u3) dmin with h3 | h3
          · exfalso
            have h4 : ((rnd u3 : Nat) : Rat) + 1 ≤ (dmin : Rat) := by rw [← nat_add_one]; exact cast_le h3
            rcases hc with h5 | ⟨h5, h6⟩
            · grind
            · have := a2.2 h5
              grind
          · exact h3
        · rcases Nat.lt_or_ge dmax (rnd u3) with h3 | h3
          · exfalso
            have h4 : (dmax : Rat) + 1 ≤ ((rnd u3 : Nat) : Rat) := by rw [← nat_add_one]; exact cast_le h3
            have h7 := r2 (by omega)
            rcases hc with h5 | ⟨h5, h6⟩
            · grind
            · have := b2'.2 h5
              grind
          · exact h3
      · exact ⟨dmin, Nat.le_refl _, hm, by grind⟩
  obtain ⟨k, k1, k2, hk⟩ := key
  rw [hk]
  exact ⟨(h.l1 k k1).1, (h.u1 k k2).1, fun h0 => ⟨(h.l1 k k1).2 h0, (h.u1 k k2).2 h0⟩⟩
/-- The ends, out of what scaling gives. -/
theorem ends_of (i s : Nat) (e : Int) (hs : (s : Int) = -(e + lpw ((i : Int) - 348) + 3)) (hD : 1 ≤ tenD i) (mn mx o : Nat) (ho : o = 0 ∨ o = 1) (hmx : o ≤ unr (mx * tenN i) (tenD i * 2 ^ (128 + s))) :
    Ends ((mn : Rat) * b2 e * b10 ((i : Int) - 348)) ((mx : Rat) * b2 e * b10 ((i : Int) - 348)) o ((unr (mn * tenN i) (tenD i * 2 ^ (128 + s)) + o + 3) / 4) ((unr (mx * tenN i) (tenD i * 2 ^ (128 + s)) - o) / 4) := by
  have hM : 1 ≤ tenD i * 2 ^ (128 + s) := Nat.mul_pos hD (Nat.two_pow_pos _)
  have f4 : ∀ k : Nat, ((4 * k : Nat) : Rat) = 4 * (k : Rat) := fun k => Rat.natCast_mul 4 k
  have L := fun (x k : Nat) => (unr_le (x * tenN i) (tenD i * 2 ^ (128 + s)) k hM).trans (scale_le i s e hs hD x (4 * k))
  have S := fun (x k : Nat) => (unr_lt' (x * tenN i) (tenD i * 2 ^ (128 + s)) k hM).trans (scale_lt i s e hs hD x (4 * k))
  generalize hv : b10 ((i : Int) - 348) = t at *
  generalize b2 e = c at *
  have Lm := L mn
  have Sm := S mn
  have Lx := L mx
  have Sx := S mx
  generalize unr (mn * tenN i) (tenD i * 2 ^ (128 + s)) = u1 at *
  generalize unr (mx * tenN i) (tenD i * 2 ^ (128 + s)) = u2 at *
  clear L S hv
  refine ⟨fun k hk => ?_, fun k hk => ?_, fun k hk => ?_, fun k hk => ?_⟩
  · have h1 := (Lm k).1 (by omega)
    rw [f4] at h1
    refine ⟨by grind, fun h0 => ?_⟩
    have h2 := (Sm k).1 (by omega)
    rw [f4] at h2
    grind
  · have h1 : ¬ u1 < 4 * k := by omega
    rw [Sm k, f4] at h1
    refine ⟨by grind, fun h0 => ?_⟩
    have h2 : ¬ u1 ≤ 4 * k := by omega
    rw [Lm k, f4] at h2
    grind
  · have h1 : ¬ u2 < 4 * k := by omega
    rw [Sx k, f4] at h1
    refine ⟨by grind, fun h0 => ?_⟩
    have h2 : ¬ u2 ≤ 4 * k := by omega
    rw [Lx k, f4] at h2
    grind
  · have h1 := (Lx k).1 (by omega)
    rw [f4] at h1
    refine ⟨by grind, fun h0 => ?_⟩
    have h2 := (Sx k).1 (by omega)
    rw [f4] at h2
    grind
/-- To the nearest, out of what scaling gives. -/
theorem near_of (i s : Nat) (e : Int) (hs : (s : Int) = -(e + lpw ((i : Int) - 348) + 3)) (hD : 1 ≤ tenD i) (m : Nat) :
    (m : Rat) * b2 e * b10 ((i : Int) - 348) ≤ (rnd (unr (m * tenN i) (tenD i * 2 ^ (128 + s))) : Nat) + 1 / 2 ∧ (1 ≤ rnd (unr (m * tenN i) (tenD i * 2 ^ (128 + s))) → ((rnd (unr (m * tenN i) (tenD i * 2 ^ (128 + s))) : Nat) : Rat) ≤ (m : Rat) * b2 e * b10 ((i : Int) - 348) + 1 / 2) := by
  have hM : 1 ≤ tenD i * 2 ^ (128 + s) := Nat.mul_pos hD (Nat.two_pow_pos _)
  have L := fun (k : Nat) => (half_le (m * tenN i) (tenD i * 2 ^ (128 + s)) k hM).trans (scale_le i s e hs hD m (4 * k + 2))
  have S := fun (k : Nat) => (half_lt (m * tenN i) (tenD i * 2 ^ (128 + s)) k hM).trans (scale_lt i s e hs hD m (4 * k + 2))
  have f4 : ∀ k : Nat, ((4 * k + 2 : Nat) : Rat) = 4 * (k : Rat) + 2 := fun k => by rw [Rat.natCast_add, Rat.natCast_mul]; rfl
  generalize unr (m * tenN i) (tenD i * 2 ^ (128 + s)) = u at *
  obtain ⟨k, hk⟩ : ∃ k, rnd u = k := ⟨_, rfl⟩
  have hb := rnd_bounds u k hk
  rw [hk]
  constructor
  · have h1 := (L k).1 hb.1.2
    rw [f4] at h1
    grind
  · intro h0
    obtain ⟨j, rfl⟩ : ∃ j, k = j + 1 := ⟨k - 1, by omega⟩
    have h1 : ¬ u < 4 * j + 2 := by have := hb.1.1; omega
    rw [S j, f4] at h1
    rw [nat_add_one]
    grind
end Go.Proofs.YtikpgglbfpdhmaaGreatDoor

namespace Go.Proofs.YtikpgglbfpdhmaaGreatDoor

theorem scale_ge' (i s : Nat) (e : Int) (hs : (s : Int) = -(e + lpw ((i : Int) - 348) + 3)) (hD : 1 ≤ tenD i) (x k : Nat) (h : ¬ x * tenN i < tenD i * 2 ^ (128 + s) * k) : (k : Rat) ≤ (x : Rat) * b2 e * b10 ((i : Int) - 348) * 4 := by
  rw [scale_lt i s e hs hD] at h
  grind
theorem scale_gt' (i s : Nat) (e : Int) (hs : (s : Int) = -(e + lpw ((i : Int) - 348) + 3)) (hD : 1 ≤ tenD i) (x k : Nat) (h : ¬ x * tenN i ≤ tenD i * 2 ^ (128 + s) * k) : (k : Rat) < (x : Rat) * b2 e * b10 ((i : Int) - 348) * 4 := by
  rw [scale_le i s e hs hD] at h
  grind
theorem cast4 (k : Nat) : ((4 * k + 2 : Nat) : Rat) = 4 * (k : Rat) + 2 := by rw [Rat.natCast_add, Rat.natCast_mul]; rfl
/-- Rounded: no further than a half; of an odd one, nearer. -/
theorem round_of (i s : Nat) (e : Int) (hs : (s : Int) = -(e + lpw ((i : Int) - 348) + 3)) (hD : 1 ≤ tenD i) (y u k : Nat) (hu : u = unr (y * tenN i) (tenD i * 2 ^ (128 + s))) (hk : rnd u = k) (W : Rat) (hW : (y : Rat) * b2 e * b10 ((i : Int) - 348) = W) :
    2 * W ≤ 2 * (k : Rat) + 1 ∧ 2 * (k : Rat) - 1 ≤ 2 * W + (if k = 0 then 1 else 0) ∧ (k % 2 = 1 → 2 * W < 2 * (k : Rat) + 1 ∧ 2 * (k : Rat) - 1 < 2 * W) := by
  have hM : 1 ≤ tenD i * 2 ^ (128 + s) := Nat.mul_pos hD (Nat.two_pow_pos _)
  have hb := rnd_bounds u k hk
  have f1 := scale_le i s e hs hD y (4 * k + 2)
  have f2 := scale_lt i s e hs hD y (4 * k + 2)
  rw [← half_le _ _ k hM, ← hu, cast4, hW] at f1
  rw [← half_lt _ _ k hM, ← hu, cast4, hW] at f2
  refine ⟨by have := f1.1 hb.1.2; grind, ?_, fun ho => ⟨by have := f2.1 (hb.2 ho).2; grind, ?_⟩⟩
  · rcases Nat.eq_zero_or_pos k with h0 | h0
    · subst h0
      have h1 : (0 : Rat) ≤ W := by
        rw [← hW]
        have : (0 : Rat) ≤ (y : Rat) := by have := cast_le (Nat.zero_le y); simpa using this
        exact Rat.mul_nonneg (Rat.mul_nonneg this (Rat.le_of_lt (b2_pos _))) (Rat.le_of_lt (b10_pos _))
      rw [if_pos rfl]
      have : ((0 : Nat) : Rat) = 0 := rfl
      grind
    · obtain ⟨j, rfl⟩ : ∃ j, k = j + 1 := ⟨k - 1, by omega⟩
      have g := scale_ge' i s e hs hD y (4 * j + 2) (by rw [← half_lt _ _ j hM, ← hu]; have := hb.1.1; omega)
      rw [cast4, hW] at g
      rw [if_neg (by omega), nat_add_one]
      grind
  · obtain ⟨j, rfl⟩ : ∃ j, k = j + 1 := ⟨k - 1, by omega⟩
    have g := scale_gt' i s e hs hD y (4 * j + 2) (by rw [← half_le _ _ j hM, ← hu]; have := (hb.2 ho).1; omega)
    rw [cast4, hW] at g
    rw [nat_add_one]
    grind
theorem or_bit (k c : Nat) (hc : c ≤ 1) : k ||| c = k + (if c = 1 then 1 - k % 2 else 0) := by
  rcases (show c = 0 ∨ c = 1 by omega) with rfl | rfl
  · simp
  · rw [or_one, if_pos rfl]
/-- Half of what scaling gives is what scaling by half gives. -/
theorem unr_half (a b : Nat) (hb : 1 ≤ b) : unr a b / 2 ||| unr a b % 2 = unr a (2 * b) := by
  have h := (Nat.div_add_mod a b).symm
  have hr := Nat.mod_lt a hb
  have e1 : a / (2 * b) = a / b / 2 := by rw [Nat.mul_comm, ← Nat.div_div_eq_div_mul]
  have e2 : a % (2 * b) = b * (a / b % 2) + a % b := by
    rw [Nat.mul_comm 2 b, Nat.mod_mul]; omega
  rw [or_bit _ _ (by omega), unr_or a b, unr_or a (2 * b), e1, e2]
  generalize a / b = q at *
  generalize a % b = r at *
  clear e1 e2 h
  rcases Nat.mod_two_eq_zero_or_one q with hq | hq
  · rw [hq]
    by_cases h0 : r = 0
    · have c1 : ¬ (q + 0) % 2 = 1 := by omega
      have c2 : b * 0 + r = 0 := by omega
      rw [if_pos h0, if_neg c1, if_pos c2]; rfl
    · have c1 : (q + (1 - 0)) % 2 = 1 := by omega
      have c2 : ¬ b * 0 + r = 0 := by omega
      rw [if_neg h0, if_pos c1, if_neg c2, show (q + (1 - 0)) / 2 = q / 2 by omega]
  · rw [hq]
    have c2 : ¬ b * 1 + r = 0 := by omega
    by_cases h0 : r = 0
    · have c1 : (q + 0) % 2 = 1 := by omega
      rw [if_pos h0, if_pos c1, if_neg c2, Nat.add_zero]
    · have c1 : (q + (1 - 1)) % 2 = 1 := by omega
      rw [if_neg h0, if_pos c1, if_neg c2, show (q + (1 - 1)) = q by omega]
/-- The bounds of a power of ten. -/
theorem ten_bounds (i : Nat) (h : i < 696) : b2 (lpw ((i : Int) - 348)) ≤ b10 ((i : Int) - 348) ∧ 4096 * b10 ((i : Int) - 348) ≤ 4095 * b2 (lpw ((i : Int) - 348) + 1) := by
  have ht := allFrom_at 696 0 i top_keeps (by omega) (by omega)
  simp only [topOk, Bool.and_eq_true, decide_eq_true_eq] at ht
  have hD := nat_pos (ten_exact i h).1
  have h1 := cast_le ht.1
  have h2 := cast_le ht.2
  rw [cast_mul, ten_rat] at h1
  rw [cast_mul, cast_mul, cast_mul, ten_rat] at h2
  rw [← b2_nat] at h1 h2
  generalize lpw ((i : Int) - 348) = L at *
  generalize b10 ((i : Int) - 348) = t at *
  have hL := b2_pos (127 - L)
  have e1 : b2 ((127 : Nat) : Int) = b2 L * b2 (127 - L) := by rw [← b2_add]; congr 1; omega
  have e2 : b2 ((128 : Nat) : Int) = b2 (L + 1) * b2 (127 - L) := by rw [← b2_add]; congr 1; omega
  rw [e1] at h1
  rw [e2] at h2
  have c1 : ((4096 : Nat) : Rat) = 4096 := rfl
  have c2 : ((4095 : Nat) : Rat) = 4095 := rfl
  rw [c1, c2] at h2
  have hc := Rat.mul_pos hL hD
  constructor
  · refine (mul_le_iff hc).1 ?_
    grind
  · refine (mul_le_iff hc).1 ?_
    grind
theorem near_of_round {m : Nat} {y : Int} {W v : Rat} (hv : v = W * b2 y) (h1 : 2 * W ≤ 2 * (m : Rat) + 1) (h2 : 2 * (m : Rat) - 1 ≤ 2 * W) (h3 : m % 2 = 1 → 2 * W < 2 * (m : Rat) + 1 ∧ 2 * (m : Rat) - 1 < 2 * W)
    (h4 : m = 4503599627370496 ∧ -1074 < y → 4 * (m : Rat) - 1 ≤ 4 * W) : Near m y v := by
  have hy := b2_pos y
  have a1 : 2 * v = (2 * W) * b2 y := by grind
  have a2 : 4 * v = (4 * W) * b2 y := by grind
  refine ⟨⟨fun h => ?_, fun _ => ?_⟩, ?_, fun h => ⟨?_, ?_⟩⟩
  · rw [a2]; exact (mul_le_iff hy).2 (h4 h)
  · rw [a1]; exact (mul_le_iff hy).2 h2
  · rw [a1]; exact (mul_le_iff hy).2 h1
  · rw [a1]; exact (mul_lt_iff hy).2 (h3 h).2
  · rw [a1]; exact (mul_lt_iff hy).2 (h3 h).1
end Go.Proofs.YtikpgglbfpdhmaaGreatDoor

namespace Go.Proofs.YtikpgglbfpdhmaaGreatDoor

/-- A number told by a whole one: exactly, or with a last bit that tells whether anything is left over. -/
def Told (mag : Nat) (A : Rat) : Prop := A = (mag : Rat) ∨ (18014398509481984 ≤ mag ∧ ∀ k : Nat, (A ≤ ((2 * k : Nat) : Rat) ↔ mag ≤ 2 * k) ∧ (A < ((2 * k : Nat) : Rat) ↔ mag < 2 * k))
theorem told_le {mag : Nat} {A : Rat} (h : Told mag A) (n : Nat) (hn : A = (mag : Rat) ∨ n % 2 = 0) : (A ≤ (n : Rat) ↔ mag ≤ n) ∧ (A < (n : Rat) ↔ mag < n) := by
  rcases h with h | ⟨_, h⟩
  · rw [h, Rat.natCast_le_natCast, Rat.natCast_lt_natCast]; exact ⟨Iff.rfl, Iff.rfl⟩
  · rcases hn with h2 | h2
    · rw [h2, Rat.natCast_le_natCast, Rat.natCast_lt_natCast]; exact ⟨Iff.rfl, Iff.rfl⟩
    · have := h (n / 2)
      rw [show 2 * (n / 2) = n by omega] at this
      exact this
/-- Rounded at a place: low + more. -/
def cutAt (mag g : Nat) : Nat := mag / (2 * g) + (decide (2 * g < 2 * (mag % (2 * g))) || (2 * g == 2 * (mag % (2 * g)) && mag / (2 * g) % 2 == 1)).toNat
theorem cutAt_bounds (mag g k : Nat) (hg : 1 ≤ g) (hk : cutAt mag g = k) : 2 * k * g ≤ mag + g ∧ mag ≤ 2 * k * g + g ∧ (k % 2 = 1 → 2 * k * g < mag + g ∧ mag < 2 * k * g + g) := by
  have h := (Nat.div_add_mod mag (2 * g)).symm
  have hr := Nat.mod_lt mag (show 0 < 2 * g by omega)
  unfold cutAt at hk
  generalize mag / (2 * g) = q at *
  generalize mag % (2 * g) = r at *
  have e1 : 2 * g * q = 2 * q * g := by rw [Nat.mul_assoc, Nat.mul_comm g q, ← Nat.mul_assoc]
  rw [e1] at h
  by_cases c1 : 2 * g < 2 * r
  · rw [decide_eq_true c1] at hk
    have hk2 : k = q + 1 := by rw [← hk]; rfl
    have e2 : 2 * k * g = 2 * q * g + 2 * g := by rw [hk2, Nat.mul_add, Nat.add_mul]
    rw [e2]
    omega
  · rw [decide_eq_false c1, Bool.false_or] at hk
    by_cases c2 : 2 * g = 2 * r
    · have b2' : (2 * g == 2 * r) = true := by simpa using c2
      rw [b2', Bool.true_and] at hk
      rcases Nat.mod_two_eq_zero_or_one q with hq | hq
      · have hk2 : k = q := by rw [← hk, hq]; rfl
        rw [hk2]
        omega
      · have hk2 : k = q + 1 := by rw [← hk, hq]; rfl
        have e2 : 2 * k * g = 2 * q * g + 2 * g := by rw [hk2, Nat.mul_add, Nat.add_mul]
        rw [e2]
        omega
    · have b2' : (2 * g == 2 * r) = false := by simpa using c2
      rw [b2', Bool.false_and] at hk
      have hk2 : k = q := by rw [← hk]; rfl
      rw [hk2]
      omega
theorem fmt64 : FloatKind.f64.format.binade = 4503599627370496 ∧ FloatKind.f64.format.infRung = 9218868437227405312 ∧ FloatKind.f64.format.leastPlace = -1074 ∧ FloatKind.f64.format.fractionBits = 52 := by decide +kernel
theorem nearest_gen (F : Ieee.Format) (B I : Nat) (f1 : F.binade = B) (f2 : F.infRung = I) (f3 : F.leastPlace = -1074) (f4 : F.fractionBits = 52) (neg : Bool) (mag : Nat) (place : Int) (hm : 1 ≤ mag) (hn : -1022 ≤ place + mag.log2) :
    F.nearest neg mag place = F.word neg (min ((place + mag.log2 - 52 + 1074).toNat * B + (if mag.log2 ≤ 52 then mag * 2 ^ (52 - mag.log2) else cutAt mag (2 ^ (mag.log2 - 53)))) I) := by
  have h0 : ¬ mag = 0 := by omega
  have hmax : max (place + (mag.log2 : Int) - ((52 : Nat) : Int)) (-1074) = place + mag.log2 - 52 := by omega
  unfold Ieee.Format.nearest
  rw [if_neg h0, f1, f2, f3, f4]
  simp only [hmax]
  congr 2
  rw [show place + (mag.log2 : Int) - 52 - -1074 = place + mag.log2 - 52 + 1074 by omega]
  congr 1
  by_cases h : mag.log2 ≤ 52
  · rw [if_pos h, show (place - (place + (mag.log2 : Int) - 52)).toNat = 52 - mag.log2 by omega, show (place + (mag.log2 : Int) - 52 - place).toNat = 0 by omega]
    unfold Ieee.Toward.cut
    simp [Nat.shiftLeft_eq, Nat.mod_one]
  · rw [if_neg h, show (place - (place + (mag.log2 : Int) - 52)).toNat = 0 by omega, show (place + (mag.log2 : Int) - 52 - place).toNat = mag.log2 - 52 by omega]
    unfold Ieee.Toward.cut cutAt
    have hg : 1 <<< min (mag.log2 - 52) ((mag <<< 0).log2 + 2) = 2 * 2 ^ (mag.log2 - 53) := by
      rw [Nat.shiftLeft_zero, Nat.shiftLeft_eq, Nat.one_mul, ← Nat.pow_succ', show min (mag.log2 - 52) (mag.log2 + 2) = mag.log2 - 53 + 1 by omega]
    simp only [hg]
    rfl
/-- What is kept, and where. -/
theorem nearest_kept (neg : Bool) (mag : Nat) (place : Int) (hm : 1 ≤ mag) (hn : -1022 ≤ place + mag.log2) :
    FloatKind.f64.format.nearest neg mag place = FloatKind.f64.format.word neg (min ((place + mag.log2 - 52 + 1074).toNat * 4503599627370496 + (if mag.log2 ≤ 52 then mag * 2 ^ (52 - mag.log2) else cutAt mag (2 ^ (mag.log2 - 53)))) 9218868437227405312) :=
  nearest_gen _ _ _ fmt64.1 fmt64.2.1 fmt64.2.2.1 fmt64.2.2.2 neg mag place hm hn
theorem rung_is {last x : Int} {k mt : Nat} (h : (k = mt ∧ last = x) ∨ (k = 9007199254740992 ∧ mt = 4503599627370496 ∧ x = last + 1)) (h1 : -1074 ≤ last) (h2 : last ≤ 960) (hk : k ≤ 9007199254740992) :
    min ((last + 1074).toNat * 4503599627370496 + k) 9218868437227405312 = (x + 1074).toNat * 4503599627370496 + mt := by
  obtain ⟨n, hn⟩ : ∃ n : Nat, last + 1074 = n := ⟨(last + 1074).toNat, by omega⟩
  rcases h with ⟨rfl, rfl⟩ | ⟨rfl, rfl, rfl⟩
  · rw [hn, Int.toNat_natCast]
    omega
  · rw [show last + 1 + 1074 = ((n + 1 : Nat) : Int) by omega, hn, Int.toNat_natCast, Int.toNat_natCast]
    omega
/-- The nearest word is the float to which the number is rounded. -/
theorem nearest_is (neg : Bool) (mag : Nat) (place : Int) (A : Rat) (mt : Nat) (x : Int) (hcan : Canon mt x) (hm : 1 ≤ mag) (hT : Told mag A) (hr : -1000 ≤ place + mag.log2 ∧ place + mag.log2 ≤ 1000) (hnear : Near mt x (A * b2 place)) :
    FloatKind.f64.format.nearest neg mag place = FloatKind.f64.format.word neg ((x + 1074).toNat * 4503599627370496 + mt) := by
  rw [nearest_kept neg mag place hm (by omega)]
  congr 1
  have l1 : 2 ^ mag.log2 ≤ mag := Nat.log2_self_le (by omega)
  have l2 : mag < 2 ^ (mag.log2 + 1) := Nat.lt_log2_self
  generalize mag.log2 = lm at *
  by_cases h : lm ≤ 52
  · rw [if_pos h]
    have hA : A = (mag : Rat) := by
      rcases hT with h2 | ⟨h2, _⟩
      · exact h2
      · exfalso
        have := Nat.pow_le_pow_right (n := 2) (by omega) (show lm + 1 ≤ 53 by omega)
        omega
    have k1 : 4503599627370496 ≤ mag * 2 ^ (52 - lm) ∧ mag * 2 ^ (52 - lm) < 9007199254740992 := by
      have h3 := Nat.mul_le_mul_right (2 ^ (52 - lm)) l1
      have h4 := (Nat.mul_lt_mul_right (Nat.two_pow_pos (52 - lm))).2 l2
      rw [← Nat.pow_add, show lm + (52 - lm) = 52 by omega] at h3
      rw [← Nat.pow_add, show lm + 1 + (52 - lm) = 53 by omega] at h4
      omega
    obtain ⟨k, hk⟩ : ∃ k, k = mag * 2 ^ (52 - lm) := ⟨_, rfl⟩
    rw [← hk] at k1 ⊢
    have hv : A * b2 place = (k : Rat) * b2 (place + lm - 52) := by
      rw [hA, hk, cast_mul, ← b2_nat]
      have : b2 place = b2 ((52 - lm : Nat) : Int) * b2 (place + lm - 52) := by rw [← b2_add]; congr 1; omega
      rw [this]; grind
    have hn := near_of_round (m := k) hv (by grind) (by grind) (fun _ => ⟨by grind, by grind⟩) (fun _ => by grind)
    obtain ⟨e1, e2⟩ := near_one hnear hn hcan ⟨k1.2, by omega, .inl k1.1⟩
    exact rung_is (.inl ⟨e1.symm, e2.symm⟩) (by omega) (by omega) (by omega)
  · rw [if_neg h]
    obtain ⟨g, hg⟩ : ∃ g, g = 2 ^ (lm - 53) := ⟨_, rfl⟩
    have hg1 : 1 ≤ g := by rw [hg]; exact Nat.one_le_two_pow
    obtain ⟨k, hk⟩ : ∃ k, cutAt mag g = k := ⟨_, rfl⟩
    rw [← hg, hk]
    obtain ⟨c1, c2, c3⟩ := cutAt_bounds mag g k hg1 hk
    have ev : ∀ n, A = (mag : Rat) ∨ (n * g) % 2 = 0 := by
      intro n
      rcases hT with h2 | ⟨h2, _⟩
      · exact .inl h2
      · right
        have h3 : 54 ≤ lm := by
          rcases Nat.lt_or_ge lm 54 with h4 | h4
          · exfalso
            have := Nat.pow_le_pow_right (n := 2) (by omega) (show lm + 1 ≤ 54 by omega)
            omega
          · exact h4
        have h4 : g = 2 * 2 ^ (lm - 54) := by rw [hg, ← Nat.pow_succ']; congr 1; omega
        rw [h4, ← Nat.mul_assoc, Nat.mul_comm n 2, Nat.mul_assoc]
        omega
    -- W: the number at its place
    obtain ⟨W, hW⟩ : ∃ W : Rat, W = A * b2 (-((lm : Int) - 52)) := ⟨_, rfl⟩
    have hAW : A = 2 * W * (g : Rat) := by
      have e1 : 2 * (g : Rat) = b2 ((lm : Int) - 52) := by
        rw [hg, ← b2_nat, ← b2_succ]; congr 1; omega
      have e2 : b2 (-((lm : Int) - 52)) * b2 ((lm : Int) - 52) = 1 := by rw [← b2_add, show -((lm : Int) - 52) + ((lm : Int) - 52) = 0 by omega, b2_zero]
      rw [hW]; grind
    have hv : A * b2 place = W * b2 (place + lm - 52) := by
      have : b2 place = b2 (-((lm : Int) - 52)) * b2 (place + lm - 52) := by rw [← b2_add]; congr 1; omega
      rw [hW, this]; grind
    have hgp := nat_pos hg1
    have q1 : ((2 * k * g + g : Nat) : Rat) = (2 * (k : Rat) + 1) * (g : Rat) := by
      rw [show 2 * k * g + g = (2 * k + 1) * g by rw [Nat.add_mul, Nat.one_mul], cast_mul, nat_add_one, cast_mul]; rfl
    have p1 := told_le hT ((2 * k + 1) * g) (ev (2 * k + 1))
    have q1' : (((2 * k + 1) * g : Nat) : Rat) = (2 * (k : Rat) + 1) * (g : Rat) := by rw [cast_mul, nat_add_one, cast_mul]; rfl
    have e3 : (2 * k + 1) * g = 2 * k * g + g := by rw [Nat.add_mul, Nat.one_mul]
    rw [q1', e3, hAW] at p1
    have r1 : 2 * W ≤ 2 * (k : Rat) + 1 := (mul_le_iff hgp).1 (p1.1.2 c2)
    -- the least: 2^52
    have hWl : 4503599627370496 ≤ W := by
      have e4 : 2 ^ lm = 9007199254740992 * g := by rw [hg, show lm = 53 + (lm - 53) by omega, Nat.pow_add, show 53 + (lm - 53) - 53 = lm - 53 by omega]
      have p2 := (told_le hT (9007199254740992 * g) (ev _)).2
      rw [cast_mul, hAW] at p2
      have h3 : ¬ (2 * W * (g : Rat) < ((9007199254740992 : Nat) : Rat) * (g : Rat)) := fun h4 => by have := p2.1 h4; omega
      rw [mul_lt_iff hgp] at h3
      have : ((9007199254740992 : Nat) : Rat) = 9007199254740992 := rfl
      rw [this] at h3
      grind
    have hk52 : 4503599627370496 ≤ k := by
      rcases Nat.lt_or_ge k 4503599627370496 with h3 | h3
      · exfalso
        have h4 : (k : Rat) ≤ 4503599627370495 := cast_le (show k ≤ 4503599627370495 by omega)
        grind
      · exact h3
    have hk53 : k ≤ 9007199254740992 := by
      rcases Nat.lt_or_ge 9007199254740992 k with h3 | h3
      · exfalso
        have e4 : 2 ^ (lm + 1) = 18014398509481984 * g := by rw [hg, show lm + 1 = 54 + (lm - 53) by omega, Nat.pow_add]
        have h4 : 2 * 9007199254740993 * g ≤ 2 * k * g := Nat.mul_le_mul_right g (by omega)
        omega
      · exact h3
    obtain ⟨j, hj⟩ : ∃ j, k = j + 1 := ⟨k - 1, by omega⟩
    have p3 := told_le hT ((2 * j + 1) * g) (ev (2 * j + 1))
    have q3 : (((2 * j + 1) * g : Nat) : Rat) = (2 * (k : Rat) - 1) * (g : Rat) := by
      have a2 : ((2 * j + 1 : Nat) : Rat) = 2 * (j : Rat) + 1 := by rw [Rat.natCast_add, Rat.natCast_mul]; rfl
      have a3 : (k : Rat) = (j : Rat) + 1 := by rw [hj]; exact Rat.natCast_add j 1
      rw [cast_mul, a2, a3]; grind
    have e5 : (2 * j + 1) * g + g = 2 * k * g := by rw [hj, Nat.mul_add, Nat.add_mul, Nat.add_mul]; omega
    rw [q3, hAW] at p3
    have r2 : 2 * (k : Rat) - 1 ≤ 2 * W := by
      have h3 : ¬ (2 * W * (g : Rat) < (2 * (k : Rat) - 1) * (g : Rat)) := fun h4 => by have := p3.2.1 h4; omega
      rw [mul_lt_iff hgp] at h3
      grind
    have r3 : k % 2 = 1 → 2 * W < 2 * (k : Rat) + 1 ∧ 2 * (k : Rat) - 1 < 2 * W := by
      intro ho
      refine ⟨(mul_lt_iff hgp).1 (p1.2.2 (c3 ho).2), ?_⟩
      have h3 : ¬ (2 * W * (g : Rat) ≤ (2 * (k : Rat) - 1) * (g : Rat)) := fun h4 => by have := p3.1.1 h4; have := (c3 ho).1; omega
      rw [mul_le_iff hgp] at h3
      grind
    rcases Nat.lt_or_ge k 9007199254740992 with hlt | hge
    · have hn := near_of_round hv r1 r2 r3 (fun h => by
        have h4 : (k : Rat) = 4503599627370496 := by rw [h.1]; rfl
        grind)
      obtain ⟨e1, e2⟩ := near_one hnear hn hcan ⟨hlt, by omega, .inl hk52⟩
      exact rung_is (.inl ⟨e1.symm, e2.symm⟩) (by omega) (by omega) hk53
    · have hk2 : k = 9007199254740992 := by omega
      have h4 : (k : Rat) = 9007199254740992 := by rw [hk2]; rfl
      have hv2 : A * b2 place = W * (1 / 2) * b2 (place + lm - 52 + 1) := by
        rw [hv, b2_succ]; grind
      have h5 : ((4503599627370496 : Nat) : Rat) = 4503599627370496 := rfl
      have hn := near_of_round (m := 4503599627370496) hv2 (by rw [h5]; grind) (by rw [h5]; grind) (fun h => by omega) (fun _ => by rw [h5]; grind)
      obtain ⟨e1, e2⟩ := near_one hnear hn hcan ⟨by omega, by omega, .inl (by omega)⟩
      exact rung_is (.inr ⟨hk2, e1, e2⟩) (by omega) (by omega) hk53
end Go.Proofs.YtikpgglbfpdhmaaGreatDoor

namespace Go.Proofs.YtikpgglbfpdhmaaGreatDoor

theorem b2_lt {a b : Int} (h : b2 a < b2 b) : a < b := by
  rcases Int.lt_or_le a b with h1 | h1
  · exact h1
  · exfalso
    have := b2_mono h1
    grind
theorem b2_52 : b2 52 = 4503599627370496 := by
  have := b2_nat 52
  rw [show ((2 ^ 52 : Nat) : Rat) = 4503599627370496 by rfl] at this
  exact this
theorem b2_54 : b2 54 = 18014398509481984 := by
  have := b2_nat 54
  rw [show ((2 ^ 54 : Nat) : Rat) = 18014398509481984 by rfl] at this
  exact this
/-- The program's exponent, of a number of b bits at the place p. -/
def eOf (b : Nat) (p : Int) : Int := min 1074 (53 - b - lpw p)
theorem read_gap (i b d s : Nat) (hi : 3 ≤ i ∧ i ≤ 658) (hb : 1 ≤ b ∧ b ≤ 60) (hd : d < 2 ^ b) (hs : (s : Int) = -(eOf b ((i : Int) - 348) - (64 - b) + lpw ((i : Int) - 348) + 3)) (hs63 : s ≤ 63) :
    d * 2 ^ (64 - b) * tenN i % (tenD i * 2 ^ (128 + s)) = 0 ∨ (tenD i * 36893488147419103232 ≤ d * 2 ^ (64 - b) * tenN i % (tenD i * 2 ^ (128 + s)) ∧ d * 2 ^ (64 - b) * tenN i % (tenD i * 2 ^ (128 + s)) + tenD i * 36893488147419103232 ≤ tenD i * 2 ^ (128 + s)) := by
  unfold eOf at hs
  by_cases hn : 53 - (b : Int) - lpw ((i : Int) - 348) ≤ 1074
  · have hs8 : s = 8 := by omega
    subst hs8
    have h := allFrom_at 656 3 i read_keeps (by omega) (by omega)
    have h2 := keeps_off h (d * 2 ^ (60 - b)) (by
      have h3 : d * 2 ^ (60 - b) ≤ 2 ^ b * 2 ^ (60 - b) := Nat.mul_le_mul_right _ (Nat.le_of_lt hd)
      rw [← Nat.pow_add, show b + (60 - b) = 60 by omega] at h3
      exact h3)
    have e : d * 2 ^ (60 - b) * (16 * tenN i) = d * 2 ^ (64 - b) * tenN i := by
      have : 2 ^ (64 - b) = 2 ^ (60 - b) * 16 := by rw [show 64 - b = 60 - b + 4 by omega, Nat.pow_add]
      rw [this, Nat.mul_assoc, Nat.mul_assoc, Nat.mul_assoc]
    rw [e] at h2
    exact h2
  · have hi40 : i ≤ 40 := by unfold lpw at hn; omega
    have h := allFrom_at 2280 0 ((i - 3) * 60 + (b - 1)) sub_keeps (by omega) (by omega)
    unfold subOk at h
    have e1 : 3 + ((i - 3) * 60 + (b - 1)) / 60 = i := by omega
    have e2 : 1 + ((i - 3) * 60 + (b - 1)) % 60 = b := by omega
    simp only [e1, e2, Bool.or_eq_true, decide_eq_true_eq] at h
    have hsub : subS i b = s := by unfold subS; omega
    rw [hsub] at h
    rcases h with (h | h) | h
    · omega
    · omega
    · rw [Int.toNat_natCast] at h
      have h2 := keeps_off h d (Nat.le_of_lt hd)
      rw [← Nat.mul_assoc] at h2
      exact h2
theorem read_one (mt : Nat) (x : Int) (d b i : Nat) (hcan : Canon mt x) (h1 : 1 ≤ mt) (hnear : Near mt x ((d : Rat) * b10 ((i : Int) - 348))) (hb : 1 ≤ b ∧ b ≤ 60) (hd1 : 2 ^ (b - 1) ≤ d) (hd : d < 2 ^ b) (hi : 3 ≤ i ∧ i ≤ 658) :
    ∃ s u : Nat, (s : Int) = -(eOf b ((i : Int) - 348) - (64 - b) + lpw ((i : Int) - 348) + 3) ∧ s < 64 ∧ usc ((d * 2 ^ (64 - b) : Nat) : Int) (phi i) (plo i) s = (u : Int) ∧ u < 72057594037927936 ∧
      ((u < 36028797018963966 ∧ rnd u = mt ∧ x = -eOf b ((i : Int) - 348)) ∨ (36028797018963966 ≤ u ∧ rnd (u / 2 ||| u % 2) = mt ∧ x = -(eOf b ((i : Int) - 348) - 1))) := by
  obtain ⟨p, hp⟩ : ∃ p : Int, p = (i : Int) - 348 := ⟨_, rfl⟩
  have hi9 : i < 696 := by omega
  have hten := ten_exact i hi9
  have htab := tab_ok i hi9
  have htb := ten_bounds i hi9
  have hL : -1150 ≤ lpw p ∧ lpw p ≤ 1040 := by unfold lpw; omega
  -- the number's bounds
  have hdl : b2 ((b : Int) - 1) ≤ (d : Rat) := by
    rw [show (b : Int) - 1 = ((b - 1 : Nat) : Int) by omega, b2_nat]; exact cast_le hd1
  have hdu : (d : Rat) ≤ b2 (b : Int) := by rw [b2_nat]; exact cast_le (Nat.le_of_lt hd)
  have hlow : b2 (-1074) ≤ 2 * ((d : Rat) * b10 p) := by
    have h2 := near_low hnear
    have h3 := b2_mono hcan.2.1
    have h4 : (1 : Rat) ≤ (mt : Rat) := cast_le h1
    have h5 : 1 * b2 x ≤ (2 * (mt : Rat) - 1) * b2 x := (mul_le_iff (b2_pos x)).2 (by grind)
    rw [← hp] at h2
    grind
  rw [← hp] at hnear htb
  have ht := b10_pos p
  have hvu : 4096 * ((d : Rat) * b10 p) ≤ 4095 * b2 ((b : Int) + lpw p + 1) := by
    have h2 : (d : Rat) * b10 p ≤ b2 (b : Int) * b10 p := (mul_le_iff ht).2 hdu
    have h3 : 4096 * b10 p * b2 (b : Int) ≤ 4095 * b2 (lpw p + 1) * b2 (b : Int) := (mul_le_iff (b2_pos _)).2 htb.2
    have h4 : b2 ((b : Int) + lpw p + 1) = b2 (lpw p + 1) * b2 (b : Int) := by rw [← b2_add]; congr 1; omega
    grind
  have hbl : -1075 < (b : Int) + lpw p + 1 := by
    apply b2_lt
    have h2 : b2 (-1074) = 2 * b2 (-1075) := by have := b2_succ (-1075); exact this
    have h3 := b2_pos ((b : Int) + lpw p + 1)
    grind
  obtain ⟨e, he⟩ : ∃ e : Int, e = eOf b p := ⟨_, rfl⟩
  have he2 : e = 1074 ∨ e = 53 - b - lpw p := by rw [he]; unfold eOf; omega
  have he3 : e ≤ 1074 ∧ e ≤ 53 - b - lpw p := by rw [he]; unfold eOf; omega
  obtain ⟨s, hs⟩ : ∃ s : Nat, (s : Int) = -(e - (64 - b) + lpw p + 3) := ⟨(-(e - (64 - b) + lpw p + 3)).toNat, by omega⟩
  have hs63 : 8 ≤ s ∧ s ≤ 63 := by omega
  have hx63 : 9223372036854775808 ≤ d * 2 ^ (64 - b) ∧ d * 2 ^ (64 - b) < 18446744073709551616 := by
    have h2 := Nat.mul_le_mul_right (2 ^ (64 - b)) hd1
    have h3 := (Nat.mul_lt_mul_right (Nat.two_pow_pos (64 - b))).2 hd
    rw [← Nat.pow_add, show b - 1 + (64 - b) = 63 by omega] at h2
    rw [← Nat.pow_add, show b + (64 - b) = 64 by omega] at h3
    omega
  have hgap := read_gap i b d s hi hb hd (by rw [← hp, ← he]; exact hs) hs63.2
  have hgx := high_ge (d * 2 ^ (64 - b)) (phi i) 4611686018427387904 (by omega) htab.1
  have hex := usc_exact (d * 2 ^ (64 - b)) (phi i) (plo i) s (tenN i) (tenD i) hx63.2 htab.2.1 htab.2.2 (by omega) hten.1 hten.2.1 hten.2.2 (by omega) hgap
  obtain ⟨u, hu⟩ : ∃ u, u = unr (d * 2 ^ (64 - b) * tenN i) (tenD i * 2 ^ (128 + s)) := ⟨_, rfl⟩
  rw [← hu] at hex
  -- what is scaled
  obtain ⟨W, hW⟩ : ∃ W : Rat, W = (d : Rat) * b10 p * b2 e := ⟨_, rfl⟩
  have hWx : ((d * 2 ^ (64 - b) : Nat) : Rat) * b2 (e - (64 - b)) * b10 ((i : Int) - 348) = W := by
    rw [hW, cast_mul, ← b2_nat, ← hp]
    have : b2 e = b2 ((64 - b : Nat) : Int) * b2 (e - (64 - b)) := by rw [← b2_add]; congr 1; omega
    rw [this]; grind
  have hWx2 : ((d * 2 ^ (64 - b) : Nat) : Rat) * b2 (e - 1 - (64 - b)) * b10 ((i : Int) - 348) = W * (1 / 2) := by
    rw [← hWx]
    have : b2 (e - (64 - b)) = 2 * b2 (e - 1 - (64 - b)) := by rw [← b2_succ]; congr 1; omega
    rw [this]; grind
  have hWu : 4096 * W ≤ 4095 * 18014398509481984 := by
    have h2 : b2 ((b : Int) + lpw p + 1) * b2 e ≤ b2 54 := by rw [← b2_add]; exact b2_mono (by omega)
    have h3 : 4096 * ((d : Rat) * b10 p) * b2 e ≤ 4095 * b2 ((b : Int) + lpw p + 1) * b2 e := (mul_le_iff (b2_pos e)).2 hvu
    rw [b2_54] at h2
    grind
  have hWl : e = 53 - b - lpw p → 4503599627370496 ≤ W := by
    intro hn
    have h2 : b2 ((b : Int) - 1) * b10 p ≤ (d : Rat) * b10 p := (mul_le_iff ht).2 hdl
    have h3 : b2 (lpw p) * b2 ((b : Int) - 1) ≤ b10 p * b2 ((b : Int) - 1) := (mul_le_iff (b2_pos _)).2 htb.1
    have h4 : b2 (lpw p) * b2 ((b : Int) - 1) * b2 e = b2 52 := by rw [← b2_add, ← b2_add]; congr 1; omega
    have h5 : b2 (lpw p) * b2 ((b : Int) - 1) * b2 e ≤ (d : Rat) * b10 p * b2 e := (mul_le_iff (b2_pos e)).2 (by grind)
    rw [h4, b2_52] at h5
    grind
  have hv1 : (d : Rat) * b10 p = W * b2 (-e) := by
    have : b2 e * b2 (-e) = 1 := by rw [← b2_add, show e + -e = 0 by omega, b2_zero]
    rw [hW]; grind
  have hv2 : (d : Rat) * b10 p = W * (1 / 2) * b2 (-(e - 1)) := by
    have : b2 (-(e - 1)) = 2 * b2 (-e) := by rw [← b2_succ]; congr 1; omega
    rw [this, hv1]; grind
  have hs' : (s : Int) = -(e - (64 - b) + lpw ((i : Int) - 348) + 3) := by rw [← hp]; exact hs
  have hs1' : ((s + 1 : Nat) : Int) = -(e - 1 - (64 - b) + lpw ((i : Int) - 348) + 3) := by rw [← hp]; omega
  have hM : 1 ≤ tenD i * 2 ^ (128 + s) := Nat.mul_pos hten.1 (Nat.two_pow_pos _)
  have t1 := scale_lt i s _ hs' hten.1 (d * 2 ^ (64 - b)) (4 * 9007199254740991 + 2)
  rw [← half_lt _ _ _ hM, ← hu, hWx] at t1
  have c1 : ((4 * 9007199254740991 + 2 : Nat) : Rat) = 36028797018963966 := by rfl
  rw [c1] at t1
  have hu72 : u < 72057594037927936 := by
    have f := scale_lt i s _ hs' hten.1 (d * 2 ^ (64 - b)) (4 * 18014398509481984)
    rw [← unr_lt' _ _ _ hM, ← hu, hWx] at f
    have c2 : ((4 * 18014398509481984 : Nat) : Rat) = 72057594037927936 := by rfl
    rw [c2] at f
    have := f.2 (by grind)
    omega
  refine ⟨s, u, by rw [← hp, ← he]; exact hs, by omega, hex, hu72, ?_⟩
  rw [← hp, ← he]
  by_cases hlt : u < 36028797018963966
  · left
    refine ⟨hlt, ?_⟩
    obtain ⟨m, hm⟩ : ∃ m, rnd u = m := ⟨_, rfl⟩
    obtain ⟨r1, r2, r3⟩ := round_of i s _ hs' hten.1 (d * 2 ^ (64 - b)) u m hu hm W hWx
    have hm9 : m < 9007199254740992 := by have := rnd_bounds u m hm; omega
    have hnorm : e = 53 - b - lpw p → 4503599627370496 ≤ m := by
      intro hn
      have h2 := hWl hn
      rcases Nat.lt_or_ge m 4503599627370496 with h3 | h3
      · exfalso
        have h4 : (m : Rat) ≤ 4503599627370495 := cast_le (show m ≤ 4503599627370495 by omega)
        grind
      · exact h3
    have hm1 : 1 ≤ m := by
      rcases Nat.eq_zero_or_pos m with h0 | h0
      · exfalso
        subst h0
        rcases he2 with h2 | h2
        · -- nothing is rounded to nothing here
          have h3 : 2 * W ≤ 1 := by have : ((0 : Nat) : Rat) = 0 := rfl; grind
          have h4 : 1 ≤ 2 * W := by
            have : b2 (-1074) * b2 e = 1 := by rw [← b2_add, h2]; exact b2_zero
            have h5 : b2 (-1074) * b2 e ≤ 2 * ((d : Rat) * b10 p) * b2 e := (mul_le_iff (b2_pos e)).2 hlow
            grind
          have h6 : W = 1 / 2 := by grind
          -- a half of the least float: it is not near a float but the least, which is odd
          have hx1 : x = -1074 ∧ mt = 1 := by
            have h7 := near_low hnear
            have hb1 : b2 (-1074) = 2 * ((d : Rat) * b10 p) := by
              have : b2 (-1074) * b2 e = 1 := by rw [← b2_add, h2]; exact b2_zero
              have h8 : b2 (-1074) * b2 e = 2 * ((d : Rat) * b10 p) * b2 e := by grind
              have h9 := (mul_le_iff (b2_pos e)).1 (show b2 (-1074) * b2 e ≤ 2 * ((d : Rat) * b10 p) * b2 e by grind)
              have h10 := (mul_le_iff (b2_pos e)).1 (show 2 * ((d : Rat) * b10 p) * b2 e ≤ b2 (-1074) * b2 e by grind)
              grind
            rw [← hb1] at h7
            have h11 := b2_mono hcan.2.1
            have h12 : mt = 1 := by
              rcases Nat.lt_or_ge mt 2 with h13 | h13
              · omega
              · exfalso
                have h14 : (2 : Rat) ≤ (mt : Rat) := cast_le h13
                have h15 : 3 * b2 x ≤ (2 * (mt : Rat) - 1) * b2 x := (mul_le_iff (b2_pos x)).2 (by grind)
                have := b2_pos (-1074)
                grind
            refine ⟨?_, h12⟩
            rcases hcan.2.2 with h13 | h13
            · omega
            · exact h13
          have h7 := (hnear.odd (by rw [hx1.2])).1
          rw [hx1.1, hx1.2] at h7
          have h8 : ((1 : Nat) : Rat) = 1 := rfl
          have hb1 : b2 (-1074) * b2 e = 1 := by rw [← b2_add, h2]; exact b2_zero
          have h9 : b2 (-1074) * b2 e < 2 * ((d : Rat) * b10 p) * b2 e := (mul_lt_iff (b2_pos e)).2 (by grind)
          grind
        · have := hnorm h2; omega
      · exact h0
    rw [if_neg (by omega)] at r2
    have hcan2 : Canon m (-e) := ⟨hm9, by omega, by rcases he2 with h2 | h2; exact .inr (by omega); exact .inl (hnorm h2)⟩
    have hn2 := near_of_round hv1 r1 (by grind) r3 (fun h => by
      rcases he2 with h2 | h2
      · omega
      · have h3 := hWl h2
        have h4 : (m : Rat) = 4503599627370496 := by rw [h.1]; rfl
        grind)
    obtain ⟨e1, e2⟩ := near_one hnear hn2 hcan hcan2
    exact ⟨hm.trans e1.symm, e2⟩
  · right
    refine ⟨by omega, ?_⟩
    have hge : 36028797018963966 ≤ W * 4 := by
      rcases Rat.le_total (a := (36028797018963966 : Rat)) (b := W * 4) with h2 | h2
      · exact h2
      · by_cases h3 : W * 4 = 36028797018963966
        · grind
        · exact absurd (t1.2 (by grind)) hlt
    have hu2 : u / 2 ||| u % 2 = unr (d * 2 ^ (64 - b) * tenN i) (tenD i * 2 ^ (128 + (s + 1))) := by
      rw [hu, unr_half _ _ hM]
      congr 1
      rw [show 128 + (s + 1) = 128 + s + 1 by omega, Nat.pow_succ, Nat.mul_left_comm, Nat.mul_comm 2]
    obtain ⟨m, hm⟩ : ∃ m, rnd (u / 2 ||| u % 2) = m := ⟨_, rfl⟩
    obtain ⟨r1, r2, r3⟩ := round_of i (s + 1) _ hs1' hten.1 (d * 2 ^ (64 - b)) (u / 2 ||| u % 2) m hu2 hm (W * (1 / 2)) hWx2
    have hm1 : 4503599627370496 ≤ m := by
      rcases Nat.lt_or_ge m 4503599627370496 with h3 | h3
      · exfalso
        have h4 : (m : Rat) ≤ 4503599627370495 := cast_le (show m ≤ 4503599627370495 by omega)
        grind
      · exact h3
    rw [if_neg (by omega)] at r2
    have hm9 : m < 9007199254740992 := by
      rcases Nat.lt_or_ge m 9007199254740992 with h3 | h3
      · exact h3
      · exfalso
        have h4 : (9007199254740992 : Rat) ≤ (m : Rat) := cast_le h3
        grind
    have hcan2 : Canon m (-(e - 1)) := ⟨hm9, by omega, .inl hm1⟩
    have hn2 := near_of_round hv2 r1 (by grind) r3 (fun h => by
      have h4 : (m : Rat) = 4503599627370496 := by rw [h.1]; rfl
      grind)
    obtain ⟨e1, e2⟩ := near_one hnear hn2 hcan hcan2
    exact ⟨hm.trans e1.symm, e2⟩
end Go.Proofs.YtikpgglbfpdhmaaGreatDoor

namespace Go.Proofs.YtikpgglbfpdhmaaGreatDoor
open Go.Lib

/-- One digit. -/
def dg (n : Nat) : UInt8 := (n + 48).toUInt8
def expoN (a : Nat) : List UInt8 := if a < 10 then [48, dg a] else if a < 100 then [dg (a / 10), dg (a % 10)] else [dg (a / 100), dg (a / 10 % 10), dg (a % 10)]
def expo (x : Int) : List UInt8 := (if x < 0 then 45 else 43) :: expoN x.natAbs
def sgn (neg : Bool) : List UInt8 := if neg then [45] else []
/-- .. with an exponent. -/
def eform (neg : Bool) (ds : List UInt8) (dp : Int) : List UInt8 := sgn neg ++ (ds.take 1 ++ ((if 1 < ds.length then 46 :: ds.drop 1 else []) ++ (101 :: expo (dp - 1))))
/-- .. without one. -/
def fform (neg : Bool) (ds : List UInt8) (dp : Int) : List UInt8 :=
  sgn neg ++ ((if 0 < dp then ds.take dp.toNat ++ List.replicate (dp.toNat - ds.length) 48 else [48]) ++
    (if dp < ds.length then 46 :: (List.replicate (-dp).toNat 48 ++ ds.drop dp.toNat) else []))
/-- The shortest form. -/
def gform (neg : Bool) (ds : List UInt8) (dp : Int) : List UInt8 := if dp < -3 ∨ 7 ≤ dp then eform neg ds dp else fform neg ds dp
/-- What the program trims, and what is left where no point and no e is there. -/
def cutBytes : List UInt8 := [45, 48, 49, 50, 51, 52, 53, 54, 55, 56, 57]
def isDig (b : UInt8) : Bool := decide (48 ≤ b.toNat) && decide (b.toNat ≤ 57)
def marks (l : List UInt8) : Bool := l.any fun b => b == 46 || b == 101
theorem mem_dropWhile {p : UInt8 → Bool} : ∀ {l : List UInt8} {x : UInt8}, x ∈ l → p x = false → x ∈ l.dropWhile p
  | y :: l, x, h, hp => by
    rw [List.dropWhile_cons]
    split
    · rename_i hy
      rcases List.mem_cons.1 h with rfl | h
      · rw [hp] at hy; cases hy
      · exact mem_dropWhile h hp
    · exact h
theorem dropWhile_all {p : UInt8 → Bool} : ∀ {l : List UInt8}, (∀ x ∈ l, p x = true) → l.dropWhile p = []
  | [], _ => rfl
  | y :: l, h => by
    rw [List.dropWhile_cons, if_pos (h y (by simp))]
    exact dropWhile_all fun x hx => h x (by simp [hx])
theorem trim_nil (l cs : List UInt8) (h : ∀ x ∈ l, cs.contains x = true) : trimS l cs = [] := by
  unfold trimS trimRightS
  rw [dropWhile_all (fun x hx => h x (by simpa using hx))]
  rfl
theorem trim_some (l cs : List UInt8) {x : UInt8} (hx : x ∈ l) (hc : cs.contains x = false) : trimS l cs ≠ [] := by
  intro h
  have h1 : x ∈ trimRightS l cs := by
    unfold trimRightS
    rw [List.mem_reverse]
    exact mem_dropWhile (by simpa using hx) hc
  have h2 : x ∈ trimS l cs := by unfold trimS trimLeftS; exact mem_dropWhile h1 hc
  rw [h] at h2
  cases h2
theorem byte_cases {P : UInt8 → Prop} (h : ∀ n : Fin 256, P (n.val.toUInt8)) (b : UInt8) : P b := by
  have := h ⟨b.toNat, b.toNat_lt⟩
  simpa using this
theorem cut_dig : ∀ b : UInt8, isDig b = true → cutBytes.contains b = true := by
  intro b
  revert b
  apply byte_cases
  decide +kernel
/-- Text of digits, signs and marks, '+' only behind an 'e': it is trimmed to nothing if there is no mark. -/
theorem trim_marks (l : List UInt8) (h : ∀ b ∈ l, isDig b = true ∨ b = 45 ∨ b = 46 ∨ b = 101 ∨ b = 43) (hp : 43 ∈ l → 101 ∈ l) : trimS l cutBytes = [] ↔ marks l = false := by
  cases hm : marks l with
  | true =>
    constructor
    · intro e
      obtain ⟨b, hb, hb2⟩ := List.any_eq_true.1 hm
      rcases (show b = 46 ∨ b = 101 by simpa using hb2) with rfl | rfl
      · exact absurd e (trim_some _ _ hb (by decide))
      · exact absurd e (trim_some _ _ hb (by decide))
    · intro e; cases e
  | false =>
    refine ⟨fun _ => rfl, fun _ => ?_⟩
    have hn : ∀ b ∈ l, b ≠ 46 ∧ b ≠ 101 := by
      intro b hb
      have := List.any_eq_false.1 hm b hb
      simpa using this
    refine trim_nil _ _ fun x hx => ?_
    rcases h x hx with h1 | rfl | rfl | rfl | rfl
    · exact cut_dig x h1
    · decide
    · exact absurd rfl (hn _ hx).1
    · exact absurd rfl (hn _ hx).2
    · exact absurd rfl (hn _ (hp hx)).2
theorem dg_dig (n : Nat) (h : n < 10) : isDig (dg n) = true := by
  revert n; decide
def Alpha (b : UInt8) : Prop := isDig b = true ∨ b = 45 ∨ b = 46 ∨ b = 101 ∨ b = 43
theorem expoN_alpha (a : Nat) (h : a < 1000) : ∀ b ∈ expoN a, isDig b = true := by
  unfold expoN
  split
  · intro b hb
    simp only [List.mem_cons, List.mem_nil_iff, or_false] at hb
    rcases hb with rfl | rfl
    · decide
    · exact dg_dig _ (by omega)
  · split
    · intro b hb
      simp only [List.mem_cons, List.mem_nil_iff, or_false] at hb
      rcases hb with rfl | rfl <;> exact dg_dig _ (by omega)
    · intro b hb
      simp only [List.mem_cons, List.mem_nil_iff, or_false] at hb
      rcases hb with rfl | rfl | rfl <;> exact dg_dig _ (by omega)
theorem sgn_alpha (neg : Bool) : ∀ b ∈ sgn neg, Alpha b := by
  cases neg
  · intro b hb; cases hb
  · intro b hb
    rw [show sgn true = [45] from rfl, List.mem_singleton] at hb
    subst hb; exact .inr (.inl rfl)
theorem eform_alpha (neg : Bool) (ds : List UInt8) (dp : Int) (hd : ∀ b ∈ ds, isDig b = true) (h0 : -999 < dp) (h1 : dp < 1000) : ∀ b ∈ eform neg ds dp, Alpha b := by
  intro b hb
  unfold eform at hb
  simp only [List.mem_append, List.mem_cons] at hb
  rcases hb with hb | hb | hb | rfl | hb
  · exact sgn_alpha neg b hb
  · exact .inl (hd b (List.mem_of_mem_take hb))
  · split at hb
    · rcases List.mem_cons.1 hb with rfl | hb
      · exact .inr (.inr (.inl rfl))
      · exact .inl (hd b (List.mem_of_mem_drop hb))
    · cases hb
  · exact .inr (.inr (.inr (.inl rfl)))
  · unfold expo at hb
    rcases List.mem_cons.1 hb with rfl | hb
    · split
      · exact .inr (.inl rfl)
      · exact .inr (.inr (.inr (.inr rfl)))
    · exact .inl (expoN_alpha _ (by omega) b hb)
theorem eform_e (neg : Bool) (ds : List UInt8) (dp : Int) : 101 ∈ eform neg ds dp := by
  unfold eform
  simp
theorem fform_alpha (neg : Bool) (ds : List UInt8) (dp : Int) (hd : ∀ b ∈ ds, isDig b = true) : ∀ b ∈ fform neg ds dp, isDig b = true ∨ b = 45 ∨ b = 46 := by
  intro b hb
  unfold fform at hb
  simp only [List.mem_append] at hb
  rcases hb with hb | hb | hb
  · cases neg
    · cases hb
    · rw [show sgn true = [45] from rfl, List.mem_singleton] at hb
      exact .inr (.inl hb)
  · split at hb
    · rcases List.mem_append.1 hb with hb | hb
      · exact .inl (hd b (List.mem_of_mem_take hb))
      · rw [(List.mem_replicate.1 hb).2]; exact .inl rfl
    · rw [List.mem_singleton] at hb
      rw [hb]; exact .inl rfl
  · split at hb
    · rcases List.mem_cons.1 hb with rfl | hb
      · exact .inr (.inr rfl)
      · rcases List.mem_append.1 hb with hb | hb
        · rw [(List.mem_replicate.1 hb).2]; exact .inl rfl
        · exact .inl (hd b (List.mem_of_mem_drop hb))
    · cases hb
/-- The shortest form of a number is trimmed to nothing if it has no mark. -/
theorem gform_trim (neg : Bool) (ds : List UInt8) (dp : Int) (hd : ∀ b ∈ ds, isDig b = true) (h0 : -999 < dp) (h1 : dp < 1000) : trimS (gform neg ds dp) cutBytes = [] ↔ marks (gform neg ds dp) = false := by
  unfold gform
  split
  · exact trim_marks _ (eform_alpha neg ds dp hd h0 h1) (fun _ => eform_e neg ds dp)
  · refine trim_marks _ (fun b hb => ?_) (fun h => ?_)
    · rcases fform_alpha neg ds dp hd b hb with h | h | h
      · exact .inl h
      · exact .inr (.inl h)
      · exact .inr (.inr (.inl h))
    · rcases fform_alpha neg ds dp hd _ h with h | h | h <;> exact absurd h (by decide)
end Go.Proofs.YtikpgglbfpdhmaaGreatDoor

namespace Go.Proofs.YtikpgglbfpdhmaaGreatDoor
open Go.Lib

theorem read_max : ∃ m i, FloatKind.f64.format.read 9218868437227405311 = .number false m i := by
  exact ⟨9007199254740991, 971, by decide +kernel⟩
theorem read_min : ∃ m i, FloatKind.f64.format.read 18442240474082181119 = .number true m i := by
  exact ⟨9007199254740991, 971, by decide +kernel⟩
theorem read_special (f : Nat) (hE : f / 4503599627370496 % 2048 = 2047) : (∃ s, FloatKind.f64.format.read f = .infinity s) ∨ ∃ s k, FloatKind.f64.format.read f = .nan s k := by
  have c1 : FloatKind.f64.format.signWeight = 9223372036854775808 := by decide +kernel
  have c2 : FloatKind.f64.format.binade = 4503599627370496 := by decide +kernel
  have c3 : FloatKind.f64.format.infRung = 9218868437227405312 := by decide +kernel
  have r1 : 9218868437227405312 ≤ f % 9223372036854775808 := by omega
  unfold Ieee.Format.read
  rw [c1, c2, c3]
  simp only
  rw [if_neg (by omega), if_neg (by omega)]
  by_cases h : f % 9223372036854775808 = 9218868437227405312
  · rw [if_pos h]; exact .inl ⟨_, rfl⟩
  · rw [if_neg h]; exact .inr ⟨_, _, rfl⟩
theorem plain_bits (f : Nat) (hn : fnan f = false) (h1 : fgt f 9218868437227405311 = false) (h2 : flt f 18442240474082181119 = false) : f / 4503599627370496 % 2048 ≠ 2047 := by
  intro hE
  obtain ⟨m, i, e1⟩ := read_max
  obtain ⟨m', i', e2⟩ := read_min
  unfold fnan at hn
  unfold fgt at h1
  unfold flt at h2
  unfold Ieee.Format.order at hn h1 h2
  rw [e1] at h1
  rw [e2] at h2
  rcases read_special f hE with ⟨s, e⟩ | ⟨s, k, e⟩
  · rw [e] at h1 h2
    cases s
    · simp [Ieee.Datum.order] at h1
    · simp [Ieee.Datum.order] at h2
  · rw [e] at hn
    simp [Ieee.Datum.order] at hn
theorem sgn_len (neg : Bool) : (sgn neg).length ≤ 1 := by cases neg <;> decide
theorem expoN_len (a : Nat) : (expoN a).length ≤ 3 := by
  unfold expoN
  split
  · simp
  · split <;> simp
theorem gform_len (neg : Bool) (ds : List UInt8) (dp : Int) (h : ds.length ≤ 32) : (gform neg ds dp).length ≤ 100 := by
  have h1 := sgn_len neg
  unfold gform
  split
  · have h2 := expoN_len (dp - 1).natAbs
    unfold eform expo
    split <;> simp <;> omega
  · rename_i hd
    unfold fform
    split <;> split <;> simp <;> omega
theorem gform_pos (neg : Bool) (ds : List UInt8) (dp : Int) (h : 1 ≤ ds.length ∨ dp ≤ 0 ∧ -3 ≤ dp) : 1 ≤ (gform neg ds dp).length := by
  unfold gform
  split
  · unfold eform; simp; omega
  · unfold fform
    split
    · rename_i h0
      rcases h with h | h
      · simp; omega
      · omega
    · simp; omega
end Go.Proofs.YtikpgglbfpdhmaaGreatDoor

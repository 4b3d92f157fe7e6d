/- Printing a float: of each float shortFloat gives some digits and a place; which, hangs on the float alone. -/
import Derived.Test.YtikpgglbfpdhmaaGreatDoorWrH
import GoSem.PinnedTables
namespace Go.Proofs.YtikpgglbfpdhmaaGreatDoor
open Go.RowKit Go.Joins

def phi (i : Nat) : Nat := (Pinned.pow10Rows.getD i (0, 0)).1
def plo (i : Nat) : Nat := (Pinned.pow10Rows.getD i (0, 0)).2
theorem rows_ok : (Pinned.pow10Rows.all fun x => decide (9223372036854775808 ≤ x.1 ∧ x.1 < 18446744073709551616 ∧ x.2 < 18446744073709551616)) = true := by decide +kernel
theorem rows_len : Pinned.pow10Rows.length = 696 := by decide +kernel
theorem tab_ok (i : Nat) (h : i < 696) : 9223372036854775808 ≤ phi i ∧ phi i < 18446744073709551616 ∧ plo i < 18446744073709551616 := by
  have h1 := rows_ok
  have h2 := rows_len
  unfold phi plo
  generalize Pinned.pow10Rows = l at *
  have hi : i < l.length := by rw [h2]; exact h
  have := List.all_eq_true.1 h1 l[i] (List.getElem_mem hi)
  rw [List.getD_eq_getElem?_getD, List.getElem?_eq_getElem hi]
  simpa using this
/-- The powers of ten, as they lie in memory. -/
def TenAt (w : World) : Prop := ∀ i, i < 696 → w.cell? ⟨15, i * 2, none⟩ = some (.int .u64 (phi i)) ∧ w.cell? ⟨15, i * 2 + 1, none⟩ = some (.int .u64 (plo i))
theorem usc_ge (n x hi lo s : Nat) (hx : x < 18446744073709551616) (hh : hi < 18446744073709551616) (h1 : (n + 1) * 2 ^ s ≤ x * hi / 18446744073709551616) : n ≤ usc x hi lo s := by
  have hH : x * hi / 18446744073709551616 < 18446744073709551616 := by
    rw [Nat.div_lt_iff_lt_mul (by omega)]
    exact Nat.lt_of_lt_of_le (Nat.mul_lt_mul_of_lt_of_le hx (Nat.le_of_lt hh) (by omega)) (by omega)
  have h2 : 1 ≤ 2 ^ s := Nat.one_le_two_pow
  have h3 : (n + 1) * 2 ^ s = n * 2 ^ s + 2 ^ s := Nat.succ_mul _ _
  unfold usc
  have eH : ((x : Int) * hi / 18446744073709551616) = ((x * hi / 18446744073709551616 : Nat) : Int) := by omega
  rw [eH]
  generalize x * hi / 18446744073709551616 = H at *
  split
  · have e : ((H : Int) / 2 ^ s) = ((H / 2 ^ s : Nat) : Int) := by rw [Int.natCast_ediv, Int.natCast_pow]; rfl
    have l : H / 2 ^ s < 18446744073709551616 := Nat.lt_of_le_of_lt (Nat.div_le_self _ _) hH
    have g : n ≤ H / 2 ^ s := (Nat.le_div_iff_mul_le (by omega)).2 (by omega)
    rw [e, show (1 : Int) = ((1 : Nat) : Int) from rfl, or_nat _ _ l (by omega)]
    have := or_ge (H / 2 ^ s) 1
    omega
  · obtain ⟨k, ek, hk⟩ := b2n_nat (decide ((x : Int) * hi % 18446744073709551616 < x * lo / 18446744073709551616))
    obtain ⟨j, ej, hj⟩ := b2n_nat (decide (1 < IntKind.u64.wrap ((x : Int) * hi % 18446744073709551616 - x * lo / 18446744073709551616)))
    rw [ek, ej]
    have hw : IntKind.u64.wrap ((H : Int) - k) = ((H - k : Nat) : Int) := by rw [IntKind.wrap_u64]; omega
    rw [hw]
    have hG : H - k < 18446744073709551616 := by omega
    have hG2 : n * 2 ^ s ≤ H - k := by omega
    generalize H - k = G at *
    have e : ((G : Int) / 2 ^ s) = ((G / 2 ^ s : Nat) : Int) := by rw [Int.natCast_ediv, Int.natCast_pow]; rfl
    have l : G / 2 ^ s < 18446744073709551616 := Nat.lt_of_le_of_lt (Nat.div_le_self _ _) hG
    have g : n ≤ G / 2 ^ s := (Nat.le_div_iff_mul_le (by omega)).2 (by omega)
    rw [e, or_nat _ _ l (by omega)]
    have := or_ge (G / 2 ^ s) j
    omega
theorem div_small (G s : Nat) (hG : G < 18446744073709551616) (hs : 4 ≤ s) : G / 2 ^ s < 2 ^ 60 := by
  have h1 : 2 ^ 4 ≤ 2 ^ s := Nat.pow_le_pow_right (by omega) hs
  rw [Nat.div_lt_iff_lt_mul (by omega)]
  exact Nat.lt_of_lt_of_le hG (by have := Nat.mul_le_mul_left (2 ^ 60) h1; omega)
theorem usc_lt (x hi lo s : Nat) (hx : x < 18446744073709551616) (hh : hi < 18446744073709551616) (hs : 4 ≤ s) (h1 : 2 ≤ x * hi / 18446744073709551616) : usc x hi lo s < 1152921504606846976 := by
  have hH : x * hi / 18446744073709551616 < 18446744073709551616 := by
    rw [Nat.div_lt_iff_lt_mul (by omega)]
    exact Nat.lt_of_lt_of_le (Nat.mul_lt_mul_of_lt_of_le hx (Nat.le_of_lt hh) (by omega)) (by omega)
  unfold usc
  have eH : ((x : Int) * hi / 18446744073709551616) = ((x * hi / 18446744073709551616 : Nat) : Int) := by omega
  rw [eH]
  generalize x * hi / 18446744073709551616 = H at *
  split
  · have e : ((H : Int) / 2 ^ s) = ((H / 2 ^ s : Nat) : Int) := by rw [Int.natCast_ediv, Int.natCast_pow]; rfl
    have l := div_small H s hH hs
    have l' : H / 2 ^ s < 18446744073709551616 := by omega
    rw [e, show (1 : Int) = ((1 : Nat) : Int) from rfl, or_nat _ _ l' (by omega)]
    have := Nat.or_lt_two_pow (n := 60) l (show 1 < 2 ^ 60 by omega)
    omega
  · obtain ⟨k, ek, hk⟩ := b2n_nat (decide ((x : Int) * hi % 18446744073709551616 < x * lo / 18446744073709551616))
    obtain ⟨j, ej, hj⟩ := b2n_nat (decide (1 < IntKind.u64.wrap ((x : Int) * hi % 18446744073709551616 - x * lo / 18446744073709551616)))
    rw [ek, ej]
    have hw : IntKind.u64.wrap ((H : Int) - k) = ((H - k : Nat) : Int) := by rw [IntKind.wrap_u64]; omega
    rw [hw]
    have hG : H - k < 18446744073709551616 := by omega
    generalize H - k = G at *
    have e : ((G : Int) / 2 ^ s) = ((G / 2 ^ s : Nat) : Int) := by rw [Int.natCast_ediv, Int.natCast_pow]; rfl
    have l := div_small G s hG hs
    have l' : G / 2 ^ s < 18446744073709551616 := by omega
    rw [e, or_nat _ _ l' (by omega)]
    have := Nat.or_lt_two_pow (n := 60) l (show j < 2 ^ 60 by omega)
    omega
theorem high_ge (x hi : Nat) (k : Nat) (hx : k * 2 ≤ x) (hh : 9223372036854775808 ≤ hi) : k ≤ x * hi / 18446744073709551616 := by
  rw [Nat.le_div_iff_mul_le (by decide)]
  refine Nat.le_trans ?_ (Nat.mul_le_mul hx hh)
  rw [Nat.mul_assoc]
  exact Nat.le_refl _
theorem wrap64_small (n : Nat) (h : n < 9223372036854775808) : wrap64 (n : Int) = n := by unfold wrap64; omega
theorem pow60 (s : Nat) (h : s ≤ 60) : 2 ^ s ≤ 1152921504606846976 := Nat.pow_le_pow_right (n := 2) (by omega) h
theorem and1i (n : Nat) (_h : n < 9223372036854775808) : bits BinOp.and IntKind.i64 (n : Int) 1 = ((n % 2 : Nat) : Int) := by
  show IntKind.i64.wrap (((BitVec.ofInt 64 (n : Int)) &&& (BitVec.ofInt 64 1)).toNat : Int) = _
  rw [BitVec.toNat_and, BitVec.ofInt_natCast, BitVec.toNat_ofNat, show (BitVec.ofInt 64 1).toNat = 1 from rfl, Nat.and_one_is_mod, IntKind.wrap_i64]
  omega
/-- What is wanted of the digits and the place. -/
def Short (m : Nat) (e : Int) (D : Nat) (Q : Int) : Prop := 1 ≤ D ∧ D < 1000000000000000000 ∧ -400 ≤ Q ∧ Q ≤ 400 ∧
  ∀ w : World, TenAt w → Calls Tryz.prog 139 #[.int .u64 m, .int .i64 e] w fun r w' => r = .returned (.tuple #[.int .u64 D, .int .i64 Q]) ∧ Below w.heap.size w w'
theorem short_of (m mn mx o : Nat) (e p z : Int) (he : -1137 ≤ e ∧ e ≤ 960) (hz : 11 ≤ z ∧ z ≤ 63) (hez : e + z = -1074 ∨ z = 11)
    (hpp : p = -((e + z) * 78913 / 262144) ∨ p = -(((e + z) * 631305 - 261663) / 2097152))
    (hm : 9223372036854775808 ≤ m ∧ m < 18446744073709551616) (hmn : 4611686018427387904 ≤ mn ∧ mn < 18446744073709551616) (hmx : 9223372036854775808 ≤ mx ∧ mx < 18446744073709551616) (ho : o ≤ 1)
    (HC : Hid ((m = 9223372036854775808 → -1085 < e → -(((e + 11) * 631305 - 261663) / 2097152) = p ∧ (9223372036854775296 : Int) = mn ∧ (9223372036854776832 : Int) = mx ∧ bits BinOp.and IntKind.i64 4503599627370496 1 = o) ∧
      (¬ (m = 9223372036854775808 ∧ -1085 < e) → -1085 ≤ e → -((e + 11) * 78913 / 262144) = p ∧ (m : Int) - 1024 = mn ∧ IntKind.u64.wrap ((m : Int) + 1024) = mx ∧ bits BinOp.and IntKind.i64 ((m : Int) / 2048) 1 = o) ∧
      (e < -1085 → -((e + (11 + (-1085 - e))) * 78913 / 262144) = p ∧ IntKind.u64.wrap ((m : Int) - IntKind.u64.wrap (2 ^ ((11 + (-1085 - e)).toNat - 1))) = mn ∧
        IntKind.u64.wrap ((m : Int) + IntKind.u64.wrap (2 ^ ((11 + (-1085 - e)).toNat - 1))) = mx ∧ bits BinOp.and IntKind.i64 (wrap64 ((m : Int) / 2 ^ (11 + (-1085 - e)).toNat)) 1 = o))) :
    ∃ D Q, Short m e D Q := by
  have hsm := shift_small e z p _ he.1 he.2 hz hez hpp rfl
  have hs4 : 4 ≤ -(e + p * 108853 / 32768 + 3) := by
    rcases hpp with rfl | rfl <;> omega
  obtain ⟨s, es⟩ : ∃ s : Nat, -(e + p * 108853 / 32768 + 3) = (s : Int) := ⟨(-(e + p * 108853 / 32768 + 3)).toNat, by omega⟩
  obtain ⟨i, ei⟩ : ∃ i : Nat, p = (i : Int) - 348 := ⟨(p + 348).toNat, by omega⟩
  have hi9 : i < 696 := by omega
  have ht := tab_ok i hi9
  have hp60 := pow60 s (by omega)
  have hs : 4 ≤ s ∧ s < 64 := by omega
  generalize hhi : phi i = hi at *
  generalize hlo : plo i = lo at *
  have gm := high_ge m hi 4611686018427387904 (by omega) ht.1
  have gmn := high_ge mn hi 2305843009213693952 (by omega) ht.1
  have gmx := high_ge mx hi 4611686018427387904 (by omega) ht.1
  obtain ⟨u1, e1, _⟩ := usc_nat mn hi lo s hmn.2 ht.2.1
  obtain ⟨u2, e2, _⟩ := usc_nat mx hi lo s hmx.2 ht.2.1
  obtain ⟨u3, e3, _⟩ := usc_nat m hi lo s hm.2 ht.2.1
  have l1 := usc_ge 1 mn hi lo s hmn.2 ht.2.1 (by omega)
  have l2 := usc_ge 1 mx hi lo s hmx.2 ht.2.1 (by omega)
  have l3 := usc_ge 3 m hi lo s hm.2 ht.2.1 (by omega)
  have k1 := usc_lt mn hi lo s hmn.2 ht.2.1 hs.1 (by omega)
  have k2 := usc_lt mx hi lo s hmx.2 ht.2.1 hs.1 (by omega)
  have k3 := usc_lt m hi lo s hm.2 ht.2.1 hs.1 (by omega)
  rw [e1] at l1 k1
  rw [e2] at l2 k2
  rw [e3] at l3 k3
  refine ⟨sfD ((u1 + o + 3) / 4) ((u2 - o) / 4) u3, sfQ ((u1 + o + 3) / 4) ((u2 - o) / 4) p, ?_, ?_, ?_, ?_, fun w hT => ?_⟩
  · unfold sfD; split <;> (try split) <;> omega
  · unfold sfD; split <;> (try split) <;> omega
  · unfold sfQ; split <;> omega
  · unfold sfQ; split <;> omega
  · have hT' := hT i hi9
    rw [hhi, hlo] at hT'
    exact shortFloat_is m mn mx u1 u2 u3 i hi lo s o e p he hm hmn.2 hmx.2 ht.2.1 ht.2.2 hs.2 hi9 (by omega) (Lib.hid ei) ho (Lib.hid es) (Lib.hid e1) (Lib.hid e2) (Lib.hid e3) (by omega) (by omega) (by omega) HC w hT'.1 hT'.2
/-- Of each float's mantissa (its first bit set, divided by what it was shifted by) and exponent. -/
theorem short_ex (m : Nat) (e : Int) (he : -1137 ≤ e ∧ e ≤ 960) (hm : 9223372036854775808 ≤ m ∧ m < 18446744073709551616) (h1 : -1085 ≤ e → m + 1024 < 18446744073709551616) (h2 : e < -1085 → m + 2 ^ ((-1074 - e).toNat - 1) < 18446744073709551616) : ∃ D Q, Short m e D Q := by
  by_cases c1 : m = 9223372036854775808 ∧ -1085 < e
  · exact short_of m 9223372036854775296 9223372036854776832 0 e _ 11 he (by omega) (.inr rfl) (.inr rfl) hm (by omega) (by omega) (by omega)
      (Lib.hid ⟨fun _ _ => ⟨rfl, rfl, rfl, by have := and1i 4503599627370496 (by omega); simpa using this⟩, fun h => absurd c1 h, fun h => by omega⟩)
  · by_cases c2 : -1085 ≤ e
    · have g := h1 c2
      refine short_of m (m - 1024) (m + 1024) (m / 2048 % 2) e _ 11 he (by omega) (.inr rfl) (.inl rfl) hm (by omega) (by omega) (by omega)
        (Lib.hid ⟨fun a b => absurd ⟨a, b⟩ c1, fun _ _ => ⟨rfl, by omega, by rw [IntKind.wrap_u64]; omega, ?_⟩, fun h => by omega⟩)
      have := and1i (m / 2048) (by omega)
      rw [show ((m : Int) / 2048) = ((m / 2048 : Nat) : Int) by omega]
      exact this
    · have g := h2 (by omega)
      have ez : (11 + (-1085 - e)).toNat = (-1074 - e).toNat := by omega
      obtain ⟨z, hz⟩ : ∃ z : Nat, (-1074 - e).toNat = z + 1 := ⟨(-1074 - e).toNat - 1, by omega⟩
      rw [hz, Nat.add_sub_cancel] at g
      have hz62 : 2 ^ z ≤ 4611686018427387904 := Nat.pow_le_pow_right (n := 2) (j := 62) (by omega) (by omega)
      have hz11 : 2048 ≤ 2 ^ z := Nat.pow_le_pow_right (n := 2) (i := 11) (by omega) (show 11 ≤ z by omega)
      have hw : IntKind.u64.wrap (2 ^ z) = ((2 ^ z : Nat) : Int) := by
        rw [IntKind.wrap_u64, show ((2 : Int) ^ z) = ((2 ^ z : Nat) : Int) by rw [Int.natCast_pow]; rfl]
        omega
      refine short_of m (m - 2 ^ z) (m + 2 ^ z) (m / 2 ^ (z + 1) % 2) e (-((e + (11 + (-1085 - e))) * 78913 / 262144)) (-1074 - e) he (by omega) (.inl (by omega)) (.inl (by omega)) hm (by omega) (by omega) (by omega)
        (Lib.hid ⟨fun _ b => by omega, fun _ b => by omega, fun _ => ⟨rfl, ?_, ?_, ?_⟩⟩)
      · rw [ez, hz, Nat.add_sub_cancel, hw, IntKind.wrap_u64]; omega
      · rw [ez, hz, Nat.add_sub_cancel, hw, IntKind.wrap_u64]; omega
      · have hd : m / 2 ^ (z + 1) < 9223372036854775808 := by
          rw [Nat.div_lt_iff_lt_mul (Nat.two_pow_pos _), Nat.pow_succ]
          omega
        have e2 : ((m : Int) / 2 ^ (11 + (-1085 - e)).toNat) = ((m / 2 ^ (z + 1) : Nat) : Int) := by
          rw [ez, hz, Int.natCast_ediv, Int.natCast_pow]; rfl
        have e3 : wrap64 ((m / 2 ^ (z + 1) : Nat) : Int) = ((m / 2 ^ (z + 1) : Nat) : Int) := wrap64_small _ hd
        rw [e2, e3]
        exact and1i _ hd
end Go.Proofs.YtikpgglbfpdhmaaGreatDoor

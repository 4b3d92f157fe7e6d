/- Printing a float: of each float shortFloat gives some digits and a place; which, hangs on the float alone. -/
import Derived.Test.YtikpgglbfpdhmaaGreatDoorRdMWrA
import GoSem.PinnedTables
namespace Go.Proofs.YtikpgglbfpdhmaaGreatDoor
open Go.RowKit Go.Joins

def phi (i : Nat) : Nat := (Pinned.pow10Rows.getD i (0, 0)).1
def plo (i : Nat) : Nat := (Pinned.pow10Rows.getD i (0, 0)).2
theorem rows_ok : (Pinned.pow10Rows.all fun x => decide (9223372036854775808 ≤ x.1 ∧ x.1 < 18446744073709551616 ∧ x.2 < 18446744073709551616)) = true := by decide +kernel
theorem rows_len : Pinned.pow10Rows.length = 696 := by decide +kernel
theorem tab_ok (i : Nat) (h : i < 696) : 9223372036854775808 ≤ phi i ∧ phi i < 18446744073709551616 ∧ plo i < 18446744073709551616 := by
  have h1 := rows_ok
  have h2 := rows_len
  unfold phi plo
  generalize Pinned.pow10Rows = l at *
  have hi : i < l.length := by rw [h2]; exact h
  have := List.all_eq_true.1 h1 l[i] (List.getElem_mem hi)
  rw [List.getD_eq_getElem?_getD, List.getElem?_eq_getElem hi]
  simpa using this
/-- The powers of ten, as they lie in memory. -/
def TenAt (w : World) : Prop := ∀ i, i < 696 → w.cell? ⟨15, i * 2, none⟩ = some (.int .u64 (phi i)) ∧ w.cell? ⟨15, i * 2 + 1, none⟩ = some (.int .u64 (plo i))
theorem usc_ge (n x hi lo s : Nat) (hx : x < 18446744073709551616) (hh : hi < 18446744073709551616) (h1 : (n + 1) * 2 ^ s ≤ x * hi / 18446744073709551616) : n ≤ usc x hi lo s := by
  have hH : x * hi / 18446744073709551616 < 18446744073709551616 := by
    rw [Nat.div_lt_iff_lt_mul (by omega)]
    exact Nat.lt_of_lt_of_le (Nat.mul_lt_mul_of_lt_of_le hx (Nat.le_of_lt hh) (by omega)) (by omega)
  have h2 : 1 ≤ 2 ^ s := Nat.one_le_two_pow
  have h3 : (n + 1) * 2 ^ s = n * 2 ^ s + 2 ^ s := Nat.succ_mul _ _
  unfold usc
  have eH : ((x : Int) * hi / 18446744073709551616) = ((x * hi / 18446744073709551616 : Nat) : Int) := by omega
  rw [eH]
  generalize x * hi / 18446744073709551616 = H at *
  split
  · have e : ((H : Int) / 2 ^ s) = ((H / 2 ^ s : Nat) : Int) := by rw [Int.natCast_ediv, Int.natCast_pow]; rfl
    have l : H / 2 ^ s < 18446744073709551616 := Nat.lt_of_le_of_lt (Nat.div_le_self _ _) hH
    have g : n ≤ H / 2 ^ s := (Nat.le_div_iff_mul_le (by omega)).2 (by omega)
    rw [e, show (1 : Int) = ((1 : Nat) : Int) from rfl, or_nat _ _ l (by omega)]
    have := or_ge (H / 2 ^ s) 1
    omega
  · obtain ⟨k, ek, hk⟩ := b2n_nat (decide ((x : Int) * hi % 18446744073709551616 < x * lo / 18446744073709551616))
    obtain ⟨j, ej, hj⟩ := b2n_nat (decide (1 < IntKind.u64.wrap ((x : Int) * hi % 18446744073709551616 - x * lo / 18446744073709551616)))
    rw [ek, ej]
    have hw : IntKind.u64.wrap ((H : Int) - k) = ((H - k : Nat) : Int) := by rw [IntKind.wrap_u64]; omega
    rw [hw]
    have hG : H - k < 18446744073709551616 := by omega
    have hG2 : n * 2 ^ s ≤ H - k := by omega
    generalize H - k = G at *
    have e : ((G : Int) / 2 ^ s) = ((G / 2 ^ s : Nat) : Int) := by rw [Int.natCast_ediv, Int.natCast_pow]; rfl
    have l : G / 2 ^ s < 18446744073709551616 := Nat.lt_of_le_of_lt (Nat.div_le_self _ _) hG
    have g : n ≤ G / 2 ^ s := (Nat.le_div_iff_mul_le (by omega)).2 (by omega)
    rw [e, or_nat _ _ l (by omega)]
    have := or_ge (G / 2 ^ s) j
    omega
theorem div_small (G s : Nat) (hG : G < 18446744073709551616) (hs : 4 ≤ s) : G / 2 ^ s < 2 ^ 60 := by
  have h1 : 2 ^ 4 ≤ 2 ^ s := Nat.pow_le_pow_right (by omega) hs
  rw [Nat.div_lt_iff_lt_mul (by omega)]
  exact Nat.lt_of_lt_of_le hG (by have := Nat.mul_le_mul_left (2 ^ 60) h1; omega)
theorem usc_lt (x hi lo s : Nat) (hx : x < 18446744073709551616) (hh : hi < 18446744073709551616) (hs : 4 ≤ s) (h1 : 2 ≤ x * hi / 18446744073709551616) : usc x hi lo s < 1152921504606846976 := by
  have hH : x * hi / 18446744073709551616 < 18446744073709551616 := by
    rw [Nat.div_lt_iff_lt_mul (by omega)]
    exact Nat.lt_of_lt_of_le (Nat.mul_lt_mul_of_lt_of_le hx (Nat.le_of_lt hh) (by omega)) (by omega)
  unfold usc
  have eH : ((x : Int) * hi / 18446744073709551616) = ((x * hi / 18446744073709551616 : Nat) : Int) := by omega
  rw [eH]
  generalize x * hi / 18446744073709551616 = H at *
  split
  · have e : ((H : Int) / 2 ^ s) = ((H / 2 ^ s : Nat) : Int) := by rw [Int.natCast_ediv, Int.natCast_pow]; rfl
    have l := div_small H s hH hs
    have l' : H / 2 ^ s < 18446744073709551616 := by omega
    rw [e, show (1 : Int) = ((1 : Nat) : Int) from rfl, or_nat _ _ l' (by omega)]
    have := Nat.or_lt_two_pow (n := 60) l (show 1 < 2 ^ 60 by omega)
    omega
  · obtain ⟨k, ek, hk⟩ := b2n_nat (decide ((x : Int) * hi % 18446744073709551616 < x * lo / 18446744073709551616))
    obtain ⟨j, ej, hj⟩ := b2n_nat (decide (1 < IntKind.u64.wrap ((x : Int) * hi % 18446744073709551616 - x * lo / 18446744073709551616)))
    rw [ek, ej]
    have hw : IntKind.u64.wrap ((H : Int) - k) = ((H - k : Nat) : Int) := by rw [IntKind.wrap_u64]; omega
    rw [hw]
    have hG : H - k < 18446744073709551616 := by omega
    generalize H - k = G at *
    have e : ((G : Int) / 2 ^ s) = ((G / 2 ^ s : Nat) : Int) := by rw [Int.natCast_ediv, Int.natCast_pow]; rfl
    have l := div_small G s hG hs
    have l' : G / 2 ^ s < 18446744073709551616 := by omega
    rw [e, or_nat _ _ l' (by omega)]
    have := Nat.or_lt_two_pow (n := 60) l (show j < 2 ^ 60 by omega)
    omega
theorem high_ge (x hi : Nat) (k : Nat) (hx : k * 2 ≤ x) (hh : 9223372036854775808 ≤ hi) : k ≤ x * hi / 18446744073709551616 := by
  rw [Nat.le_div_iff_mul_le (by decide)]
  refine Nat.le_trans ?_ (Nat.mul_le_mul hx hh)
  rw [Nat.mul_assoc]
  exact Nat.le_refl _
theorem wrap64_small (n : Nat) (h : n < 9223372036854775808) : wrap64 (n : Int) = n := by unfold wrap64; omega
theorem pow60 (s : Nat) (h : s ≤ 60) : 2 ^ s ≤ 1152921504606846976 := Nat.pow_le_pow_right (n := 2) (by omega) h
theorem and1i (n : Nat) (_h : n < 9223372036854775808) : bits BinOp.and IntKind.i64 (n : Int) 1 = ((n % 2 : Nat) : Int) := by
  show IntKind.i64.wrap (((BitVec.ofInt 64 (n : Int)) &&& (BitVec.ofInt 64 1)).toNat : Int) = _
  rw [BitVec.toNat_and, BitVec.ofInt_natCast, BitVec.toNat_ofNat, show (BitVec.ofInt 64 1).toNat = 1 from rfl, Nat.and_one_is_mod, IntKind.wrap_i64]
  omega
/-- What is wanted of the digits and the place. -/
def Short (m : Nat) (e : Int) (D : Nat) (Q : Int) : Prop := 1 ≤ D ∧ D < 1000000000000000000 ∧ -400 ≤ Q ∧ Q ≤ 400 ∧
  ∀ w : World, TenAt w → Calls Tryz.prog 139 #[.int .u64 m, .int .i64 e] w fun r w' => r = .returned (.tuple #[.int .u64 D, .int .i64 Q]) ∧ Below w.heap.size w w'
theorem short_of (m mn mx o : Nat) (e p z : Int) (he : -1137 ≤ e ∧ e ≤ 960) (hz : 11 ≤ z ∧ z ≤ 63) (hez : e + z = -1074 ∨ z = 11)
    (hpp : p = -((e + z) * 78913 / 262144) ∨ p = -(((e + z) * 631305 - 261663) / 2097152))
    (hm : 9223372036854775808 ≤ m ∧ m < 18446744073709551616) (hmn : 4611686018427387904 ≤ mn ∧ mn < 18446744073709551616) (hmx : 9223372036854775808 ≤ mx ∧ mx < 18446744073709551616) (ho : o ≤ 1)
    (HC : Hid ((m = 9223372036854775808 → -1085 < e → -(((e + 11) * 631305 - 261663) / 2097152) = p ∧ (9223372036854775296 : Int) = mn ∧ (9223372036854776832 : Int) = mx ∧ bits BinOp.and IntKind.i64 4503599627370496 1 = o) ∧
      (¬ (m = 9223372036854775808 ∧ -1085 < e) → -1085 ≤ e → -((e + 11) * 78913 / 262144) = p ∧ (m : Int) - 1024 = mn ∧ IntKind.u64.wrap ((m : Int) + 1024) = mx ∧ bits BinOp.and IntKind.i64 ((m : Int) / 2048) 1 = o) ∧
      (e < -1085 → -((e + (11 + (-1085 - e))) * 78913 / 262144) = p ∧ IntKind.u64.wrap ((m : Int) - IntKind.u64.wrap (2 ^ ((11 + (-1085 - e)).toNat - 1))) = mn ∧
        IntKind.u64.wrap ((m : Int) + IntKind.u64.wrap (2 ^ ((11 + (-1085 - e)).toNat - 1))) = mx ∧ bits BinOp.and IntKind.i64 (wrap64 ((m : Int) / 2 ^ (11 + (-1085 - e)).toNat)) 1 = o))) :
    ∃ D Q, Short m e D Q := by
  have hsm := shift_small e z p _ he.1 he.2 hz hez hpp rfl
  have hs4 : 4 ≤ -(e + p * 108853 / 32768 + 3) := by
    rcases hpp with rfl | rfl <;> omega
  obtain ⟨s, es⟩ : ∃ s : Nat, -(e + p * 108853 / 32768 + 3) = (s : Int) := ⟨(-(e + p * 108853 / 32768 + 3)).toNat, by omega⟩
  obtain ⟨i, ei⟩ : ∃ i : Nat, p = (i : Int) - 348 := ⟨(p + 348).toNat, by omega⟩
  have hi9 : i < 696 := by omega
  have ht := tab_ok i hi9
  have hp60 := pow60 s (by omega)
  have hs : 4 ≤ s ∧ s < 64 := by omega
  generalize hhi : phi i = hi at *
  generalize hlo : plo i = lo at *
  have gm := high_ge m hi 4611686018427387904 (by omega) ht.1
  have gmn := high_ge mn hi 2305843009213693952 (by omega) ht.1
  have gmx := high_ge mx hi 4611686018427387904 (by omega) ht.1
  obtain ⟨u1, e1, _⟩ := usc_nat mn hi lo s hmn.2 ht.2.1
  obtain ⟨u2, e2, _⟩ := usc_nat mx hi lo s hmx.2 ht.2.1
  obtain ⟨u3, e3, _⟩ := usc_nat m hi lo s hm.2 ht.2.1
  have l1 := usc_ge 1 mn hi lo s hmn.2 ht.2.1 (by omega)
  have l2 := usc_ge 1 mx hi lo s hmx.2 ht.2.1 (by omega)
  have l3 := usc_ge 3 m hi lo s hm.2 ht.2.1 (by omega)
  have k1 := usc_lt mn hi lo s hmn.2 ht.2.1 hs.1 (by omega)
  have k2 := usc_lt mx hi lo s hmx.2 ht.2.1 hs.1 (by omega)
  have k3 := usc_lt m hi lo s hm.2 ht.2.1 hs.1 (by omega)
  rw [e1] at l1 k1
  rw [e2] at l2 k2
  rw [e3] at l3 k3
  refine ⟨sfD ((u1 + o + 3) / 4) ((u2 - o) / 4) u3, sfQ ((u1 + o + 3) / 4) ((u2 - o) / 4) p, ?_, ?_, ?_, ?_, fun w hT => ?_⟩
  · unfold sfD; split <;> (try split) <;> omega
  · unfold sfD; split <;> (try split) <;> omega
  · unfold sfQ; split <;> omega
  · unfold sfQ; split <;> omega
  · have hT' := hT i hi9
    rw [hhi, hlo] at hT'
    exact shortFloat_is m mn mx u1 u2 u3 i hi lo s o e p he hm hmn.2 hmx.2 ht.2.1 ht.2.2 hs.2 hi9 (by omega) (Lib.hid ei) ho (Lib.hid es) (Lib.hid e1) (Lib.hid e2) (Lib.hid e3) (by omega) (by omega) (by omega) HC w hT'.1 hT'.2
/-- Of each float's mantissa (its first bit set, divided by what it was shifted by) and exponent. -/
theorem short_ex (m : Nat) (e : Int) (he : -1137 ≤ e ∧ e ≤ 960) (hm : 9223372036854775808 ≤ m ∧ m < 18446744073709551616) (h1 : -1085 ≤ e → m + 1024 < 18446744073709551616) (h2 : e < -1085 → m + 2 ^ ((-1074 - e).toNat - 1) < 18446744073709551616) : ∃ D Q, Short m e D Q := by
  by_cases c1 : m = 9223372036854775808 ∧ -1085 < e
  · exact short_of m 9223372036854775296 9223372036854776832 0 e _ 11 he (by omega) (.inr rfl) (.inr rfl) hm (by omega) (by omega) (by omega)
      (Lib.hid ⟨fun _ _ => ⟨rfl, rfl, rfl, by have := and1i 4503599627370496 (by omega); simpa using this⟩, fun h => absurd c1 h, fun h => by omega⟩)
  · by_cases c2 : -1085 ≤ e
    · have g := h1 c2
      refine short_of m (m - 1024) (m + 1024) (m / 2048 % 2) e _ 11 he (by omega) (.inr rfl) (.inl rfl) hm (by omega) (by omega) (by omega)
        (Lib.hid ⟨fun a b => absurd ⟨a, b⟩ c1, fun _ _ => ⟨rfl, by omega, by rw [IntKind.wrap_u64]; omega, ?_⟩, fun h => by omega⟩)
      have := and1i (m / 2048) (by omega)
      rw [show ((m : Int) / 2048) = ((m / 2048 : Nat) : Int) by omega]
      exact this
    · have g := h2 (by omega)
      have ez : (11 + (-1085 - e)).toNat = (-1074 - e).toNat := by omega
      obtain ⟨z, hz⟩ : ∃ z : Nat, (-1074 - e).toNat = z + 1 := ⟨(-1074 - e).toNat - 1, by omega⟩
      rw [hz, Nat.add_sub_cancel] at g
      have hz62 : 2 ^ z ≤ 4611686018427387904 := Nat.pow_le_pow_right (n := 2) (j := 62) (by omega) (by omega)
      have hz11 : 2048 ≤ 2 ^ z := Nat.pow_le_pow_right (n := 2) (i := 11) (by omega) (show 11 ≤ z by omega)
      have hw : IntKind.u64.wrap (2 ^ z) = ((2 ^ z : Nat) : Int) := by
        rw [IntKind.wrap_u64, show ((2 : Int) ^ z) = ((2 ^ z : Nat) : Int) by rw [Int.natCast_pow]; rfl]
        omega
      refine short_of m (m - 2 ^ z) (m + 2 ^ z) (m / 2 ^ (z + 1) % 2) e (-((e + (11 + (-1085 - e))) * 78913 / 262144)) (-1074 - e) he (by omega) (.inl (by omega)) (.inl (by omega)) hm (by omega) (by omega) (by omega)
        (Lib.hid ⟨fun _ b => by omega, fun _ b => by omega, fun _ => ⟨rfl, ?_, ?_, ?_⟩⟩)
      · rw [ez, hz, Nat.add_sub_cancel, hw, IntKind.wrap_u64]; omega
      · rw [ez, hz, Nat.add_sub_cancel, hw, IntKind.wrap_u64]; omega
      · have hd : m / 2 ^ (z + 1) < 9223372036854775808 := by
          rw [Nat.div_lt_iff_lt_mul (Nat.two_pow_pos _), Nat.pow_succ]
          omega
        have e2 : ((m : Int) / 2 ^ (11 + (-1085 - e)).toNat) = ((m / 2 ^ (z + 1) : Nat) : Int) := by
          rw [ez, hz, Int.natCast_ediv, Int.natCast_pow]; rfl
        have e3 : wrap64 ((m / 2 ^ (z + 1) : Nat) : Int) = ((m / 2 ^ (z + 1) : Nat) : Int) := wrap64_small _ hd
        rw [e2, e3]
        exact and1i _ hd
end Go.Proofs.YtikpgglbfpdhmaaGreatDoor

namespace Go.Proofs.YtikpgglbfpdhmaaGreatDoor

/-- The binary place of a power of ten. -/
def lpw (p : Int) : Int := p * 108853 / 32768
/-- A power of ten, made 128 bits long, as a fraction. -/
def tenN (i : Nat) : Nat := if 348 ≤ i then 10 ^ (i - 348) * 2 ^ (127 - lpw ((i : Int) - 348)).toNat else 2 ^ (127 - lpw ((i : Int) - 348)).toNat
def tenD (i : Nat) : Nat := if 348 ≤ i then 2 ^ (lpw ((i : Int) - 348) - 127).toNat else 10 ^ (348 - i)
def rowOk (i : Nat) (x : Nat × Nat) : Bool := decide (1 ≤ tenD i) && decide (tenN i ≤ tenD i * (x.1 * 18446744073709551616 - x.2)) && decide (tenD i * (x.1 * 18446744073709551616 - x.2) < tenN i + tenD i)
def rowsOk : Nat → List (Nat × Nat) → Bool
  | _, [] => true
  | i, x :: l => rowOk i x && rowsOk (i + 1) l
theorem rowsOk_at : ∀ (l : List (Nat × Nat)) (i j : Nat) (x : Nat × Nat), rowsOk i l = true → l[j]? = some x → rowOk (i + j) x = true
  | [], _, _, _, _, h => by simp at h
  | y :: l, i, j, x, h, hx => by
    unfold rowsOk at h
    rw [Bool.and_eq_true] at h
    cases j with
    | zero => rw [List.getElem?_cons_zero, Option.some.injEq] at hx; rw [← hx]; exact h.1
    | succ j =>
      rw [List.getElem?_cons_succ] at hx
      have := rowsOk_at l (i + 1) j x h.2 hx
      rw [show i + (j + 1) = i + 1 + j by omega]; exact this
theorem rows_exact : rowsOk 0 Pinned.pow10Rows = true := by decide +kernel
theorem ten_exact (i : Nat) (h : i < 696) : 1 ≤ tenD i ∧ tenN i ≤ tenD i * (phi i * 18446744073709551616 - plo i) ∧ tenD i * (phi i * 18446744073709551616 - plo i) < tenN i + tenD i := by
  have h1 : Pinned.pow10Rows[i]? = some (phi i, plo i) := by
    have h2 := rows_len
    unfold phi plo
    generalize Pinned.pow10Rows = l at *
    rw [List.getD_eq_getElem?_getD, List.getElem?_eq_getElem (by omega)]
    rfl
  have h2 := rowsOk_at _ 0 i _ rows_exact h1
  rw [Nat.zero_add] at h2
  simp only [rowOk, Bool.and_eq_true, decide_eq_true_eq] at h2
  exact ⟨h2.1.1, h2.1.2, h2.2⟩
/-- The place's shift behind which a number's half lies. -/
def zOf (e : Int) : Nat := if e < -1085 then (-1074 - e).toNat else 11
def pOf (e : Int) : Int := -((e + zOf e) * 78913 / 262144)
def printOk (k : Nat) : Bool :=
  let e : Int := (k : Int) - 1137
  let i := (pOf e + 348).toNat
  let s := (-(e + lpw (pOf e) + 3)).toNat
  keeps (2 ^ (zOf e - 1) * tenN i) (tenD i * 2 ^ (128 + s)) (2 ^ (65 - zOf e)) (tenD i * 36893488147419103232)
def allFrom (f : Nat → Bool) : Nat → Nat → Bool
  | 0, _ => true
  | n + 1, i => f i && allFrom f n (i + 1)
theorem allFrom_at {f : Nat → Bool} : ∀ (n i k : Nat), allFrom f n i = true → i ≤ k → k < i + n → f k = true
  | 0, _, _, _, h1, h2 => by omega
  | n + 1, i, k, h, h1, h2 => by
    unfold allFrom at h
    rw [Bool.and_eq_true] at h
    by_cases e : k = i
    · rw [e]; exact h.1
    · exact allFrom_at n (i + 1) k h.2 (by omega) (by omega)
theorem print_keeps : allFrom printOk 2098 0 = true := by decide +kernel
end Go.Proofs.YtikpgglbfpdhmaaGreatDoor

namespace Go.Proofs.YtikpgglbfpdhmaaGreatDoor

theorem or_one (q : Nat) : q ||| 1 = q + (1 - q % 2) := by
  have e := Nat.two_pow_add_eq_or_of_lt (i := 1) (b := 1) (by omega) (q / 2)
  rcases Nat.mod_two_eq_zero_or_one q with h | h
  · have h1 : q = 2 ^ 1 * (q / 2) := by omega
    rw [h]
    rw [← h1] at e
    omega
  · have h1 : q = 2 ^ 1 * (q / 2) + 1 := by omega
    have h2 : q = 2 ^ 1 * (q / 2) ||| 1 := by rw [← e]; exact h1
    have h3 : q ||| 1 = q := by
      rw [h2, Nat.or_assoc, Nat.or_self]
    rw [h3]; omega
theorem le_iff {a b q r : Nat} (h : a = b * q + r) (hr : r < b) (n : Nat) : a ≤ b * n ↔ q < n ∨ (q = n ∧ r = 0) := by
  constructor
  · intro h1
    rcases Nat.lt_trichotomy q n with h2 | h2 | h2
    · exact .inl h2
    · subst h2; exact .inr ⟨rfl, by omega⟩
    · exfalso
      have := Nat.mul_le_mul_left b h2
      rw [Nat.mul_succ] at this
      omega
  · rintro (h1 | ⟨rfl, h1⟩)
    · have := Nat.mul_le_mul_left b h1
      rw [Nat.mul_succ] at this
      omega
    · omega
theorem lt_iff {a b q r : Nat} (h : a = b * q + r) (hr : r < b) (n : Nat) : a < b * n ↔ q < n := by
  constructor
  · intro h1
    rcases Nat.lt_or_ge q n with h2 | h2
    · exact h2
    · exfalso
      have := Nat.mul_le_mul_left b h2
      omega
  · intro h1
    have := Nat.mul_le_mul_left b h1
    rw [Nat.mul_succ] at this
    omega
theorem unr_or (a b : Nat) : unr a b = a / b + (if a % b = 0 then 0 else 1 - a / b % 2) := by
  unfold unr
  split
  · simp
  · rw [or_one]
theorem unr_le (a b k : Nat) (hb : 1 ≤ b) : unr a b ≤ 4 * k ↔ a ≤ b * (4 * k) := by
  have h := (Nat.div_add_mod a b).symm
  have hr := Nat.mod_lt a hb
  rw [le_iff h hr, unr_or]
  split <;> omega
theorem unr_lt' (a b k : Nat) (hb : 1 ≤ b) : unr a b < 4 * k ↔ a < b * (4 * k) := by
  have h := (Nat.div_add_mod a b).symm
  have hr := Nat.mod_lt a hb
  rw [lt_iff h hr, unr_or]
  split <;> omega
theorem le_unr (a b k : Nat) (hb : 1 ≤ b) : 4 * k ≤ unr a b ↔ b * (4 * k) ≤ a := by
  have := unr_lt' a b k hb
  omega
theorem lt_unr (a b k : Nat) (hb : 1 ≤ b) : 4 * k < unr a b ↔ b * (4 * k) < a := by
  have := unr_le a b k hb
  omega
/-- Against a half: 4k + 2. -/
theorem half_lt (a b k : Nat) (hb : 1 ≤ b) : unr a b < 4 * k + 2 ↔ a < b * (4 * k + 2) := by
  have h := (Nat.div_add_mod a b).symm
  have hr := Nat.mod_lt a hb
  rw [lt_iff h hr, unr_or]
  split <;> omega
theorem half_le (a b k : Nat) (hb : 1 ≤ b) : unr a b ≤ 4 * k + 2 ↔ a ≤ b * (4 * k + 2) := by
  have h := (Nat.div_add_mod a b).symm
  have hr := Nat.mod_lt a hb
  rw [le_iff h hr, unr_or]
  split <;> omega
/-- Rounded to the nearest, between two to the even one. -/
def rnd (u : Nat) : Nat := (u + 1 + u / 4 % 2) / 4
theorem rnd_bounds (u k : Nat) (h : rnd u = k) : (4 * k ≤ u + 2 ∧ u ≤ 4 * k + 2) ∧ (k % 2 = 1 → 4 * k < u + 2 ∧ u < 4 * k + 2) := by
  unfold rnd at h
  obtain ⟨b, r, hr, rfl⟩ : ∃ b r, r < 4 ∧ u = 4 * b + r := ⟨u / 4, u % 4, by omega, by omega⟩
  rw [show (4 * b + r) / 4 = b by omega] at h
  rcases Nat.mod_two_eq_zero_or_one b with hp | hp
  · rw [hp] at h; omega
  · rw [hp] at h; omega
end Go.Proofs.YtikpgglbfpdhmaaGreatDoor

namespace Go.Proofs.YtikpgglbfpdhmaaGreatDoor

def b2 (e : Int) : Rat := (2 : Rat) ^ e
def b10 (p : Int) : Rat := (10 : Rat) ^ p
theorem two_ne : (2 : Rat) ≠ 0 := by decide
theorem ten_ne : (10 : Rat) ≠ 0 := by decide
theorem b2_add (a b : Int) : b2 (a + b) = b2 a * b2 b := Rat.zpow_add two_ne a b
theorem b10_add (a b : Int) : b10 (a + b) = b10 a * b10 b := Rat.zpow_add ten_ne a b
theorem b2_nat (n : Nat) : b2 (n : Int) = ((2 ^ n : Nat) : Rat) := by
  unfold b2
  rw [Rat.zpow_natCast, Rat.natCast_pow]
  rfl
theorem b10_nat (n : Nat) : b10 (n : Int) = ((10 ^ n : Nat) : Rat) := by
  unfold b10
  rw [Rat.zpow_natCast, Rat.natCast_pow]
  rfl
theorem b2_zero : b2 0 = 1 := by
  have := b2_nat 0
  simpa using this
theorem b10_zero : b10 0 = 1 := by
  have := b10_nat 0
  simpa using this
theorem nat_pos {n : Nat} (h : 1 ≤ n) : (0 : Rat) < (n : Rat) := by
  have : ((0 : Nat) : Rat) < (n : Rat) := Rat.natCast_lt_natCast.2 h
  simpa using this
theorem b2_pos (e : Int) : 0 < b2 e := by
  have h1 : ∀ n : Nat, 0 < b2 (n : Int) := fun n => by rw [b2_nat]; exact nat_pos (Nat.one_le_two_pow)
  rcases Int.le_total 0 e with h | h
  · obtain ⟨n, rfl⟩ := Int.eq_ofNat_of_zero_le h
    exact h1 n
  · obtain ⟨n, hn⟩ := Int.eq_ofNat_of_zero_le (show 0 ≤ -e by omega)
    have h2 : b2 e * b2 (n : Int) = 1 := by
      rw [← b2_add, ← hn, show e + -e = 0 by omega, b2_zero]
    have h3 := h1 n
    rcases Rat.le_total (a := b2 e) (b := 0) with h4 | h4
    · exfalso
      have := Rat.mul_le_mul_of_nonneg_right h4 (Rat.le_of_lt h3)
      grind
    · grind
theorem b10_pos (e : Int) : 0 < b10 e := by
  have h1 : ∀ n : Nat, 0 < b10 (n : Int) := fun n => by rw [b10_nat]; exact nat_pos (Nat.pos_of_ne_zero (by simp))
  rcases Int.le_total 0 e with h | h
  · obtain ⟨n, rfl⟩ := Int.eq_ofNat_of_zero_le h
    exact h1 n
  · obtain ⟨n, hn⟩ := Int.eq_ofNat_of_zero_le (show 0 ≤ -e by omega)
    have h2 : b10 e * b10 (n : Int) = 1 := by
      rw [← b10_add, ← hn, show e + -e = 0 by omega, b10_zero]
    have h3 := h1 n
    rcases Rat.le_total (a := b10 e) (b := 0) with h4 | h4
    · exfalso
      have := Rat.mul_le_mul_of_nonneg_right h4 (Rat.le_of_lt h3)
      grind
    · grind
theorem b2_mono {a b : Int} (h : a ≤ b) : b2 a ≤ b2 b := by
  obtain ⟨n, hn⟩ := Int.eq_ofNat_of_zero_le (show 0 ≤ b - a by omega)
  rw [show b = a + (n : Int) by omega, b2_add, b2_nat]
  have h1 := b2_pos a
  have h2 : (1 : Rat) ≤ ((2 ^ n : Nat) : Rat) := by
    have : ((1 : Nat) : Rat) ≤ ((2 ^ n : Nat) : Rat) := Rat.natCast_le_natCast.2 Nat.one_le_two_pow
    simpa using this
  have h3 := Rat.mul_le_mul_of_nonneg_left h2 (Rat.le_of_lt h1)
  grind
theorem b2_succ (e : Int) : b2 (e + 1) = 2 * b2 e := by
  rw [b2_add, show (1 : Int) = ((1 : Nat) : Int) from rfl, b2_nat]
  have : ((2 ^ 1 : Nat) : Rat) = 2 := by decide
  rw [this]; grind
theorem mul_le_iff {a b c : Rat} (hc : 0 < c) : a * c ≤ b * c ↔ a ≤ b := by
  constructor
  · intro h
    rcases Rat.le_total (a := a) (b := b) with h1 | h1
    · exact h1
    · by_cases h2 : a = b
      · rw [h2]; exact Rat.le_refl
      · exfalso
        have h3 : b < a := by grind
        have := Rat.mul_lt_mul_of_pos_right h3 hc
        grind
  · intro h
    exact Rat.mul_le_mul_of_nonneg_right h (Rat.le_of_lt hc)
theorem mul_lt_iff {a b c : Rat} (hc : 0 < c) : a * c < b * c ↔ a < b := by
  have := mul_le_iff (a := b) (b := a) hc
  grind
theorem cast_mul (a b : Nat) : ((a * b : Nat) : Rat) = (a : Rat) * (b : Rat) := Rat.natCast_mul a b
/-- The table's fraction is a power of ten, made long. -/
theorem ten_rat (i : Nat) : (tenN i : Rat) = b10 ((i : Int) - 348) * b2 (127 - lpw ((i : Int) - 348)) * (tenD i : Rat) := by
  unfold tenN tenD
  by_cases h : 348 ≤ i
  · rw [if_pos h, if_pos h]
    obtain ⟨n, hn⟩ : ∃ n : Nat, (i : Int) - 348 = n := ⟨i - 348, by omega⟩
    rw [hn, show i - 348 = n by omega, cast_mul, ← b10_nat]
    generalize lpw (n : Int) = L
    rcases Int.le_total L 127 with h1 | h1
    · obtain ⟨k, hk⟩ := Int.eq_ofNat_of_zero_le (show 0 ≤ 127 - L by omega)
      rw [hk, Int.toNat_natCast, show (L - 127).toNat = 0 by omega, ← b2_nat]
      simp
    · obtain ⟨k, hk⟩ := Int.eq_ofNat_of_zero_le (show 0 ≤ L - 127 by omega)
      have h2 : b2 (127 - L) * b2 (k : Int) = 1 := by rw [← b2_add, ← hk, show 127 - L + (L - 127) = 0 by omega, b2_zero]
      rw [hk, Int.toNat_natCast, show (127 - L).toNat = 0 by omega, Nat.pow_zero, Rat.mul_assoc, ← b2_nat k, h2]
      simp
  · rw [if_neg h, if_neg h]
    have hL : lpw ((i : Int) - 348) ≤ 127 := by unfold lpw; omega
    obtain ⟨k, hk⟩ := Int.eq_ofNat_of_zero_le (show 0 ≤ 127 - lpw ((i : Int) - 348) by omega)
    rw [hk, Int.toNat_natCast, ← b2_nat]
    have h2 : b10 ((i : Int) - 348) * ((10 ^ (348 - i) : Nat) : Rat) = 1 := by rw [← b10_nat, ← b10_add, show (i : Int) - 348 + ((348 - i : Nat) : Int) = 0 by omega, b10_zero]
    grind
/-- What scaling compares, as fractions. -/
theorem scale_rat (i s : Nat) (e : Int) (hs : (s : Int) = -(e + lpw ((i : Int) - 348) + 3)) (hD : 1 ≤ tenD i) (x k : Nat) :
    ∃ c : Rat, 0 < c ∧ ((x * tenN i : Nat) : Rat) = (x : Rat) * b2 e * b10 ((i : Int) - 348) * (4 * c) ∧ ((tenD i * 2 ^ (128 + s) * k : Nat) : Rat) = (k : Rat) * c := by
  refine ⟨b2 (128 + (s : Int)) * (tenD i : Rat), Rat.mul_pos (b2_pos _) (nat_pos hD), ?_, ?_⟩
  · rw [cast_mul, ten_rat]
    have h1 : b2 (127 - lpw ((i : Int) - 348)) = b2 e * (4 * b2 (128 + (s : Int))) := by
      rw [show 127 - lpw ((i : Int) - 348) = e + (128 + (s : Int) + 1 + 1) by omega, b2_add, b2_succ, b2_succ]
      grind
    rw [h1]
    grind
  · rw [cast_mul, cast_mul, ← b2_nat]
    rw [show ((128 + s : Nat) : Int) = 128 + (s : Int) by omega]
    grind
theorem scale_le (i s : Nat) (e : Int) (hs : (s : Int) = -(e + lpw ((i : Int) - 348) + 3)) (hD : 1 ≤ tenD i) (x k : Nat) :
    x * tenN i ≤ tenD i * 2 ^ (128 + s) * k ↔ (x : Rat) * b2 e * b10 ((i : Int) - 348) * 4 ≤ k := by
  obtain ⟨c, hc, h1, h2⟩ := scale_rat i s e hs hD x k
  rw [← Rat.natCast_le_natCast, h1, h2, ← mul_le_iff (a := (x : Rat) * b2 e * b10 ((i : Int) - 348) * 4) hc]
  grind
theorem scale_lt (i s : Nat) (e : Int) (hs : (s : Int) = -(e + lpw ((i : Int) - 348) + 3)) (hD : 1 ≤ tenD i) (x k : Nat) :
    x * tenN i < tenD i * 2 ^ (128 + s) * k ↔ (x : Rat) * b2 e * b10 ((i : Int) - 348) * 4 < k := by
  obtain ⟨c, hc, h1, h2⟩ := scale_rat i s e hs hD x k
  rw [← Rat.natCast_lt_natCast, h1, h2, ← mul_lt_iff (a := (x : Rat) * b2 e * b10 ((i : Int) - 348) * 4) hc]
  grind
/-- A number within a float's rounding. -/
structure Near (mt : Nat) (x : Int) (v : Rat) : Prop where
  low : (mt = 4503599627370496 ∧ -1074 < x → ((4 * (mt : Rat) - 1) * b2 x ≤ 4 * v)) ∧ (¬ (mt = 4503599627370496 ∧ -1074 < x) → ((2 * (mt : Rat) - 1) * b2 x ≤ 2 * v))
  up : 2 * v ≤ (2 * (mt : Rat) + 1) * b2 x
  odd : mt % 2 = 1 → (2 * (mt : Rat) - 1) * b2 x < 2 * v ∧ 2 * v < (2 * (mt : Rat) + 1) * b2 x
/-- A float's mantissa and exponent. -/
def Canon (mt : Nat) (x : Int) : Prop := mt < 9007199254740992 ∧ -1074 ≤ x ∧ (4503599627370496 ≤ mt ∨ x = -1074)
theorem cast_le {a b : Nat} (h : a ≤ b) : (a : Rat) ≤ (b : Rat) := Rat.natCast_le_natCast.2 h
theorem near_low {mt : Nat} {x : Int} {v : Rat} (h : Near mt x v) : (2 * (mt : Rat) - 1) * b2 x ≤ 2 * v := by
  by_cases c : mt = 4503599627370496 ∧ -1074 < x
  · have h1 := h.low.1 c
    have h2 := b2_pos x
    grind
  · exact h.low.2 c
theorem near_same {a b : Nat} {x : Int} {v : Rat} (h : Near a x v) (g : Near b x v) (hab : a < b) : False := by
  have hx := b2_pos x
  have h1 := h.up
  have h2 := near_low g
  have h3 : (a : Rat) + 1 ≤ (b : Rat) := by
    have := cast_le (show a + 1 ≤ b from hab)
    rw [Rat.natCast_add] at this
    exact this
  have h4 := (mul_le_iff (a := 2 * (b : Rat) - 1) (b := 2 * (a : Rat) + 1) hx).1 (by grind)
  have h5 : (b : Rat) = (a : Rat) + 1 := by grind
  have h6 : b = a + 1 := by
    have : (b : Rat) = ((a + 1 : Nat) : Rat) := by rw [Rat.natCast_add]; exact h5
    exact Rat.natCast_inj.1 this
  rcases Nat.mod_two_eq_zero_or_one a with p | p
  · have h7 := (g.odd (by omega)).1
    have e : (2 * (b : Rat) - 1) * b2 x = (2 * (a : Rat) + 1) * b2 x := by rw [h5]; grind
    rw [e] at h7
    grind
  · have h7 := (h.odd p).2
    have e : (2 * (b : Rat) - 1) * b2 x = (2 * (a : Rat) + 1) * b2 x := by rw [h5]; grind
    rw [e] at h2
    grind
theorem near_less {a b : Nat} {x y : Int} {v : Rat} (h : Near a x v) (g : Near b y v) (ha : Canon a x) (hb : Canon b y) (hxy : x < y) : False := by
  have hx := b2_pos x
  have hby : 4503599627370496 ≤ b := by
    rcases hb.2.2 with h1 | h1
    · exact h1
    · have := ha.2.1; omega
  have h1 := h.up
  have h2 : (a : Rat) ≤ 9007199254740991 := by
    have := cast_le (show a ≤ 9007199254740991 by have := ha.1; omega)
    exact this
  have hy : 2 * b2 x ≤ b2 y := by
    rw [← b2_succ]; exact b2_mono (by omega)
  have h3 : (4503599627370496 : Rat) ≤ (b : Rat) := cast_le hby
  by_cases c : b = 4503599627370496
  · have h4 := g.low.1 ⟨c, by have := ha.2.1; omega⟩
    have h5 : (b : Rat) = 4503599627370496 := by rw [c]; rfl
    rw [h5] at h4
    have h6 : (2 * (a : Rat) + 1) * b2 x ≤ (2 * 9007199254740991 + 1) * b2 x := Rat.mul_le_mul_of_nonneg_right (by grind) (Rat.le_of_lt hx)
    -- all is equal: then a is odd
    have h7 : (2 * (a : Rat) + 1) * b2 x = (2 * 9007199254740991 + 1) * b2 x := by grind
    have h8 : (a : Rat) = 9007199254740991 := by
      have := (mul_le_iff (a := (2 * 9007199254740991 + 1 : Rat)) (b := 2 * (a : Rat) + 1) hx).1 (by grind)
      grind
    have h9 : a = 9007199254740991 := Rat.natCast_inj.1 h8
    have h10 := (h.odd (by omega)).2
    grind
  · have h4 := near_low g
    have h5 : (4503599627370497 : Rat) ≤ (b : Rat) := cast_le (show 4503599627370497 ≤ b by omega)
    have h6 : (2 * 4503599627370497 - 1) * b2 y ≤ (2 * (b : Rat) - 1) * b2 y := Rat.mul_le_mul_of_nonneg_right (by grind) (Rat.le_of_lt (b2_pos y))
    have h7 : (2 * (a : Rat) + 1) * b2 x ≤ (2 * 9007199254740991 + 1) * b2 x := Rat.mul_le_mul_of_nonneg_right (by grind) (Rat.le_of_lt hx)
    grind
/-- The float to which a number is rounded is one. -/
theorem near_one {a b : Nat} {x y : Int} {v : Rat} (h : Near a x v) (g : Near b y v) (ha : Canon a x) (hb : Canon b y) : a = b ∧ x = y := by
  rcases Int.lt_trichotomy x y with h1 | h1 | h1
  · exact (near_less h g ha hb h1).elim
  · subst h1
    refine ⟨?_, rfl⟩
    rcases Nat.lt_trichotomy a b with h2 | h2 | h2
    · exact (near_same h g h2).elim
    · exact h2
    · exact (near_same g h h2).elim
  · exact (near_less g h hb ha h1).elim
end Go.Proofs.YtikpgglbfpdhmaaGreatDoor

namespace Go.Proofs.YtikpgglbfpdhmaaGreatDoor

def readOk (i : Nat) : Bool := keeps (16 * tenN i) (tenD i * 2 ^ 136) (2 ^ 60) (tenD i * 36893488147419103232)
theorem read_keeps : allFrom readOk 656 3 = true := by decide +kernel
def subS (i b : Nat) : Int := -(1013 + b + lpw ((i : Int) - 348))
def subOk (k : Nat) : Bool :=
  let i := 3 + k / 60
  let b := 1 + k % 60
  decide (subS i b ≤ 8) || decide (63 < subS i b) || keeps (2 ^ (64 - b) * tenN i) (tenD i * 2 ^ (128 + (subS i b).toNat)) (2 ^ b) (tenD i * 36893488147419103232)
theorem sub_keeps : allFrom subOk 2280 0 = true := by decide +kernel
def topOk (i : Nat) : Bool := decide (2 ^ 127 * tenD i ≤ tenN i) && decide (4096 * tenN i ≤ 4095 * (2 ^ 128 * tenD i))
theorem top_keeps : allFrom topOk 696 0 = true := by decide +kernel
end Go.Proofs.YtikpgglbfpdhmaaGreatDoor

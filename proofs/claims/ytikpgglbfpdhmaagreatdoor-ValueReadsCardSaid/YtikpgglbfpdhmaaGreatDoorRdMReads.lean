/- The walk of ValueReads. -/
import Derived.Test.YtikpgglbfpdhmaaGreatDoorRdMWrT
import Derived.Test.YtikpgglbfpdhmaaGreatDoorRdMLives
import Derived.Test.YtikpgglbfpdhmaaGreatDoorRdMVOrd
import Derived.Lib.ParseIntB
import Derived.Lib.SmallJoins
namespace Go.Proofs.YtikpgglbfpdhmaaGreatDoor
open Go.RowKit Go.Joins Go.Lib
attribute [local go_sem ↓] Go.wp_at_zero Go.wp_at_succ

/-- Digits are read as the number that they spell. -/
theorem parse_digs (M : Nat) (hM : M = 18446744073709551615) : ∀ (l : List UInt8) (acc : Nat), (∀ x ∈ l, isDig x = true) → valOf l acc ≤ M → parseUintM M acc l = .ok (valOf l acc)
  | [], _, _, _ => rfl
  | c :: l, acc, hd, h => by
    have hc := dig_bounds (hd c (by simp))
    have h1 := valOf_ge l (acc * 10 + (c.toNat - 48))
    rw [valOf] at h
    rw [parseUintM, if_pos hc, if_neg (by omega), if_neg (by omega), valOf]
    exact parse_digs M hM l _ (fun x hx => hd x (by simp [hx])) h
theorem dec_ne (D : Nat) : decDigits D ≠ [] := fun h => by
  have h1 := decDigits_length D
  rw [h] at h1
  have := nDigits_pos D
  simp at h1
  omega
theorem parse_dec (D : Nat) (h : D ≤ 9223372036854775808) : parseUintB 64 (decDigits D) = .ok D := by
  unfold parseUintB
  rw [if_neg (dec_ne D), parse_digs _ rfl _ 0 (dec_dig D) (by rw [dec_val]; show D ≤ 2 ^ 64 - 1; omega), dec_val]
/-- A whole number's text is read as that number. -/
theorem parse_itoa (n : Int) (h0 : -9223372036854775808 ≤ n) (h1 : n ≤ 9223372036854775807) : parseIntB 64 (itoa n) = .ok n := by
  unfold itoa
  by_cases h : n < 0
  · rw [if_pos h]
    have hd := parse_dec n.natAbs (by omega)
    unfold parseIntB
    simp only [show (45 : UInt8).toNat = 45 from rfl, or_true, if_true, hd]
    rw [if_neg (by simp), if_neg (by omega)]
    congr 1
    omega
  · rw [if_neg h]
    have hd := parse_dec n.toNat (by omega)
    cases hl : decDigits n.toNat with
    | nil => exact absurd hl (dec_ne _)
    | cons c r =>
      have hc := dig_bounds (dec_dig n.toNat c (by rw [hl]; simp))
      rw [hl] at hd
      unfold parseIntB
      simp only
      rw [if_neg (by omega), hd]
      simp only
      rw [if_neg (by omega), if_neg (by omega), if_neg (by omega)]
      congr 1
      omega
theorem itoa_size (n : Int) (h0 : -9223372036854775808 ≤ n) (h1 : n ≤ 9223372036854775807) : (itoa n).length ≤ 1000 := by
  have h : ∀ D : Nat, D ≤ 9223372036854775808 → (decDigits D).length ≤ 20 := fun D hD => by
    rw [decDigits_length]; exact nDigits_lt 20 D (by omega) (by omega)
  unfold itoa
  split
  · have := h n.natAbs (by omega)
    simp only [List.length_cons]; omega
  · have := h n.toNat (by omega)
    omega
theorem RTabs.below {w w' : World} (h : RTabs w) (hb : Below w.heap.size w w') : RTabs w' := by
  obtain ⟨h1, h2, h3, N, o, cc, h4, h5⟩ := h
  have c : ∀ {a : Addr} {v : Value}, w.cell? a = some v → w'.cell? a = some v := fun {a v} e => (hb.cell (p := a) (World.block_lt_of_cell? _ _ e)).trans e
  exact ⟨fun i hi => ⟨c (h1 i hi).1, c (h1 i hi).2⟩, c h2, c h3, N, o, cc, c h4, fun k hk => c (h5 k hk)⟩
/-- What the law asks of memory. -/
def Tabs4 (w : World) : Prop := Tabs3 w ∧ RTabs w
theorem Tabs4.below {w w' : World} (h : Tabs4 w) (hb : Below w.heap.size w w') : Tabs4 w' := ⟨h.1.below hb, h.2.below hb⟩
theorem Tabs4.one {w : World} (h : Tabs4 w) : Tabs3 w := h.1
theorem Tabs4.two {w : World} (h : Tabs4 w) : RTabs w := h.2
theorem pint_to (n : Int) (h0 : -9223372036854775808 ≤ n) (h1 : n ≤ 9223372036854775807) (w : World) :
    Calls Tryz.prog 44 #[.string ⟨(itoa n).toArray⟩, .int .i64 10, .int .i64 64] w fun e w' => e = .returned (.tuple #[.int .i64 n, .nilIface]) ∧ Below w.heap.size w w' := by
  have hs := itoa_size n h0 h1
  refine (Tryz.strconv_ParseInt_10_at64_ok ⟨(itoa n).toArray⟩ (by show (itoa n).toArray.size ≤ _; simp; omega) n (parse_itoa n h0 h1) w).mono ?_
  rintro e w' ⟨rfl, rfl | ⟨t, rfl⟩⟩
  · exact ⟨rfl, Below.refl _ _⟩
  · exact ⟨rfl, below_bytesWorld _ _ _ _ (Nat.le_refl _)⟩
theorem read_finite (f : Nat) (hE : f / 4503599627370496 % 2048 ≠ 2047) : ∃ s m i, FloatKind.f64.format.read f = .number s m i ∧ m ≤ 9007199254740991 ∧ i ≤ 971 := by
  have c1 : FloatKind.f64.format.signWeight = 9223372036854775808 := by decide +kernel
  have c2 : FloatKind.f64.format.binade = 4503599627370496 := by decide +kernel
  have c3 : FloatKind.f64.format.infRung = 9218868437227405312 := by decide +kernel
  have c4 : FloatKind.f64.format.leastPlace = -1074 := by decide +kernel
  unfold Ieee.Format.read
  rw [c1, c2, c3, c4]
  simp only
  split
  · exact ⟨_, _, _, rfl, by omega, by omega⟩
  · rw [if_pos (by omega)]
    exact ⟨_, _, _, rfl, by omega, by omega⟩
theorem finite_in (f : Nat) (hE : f / 4503599627370496 % 2048 ≠ 2047) : fgt f 9218868437227405311 = false ∧ flt f 18442240474082181119 = false ∧ fnan f = false := by
  obtain ⟨s, m, i, e, hm, hi⟩ := read_finite f hE
  have e1 : FloatKind.f64.format.read 9218868437227405311 = .number false 9007199254740991 971 := by decide +kernel
  have e2 : FloatKind.f64.format.read 18442240474082181119 = .number true 9007199254740991 971 := by decide +kernel
  have hmin : min i 971 = i := by omega
  have hz : (i - i).toNat = 0 := by omega
  have hp : 9007199254740991 ≤ 9007199254740991 <<< (971 - i).toNat := by
    rw [Nat.shiftLeft_eq]
    exact Nat.le_mul_of_pos_right _ (Nat.two_pow_pos _)
  generalize hq : 9007199254740991 <<< (971 - i).toNat = q at *
  have s1 : Ieee.signed false 9007199254740991 (971 - i).toNat = (q : Int) := by rw [← hq]; rfl
  have s3 : Ieee.signed true 9007199254740991 (971 - i).toNat = -(q : Int) := by rw [← hq]; rfl
  have s2 : Ieee.signed s m 0 = (m : Int) ∨ Ieee.signed s m 0 = -(m : Int) := by
    cases s
    · exact .inl rfl
    · exact .inr rfl
  refine ⟨?_, ?_, ?_⟩
  · unfold fgt Ieee.Format.order
    rw [e, e1]
    show ((some (compare (Ieee.signed s m (i - min i 971).toNat) (Ieee.signed false 9007199254740991 (971 - min i 971).toNat)) : Option Ordering) == some .gt) = false
    rw [hmin, hz]
    have h : ¬ compare (Ieee.signed s m 0) (Ieee.signed false 9007199254740991 (971 - i).toNat) = .gt := by
      rw [Int.compare_eq_gt, s1]
      rcases s2 with h | h <;> rw [h] <;> omega
    cases hc : compare (Ieee.signed s m 0) (Ieee.signed false 9007199254740991 (971 - i).toNat)
    · rfl
    · rfl
    · exact absurd hc h
  · unfold flt Ieee.Format.order
    rw [e, e2]
    show ((some (compare (Ieee.signed s m (i - min i 971).toNat) (Ieee.signed true 9007199254740991 (971 - min i 971).toNat)) : Option Ordering) == some .lt) = false
    rw [hmin, hz]
    have h : ¬ compare (Ieee.signed s m 0) (Ieee.signed true 9007199254740991 (971 - i).toNat) = .lt := by
      rw [Int.compare_eq_lt, s3]
      rcases s2 with h | h <;> rw [h] <;> omega
    cases hc : compare (Ieee.signed s m 0) (Ieee.signed true 9007199254740991 (971 - i).toNat)
    · exact absurd hc h
    · rfl
    · rfl
  · rw [fnan_iff]
    show (FloatKind.f64.format.read f).isNaN = false
    rw [e]; rfl
/-- What a real's text is, and that it is read as it. -/
theorem real_reads (f : Nat) (hf : f < 18446744073709551616) : ∃ (T : ByteArray) (G : Nat),
    (∀ w, Tabs3 w → Calls Tryz.prog 18 #[.agg #[.int .i64 2, .int .i64 0, .float .f64 (freal f), .string ⟨#[]⟩]] w fun e w' => e = .returned (.string T) ∧ Below w.heap.size w w') ∧
    (∀ w, RTabs w → Calls Tryz.prog 45 #[.string T, .int .i64 64] w fun e w' => e = .returned (.tuple #[.float .f64 G, .nilIface]) ∧ Below w.heap.size w w') ∧
    (feq G f = true ∨ feq G f = false ∧ fnan f = true ∧ fnan G = true) := by
  have C := Lib.hid (clean_2 0 (freal f) ⟨#[]⟩)
  rw [freal_freal] at C
  have hg : freal f < 18446744073709551616 := by unfold freal; split <;> (try split) <;> omega
  have hfg : fnan f = true ∧ freal f = 9221120237041090561 ∨ fnan f = false ∧ feq (freal f) f = true ∧ freal f ≠ 9223372036854775808 := by
    unfold freal
    cases h : fnan f
    · right
      cases h0 : feq f 0
      · refine ⟨rfl, by simp [feq_self, h], ?_⟩
        simp only [Bool.false_eq_true, if_false]
        rintro rfl
        rw [show feq 9223372036854775808 0 = true by decide +kernel] at h0
        cases h0
      · refine ⟨rfl, ?_, by simp⟩
        simp only [Bool.false_eq_true, if_false, if_true]
        unfold feq Ieee.Format.order at h0 ⊢
        rw [show FloatKind.f64.format.read 0 = .number false 0 (-1074) by decide +kernel] at h0 ⊢
        cases hr : FloatKind.f64.format.read f with
        | nan s k => rw [hr] at h0; simp [Ieee.Datum.order] at h0
        | infinity s => rw [hr] at h0; cases s <;> simp [Ieee.Datum.order] at h0
        | number s m i =>
          rw [hr] at h0
          have h1 : compare (Ieee.signed s m (i - min i (-1074)).toNat) (Ieee.signed false 0 (-1074 - min i (-1074)).toNat) = .eq := by simpa [Ieee.Datum.order] using h0
          show ((some (compare (Ieee.signed false 0 (-1074 - min (-1074) i).toNat) (Ieee.signed s m (i - min (-1074) i).toNat)) : Option Ordering) == some .eq) = true
          rw [Int.compare_eq_eq] at h1
          rw [Int.min_comm, ← h1]
          simp
    · left; exact ⟨rfl, rfl⟩
  rcases hfg with ⟨h1, h2⟩ | ⟨h1, h2, hz2⟩
  · rw [h2] at C ⊢
    refine ⟨⟨#[78, 97, 78]⟩, 9221120237041090561, fun w ht => pw_real 2 0 _ ⟨#[]⟩ 0 _ _ (Lib.hid fun w _ => digits_nan _ fnan_nanBits w) C w (Lib.hid ht), fun w ht => parse_float _ _ 3 rfl (fun w _ => ?_) w (Lib.hid ht), .inr ⟨?_, h1, fnan_nanBits⟩⟩
    · refine (atof_special _ _ 3 (fun w => nan_text w) w).mono ?_
      rintro e w' ⟨rfl, rfl⟩
      exact ⟨rfl, Below.refl _ _⟩
    · exact feq_nan_left fnan_nanBits
  · have h3 : fnan (freal f) = false := by
      have hn := (freal_rreal f)
      unfold freal
      rw [h1]
      cases h0 : feq f 0
      · simpa using h1
      · exact fnan_zero
    generalize freal f = g at *
    by_cases hE : g / 4503599627370496 % 2048 = 2047
    · rcases read_special g hE with ⟨s, e⟩ | ⟨s, k, e⟩
      · have hx : g = if s then 18442240474082181120 else 9218868437227405312 := by
          have c1 : FloatKind.f64.format.signWeight = 9223372036854775808 := by decide +kernel
          have c2 : FloatKind.f64.format.binade = 4503599627370496 := by decide +kernel
          have c3 : FloatKind.f64.format.infRung = 9218868437227405312 := by decide +kernel
          unfold Ieee.Format.read at e
          rw [c1, c2, c3] at e
          simp only at e
          rw [if_neg (by omega), if_neg (by omega)] at e
          by_cases hr : g % 9223372036854775808 = 9218868437227405312
          · rw [if_pos hr] at e
            have hs : (g / 9223372036854775808 % 2 == 1) = s := by injection e
            cases s
            · rw [beq_eq_false_iff_ne] at hs
              simp only [Bool.false_eq_true, if_false]; omega
            · rw [beq_iff_eq] at hs
              simp only [if_true]; omega
          · rw [if_neg hr] at e; cases e
        cases s
        · have hx' : g = 9218868437227405312 := hx
          subst hx'
          refine ⟨⟨#[73, 110, 102]⟩, 9218868437227405312, fun w ht => pw_real 2 0 _ ⟨#[]⟩ 0 _ _ (Lib.hid fun w _ => digits_up _ h3 (by decide +kernel) w) C w (Lib.hid ht), fun w ht => parse_float _ _ 3 rfl (fun w _ => ?_) w (Lib.hid ht), .inl h2⟩
          refine (atof_special _ _ 3 (fun w => inf_text w) w).mono ?_
          rintro e w' ⟨rfl, rfl⟩
          exact ⟨rfl, Below.refl _ _⟩
        · have hx' : g = 18442240474082181120 := hx
          subst hx'
          refine ⟨⟨#[45, 73, 110, 102]⟩, 18442240474082181120, fun w ht => pw_real 2 0 _ ⟨#[]⟩ 0 _ _ (Lib.hid fun w _ => digits_down _ h3 (by decide +kernel) (by decide +kernel) w) C w (Lib.hid ht), fun w ht => parse_float _ _ 4 rfl (fun w _ => ?_) w (Lib.hid ht), .inl h2⟩
          refine (atof_special _ _ 4 (fun w => down_text w) w).mono ?_
          rintro e w' ⟨rfl, rfl⟩
          exact ⟨rfl, Below.refl _ _⟩
      · rw [fnan_iff] at h3
        exfalso
        have : (FloatKind.f64.format.read g).isNaN = false := h3
        rw [e] at this
        cases this
    · obtain ⟨g1, g2, g3⟩ := finite_in g hE
      obtain ⟨S, hS, hF, hA⟩ := ftoa_reads g hg hE hz2
      have hsz : (dig S).size = (digL S).length := by rw [dig_digL]; show (digL S).toArray.size = _; simp
      exact ⟨dig S, g, fun w ht => pw_real 2 0 g ⟨#[]⟩ 0 g _ (Lib.hid fun w ht => digits_plain g S hS (fun w ht => fmt_outer g S hS (Lib.hid hF) w (Lib.hid ht)) g3 g1 g2 w ht) C w (Lib.hid ht), fun w ht => parse_float _ _ _ hsz hA w (Lib.hid ht), .inl h2⟩

set_option maxRecDepth 100000 in
set_option maxHeartbeats 4000000 in
theorem reads_eq (n : Int) (h0 : -9223372036854775808 ≤ n) (h1 : n ≤ 9223372036854775807) (f : Nat) (T : ByteArray) (G : Nat)
    (W1 : Hid (∀ w, Tabs3 w → Calls Tryz.prog 18 #[.agg #[.int .i64 1, .int .i64 n, .float .f64 0, .string ⟨#[]⟩]] w fun e w' => e = .returned (.string ⟨(itoa n).toArray⟩) ∧ Below w.heap.size w w'))
    (W2 : Hid (∀ w, Tabs3 w → Calls Tryz.prog 18 #[.agg #[.int .i64 2, .int .i64 0, .float .f64 (freal f), .string ⟨#[]⟩]] w fun e w' => e = .returned (.string T) ∧ Below w.heap.size w w'))
    (R2 : Hid (∀ w, RTabs w → Calls Tryz.prog 45 #[.string T, .int .i64 64] w fun e w' => e = .returned (.tuple #[.float .f64 G, .nilIface]) ∧ Below w.heap.size w w'))
    (hG : feq G f = true) (w : World) (ht : Hid (Tabs4 w)) :
    Calls Tryz.prog 12 #[.int .i64 n, .float .f64 f] w fun e w' => e = .returned (.bool true) ∧ Below w.heap.size w w' := by
  have g1 : (FloatKind.f64.format.order G f == some Ordering.eq) = true := hG
  go_enter Tryz.func12, Tryz.ntmps12
  go_wp2_with fail
  refine (lives_any _).mono ?_
  rintro e w1 ⟨rfl, hb1⟩
  go_wp2_with fail
  refine (ofInt_any _ _).mono ?_
  rintro e w2 ⟨rfl, hb2⟩
  go_wp2_with fail
  refine (W1.out _ (ht.out.below ?_).one).mono ?_
  · exact (by repeat' (first | with_reducible exact Below.refl _ _ | with_reducible refine below_step ?_ (by assumption) | with_reducible apply below_set' | with_reducible apply below_alloc' | with_reducible apply Below.drew | with_reducible apply below_drewN' | (simp; done) | omega | (simp; omega)))
  rintro e w3 ⟨rfl, hb3⟩
  go_wp2_with fail
  refine (pint_to n h0 h1 _).mono ?_
  rintro e w4 ⟨rfl, hb4⟩
  go_wp2_with fail
  refine (ofReal_any _ _).mono ?_
  rintro e w5 ⟨rfl, hb5⟩
  go_wp2_with fail
  refine (W2.out _ (ht.out.below ?_).one).mono ?_
  · exact (by repeat' (first | with_reducible exact Below.refl _ _ | with_reducible refine below_step ?_ (by assumption) | with_reducible apply below_set' | with_reducible apply below_alloc' | with_reducible apply Below.drew | with_reducible apply below_drewN' | (simp; done) | omega | (simp; omega)))
  rintro e w6 ⟨rfl, hb6⟩
  go_wp2_with fail
  refine (R2.out _ (ht.out.below ?_).two).mono ?_
  · exact (by repeat' (first | with_reducible exact Below.refl _ _ | with_reducible refine below_step ?_ (by assumption) | with_reducible apply below_set' | with_reducible apply below_alloc' | with_reducible apply Below.drew | with_reducible apply below_drewN' | (simp; done) | omega | (simp; omega)))
  rintro e w7 ⟨rfl, hb7⟩
  go_wp2
  go_ret
  exact ⟨rfl, (by repeat' (first | with_reducible exact Below.refl _ _ | with_reducible refine below_step ?_ (by assumption) | with_reducible apply below_set' | with_reducible apply below_alloc' | with_reducible apply Below.drew | with_reducible apply below_drewN' | (simp; done) | omega | (simp; omega)))⟩
set_option maxRecDepth 100000 in
set_option maxHeartbeats 4000000 in
theorem reads_nan (n : Int) (h0 : -9223372036854775808 ≤ n) (h1 : n ≤ 9223372036854775807) (f : Nat) (T : ByteArray) (G : Nat)
    (W1 : Hid (∀ w, Tabs3 w → Calls Tryz.prog 18 #[.agg #[.int .i64 1, .int .i64 n, .float .f64 0, .string ⟨#[]⟩]] w fun e w' => e = .returned (.string ⟨(itoa n).toArray⟩) ∧ Below w.heap.size w w'))
    (W2 : Hid (∀ w, Tabs3 w → Calls Tryz.prog 18 #[.agg #[.int .i64 2, .int .i64 0, .float .f64 (freal f), .string ⟨#[]⟩]] w fun e w' => e = .returned (.string T) ∧ Below w.heap.size w w'))
    (R2 : Hid (∀ w, RTabs w → Calls Tryz.prog 45 #[.string T, .int .i64 64] w fun e w' => e = .returned (.tuple #[.float .f64 G, .nilIface]) ∧ Below w.heap.size w w'))
    (hG : feq G f = false) (n1 : fnan f = true) (n2 : fnan G = true) (w : World) (ht : Hid (Tabs4 w)) :
    Calls Tryz.prog 12 #[.int .i64 n, .float .f64 f] w fun e w' => e = .returned (.bool true) ∧ Below w.heap.size w w' := by
  have g1 : (FloatKind.f64.format.order G f == some Ordering.eq) = false := hG
  go_enter Tryz.func12, Tryz.ntmps12
  go_wp2_with fail
  refine (lives_any _).mono ?_
  rintro e w1 ⟨rfl, hb1⟩
  go_wp2_with fail
  refine (ofInt_any _ _).mono ?_
  rintro e w2 ⟨rfl, hb2⟩
  go_wp2_with fail
  refine (W1.out _ (ht.out.below ?_).one).mono ?_
  · exact (by repeat' (first | with_reducible exact Below.refl _ _ | with_reducible refine below_step ?_ (by assumption) | with_reducible apply below_set' | with_reducible apply below_alloc' | with_reducible apply Below.drew | with_reducible apply below_drewN' | (simp; done) | omega | (simp; omega)))
  rintro e w3 ⟨rfl, hb3⟩
  go_wp2_with fail
  refine (pint_to n h0 h1 _).mono ?_
  rintro e w4 ⟨rfl, hb4⟩
  go_wp2_with fail
  refine (ofReal_any _ _).mono ?_
  rintro e w5 ⟨rfl, hb5⟩
  go_wp2_with fail
  refine (W2.out _ (ht.out.below ?_).one).mono ?_
  · exact (by repeat' (first | with_reducible exact Below.refl _ _ | with_reducible refine below_step ?_ (by assumption) | with_reducible apply below_set' | with_reducible apply below_alloc' | with_reducible apply Below.drew | with_reducible apply below_drewN' | (simp; done) | omega | (simp; omega)))
  rintro e w6 ⟨rfl, hb6⟩
  go_wp2_with fail
  refine (R2.out _ (ht.out.below ?_).two).mono ?_
  · exact (by repeat' (first | with_reducible exact Below.refl _ _ | with_reducible refine below_step ?_ (by assumption) | with_reducible apply below_set' | with_reducible apply below_alloc' | with_reducible apply Below.drew | with_reducible apply below_drewN' | (simp; done) | omega | (simp; omega)))
  rintro e w7 ⟨rfl, hb7⟩
  go_wp2_with (go_at_call 46; (with_reducible refine (isNaN_any _ _).mono ?_); rintro e w8 ⟨rfl, rfl⟩; first | rw [n1] | rw [n2])
  go_ret
  exact ⟨rfl, (by repeat' (first | with_reducible exact Below.refl _ _ | with_reducible refine below_step ?_ (by assumption) | with_reducible apply below_set' | with_reducible apply below_alloc' | with_reducible apply Below.drew | with_reducible apply below_drewN' | (simp; done) | omega | (simp; omega)))⟩
/-- What is written is read as itself. -/
theorem reads_any (n : Int) (h0 : -9223372036854775808 ≤ n) (h1 : n ≤ 9223372036854775807) (f : Nat) (hf : f < 18446744073709551616) (w : World) (ht : Tabs4 w) :
    Calls Tryz.prog 12 #[.int .i64 n, .float .f64 f] w fun e w' => e = .returned (.bool true) ∧ Below w.heap.size w w' := by
  obtain ⟨T, G, W2, R2, h⟩ := real_reads f hf
  have W1 : ∀ w, Tabs3 w → Calls Tryz.prog 18 #[.agg #[.int .i64 1, .int .i64 n, .float .f64 0, .string ⟨#[]⟩]] w fun e w' => e = .returned (.string ⟨(itoa n).toArray⟩) ∧ Below w.heap.size w w' :=
    fun w ht => pw_int 1 n 0 ⟨#[]⟩ n ⟨h0, h1⟩ (Lib.hid (clean_1 n 0 ⟨#[]⟩)) w (Lib.hid ht)
  rcases h with h | ⟨h, n1, n2⟩
  · exact reads_eq n h0 h1 f T G (Lib.hid W1) (Lib.hid W2) (Lib.hid R2) h w (Lib.hid ht)
  · exact reads_nan n h0 h1 f T G (Lib.hid W1) (Lib.hid W2) (Lib.hid R2) h n1 n2 w (Lib.hid ht)
end Go.Proofs.YtikpgglbfpdhmaaGreatDoor

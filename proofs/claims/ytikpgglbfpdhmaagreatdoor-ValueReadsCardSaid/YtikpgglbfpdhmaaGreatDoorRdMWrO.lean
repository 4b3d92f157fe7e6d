/- Printing a float: its bits are taken apart. -/
import Derived.Test.YtikpgglbfpdhmaaGreatDoorRdMWrP
namespace Go.Proofs.YtikpgglbfpdhmaaGreatDoor
open Go.RowKit Go.Joins Go.Sort Go.Lib
attribute [local go_sem ↓] Go.wp_at_zero Go.wp_at_succ

theorem run_sfloat64bits (b : Nat) (w : World) : (callFunc 129 #[.float .f64 b]).run Tryz.prog w = .ok (.value (.int .u64 b)) w := by
  rw [run_callFunc_extern (e := Extern.MathFloatBits.float64bits) Tryz.func129 (by kernel_rfl) rfl (by kernel_rfl) (by kernel_rfl)]
  rfl
theorem bitLen_two (x : Nat) (h0 : x ≠ 0) (h : x < 2 ^ 64) : 1 ≤ Lib.bitLen x ∧ 2 ^ (Lib.bitLen x - 1) ≤ x ∧ x < 2 ^ Lib.bitLen x := bitLenAux_bounds 64 x h h0
theorem norm_ex (mt : Nat) (h1 : 1 ≤ mt) (h2 : mt < 9007199254740992) : ∃ s : Nat, 11 ≤ s ∧ s ≤ 63 ∧ Lib.bitLen mt = 64 - s ∧ 9223372036854775808 ≤ mt * 2 ^ s ∧ mt * 2 ^ s + 2 ^ s ≤ 18446744073709551616 ∧ (4503599627370496 ≤ mt → s = 11) := by
  obtain ⟨b1, b2, b3⟩ := bitLen_two mt (by omega) (by omega)
  have hle := bitLen_le mt 53 (by omega) (by omega)
  generalize Lib.bitLen mt = L at *
  refine ⟨64 - L, by omega, by omega, by omega, ?_, ?_, fun h => ?_⟩
  · have h3 := Nat.mul_le_mul_right (2 ^ (64 - L)) b2
    rw [← Nat.pow_add, show L - 1 + (64 - L) = 63 by omega] at h3
    omega
  · have h3 := Nat.mul_le_mul_right (2 ^ (64 - L)) (show mt + 1 ≤ 2 ^ L by omega)
    rw [← Nat.pow_add, show L + (64 - L) = 64 by omega, Nat.succ_mul] at h3
    omega
  · have h4 : ¬ L ≤ 52 := fun h5 => by
      have := Nat.pow_le_pow_right (n := 2) (by omega) h5
      omega
    omega
theorem bit_and (f k : Nat) (hf : f < 18446744073709551616) (hk : k ≤ 64) : bits BinOp.and IntKind.u64 (f : Int) ((2 ^ k - 1 : Nat) : Int) = ((f % 2 ^ k : Nat) : Int) := by
  have hk2 : 2 ^ k ≤ 2 ^ 64 := Nat.pow_le_pow_right (by omega) hk
  have hp := Nat.two_pow_pos k
  show IntKind.u64.wrap (((BitVec.ofInt 64 (f : Int)) &&& (BitVec.ofInt 64 ((2 ^ k - 1 : Nat) : Int))).toNat : Int) = _
  rw [BitVec.toNat_and, BitVec.ofInt_natCast, BitVec.ofInt_natCast, BitVec.toNat_ofNat, BitVec.toNat_ofNat, Nat.mod_eq_of_lt (a := f) (by omega), Nat.mod_eq_of_lt (a := 2 ^ k - 1) (by omega), Nat.and_two_pow_sub_one_eq_mod, IntKind.wrap_u64]
  have := Nat.mod_lt f hp
  omega
theorem bit_andi (f k : Nat) (hf : f < 9223372036854775808) (hk : k ≤ 62) : bits BinOp.and IntKind.i64 (f : Int) ((2 ^ k - 1 : Nat) : Int) = ((f % 2 ^ k : Nat) : Int) := by
  have hk2 : 2 ^ k ≤ 2 ^ 62 := Nat.pow_le_pow_right (by omega) hk
  have hp := Nat.two_pow_pos k
  show IntKind.i64.wrap (((BitVec.ofInt 64 (f : Int)) &&& (BitVec.ofInt 64 ((2 ^ k - 1 : Nat) : Int))).toNat : Int) = _
  rw [BitVec.toNat_and, BitVec.ofInt_natCast, BitVec.ofInt_natCast, BitVec.toNat_ofNat, BitVec.toNat_ofNat, Nat.mod_eq_of_lt (a := f) (by omega), Nat.mod_eq_of_lt (a := 2 ^ k - 1) (by omega), Nat.and_two_pow_sub_one_eq_mod, IntKind.wrap_i64]
  have := Nat.mod_lt f hp
  omega
theorem bit_or (m : Nat) (h : m < 4503599627370496) : bits BinOp.or IntKind.u64 (m : Int) 4503599627370496 = ((m + 4503599627370496 : Nat) : Int) := by
  have := or_nat m 4503599627370496 (by omega) (by omega)
  rw [show ((4503599627370496 : Nat) : Int) = 4503599627370496 from rfl] at this
  rw [this]
  have e := Nat.two_pow_add_eq_or_of_lt (i := 52) (b := m) (by omega) 1
  rw [show 2 ^ 52 * 1 = 4503599627370496 from rfl] at e
  rw [Nat.or_comm, ← e, Nat.add_comm]
/-- The tables, as they lie in memory. -/
def Tabs (w : World) : Prop := TenAt w ∧ TabIs Tryz.prog w "internal/strconv.uint64pow10" .u64 Lib.pow10Tab
theorem Tabs.below {w w' : World} (h : Tabs w) (hb : Below w.heap.size w w') : Tabs w' := by
  constructor
  · intro i hi
    have h1 := h.1 i hi
    exact ⟨(hb.cell (p := ⟨15, i * 2, none⟩) (World.block_lt_of_cell? _ _ h1.1)).trans h1.1, (hb.cell (p := ⟨15, i * 2 + 1, none⟩) (World.block_lt_of_cell? _ _ h1.2)).trans h1.2⟩
  · have h2 := h.2
    unfold TabIs World.var? at *
    cases hg : Tryz.prog.globalNamed "internal/strconv.uint64pow10" with
    | none => simp [hg] at h2
    | some g =>
      simp only [hg, Option.bind_some] at h2 ⊢
      have hlt : g < w.heap.size := by
        rcases Nat.lt_or_ge g w.heap.size with h' | h'
        · exact h'
        · rw [Array.getElem?_eq_none h'] at h2; simp at h2
      rw [hb.block g hlt]
      exact h2
theorem own_kept {w w' : World} {B n s : Nat} {e : TypeId} {v : Value} {xs : List Value} (h : w.ownsRow B e s v n xs) (hb : Below w.heap.size w w') : w'.ownsRow B e s v n xs := by
  refine ⟨h.1, ?_⟩
  rcases h.2 with hn | ⟨g, cap, cur, rfl, hB, hg, rest⟩
  · exact .inl hn
  · exact .inr ⟨g, cap, cur, rfl, hB, by rw [hb.block g (Array.getElem?_eq_some_iff.1 hg).1]; exact hg, rest⟩
theorem len_to (mt L : Nat) (h1 : mt < 9007199254740992) (hs : Lib.bitLen mt = L) (w : World) :
    Calls Tryz.prog 115 #[.int .u64 mt] w fun e w' => e = .returned (.int .i64 (L : Int)) ∧ w = w' := by
  refine (Tryz.bits_Len64 (mt : Int) w (by omega) (by omega)).mono ?_
  rintro e w1 ⟨rfl, rfl⟩
  rw [Int.toNat_natCast, hs]
  exact ⟨rfl, rfl⟩
theorem digits_to (D k : Nat) (hk : k = nDigits D) (h1 : 1 ≤ D) (h2 : D < 1000000000000000000) (w : World) (ht : Tabs w) :
    Calls Tryz.prog 88 #[.int .u64 D] w fun e w' => e = .returned (.int .i64 k) ∧ w = w' := by
  refine (Tryz.internal_strconv_numDigits D h1 (by omega) w ht.2).mono ?_
  rintro e w1 ⟨rfl, rfl⟩
  rw [hk]
  exact ⟨rfl, rfl⟩
theorem nDigits_lt : ∀ (k D : Nat), 1 ≤ k → D < 10 ^ k → nDigits D ≤ k
  | 0, _, h, _ => by omega
  | k + 1, D, _, h => by
    by_cases h10 : D < 10
    · rw [nDigits_small h10]; omega
    · rw [nDigits_big h10]
      have hk : 1 ≤ k := by
        rcases Nat.eq_zero_or_pos k with rfl | hk
        · omega
        · exact hk
      have := nDigits_lt k (D / 10) hk (by rw [Nat.div_lt_iff_lt_mul (by omega)]; rw [Nat.pow_succ] at h; exact h)
      omega
theorem digits_few (D : Nat) (h2 : D < 1000000000000000000) : nDigits D ≤ 18 := nDigits_lt 18 D (by omega) (by omega)
set_option maxRecDepth 100000 in
set_option maxHeartbeats 4000000 in
theorem ftoa_is (f E m0 mt L m D k : Nat) (neg : Bool) (X Q : Int) (B : Nat) (v : Value) (hf : f < 18446744073709551616)
    (h1 : ((f : Int) / 9223372036854775808 != 0) = neg) (h2 : bits BinOp.and IntKind.i64 ((f : Int) / 4503599627370496) 2047 = (E : Int)) (h3 : bits BinOp.and IntKind.u64 (f : Int) 4503599627370495 = (m0 : Int)) (h4 : bits BinOp.or IntKind.u64 (m0 : Int) 4503599627370496 = ((m0 + 4503599627370496 : Nat) : Int))
    (hE : E < 2047) (_hm0 : m0 < 4503599627370496) (hX : X = if E = 0 then 1 else (E : Int)) (hmt : mt = if E = 0 then m0 else m0 + 4503599627370496)
    (hmt1 : 1 ≤ mt) (hmt9 : mt < 9007199254740992) (hL : 1 ≤ L ∧ L ≤ 53) (hbl : Lib.bitLen mt = L) (hsh : IntKind.u64.wrap ((mt : Int) * 2 ^ (64 - L)) = (m : Int)) (hD : Short m (X + -1023 - (64 - L) - 52) D Q) (hk : k = nDigits D) (w : World)
    (ht : Tabs w) (hB : B ≤ w.heap.size) (hown : w.ownsRow B 5 1 v 0 []) :
    Calls Tryz.prog 106 #[v, .float .f64 f, .int .u8 103, .int .i64 (-1)] w fun e w' => ∃ v', e = .returned v' ∧ w'.ownsRow B 5 1 v' (gform neg (kept D) (nDigits D + Q)).length (byteCells (gform neg (kept D) (nDigits D + Q))) ∧ Below B w w' := by
  have hX9 : 1 ≤ X ∧ X ≤ 2046 := by split at hX <;> omega
  have HX := Lib.hid hX
  have HM := Lib.hid hmt
  have HT := Lib.hid ht
  have HO := Lib.hid hown
  have HD := Lib.hid hD
  have HK := Lib.hid hk
  have HS := Lib.hid hD.2.2.2.2
  have HL := Lib.hid hbl
  have hfb := run_sfloat64bits f
  clear hX hmt ht hown hD hk hbl
  go_enter Tryz.func106, Tryz.ntmps106
  go_upto_region 14 with fail
  go_region
  go_upto_if 78 with fail
  go_cut [14, 15] (fun s14 s15 wx => s14 = .int .i64 X ∧ s15 = .int .u64 mt ∧ w.drew = wx)
  case first => as_aux_lemma =>
    go_wp2_with fail
    all_goals
      go_meet
      have h5 := HX.out
      have h6 := HM.out
      first
        | (have hq : ((E : Int) == 0) = true := by assumption
           have hE0 : E = 0 := by simpa using hq
           rw [if_pos hE0] at h5 h6
           exact ⟨congrArg (Value.int .i64) (by omega), congrArg (Value.int .u64) (by omega), rfl⟩)
        | (have hq : ((E : Int) == 0) = false := by assumption
           have hE0 : E ≠ 0 := by simpa using hq
           rw [if_neg hE0] at h5 h6
           exact ⟨congrArg (Value.int .i64) (by omega), congrArg (Value.int .u64) (by omega), rfl⟩)
  case rest => as_aux_lemma =>
    obtain ⟨rfl, rfl, hwc⟩ := hcut
    subst wc
    clear h1 h2 h3 h4 hfb
    go_wp2_with (go_at_call 115; with_reducible refine (len_to mt L hmt9 HL.out _).mono ?_; rintro e w1 ⟨rfl, rfl⟩)
    refine (HS.out _ (HT.out.below ?below).1).mono ?_
    case below => exact (by repeat' (first | with_reducible exact Below.refl _ _ | with_reducible refine below_step ?_ (by assumption) | with_reducible apply below_set' | with_reducible apply below_alloc' | with_reducible apply Below.drew | with_reducible apply below_drewN' | (simp; done) | omega | (simp; omega)))
    rintro e w1 ⟨rfl, hb⟩
    go_upto_region 38 with fail
    have hb0 : RowKit.Below w.heap.size w w1 := (by repeat' (first | with_reducible exact Below.refl _ _ | with_reducible refine below_step ?_ (by assumption) | with_reducible apply below_set' | with_reducible apply below_alloc' | with_reducible apply Below.drew | with_reducible apply below_drewN' | (simp; done) | omega | (simp; omega)))
    have hz : w1.heap[w.heap.size]? = some (Obj.cells zeros32 141 (0, 0)) := by
      rw [hb.block w.heap.size (by simp)]
      exact heap_alloc_new w.drew _
    have hsz : w.heap.size < w1.heap.size := (Array.getElem?_eq_some_iff.1 hz).1
    clear hb
    have HZ : Hid (w1.drew.heap[w.heap.size]? = some (Obj.cells zeros32 141 (0, 0))) := Lib.hid hz
    clear hz
    have d1 := HD.out.1
    have d2 := HD.out.2.1
    have d3 := HD.out.2.2.1
    have d4 := HD.out.2.2.2.1
    have hk9 := digits_few D d2
    have hk1 := nDigits_pos D
    rw [← HK.out] at hk9 hk1
    go_region_with (first
      | (go_at_call 88; (with_reducible refine (digits_to D k HK.out d1 d2 _ (HT.out.below (by repeat' (first | with_reducible exact Below.refl _ _ | with_reducible refine below_step ?_ (by assumption) | with_reducible apply below_set' | with_reducible apply below_alloc' | with_reducible apply Below.drew | with_reducible apply below_drewN' | (simp; done) | omega | (simp; omega))))).mono ?_); rintro e w2 ⟨rfl, rfl⟩)
      | (go_at_call 134; (with_reducible refine (setDigits_is w.heap.size k D 141 Q (by omega) HK (by omega) (by omega) _ HZ).mono ?_); rintro e w2 ⟨rfl, hb2, hB2⟩))
    have hb3 : RowKit.Below w.heap.size w w2 := hb0.drew.trans hb2
    have hsz2 : w.heap.size < w2.heap.size := by obtain ⟨cs, fr, e⟩ := hB2.1; exact (Array.getElem?_eq_some_iff.1 e).1
    have hO2 := own_kept HO.out hb3
    have hnn : nzLen (decDigits D) k = (kept D).length := by rw [kept_len, HK.out]
    have hkk : k = nDigits D := HK.out
    have hG := Lib.hid (gform_is 141 B w.heap.size (nzLen (decDigits D) k) neg (kept D) ((k : Int) + Q) v [] hnn (by rw [hnn]; exact kept_pos D d1) (by have := nzLen_le (decDigits D) k; omega) (by omega) w2 (hB2.tag (by decide)) (by omega) (hB2.take _) ⟨hO2, Below.refl _ _, rfl, Nat.le_refl _⟩ (by simp))
    clear hb0 hb2 hB2 hO2 hnn hkk HZ
    go_wp2_with (go_at_call 132; with_reducible refine (hG.out).mono ?_; rintro e w3 ⟨v', rfl, hD3⟩)
    go_ret
    refine ⟨v', rfl, ?_, ?_⟩
    · have h9 := hD3.own
      rw [HK.out, List.nil_append] at h9
      exact h9
    · exact (hb3.mono hB).trans hD3.below
end Go.Proofs.YtikpgglbfpdhmaaGreatDoor

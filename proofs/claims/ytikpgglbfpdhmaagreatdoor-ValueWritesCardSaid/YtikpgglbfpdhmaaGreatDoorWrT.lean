/- Printing a float: FormatFloat gives one text for one float. -/
import Derived.Test.YtikpgglbfpdhmaaGreatDoorWrR
import Derived.Test.YtikpgglbfpdhmaaGreatDoorWrG
namespace Go.Proofs.YtikpgglbfpdhmaaGreatDoor
open Go.RowKit Go.Joins Go.Sort Go.Lib
attribute [local go_sem ↓] Go.wp_at_zero Go.wp_at_succ

/-- What is wanted of a float's text. -/
structure Txt (S : List UInt8) : Prop where
  few : S.length ≤ 100
  some : 1 ≤ S.length
  trim : trimS S cutBytes = [] ↔ marks S = false
theorem gform_txt (neg : Bool) (ds : List UInt8) (dp : Int) (h : ds.length ≤ 32) (hd : ∀ b ∈ ds, isDig b = true) (hp : 1 ≤ ds.length ∨ dp ≤ 0 ∧ -3 ≤ dp) (h0 : -999 < dp) (h1 : dp < 1000) : Txt (gform neg ds dp) :=
  ⟨gform_len neg ds dp h, gform_pos neg ds dp hp, gform_trim neg ds dp hd h0 h1⟩
/-- ftoa64's text of a float. -/
def Ftoa (f : Nat) (S : List UInt8) : Prop := ∀ (B : Nat) (v : Value) (w : World), B ≤ w.heap.size → w.ownsRow B 5 1 v 0 [] → Tabs w →
  Calls Tryz.prog 106 #[v, .float .f64 f, .int .u8 103, .int .i64 (-1)] w fun e w' => ∃ v', e = .returned v' ∧ w'.ownsRow B 5 1 v' S.length (byteCells S) ∧ RowKit.Below B w w'
theorem ftoa_ex (f : Nat) (hf : f < 18446744073709551616) (hE : f / 4503599627370496 % 2048 ≠ 2047) : ∃ S, Txt S ∧ Ftoa f S := by
  obtain ⟨neg, hneg⟩ : ∃ neg : Bool, ((f : Int) / 9223372036854775808 != 0) = neg := ⟨_, rfl⟩
  have h2 : bits BinOp.and IntKind.i64 ((f : Int) / 4503599627370496) 2047 = ((f / 4503599627370496 % 2048 : Nat) : Int) := by
    have := bit_andi (f / 4503599627370496) 11 (by omega) (by omega)
    rw [show ((f : Int) / 4503599627370496) = ((f / 4503599627370496 : Nat) : Int) by omega]
    exact this
  have h3 : bits BinOp.and IntKind.u64 (f : Int) 4503599627370495 = ((f % 4503599627370496 : Nat) : Int) := bit_and f 52 hf (by omega)
  have hm0 : f % 4503599627370496 < 4503599627370496 := Nat.mod_lt _ (by omega)
  have hE9 : f / 4503599627370496 % 2048 < 2047 := by
    have := Nat.mod_lt (f / 4503599627370496) (show 0 < 2048 by omega)
    omega
  generalize f / 4503599627370496 % 2048 = E at *
  generalize f % 4503599627370496 = m0 at *
  obtain ⟨mt, hmt⟩ : ∃ mt, mt = if E = 0 then m0 else m0 + 4503599627370496 := ⟨_, rfl⟩
  obtain ⟨X, hX⟩ : ∃ X : Int, X = if E = 0 then 1 else (E : Int) := ⟨_, rfl⟩
  by_cases h0 : mt = 0
  · have hE0 : E = 0 := by
      by_cases h : E = 0
      · exact h
      · rw [if_neg h] at hmt; omega
    have hm : m0 = 0 := by rw [if_pos hE0] at hmt; omega
    rw [hE0] at h2
    rw [hm] at h3
    exact ⟨gform neg [] 0, gform_txt neg [] 0 (by simp) (by simp) (.inr (by omega)) (by omega) (by omega), fun B v w hB ho _ => ftoa_zero f neg B v hf hneg h2 h3 w hB ho⟩
  · have hmt9 : mt < 9007199254740992 := by split at hmt <;> omega
    obtain ⟨s, s1, s2, s3, s4, s5, s6⟩ := norm_ex mt (by omega) hmt9
    have hs2 : 2 ^ s = 2 * 2 ^ (s - 1) := by rw [← Nat.pow_succ']; congr 1; omega
    have hs11 : 2048 ≤ 2 ^ s := Nat.pow_le_pow_right (n := 2) (i := 11) (by omega) s1
    have hsh : IntKind.u64.wrap ((mt : Int) * 2 ^ (64 - (64 - s))) = ((mt * 2 ^ s : Nat) : Int) := by
      rw [show 64 - (64 - s) = s by omega, IntKind.wrap_u64, show ((mt : Int) * 2 ^ s) = ((mt * 2 ^ s : Nat) : Int) by rw [Int.natCast_mul, Int.natCast_pow]; rfl]
      omega
    have hXm : X = 1 ∨ 1 ≤ X ∧ X ≤ 2046 ∧ 4503599627370496 ≤ mt := by
      by_cases h : E = 0
      · rw [if_pos h] at hX; exact .inl hX
      · rw [if_neg h] at hX hmt; exact .inr ⟨by omega, by omega, by omega⟩
    have he9 : -1137 ≤ X + -1023 - (64 - ((64 - s : Nat) : Int)) - 52 ∧ X + -1023 - (64 - ((64 - s : Nat) : Int)) - 52 ≤ 960 := by omega
    obtain ⟨D, Q, hD⟩ := short_ex (mt * 2 ^ s) (X + -1023 - (64 - ((64 - s : Nat) : Int)) - 52) he9 ⟨s4, by omega⟩ (fun _ => by omega) (fun h => by
      have ez : (-1074 - (X + -1023 - (64 - ((64 - s : Nat) : Int)) - 52)).toNat = s := by
        rcases hXm with h5 | ⟨_, _, h5⟩
        · omega
        · have := s6 h5; omega
      rw [ez]; omega)
    have hk := digits_few D hD.2.1
    have hl := kept_len D
    have hl2 := nzLen_le (decDigits D) (nDigits D)
    have h1D := kept_pos D hD.1
    have q1 := hD.2.2.1
    have q2 := hD.2.2.2.1
    exact ⟨gform neg (kept D) (nDigits D + Q), gform_txt neg (kept D) _ (by omega) (kept_dig D) (.inl h1D) (by omega) (by omega), fun B v w hB ho ht =>
      ftoa_is f E m0 mt (64 - s) (mt * 2 ^ s) D (nDigits D) neg X Q B v hf hneg h2 h3 (bit_or m0 hm0) hE9 hm0 hX hmt (by omega) hmt9 (by omega) s3 hsh hD rfl w ht hB ho⟩
set_option maxRecDepth 100000 in
set_option maxHeartbeats 1000000 in
theorem fmt_inner (f : Nat) (S : List UInt8) (hS : Txt S) (hF : Hid (Ftoa f S)) (w : World) (ht : Hid (Tabs w)) :
    Calls Tryz.prog 75 #[.float .f64 f, .int .u8 103, .int .i64 (-1), .int .i64 64] w fun e w' => e = .returned (.string ⟨S.toArray⟩) ∧ RowKit.Below w.heap.size w w' := by
  go_enter Tryz.func75, Tryz.ntmps75
  obtain ⟨i0, hi, hz0, hz1, hz2⟩ := info_parts info5
  go_wp2_with (at_make; refine wpList_make_own _ rfl _ _ 94 rfl w.heap.size 5 i0 (.int .u8 0) 1 Tryz.underlying94 hi hz0 hz1 .i64 .i64 _ 24 rfl rfl rfl (by rw [hz2]; omega) (by unfold maxLen; omega) (Nat.le_refl _) ?_; intro w0 hown0 hgrow0)
  have hb0 : RowKit.Below w.heap.size w w0 := (Below.refl _ _).grown hgrow0 (Nat.le_refl _) (fun k hk => by cases hk)
  refine (hF.out w.heap.size _ w0 hb0.size hown0 (ht.out.below hb0)).mono ?_
  rintro e w1 ⟨v', rfl, ho, hb⟩
  have hS1 := hS.some
  obtain ⟨g, cap, cur, rfl, hB, hg, hn, hc, hcs, htk⟩ : ∃ g cap cur, v' = .slice (some ⟨g, 0, none⟩) S.length cap ∧ w.heap.size ≤ g ∧ w1.heap[g]? = some (.cells cur 5 (0, 0)) ∧ S.length ≤ cap ∧ cap ≤ maxLen ∧ cur.size = cap * 1 ∧ cur.toList.take (S.length * 1) = byteCells S := by
    rcases ho.2 with ⟨_, h⟩ | h
    · omega
    · exact h
  have hconv := run_convert_bytes_back (P := Tryz.prog) w1 94 9 5 ⟨g, 0, none⟩ cap S Tryz.underlying94 Tryz.underlying5 Tryz.underlying9 (fun j hj => by
    have h1 := ho.cells (g := g) rfl j (.int .u8 (S[j].toNat : Int)) (by unfold byteCells; simp [List.getElem?_eq_getElem hj])
    exact h1)
  clear ho hg htk hcs
  go_wp2
  go_ret
  exact ⟨rfl, hb0.trans hb⟩
theorem fmt_outer (f : Nat) (S : List UInt8) (hS : Txt S) (hF : Hid (Ftoa f S)) (w : World) (ht : Hid (Tabs w)) :
    Calls Tryz.prog 56 #[.float .f64 f, .int .u8 103, .int .i64 (-1), .int .i64 64] w fun e w' => e = .returned (.string ⟨S.toArray⟩) ∧ RowKit.Below w.heap.size w w' := by
  go_enter Tryz.func56, Tryz.ntmps56
  go_wp2_with (go_at_call 75; with_reducible refine (fmt_inner f S hS hF _ ht).mono ?_; rintro e w1 ⟨rfl, hb⟩)
  go_ret
  exact ⟨rfl, hb⟩
/-- FormatFloat gives one text for a float that is neither none nor without bounds. -/
theorem fmt_ex (f : Nat) (hf : f < 18446744073709551616) (hn : fnan f = false) (h1 : fgt f 9218868437227405311 = false) (h2 : flt f 18442240474082181119 = false) :
    ∃ S, Txt S ∧ ∀ w, Tabs w → Calls Tryz.prog 56 #[.float .f64 f, .int .u8 103, .int .i64 (-1), .int .i64 64] w fun e w' => e = .returned (.string ⟨S.toArray⟩) ∧ RowKit.Below w.heap.size w w' := by
  obtain ⟨S, hS, hF⟩ := ftoa_ex f hf (plain_bits f hn h1 h2)
  exact ⟨S, hS, fun w ht => fmt_outer f S hS (Lib.hid hF) w (Lib.hid ht)⟩
end Go.Proofs.YtikpgglbfpdhmaaGreatDoor

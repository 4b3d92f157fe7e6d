/- Printing a float: FormatFloat gives one text for one float. -/
import Derived.Test.YtikpgglbfpdhmaaGreatDoorRdMRdX
import Derived.Test.YtikpgglbfpdhmaaGreatDoorRdMRdF
import Derived.Test.YtikpgglbfpdhmaaGreatDoorRdMVOrd
import Derived.Lib.Replace
import Derived.Shelf.Strings.SlTrimAscii
import Derived.Test.YtikpgglbfpdhmaaGreatDoorRdMRdV
import Derived.Test.YtikpgglbfpdhmaaGreatDoorRdMRdW
import Derived.Test.YtikpgglbfpdhmaaGreatDoorRdMRdM
import Derived.Test.YtikpgglbfpdhmaaGreatDoorRdMValC
namespace Go.Proofs.YtikpgglbfpdhmaaGreatDoor
open Go.RowKit Go.Joins Go.Sort Go.Lib
attribute [local go_sem ↓] Go.wp_at_zero Go.wp_at_succ

/-- What is wanted of a float's text. -/
structure Txt (S : List UInt8) : Prop where
  few : S.length ≤ 100
  some : 1 ≤ S.length
  trim : trimS S cutBytes = [] ↔ marks S = false
theorem gform_txt (neg : Bool) (ds : List UInt8) (dp : Int) (h : ds.length ≤ 32) (hd : ∀ b ∈ ds, isDig b = true) (hp : 1 ≤ ds.length ∨ dp ≤ 0 ∧ -3 ≤ dp) (h0 : -999 < dp) (h1 : dp < 1000) : Txt (gform neg ds dp) :=
  ⟨gform_len neg ds dp h, gform_pos neg ds dp hp, gform_trim neg ds dp hd h0 h1⟩
/-- ftoa64's text of a float. -/
def Ftoa (f : Nat) (S : List UInt8) : Prop := ∀ (B : Nat) (v : Value) (w : World), B ≤ w.heap.size → w.ownsRow B 5 1 v 0 [] → Tabs w →
  Calls Tryz.prog 106 #[v, .float .f64 f, .int .u8 103, .int .i64 (-1)] w fun e w' => ∃ v', e = .returned v' ∧ w'.ownsRow B 5 1 v' S.length (byteCells S) ∧ RowKit.Below B w w'
theorem ftoa_ex (f : Nat) (hf : f < 18446744073709551616) (hE : f / 4503599627370496 % 2048 ≠ 2047) : ∃ S, Txt S ∧ Ftoa f S := by
  obtain ⟨neg, hneg⟩ : ∃ neg : Bool, ((f : Int) / 9223372036854775808 != 0) = neg := ⟨_, rfl⟩
  have h2 : bits BinOp.and IntKind.i64 ((f : Int) / 4503599627370496) 2047 = ((f / 4503599627370496 % 2048 : Nat) : Int) := by
    have := bit_andi (f / 4503599627370496) 11 (by omega) (by omega)
    rw [show ((f : Int) / 4503599627370496) = ((f / 4503599627370496 : Nat) : Int) by omega]
    exact this
  have h3 : bits BinOp.and IntKind.u64 (f : Int) 4503599627370495 = ((f % 4503599627370496 : Nat) : Int) := bit_and f 52 hf (by omega)
  have hm0 : f % 4503599627370496 < 4503599627370496 := Nat.mod_lt _ (by omega)
  have hE9 : f / 4503599627370496 % 2048 < 2047 := by
    have := Nat.mod_lt (f / 4503599627370496) (show 0 < 2048 by omega)
    omega
  generalize f / 4503599627370496 % 2048 = E at *
  generalize f % 4503599627370496 = m0 at *
  obtain ⟨mt, hmt⟩ : ∃ mt, mt = if E = 0 then m0 else m0 + 4503599627370496 := ⟨_, rfl⟩
  obtain ⟨X, hX⟩ : ∃ X : Int, X = if E = 0 then 1 else (E : Int) := ⟨_, rfl⟩
  by_cases h0 : mt = 0
  · have hE0 : E = 0 := by
      by_cases h : E = 0
      · exact h
      · rw [if_neg h] at hmt; omega
    have hm : m0 = 0 := by rw [if_pos hE0] at hmt; omega
    rw [hE0] at h2
    rw [hm] at h3
    exact ⟨gform neg [] 0, gform_txt neg [] 0 (by simp) (by simp) (.inr (by omega)) (by omega) (by omega), fun B v w hB ho _ => ftoa_zero f neg B v hf hneg h2 h3 w hB ho⟩
  · have hmt9 : mt < 9007199254740992 := by split at hmt <;> omega
    obtain ⟨s, s1, s2, s3, s4, s5, s6⟩ := norm_ex mt (by omega) hmt9
    have hs2 : 2 ^ s = 2 * 2 ^ (s - 1) := by rw [← Nat.pow_succ']; congr 1; omega
    have hs11 : 2048 ≤ 2 ^ s := Nat.pow_le_pow_right (n := 2) (i := 11) (by omega) s1
    have hsh : IntKind.u64.wrap ((mt : Int) * 2 ^ (64 - (64 - s))) = ((mt * 2 ^ s : Nat) : Int) := by
      rw [show 64 - (64 - s) = s by omega, IntKind.wrap_u64, show ((mt : Int) * 2 ^ s) = ((mt * 2 ^ s : Nat) : Int) by rw [Int.natCast_mul, Int.natCast_pow]; rfl]
      omega
    have hXm : X = 1 ∨ 1 ≤ X ∧ X ≤ 2046 ∧ 4503599627370496 ≤ mt := by
      by_cases h : E = 0
      · rw [if_pos h] at hX; exact .inl hX
      · rw [if_neg h] at hX hmt; exact .inr ⟨by omega, by omega, by omega⟩
    have he9 : -1137 ≤ X + -1023 - (64 - ((64 - s : Nat) : Int)) - 52 ∧ X + -1023 - (64 - ((64 - s : Nat) : Int)) - 52 ≤ 960 := by omega
    obtain ⟨D, Q, hD⟩ := short_ex (mt * 2 ^ s) (X + -1023 - (64 - ((64 - s : Nat) : Int)) - 52) he9 ⟨s4, by omega⟩ (fun _ => by omega) (fun h => by
      have ez : (-1074 - (X + -1023 - (64 - ((64 - s : Nat) : Int)) - 52)).toNat = s := by
        rcases hXm with h5 | ⟨_, _, h5⟩
        · omega
        · have := s6 h5; omega
      rw [ez]; omega)
    have hk := digits_few D hD.2.1
    have hl := kept_len D
    have hl2 := nzLen_le (decDigits D) (nDigits D)
    have h1D := kept_pos D hD.1
    have q1 := hD.2.2.1
    have q2 := hD.2.2.2.1
    exact ⟨gform neg (kept D) (nDigits D + Q), gform_txt neg (kept D) _ (by omega) (kept_dig D) (.inl h1D) (by omega) (by omega), fun B v w hB ho ht =>
      ftoa_is f E m0 mt (64 - s) (mt * 2 ^ s) D (nDigits D) neg X Q B v hf hneg h2 h3 (bit_or m0 hm0) hE9 hm0 hX hmt (by omega) hmt9 (by omega) s3 hsh hD rfl w ht hB ho⟩
set_option maxRecDepth 100000 in
set_option maxHeartbeats 1000000 in
theorem fmt_inner (f : Nat) (S : List UInt8) (hS : Txt S) (hF : Hid (Ftoa f S)) (w : World) (ht : Hid (Tabs w)) :
    Calls Tryz.prog 75 #[.float .f64 f, .int .u8 103, .int .i64 (-1), .int .i64 64] w fun e w' => e = .returned (.string ⟨S.toArray⟩) ∧ RowKit.Below w.heap.size w w' := by
  go_enter Tryz.func75, Tryz.ntmps75
  obtain ⟨i0, hi, hz0, hz1, hz2⟩ := info_parts info5
  go_wp2_with (at_make; refine wpList_make_own _ rfl _ _ 94 rfl w.heap.size 5 i0 (.int .u8 0) 1 Tryz.underlying94 hi hz0 hz1 .i64 .i64 _ 24 rfl rfl rfl (by rw [hz2]; omega) (by unfold maxLen; omega) (Nat.le_refl _) ?_; intro w0 hown0 hgrow0)
  have hb0 : RowKit.Below w.heap.size w w0 := (Below.refl _ _).grown hgrow0 (Nat.le_refl _) (fun k hk => by cases hk)
  refine (hF.out w.heap.size _ w0 hb0.size hown0 (ht.out.below hb0)).mono ?_
  rintro e w1 ⟨v', rfl, ho, hb⟩
  have hS1 := hS.some
  obtain ⟨g, cap, cur, rfl, hB, hg, hn, hc, hcs, htk⟩ : ∃ g cap cur, v' = .slice (some ⟨g, 0, none⟩) S.length cap ∧ w.heap.size ≤ g ∧ w1.heap[g]? = some (.cells cur 5 (0, 0)) ∧ S.length ≤ cap ∧ cap ≤ maxLen ∧ cur.size = cap * 1 ∧ cur.toList.take (S.length * 1) = byteCells S := by
    rcases ho.2 with ⟨_, h⟩ | h
    · omega
    · exact h
  have hconv := run_convert_bytes_back (P := Tryz.prog) w1 94 9 5 ⟨g, 0, none⟩ cap S Tryz.underlying94 Tryz.underlying5 Tryz.underlying9 (fun j hj => by
    have h1 := ho.cells (g := g) rfl j (.int .u8 (S[j].toNat : Int)) (by unfold byteCells; simp [List.getElem?_eq_getElem hj])
    exact h1)
  clear ho hg htk hcs
  go_wp2
  go_ret
  exact ⟨rfl, hb0.trans hb⟩
theorem fmt_outer (f : Nat) (S : List UInt8) (hS : Txt S) (hF : Hid (Ftoa f S)) (w : World) (ht : Hid (Tabs w)) :
    Calls Tryz.prog 56 #[.float .f64 f, .int .u8 103, .int .i64 (-1), .int .i64 64] w fun e w' => e = .returned (.string ⟨S.toArray⟩) ∧ RowKit.Below w.heap.size w w' := by
  go_enter Tryz.func56, Tryz.ntmps56
  go_wp2_with (go_at_call 75; with_reducible refine (fmt_inner f S hS hF _ ht).mono ?_; rintro e w1 ⟨rfl, hb⟩)
  go_ret
  exact ⟨rfl, hb⟩
/-- FormatFloat gives one text for a float that is neither none nor without bounds. -/
theorem fmt_ex (f : Nat) (hf : f < 18446744073709551616) (hn : fnan f = false) (h1 : fgt f 9218868437227405311 = false) (h2 : flt f 18442240474082181119 = false) :
    ∃ S, Txt S ∧ ∀ w, Tabs w → Calls Tryz.prog 56 #[.float .f64 f, .int .u8 103, .int .i64 (-1), .int .i64 64] w fun e w' => e = .returned (.string ⟨S.toArray⟩) ∧ RowKit.Below w.heap.size w w' := by
  obtain ⟨S, hS, hF⟩ := ftoa_ex f hf (plain_bits f hn h1 h2)
  exact ⟨S, hS, fun w ht => fmt_outer f S hS (Lib.hid hF) w (Lib.hid ht)⟩
end Go.Proofs.YtikpgglbfpdhmaaGreatDoor

namespace Go.Proofs.YtikpgglbfpdhmaaGreatDoor
open Go.Lib

theorem neg_sign (f : Nat) : (Op.negFloat .f64 f / 9223372036854775808 % 2 == 1) = !(f / 9223372036854775808 % 2 == 1) := by
  have e : Op.negFloat .f64 f = f ^^^ 2 ^ 63 := rfl
  have h := Nat.testBit_xor f (2 ^ 63) 63
  rw [← e, Nat.testBit_two_pow_self, Nat.testBit_eq_decide_div_mod_eq, Nat.testBit_eq_decide_div_mod_eq] at h
  rw [show (9223372036854775808 : Nat) = 2 ^ 63 from rfl]
  have b1 : ∀ n : Nat, (n == 1) = decide (n = 1) := fun n => rfl
  rw [b1, b1, h]
  cases decide (f / 2 ^ 63 % 2 = 1) <;> rfl
def flip : Ieee.Datum → Ieee.Datum
  | .number s m i => .number (!s) m i
  | .infinity s => .infinity (!s)
  | .nan s k => .nan (!s) k
theorem read_neg (f : Nat) : FloatKind.f64.format.read (Op.negFloat .f64 f) = flip (FloatKind.f64.format.read f) := by
  have c1 : FloatKind.f64.format.signWeight = 9223372036854775808 := by decide +kernel
  unfold Ieee.Format.read
  rw [c1]
  simp only [neg_sign, fneg_low]
  split
  · rfl
  · split
    · rfl
    · split <;> rfl
theorem neg_cmp (x y : Int) : (compare (-x) y == .gt) = (compare x (-y) == .lt) := by
  have h1 := Int.compare_eq_lt (a := x) (b := -y)
  have h2 := Int.compare_eq_gt (a := -x) (b := y)
  cases hc : compare x (-y) <;> cases hd : compare (-x) y <;> simp_all <;> omega
theorem neg_gt (f : Nat) : fgt (Op.negFloat .f64 f) 9218868437227405311 = flt f 18442240474082181119 := by
  have e1 : FloatKind.f64.format.read 9218868437227405311 = .number false 9007199254740991 971 := by decide +kernel
  have e2 : FloatKind.f64.format.read 18442240474082181119 = .number true 9007199254740991 971 := by decide +kernel
  unfold fgt flt Ieee.Format.order
  rw [e1, e2, read_neg]
  cases FloatKind.f64.format.read f with
  | nan s k => rfl
  | infinity s => cases s <;> rfl
  | number s m i =>
    show ((some (compare (Ieee.signed (!s) m (i - min i 971).toNat) (Ieee.signed false 9007199254740991 (971 - min i 971).toNat)) : Option Ordering) == some .gt) =
      ((some (compare (Ieee.signed s m (i - min i 971).toNat) (Ieee.signed true 9007199254740991 (971 - min i 971).toNat)) : Option Ordering) == some .lt)
    have h1 : Ieee.signed (!s) m (i - min i 971).toNat = -Ieee.signed s m (i - min i 971).toNat := by
      cases s <;> simp [Ieee.signed]
    have h2 : Ieee.signed true 9007199254740991 (971 - min i 971).toNat = -Ieee.signed false 9007199254740991 (971 - min i 971).toNat := by
      simp [Ieee.signed]
    rw [h1, h2]
    have h3 := neg_cmp (Ieee.signed s m (i - min i 971).toNat) (Ieee.signed false 9007199254740991 (971 - min i 971).toNat)
    simpa using h3
/-- A text with its quotes doubled. -/
def dq : List UInt8 → List UInt8
  | [] => []
  | b :: l => if b = 39 then 39 :: 39 :: dq l else b :: dq l
theorem repl_miss (b : UInt8) (hb : b ≠ 39) (new : List UInt8) : ∀ (k : Nat) (l : List UInt8), replaceK [39] new k (b :: l) = b :: replaceK [39] new k l
  | 0, _ => rfl
  | k + 1, l => by
    have hp : ([39] : List UInt8).isPrefixOf (b :: l) = false := by simp [List.isPrefixOf, Ne.symm hb]
    have hix : index (b :: l) [39] = if index l [39] == -1 then -1 else index l [39] + 1 := by rw [index, hp]; simp
    by_cases hm : index l [39] = -1
    · rw [replaceK, replaceK, hix, if_pos (beq_iff_eq.2 hm)]
      simp [hm]
    · have hge := index_ge l [39]
      obtain ⟨i, hi⟩ : ∃ i : Nat, index l [39] = i := ⟨(index l [39]).toNat, by omega⟩
      have hi2 : index (b :: l) [39] = ((i + 1 : Nat) : Int) := by rw [hix, if_neg (by simpa using hm), hi]; omega
      rw [replaceK_hit _ _ _ _ _ hi2, replaceK_hit _ _ _ _ _ hi]
      simp
theorem repl_hit (new : List UInt8) (k : Nat) (l : List UInt8) : replaceK [39] new (k + 1) (39 :: l) = new ++ replaceK [39] new k l := by
  have hix : index (39 :: l) [39] = ((0 : Nat) : Int) := by rw [index]; simp [List.isPrefixOf]
  rw [replaceK_hit _ _ _ _ _ hix]
  simp
theorem repl_dq : ∀ s : List UInt8, replaceK [39] [39, 39] (count s [39]) s = dq s
  | [] => by rw [count_one]; rfl
  | b :: l => by
    by_cases hb : b = 39
    · subst hb
      rw [count_cons_eq, Nat.add_comm, repl_hit, repl_dq l]
      simp [dq]
    · rw [count_cons_ne b 39 l hb, repl_miss b hb, repl_dq l]
      simp [dq, hb]
theorem replaceAll_dq (s : List UInt8) : replaceAll s [39] [39, 39] = dq s := by
  unfold replaceAll replace replaceNum
  rw [if_neg (by decide), if_pos (by omega)]
  exact repl_dq s
theorem dq_len : ∀ s : List UInt8, (dq s).length ≤ 2 * s.length
  | [] => Nat.le_refl _
  | b :: l => by
    have := dq_len l
    unfold dq
    split <;> simp <;> omega
theorem dq_append : ∀ s t : List UInt8, dq (s ++ t) = dq s ++ dq t
  | [], _ => rfl
  | b :: l, t => by
    simp only [List.cons_append, dq]
    rw [dq_append l t]
    split <;> simp
end Go.Proofs.YtikpgglbfpdhmaaGreatDoor

namespace Go.Proofs.YtikpgglbfpdhmaaGreatDoor
open Go.RowKit Go.Joins Go.Lib
attribute [local go_sem ↓] Go.wp_at_zero Go.wp_at_succ

@[local go_sem] theorem run_neg_flt {P : Program} (w : World) (k : FloatKind) (b : Nat) : (Op.unary .neg (.float k b)).run P w = .ok (.float k (Op.negFloat k b)) w := rfl
theorem isInf_up (f : Nat) (w : World) : Calls Tryz.prog 72 #[.float .f64 f, .int .i64 1] w fun e w' => e = .returned (.bool (fgt f 9218868437227405311)) ∧ w = w' := by
  go_enter Tryz.func72, Tryz.ntmps72
  go_wp2
  go_ret
  exact ⟨rfl, rfl⟩
theorem isInf_down (f : Nat) (w : World) : Calls Tryz.prog 72 #[.float .f64 f, .int .i64 (-1)] w fun e w' => e = .returned (.bool (flt f 18442240474082181119)) ∧ w = w' := by
  rw [← neg_gt]
  go_enter Tryz.func72, Tryz.ntmps72
  go_wp2
  go_ret
  exact ⟨rfl, rfl⟩
theorem info_set : (Tryz.prog.info? (Tryz.lays160_ren.t 116)).map (fun i => (i.zero, i.size)) = some (some (.agg (Array.replicate 256 (.bool false))), 256) := by kernel_rfl
theorem trim_to (S : List UInt8) (hS : S.length ≤ 100) (w : World) :
    Calls Tryz.prog 73 #[.string ⟨S.toArray⟩, .string ⟨#[45, 48, 49, 50, 51, 52, 53, 54, 55, 56, 57]⟩] w fun e w' => e = .returned (.string ⟨(trimS S cutBytes).toArray⟩) ∧ RowKit.Below w.heap.size w w' :=
  Any.strings_Trim_laid Tryz.lays160 info_set ⟨S.toArray⟩ ⟨#[45, 48, 49, 50, 51, 52, 53, 54, 55, 56, 57]⟩ w (by show S.toArray.size ≤ _; simp; omega) (by decide) (ascii_of_all (by decide))
theorem ba_app (S T : List UInt8) : ((⟨S.toArray⟩ : ByteArray) ++ (⟨T.toArray⟩ : ByteArray)) = ⟨(S ++ T).toArray⟩ := by
  apply ByteArray.ext
  simp
theorem str_ret {x y : ByteArray} (h : x = y) : Ending.returned (.string x) = Ending.returned (.string y) := by rw [h]
/-- A plain float's text: its mark, or one behind it. -/
def dig (S : List UInt8) : ByteArray := if marks S = true then ⟨S.toArray⟩ else ⟨(S ++ [46, 48]).toArray⟩
theorem ne_empty {l : List UInt8} (h : l ≠ []) : l.isEmpty = false := by
  cases l with
  | nil => exact absurd rfl h
  | cons x r => rfl
set_option maxRecDepth 100000 in
set_option maxHeartbeats 1000000 in
theorem digits_unmarked (f : Nat) (S : List UInt8) (hS : S.length ≤ 100) (HS : Hid (∀ w, Tabs w → Calls Tryz.prog 56 #[.float .f64 f, .int .u8 103, .int .i64 (-1), .int .i64 64] w fun e w' => e = .returned (.string ⟨S.toArray⟩) ∧ RowKit.Below w.heap.size w w'))
    (hm : trimS S cutBytes = []) (hn : fnan f = false) (h1 : fgt f 9218868437227405311 = false) (h2 : flt f 18442240474082181119 = false) (w : World) (ht : Hid (Tabs w)) :
    Calls Tryz.prog 53 #[.float .f64 f] w fun e w' => e = .returned (.string ⟨(S ++ [46, 48]).toArray⟩) ∧ RowKit.Below w.heap.size w w' := by
  go_enter Tryz.func53, Tryz.ntmps53
  go_wp2_with (first
    | (go_at_call 46; with_reducible refine (isNaN_any _ _).mono ?_; rintro e w1 ⟨rfl, rfl⟩; rw [hn])
    | (go_at_call 72; first | (with_reducible refine (isInf_up _ _).mono ?_; rintro e w1 ⟨rfl, rfl⟩; rw [h1]) | (with_reducible refine (isInf_down _ _).mono ?_; rintro e w1 ⟨rfl, rfl⟩; rw [h2]))
    | (go_at_call 56; with_reducible refine (HS.out _ ht.out).mono ?_; rintro e w1 ⟨rfl, hb⟩)
    | (go_at_call 73; with_reducible refine (trim_to S hS _).mono ?_; rintro e w2 ⟨rfl, hb2⟩; rw [hm]))
  go_ret
  exact ⟨str_ret (ba_app S [46, 48]), (by repeat' (first | with_reducible exact Below.refl _ _ | with_reducible refine below_step ?_ (by assumption) | with_reducible apply below_set' | with_reducible apply below_alloc' | with_reducible apply Below.drew | with_reducible apply below_drewN' | (simp; done) | omega | (simp; omega)))⟩
set_option maxRecDepth 100000 in
set_option maxHeartbeats 1000000 in
theorem digits_marked (f : Nat) (S : List UInt8) (hS : S.length ≤ 100) (HS : Hid (∀ w, Tabs w → Calls Tryz.prog 56 #[.float .f64 f, .int .u8 103, .int .i64 (-1), .int .i64 64] w fun e w' => e = .returned (.string ⟨S.toArray⟩) ∧ RowKit.Below w.heap.size w w'))
    (hm : trimS S cutBytes ≠ []) (hn : fnan f = false) (h1 : fgt f 9218868437227405311 = false) (h2 : flt f 18442240474082181119 = false) (w : World) (ht : Hid (Tabs w)) :
    Calls Tryz.prog 53 #[.float .f64 f] w fun e w' => e = .returned (.string ⟨S.toArray⟩) ∧ RowKit.Below w.heap.size w w' := by
  go_enter Tryz.func53, Tryz.ntmps53
  go_wp2_with (first
    | (go_at_call 46; with_reducible refine (isNaN_any _ _).mono ?_; rintro e w1 ⟨rfl, rfl⟩; rw [hn])
    | (go_at_call 72; first | (with_reducible refine (isInf_up _ _).mono ?_; rintro e w1 ⟨rfl, rfl⟩; rw [h1]) | (with_reducible refine (isInf_down _ _).mono ?_; rintro e w1 ⟨rfl, rfl⟩; rw [h2]))
    | (go_at_call 56; with_reducible refine (HS.out _ ht.out).mono ?_; rintro e w1 ⟨rfl, hb⟩)
    | (go_at_call 73; with_reducible refine (trim_to S hS _).mono ?_; rintro e w2 ⟨rfl, hb2⟩; have hne := ne_empty hm))
  go_ret
  exact ⟨rfl, (by repeat' (first | with_reducible exact Below.refl _ _ | with_reducible refine below_step ?_ (by assumption) | with_reducible apply below_set' | with_reducible apply below_alloc' | with_reducible apply Below.drew | with_reducible apply below_drewN' | (simp; done) | omega | (simp; omega)))⟩
theorem digits_plain (f : Nat) (S : List UInt8) (hS : Txt S) (HS : ∀ w, Tabs w → Calls Tryz.prog 56 #[.float .f64 f, .int .u8 103, .int .i64 (-1), .int .i64 64] w fun e w' => e = .returned (.string ⟨S.toArray⟩) ∧ RowKit.Below w.heap.size w w')
    (hn : fnan f = false) (h1 : fgt f 9218868437227405311 = false) (h2 : flt f 18442240474082181119 = false) (w : World) (ht : Tabs w) :
    Calls Tryz.prog 53 #[.float .f64 f] w fun e w' => e = .returned (.string (dig S)) ∧ RowKit.Below w.heap.size w w' := by
  unfold dig
  cases hm : marks S with
  | true => exact digits_marked f S hS.few (Lib.hid HS) (fun h => by rw [hS.trim.1 h] at hm; cases hm) hn h1 h2 w (Lib.hid ht)
  | false => exact digits_unmarked f S hS.few (Lib.hid HS) (hS.trim.2 hm) hn h1 h2 w (Lib.hid ht)
set_option maxRecDepth 100000 in
theorem digits_nan (f : Nat) (hn : fnan f = true) (w : World) : Calls Tryz.prog 53 #[.float .f64 f] w fun e w' => e = .returned (.string ⟨#[78, 97, 78]⟩) ∧ RowKit.Below w.heap.size w w' := by
  go_enter Tryz.func53, Tryz.ntmps53
  go_wp2_with (go_at_call 46; with_reducible refine (isNaN_any _ _).mono ?_; rintro e w1 ⟨rfl, rfl⟩; rw [hn])
  go_ret
  exact ⟨rfl, (by repeat' (first | with_reducible exact Below.refl _ _ | with_reducible refine below_step ?_ (by assumption) | with_reducible apply below_set' | with_reducible apply below_alloc' | with_reducible apply Below.drew | with_reducible apply below_drewN' | (simp; done) | omega | (simp; omega)))⟩
set_option maxRecDepth 100000 in
theorem digits_up (f : Nat) (hn : fnan f = false) (h1 : fgt f 9218868437227405311 = true) (w : World) : Calls Tryz.prog 53 #[.float .f64 f] w fun e w' => e = .returned (.string ⟨#[73, 110, 102]⟩) ∧ RowKit.Below w.heap.size w w' := by
  go_enter Tryz.func53, Tryz.ntmps53
  go_wp2_with (first
    | (go_at_call 46; with_reducible refine (isNaN_any _ _).mono ?_; rintro e w1 ⟨rfl, rfl⟩; rw [hn])
    | (go_at_call 72; with_reducible refine (isInf_up _ _).mono ?_; rintro e w1 ⟨rfl, rfl⟩; rw [h1]))
  go_ret
  exact ⟨rfl, (by repeat' (first | with_reducible exact Below.refl _ _ | with_reducible refine below_step ?_ (by assumption) | with_reducible apply below_set' | with_reducible apply below_alloc' | with_reducible apply Below.drew | with_reducible apply below_drewN' | (simp; done) | omega | (simp; omega)))⟩
set_option maxRecDepth 100000 in
theorem digits_down (f : Nat) (hn : fnan f = false) (h1 : fgt f 9218868437227405311 = false) (h2 : flt f 18442240474082181119 = true) (w : World) : Calls Tryz.prog 53 #[.float .f64 f] w fun e w' => e = .returned (.string ⟨#[45, 73, 110, 102]⟩) ∧ RowKit.Below w.heap.size w w' := by
  go_enter Tryz.func53, Tryz.ntmps53
  go_wp2_with (first
    | (go_at_call 46; with_reducible refine (isNaN_any _ _).mono ?_; rintro e w1 ⟨rfl, rfl⟩; rw [hn])
    | (go_at_call 72; first | (with_reducible refine (isInf_up _ _).mono ?_; rintro e w1 ⟨rfl, rfl⟩; rw [h1]) | (with_reducible refine (isInf_down _ _).mono ?_; rintro e w1 ⟨rfl, rfl⟩; rw [h2])))
  go_ret
  exact ⟨rfl, (by repeat' (first | with_reducible exact Below.refl _ _ | with_reducible refine below_step ?_ (by assumption) | with_reducible apply below_set' | with_reducible apply below_alloc' | with_reducible apply Below.drew | with_reducible apply below_drewN' | (simp; done) | omega | (simp; omega)))⟩
end Go.Proofs.YtikpgglbfpdhmaaGreatDoor

namespace Go.Proofs.YtikpgglbfpdhmaaGreatDoor
open Go.RowKit Go.Joins Go.Sort Go.Lib

/-- A text that is read as a number near a float is read as that float. -/
theorem read_text (neg : Bool) (mt : Nat) (x : Int) (hcan : Canon mt x) (h1 : 1 ≤ mt) (hx : x ≤ 971) (V : Rat) (hnear : Near mt x V) (S : List UInt8) (hr : Reads neg S V) (hl : S.length ≤ 1000) : AtofTo ⟨S.toArray⟩ (fw neg mt x) S.length := by
  obtain ⟨P, E, F, y, hS, hF, hdig, hE, hm1, hm9, hV⟩ := hr
  have hn : (⟨S.toArray⟩ : ByteArray).size = S.length := by show S.toArray.size = _; simp
  have hS' : (⟨S.toArray⟩ : ByteArray).data.toList = sgn neg ++ (P ++ E) := hS
  obtain ⟨c, P', rfl⟩ : ∃ c P', P = c :: P' := by
    cases P with
    | nil => cases hF; cases hdig
    | cons c P' => exact ⟨c, P', rfl⟩
  have hsp : SpecTo ⟨S.toArray⟩ 0 0 false := fun w => special_no neg _ S.length c (P' ++ E) hS' hn hl (scan_head hF) w
  rw [← hV] at hnear
  have hp := near_place hcan h1 hx hm1 hm9 hnear
  have hrd : ReadTo ⟨S.toArray⟩ F.m ((if F.dot then F.dp else (F.nd : Int)) + y - F.nd) neg S.length := fun w => by
    have := readFloat_is neg _ S.length (c :: P') E hS' hn hl F hF hdig y hE w
    rw [if_neg (by omega)] at this
    exact this
  intro w ht
  obtain ⟨t1, t2, t3, N, o, c, t4⟩ := ht
  exact atof_number _ neg mt x hcan h1 hx F.m hm1 (by omega) _ hp (Lib.hid hnear) S.length hsp hrd w t1 t2 t3 N o c t4
/-- The text of zero. -/
theorem zero_text : AtofTo ⟨#[48, 46, 48]⟩ 0 3 := by
  have hsp : SpecTo ⟨#[48, 46, 48]⟩ 0 0 false := fun w => special_no false _ 3 48 [46, 48] rfl rfl (by omega) (.inl rfl) w
  have hrd : ReadTo ⟨#[48, 46, 48]⟩ 0 0 false 3 := fun w => readFloat_is false _ 3 [48, 46, 48] [] rfl rfl (by omega) ⟨0, 0, -1, true, true⟩ (by simp [scan, isDig]) rfl 0 (.inl ⟨rfl, rfl⟩) w
  intro w ht
  refine (atof_zero _ 0 3 hsp hrd w ht.2.1).mono ?_
  rintro e w' ⟨rfl, rfl⟩
  exact ⟨rfl, Below.refl _ _⟩
/-- The text of a float, and that it is read as that float. -/
theorem ftoa_near (f : Nat) (hf : f < 18446744073709551616) (hE : f / 4503599627370496 % 2048 ≠ 2047) (hz : f ≠ 0) (hz2 : f ≠ 9223372036854775808) : ∃ S, Txt S ∧ Ftoa f S ∧ AtofTo ⟨(digL S).toArray⟩ f (digL S).length := by
  obtain ⟨neg, hneg⟩ : ∃ neg : Bool, ((f : Int) / 9223372036854775808 != 0) = neg := ⟨_, rfl⟩
  have hsg : f / 9223372036854775808 = if neg then 1 else 0 := by
    cases neg
    · rw [bne_eq_false_iff_eq] at hneg; simp; omega
    · rw [bne_iff_ne] at hneg; simp; omega
  have h2 : bits BinOp.and IntKind.i64 ((f : Int) / 4503599627370496) 2047 = ((f / 4503599627370496 % 2048 : Nat) : Int) := by
    have := bit_andi (f / 4503599627370496) 11 (by omega) (by omega)
    rw [show ((f : Int) / 4503599627370496) = ((f / 4503599627370496 : Nat) : Int) by omega]
    exact this
  have h3 : bits BinOp.and IntKind.u64 (f : Int) 4503599627370495 = ((f % 4503599627370496 : Nat) : Int) := bit_and f 52 hf (by omega)
  have hsum : f = (if neg then 9223372036854775808 else 0) + (f / 4503599627370496 % 2048 * 4503599627370496 + f % 4503599627370496) := by
    cases neg
    · simp at hsg ⊢; omega
    · simp at hsg ⊢; omega
  have hm0 : f % 4503599627370496 < 4503599627370496 := Nat.mod_lt _ (by omega)
  have hE9 : f / 4503599627370496 % 2048 < 2047 := by
    have := Nat.mod_lt (f / 4503599627370496) (show 0 < 2048 by omega)
    omega
  clear hsg
  generalize f / 4503599627370496 % 2048 = E at *
  generalize f % 4503599627370496 = m0 at *
  obtain ⟨mt, hmt⟩ : ∃ mt, mt = if E = 0 then m0 else m0 + 4503599627370496 := ⟨_, rfl⟩
  obtain ⟨X, hX⟩ : ∃ X : Int, X = if E = 0 then 1 else (E : Int) := ⟨_, rfl⟩
  have h0 : mt ≠ 0 := by
    intro h
    by_cases hE0 : E = 0
    · rw [if_pos hE0] at hmt
      cases neg
      · simp at hsum; omega
      · simp at hsum; omega
    · rw [if_neg hE0] at hmt; omega
  have hmt9 : mt < 9007199254740992 := by split at hmt <;> omega
  obtain ⟨s, s1, s2, s3, s4, s5, s6⟩ := norm_ex mt (by omega) hmt9
  have hp2 := Nat.two_pow_pos s
  have hsh : IntKind.u64.wrap ((mt : Int) * 2 ^ (64 - (64 - s))) = ((mt * 2 ^ s : Nat) : Int) := by
    rw [show 64 - (64 - s) = s by omega, IntKind.wrap_u64, show ((mt : Int) * 2 ^ s) = ((mt * 2 ^ s : Nat) : Int) by rw [Int.natCast_mul, Int.natCast_pow]; rfl]
    omega
  have hXm : X = 1 ∧ E = 0 ∧ mt < 4503599627370496 ∨ 1 ≤ X ∧ X ≤ 2046 ∧ 4503599627370496 ≤ mt := by
    by_cases h : E = 0
    · rw [if_pos h] at hX hmt; exact .inl ⟨hX, h, by omega⟩
    · rw [if_neg h] at hX hmt; exact .inr ⟨by omega, by omega, by omega⟩
  have hfw : f = fw neg mt (X - 1075) := by
    have e1 : (X - 1075 + 1074).toNat * 4503599627370496 + mt = E * 4503599627370496 + m0 := by
      by_cases h : E = 0
      · rw [if_pos h] at hX hmt; omega
      · rw [if_neg h] at hX hmt; omega
    have e2 : fw neg mt (X - 1075) = (if neg then 9223372036854775808 else 0) + ((X - 1075 + 1074).toNat * 4503599627370496 + mt) := rfl
    rw [e2, e1]; exact hsum
  have hcan : Canon mt (X - 1075) := ⟨hmt9, by omega, by omega⟩
  obtain ⟨D, Q, hD, hnear⟩ := print_near mt s (X - 1075) (by omega) hmt9 ⟨s1, s2⟩ s4 s5 s6 (by omega) (fun h => by omega)
  rw [show X - 1075 - (s : Int) = X + -1023 - (64 - ((64 - s : Nat) : Int)) - 52 by omega] at hD
  have hk := digits_few D hD.2.1
  have hl := kept_len D
  have hl2 := nzLen_le (decDigits D) (nDigits D)
  have h1D := kept_pos D hD.1
  have q1 := hD.2.2.1
  have q2 := hD.2.2.2.1
  have hT := gform_txt neg (kept D) (nDigits D + Q) (by omega) (kept_dig D) (.inl h1D) (by omega) (by omega)
  refine ⟨_, hT, fun B v w hB ho ht =>
    ftoa_is f E m0 mt (64 - s) (mt * 2 ^ s) D (nDigits D) neg X Q B v hf hneg h2 h3 (bit_or m0 hm0) hE9 hm0 hX hmt (by omega) hmt9 (by omega) s3 hsh hD rfl w ht hB ho, ?_⟩
  have hlen : (digL (gform neg (kept D) (nDigits D + Q))).length ≤ 1000 := by
    have := hT.few
    unfold digL
    split
    · omega
    · rw [List.length_append]; simp; omega
  have := read_text neg mt (X - 1075) hcan (by omega) (by omega) _ hnear _ (print_reads neg D hD.1 hD.2.1 Q ⟨q1, q2⟩) hlen
  rw [← hfw] at this
  exact this
theorem dig_digL (S : List UInt8) : dig S = ⟨(digL S).toArray⟩ := by
  unfold dig digL
  split <;> rfl
/-- .. of zero too. -/
theorem ftoa_reads (f : Nat) (hf : f < 18446744073709551616) (hE : f / 4503599627370496 % 2048 ≠ 2047) (hz2 : f ≠ 9223372036854775808) : ∃ S, Txt S ∧ Ftoa f S ∧ AtofTo (dig S) f (digL S).length := by
  by_cases hz : f = 0
  · subst hz
    have h2 : bits BinOp.and IntKind.i64 (((0 : Nat) : Int) / 4503599627370496) 2047 = 0 := rfl
    refine ⟨gform false [] 0, gform_txt false [] 0 (by simp) (by simp) (.inr (by omega)) (by omega) (by omega), fun B v w hB ho _ => ftoa_zero 0 false B v (by omega) (by decide) h2 rfl w hB ho, ?_⟩
    exact zero_text
  · obtain ⟨S, h1, h2, h3⟩ := ftoa_near f hf hE hz hz2
    rw [← dig_digL] at h3
    exact ⟨S, h1, h2, h3⟩
end Go.Proofs.YtikpgglbfpdhmaaGreatDoor

namespace Go.Proofs.YtikpgglbfpdhmaaGreatDoor
open Go.RowKit Go.Joins Go.Lib
attribute [local go_sem ↓] Go.wp_at_zero Go.wp_at_succ

/-- What the printing asks of memory. -/
def Tabs3 (w : World) : Prop := Tabs w ∧ ∃ m, w.cell? ⟨1, 0, none⟩ = some (.int .i64 m)
theorem Tabs3.one {w : World} (h : Tabs3 w) : Tabs w := h.1
theorem Tabs3.below {w w' : World} (h : Tabs3 w) (hb : RowKit.Below w.heap.size w w') : Tabs3 w' :=
  ⟨h.1.below hb, by obtain ⟨m, e⟩ := h.2; exact ⟨m, (hb.cell (p := ⟨1, 0, none⟩) (World.block_lt_of_cell? _ _ e)).trans e⟩⟩
theorem below_grown (w : World) (k : Nat) (os : Array Obj) : RowKit.Below w.heap.size w (Sort.grow (w.drewN k) os) :=
  ⟨rfl, rfl, rfl, by simp [Sort.grow], fun i hi => by
    show (w.heap ++ os)[i]? = w.heap[i]?
    exact Array.getElem?_append_left hi⟩
theorem fint_to (n : Int) (h0 : -9223372036854775808 ≤ n) (h1 : n ≤ 9223372036854775807) (w : World) (ht : Tabs3 w) :
    Calls Tryz.prog 52 #[.int .i64 n, .int .i64 10] w fun e w' => e = .returned (.string ⟨(itoa n).toArray⟩) ∧ RowKit.Below w.heap.size w w' := by
  refine (Tryz.strconv_FormatInt_10 n h0 h1 w ht.1.2).mono ?_
  rintro e w1 ⟨rfl, k, os, rfl⟩
  exact ⟨rfl, below_grown w k os⟩
theorem repl_to (S : ByteArray) (hS : S.size ≤ 1000) (w : World) (ht : Tabs3 w) :
    Calls Tryz.prog 54 #[.string S, .string ⟨#[39]⟩, .string ⟨#[39, 39]⟩] w fun e w' => e = .returned (.string ⟨(dq S.data.toList).toArray⟩) ∧ RowKit.Below w.heap.size w w' := by
  obtain ⟨m, hm⟩ := ht.2
  have hc : countB S ⟨#[39]⟩ ≤ 1000 := by
    show count S.data.toList [39] ≤ 1000
    rw [count_one]
    refine Nat.le_trans List.count_le_length ?_
    rw [← Lib.size_eq]; exact hS
  have := Tryz.strings_ReplaceAll S ⟨#[39]⟩ ⟨#[39, 39]⟩ m w (by omega) hm (by decide) (by rw [show (⟨#[39, 39]⟩ : ByteArray).size = 2 from rfl]; omega)
  rw [show (⟨#[39]⟩ : ByteArray).data.toList = [39] from rfl, show (⟨#[39, 39]⟩ : ByteArray).data.toList = [39, 39] from rfl, replaceAll_dq] at this
  exact this
set_option maxRecDepth 100000 in
set_option maxHeartbeats 1000000 in
theorem pw_null (k n : Int) (f : Nat) (s : ByteArray)  (C : Hid (∀ w, Calls Tryz.prog 30 #[.agg #[.int .i64 k, .int .i64 n, .float .f64 f, .string s]] w fun e w' => e = .returned (.agg #[.int .i64 0, .int .i64 0, .float .f64 0, .string ⟨#[]⟩]) ∧ RowKit.Below w.heap.size w w')) (w : World) :
    Calls Tryz.prog 18 #[.agg #[.int .i64 k, .int .i64 n, .float .f64 f, .string s]] w fun e w' => e = .returned (.string ⟨#[78, 85, 76, 76]⟩) ∧ RowKit.Below w.heap.size w w' := by
  go_enter Tryz.func18, Tryz.ntmps18
  go_wp2_with (go_at_call 30; with_reducible refine (C.out _).mono ?_; rintro e w1 ⟨rfl, hb⟩; obtain ⟨hc0, hf0, hz0⟩ := newc hb w.heap.size (by first | omega | (simp; done) | (simp; omega)))
  go_ret
  exact ⟨rfl, (by repeat' (first | with_reducible exact Below.refl _ _ | with_reducible refine below_step ?_ (by assumption) | with_reducible apply below_set' | with_reducible apply below_alloc' | with_reducible apply Below.drew | with_reducible apply below_drewN' | (simp; done) | omega | (simp; omega)))⟩
set_option maxRecDepth 100000 in
set_option maxHeartbeats 1000000 in
theorem pw_true (k n : Int) (f : Nat) (s : ByteArray)  (C : Hid (∀ w, Calls Tryz.prog 30 #[.agg #[.int .i64 k, .int .i64 n, .float .f64 f, .string s]] w fun e w' => e = .returned (.agg #[.int .i64 4, .int .i64 1, .float .f64 0, .string ⟨#[]⟩]) ∧ RowKit.Below w.heap.size w w')) (w : World) :
    Calls Tryz.prog 18 #[.agg #[.int .i64 k, .int .i64 n, .float .f64 f, .string s]] w fun e w' => e = .returned (.string ⟨#[84, 82, 85, 69]⟩) ∧ RowKit.Below w.heap.size w w' := by
  go_enter Tryz.func18, Tryz.ntmps18
  go_wp2_with (go_at_call 30; with_reducible refine (C.out _).mono ?_; rintro e w1 ⟨rfl, hb⟩; obtain ⟨hc0, hf0, hz0⟩ := newc hb w.heap.size (by first | omega | (simp; done) | (simp; omega)))
  go_ret
  exact ⟨rfl, (by repeat' (first | with_reducible exact Below.refl _ _ | with_reducible refine below_step ?_ (by assumption) | with_reducible apply below_set' | with_reducible apply below_alloc' | with_reducible apply Below.drew | with_reducible apply below_drewN' | (simp; done) | omega | (simp; omega)))⟩
set_option maxRecDepth 100000 in
set_option maxHeartbeats 1000000 in
theorem pw_false (k n : Int) (f : Nat) (s : ByteArray)  (C : Hid (∀ w, Calls Tryz.prog 30 #[.agg #[.int .i64 k, .int .i64 n, .float .f64 f, .string s]] w fun e w' => e = .returned (.agg #[.int .i64 4, .int .i64 0, .float .f64 0, .string ⟨#[]⟩]) ∧ RowKit.Below w.heap.size w w')) (w : World) :
    Calls Tryz.prog 18 #[.agg #[.int .i64 k, .int .i64 n, .float .f64 f, .string s]] w fun e w' => e = .returned (.string ⟨#[70, 65, 76, 83, 69]⟩) ∧ RowKit.Below w.heap.size w w' := by
  go_enter Tryz.func18, Tryz.ntmps18
  go_wp2_with (go_at_call 30; with_reducible refine (C.out _).mono ?_; rintro e w1 ⟨rfl, hb⟩; obtain ⟨hc0, hf0, hz0⟩ := newc hb w.heap.size (by first | omega | (simp; done) | (simp; omega)))
  go_ret
  exact ⟨rfl, (by repeat' (first | with_reducible exact Below.refl _ _ | with_reducible refine below_step ?_ (by assumption) | with_reducible apply below_set' | with_reducible apply below_alloc' | with_reducible apply Below.drew | with_reducible apply below_drewN' | (simp; done) | omega | (simp; omega)))⟩
set_option maxRecDepth 100000 in
set_option maxHeartbeats 1000000 in
theorem pw_int (k n : Int) (f : Nat) (s : ByteArray) (N : Int) (hN : -9223372036854775808 ≤ N ∧ N ≤ 9223372036854775807) (C : Hid (∀ w, Calls Tryz.prog 30 #[.agg #[.int .i64 k, .int .i64 n, .float .f64 f, .string s]] w fun e w' => e = .returned (.agg #[.int .i64 1, .int .i64 N, .float .f64 0, .string ⟨#[]⟩]) ∧ RowKit.Below w.heap.size w w')) (w : World) (ht : Hid (Tabs3 w)) :
    Calls Tryz.prog 18 #[.agg #[.int .i64 k, .int .i64 n, .float .f64 f, .string s]] w fun e w' => e = .returned (.string ⟨(itoa N).toArray⟩) ∧ RowKit.Below w.heap.size w w' := by
  go_enter Tryz.func18, Tryz.ntmps18
  go_wp2_with (first
    | (go_at_call 30; with_reducible refine (C.out _).mono ?_; rintro e w1 ⟨rfl, hb⟩; obtain ⟨hc0, hf0, hz0⟩ := newc hb w.heap.size (by first | omega | (simp; done) | (simp; omega)))
    | (go_at_call 52; with_reducible refine (fint_to N hN.1 hN.2 _ (ht.out.below ?below)).mono ?_; rotate_right; rintro e w2 ⟨rfl, hb2⟩))
  case below => exact (by repeat' (first | with_reducible exact Below.refl _ _ | with_reducible refine below_step ?_ (by assumption) | with_reducible apply below_set' | with_reducible apply below_alloc' | with_reducible apply Below.drew | with_reducible apply below_drewN' | (simp; done) | omega | (simp; omega)))
  go_ret
  exact ⟨rfl, (by repeat' (first | with_reducible exact Below.refl _ _ | with_reducible refine below_step ?_ (by assumption) | with_reducible apply below_set' | with_reducible apply below_alloc' | with_reducible apply Below.drew | with_reducible apply below_drewN' | (simp; done) | omega | (simp; omega)))⟩
set_option maxRecDepth 100000 in
set_option maxHeartbeats 1000000 in
theorem pw_real (k n : Int) (f : Nat) (s : ByteArray) (N : Int) (F : Nat) (T : ByteArray) (D : Hid (∀ w, Tabs w → Calls Tryz.prog 53 #[.float .f64 F] w fun e w' => e = .returned (.string T) ∧ RowKit.Below w.heap.size w w')) (C : Hid (∀ w, Calls Tryz.prog 30 #[.agg #[.int .i64 k, .int .i64 n, .float .f64 f, .string s]] w fun e w' => e = .returned (.agg #[.int .i64 2, .int .i64 N, .float .f64 F, .string ⟨#[]⟩]) ∧ RowKit.Below w.heap.size w w')) (w : World) (ht : Hid (Tabs3 w)) :
    Calls Tryz.prog 18 #[.agg #[.int .i64 k, .int .i64 n, .float .f64 f, .string s]] w fun e w' => e = .returned (.string T) ∧ RowKit.Below w.heap.size w w' := by
  go_enter Tryz.func18, Tryz.ntmps18
  go_wp2_with (first
    | (go_at_call 30; with_reducible refine (C.out _).mono ?_; rintro e w1 ⟨rfl, hb⟩; obtain ⟨hc0, hf0, hz0⟩ := newc hb w.heap.size (by first | omega | (simp; done) | (simp; omega)))
    | (go_at_call 53; with_reducible refine (D.out _ (ht.out.below ?below).one).mono ?_; rotate_right; rintro e w2 ⟨rfl, hb2⟩))
  case below => exact (by repeat' (first | with_reducible exact Below.refl _ _ | with_reducible refine below_step ?_ (by assumption) | with_reducible apply below_set' | with_reducible apply below_alloc' | with_reducible apply Below.drew | with_reducible apply below_drewN' | (simp; done) | omega | (simp; omega)))
  go_ret
  exact ⟨rfl, (by repeat' (first | with_reducible exact Below.refl _ _ | with_reducible refine below_step ?_ (by assumption) | with_reducible apply below_set' | with_reducible apply below_alloc' | with_reducible apply Below.drew | with_reducible apply below_drewN' | (simp; done) | omega | (simp; omega)))⟩
/-- A text as it is written. -/
def quoted (S : ByteArray) : ByteArray := ⟨(39 :: (dq S.data.toList ++ [39])).toArray⟩
theorem quoted_eq (l : List UInt8) : ((⟨#[39]⟩ : ByteArray) ++ (⟨l.toArray⟩ : ByteArray)) ++ (⟨#[39]⟩ : ByteArray) = ⟨(39 :: (l ++ [39])).toArray⟩ := by
  apply ByteArray.ext
  simp
theorem dq_size (S : ByteArray) (hS : S.size ≤ 1000) : (dq S.data.toList).length ≤ 2000 := by
  have := dq_len S.data.toList
  rw [← Lib.size_eq] at this
  omega
set_option maxRecDepth 100000 in
set_option maxHeartbeats 1000000 in
theorem pw_text (k n : Int) (f : Nat) (s : ByteArray) (N : Int) (F : Nat) (S : ByteArray) (hS : S.size ≤ 1000) (C : Hid (∀ w, Calls Tryz.prog 30 #[.agg #[.int .i64 k, .int .i64 n, .float .f64 f, .string s]] w fun e w' => e = .returned (.agg #[.int .i64 3, .int .i64 N, .float .f64 F, .string S]) ∧ RowKit.Below w.heap.size w w')) (w : World) (ht : Hid (Tabs3 w)) :
    Calls Tryz.prog 18 #[.agg #[.int .i64 k, .int .i64 n, .float .f64 f, .string s]] w fun e w' => e = .returned (.string (quoted S)) ∧ RowKit.Below w.heap.size w w' := by
  go_enter Tryz.func18, Tryz.ntmps18
  go_wp2_with (first
    | (go_at_call 30; with_reducible refine (C.out _).mono ?_; rintro e w1 ⟨rfl, hb⟩; obtain ⟨hc0, hf0, hz0⟩ := newc hb w.heap.size (by first | omega | (simp; done) | (simp; omega)))
    | (go_at_call 54; with_reducible refine (repl_to S hS _ (ht.out.below ?below)).mono ?_; rotate_right; rintro e w2 ⟨rfl, hb2⟩; have hsz := dq_size S hS))
  case below => exact (by repeat' (first | with_reducible exact Below.refl _ _ | with_reducible refine below_step ?_ (by assumption) | with_reducible apply below_set' | with_reducible apply below_alloc' | with_reducible apply Below.drew | with_reducible apply below_drewN' | (simp; done) | omega | (simp; omega)))
  go_ret
  exact ⟨str_ret (quoted_eq _), (by repeat' (first | with_reducible exact Below.refl _ _ | with_reducible refine below_step ?_ (by assumption) | with_reducible apply below_set' | with_reducible apply below_alloc' | with_reducible apply Below.drew | with_reducible apply below_drewN' | (simp; done) | omega | (simp; omega)))⟩
set_option maxRecDepth 100000 in
set_option maxHeartbeats 1000000 in
theorem rw_null (k n : Int) (f : Nat) (s : ByteArray)  (C : Hid (∀ w, Calls Tryz.prog 20 #[.agg #[.int .i64 k, .int .i64 n, .float .f64 f, .string s]] w fun e w' => e = .returned (.agg #[.int .i64 0, .int .i64 0, .float .f64 0, .string ⟨#[]⟩]) ∧ RowKit.Below w.heap.size w w')) (w : World) :
    Calls Tryz.prog 19 #[.agg #[.int .i64 k, .int .i64 n, .float .f64 f, .string s]] w fun e w' => e = .returned (.string ⟨#[78, 85, 76, 76]⟩) ∧ RowKit.Below w.heap.size w w' := by
  go_enter Tryz.func19, Tryz.ntmps19
  go_wp2_with (go_at_call 20; with_reducible refine (C.out _).mono ?_; rintro e w1 ⟨rfl, hb⟩; obtain ⟨hc0, hf0, hz0⟩ := newc hb w.heap.size (by first | omega | (simp; done) | (simp; omega)))
  go_ret
  exact ⟨rfl, (by repeat' (first | with_reducible exact Below.refl _ _ | with_reducible refine below_step ?_ (by assumption) | with_reducible apply below_set' | with_reducible apply below_alloc' | with_reducible apply Below.drew | with_reducible apply below_drewN' | (simp; done) | omega | (simp; omega)))⟩
set_option maxRecDepth 100000 in
set_option maxHeartbeats 1000000 in
theorem rw_true (k n : Int) (f : Nat) (s : ByteArray)  (C : Hid (∀ w, Calls Tryz.prog 20 #[.agg #[.int .i64 k, .int .i64 n, .float .f64 f, .string s]] w fun e w' => e = .returned (.agg #[.int .i64 4, .int .i64 1, .float .f64 0, .string ⟨#[]⟩]) ∧ RowKit.Below w.heap.size w w')) (w : World) :
    Calls Tryz.prog 19 #[.agg #[.int .i64 k, .int .i64 n, .float .f64 f, .string s]] w fun e w' => e = .returned (.string ⟨#[84, 82, 85, 69]⟩) ∧ RowKit.Below w.heap.size w w' := by
  go_enter Tryz.func19, Tryz.ntmps19
  go_wp2_with (go_at_call 20; with_reducible refine (C.out _).mono ?_; rintro e w1 ⟨rfl, hb⟩; obtain ⟨hc0, hf0, hz0⟩ := newc hb w.heap.size (by first | omega | (simp; done) | (simp; omega)))
  go_ret
  exact ⟨rfl, (by repeat' (first | with_reducible exact Below.refl _ _ | with_reducible refine below_step ?_ (by assumption) | with_reducible apply below_set' | with_reducible apply below_alloc' | with_reducible apply Below.drew | with_reducible apply below_drewN' | (simp; done) | omega | (simp; omega)))⟩
set_option maxRecDepth 100000 in
set_option maxHeartbeats 1000000 in
theorem rw_false (k n : Int) (f : Nat) (s : ByteArray)  (C : Hid (∀ w, Calls Tryz.prog 20 #[.agg #[.int .i64 k, .int .i64 n, .float .f64 f, .string s]] w fun e w' => e = .returned (.agg #[.int .i64 4, .int .i64 0, .float .f64 0, .string ⟨#[]⟩]) ∧ RowKit.Below w.heap.size w w')) (w : World) :
    Calls Tryz.prog 19 #[.agg #[.int .i64 k, .int .i64 n, .float .f64 f, .string s]] w fun e w' => e = .returned (.string ⟨#[70, 65, 76, 83, 69]⟩) ∧ RowKit.Below w.heap.size w w' := by
  go_enter Tryz.func19, Tryz.ntmps19
  go_wp2_with (go_at_call 20; with_reducible refine (C.out _).mono ?_; rintro e w1 ⟨rfl, hb⟩; obtain ⟨hc0, hf0, hz0⟩ := newc hb w.heap.size (by first | omega | (simp; done) | (simp; omega)))
  go_ret
  exact ⟨rfl, (by repeat' (first | with_reducible exact Below.refl _ _ | with_reducible refine below_step ?_ (by assumption) | with_reducible apply below_set' | with_reducible apply below_alloc' | with_reducible apply Below.drew | with_reducible apply below_drewN' | (simp; done) | omega | (simp; omega)))⟩
set_option maxRecDepth 100000 in
set_option maxHeartbeats 1000000 in
theorem rw_int (k n : Int) (f : Nat) (s : ByteArray) (N : Int) (hN : -9223372036854775808 ≤ N ∧ N ≤ 9223372036854775807) (C : Hid (∀ w, Calls Tryz.prog 20 #[.agg #[.int .i64 k, .int .i64 n, .float .f64 f, .string s]] w fun e w' => e = .returned (.agg #[.int .i64 1, .int .i64 N, .float .f64 0, .string ⟨#[]⟩]) ∧ RowKit.Below w.heap.size w w')) (w : World) (ht : Hid (Tabs3 w)) :
    Calls Tryz.prog 19 #[.agg #[.int .i64 k, .int .i64 n, .float .f64 f, .string s]] w fun e w' => e = .returned (.string ⟨(itoa N).toArray⟩) ∧ RowKit.Below w.heap.size w w' := by
  go_enter Tryz.func19, Tryz.ntmps19
  go_wp2_with (first
    | (go_at_call 20; with_reducible refine (C.out _).mono ?_; rintro e w1 ⟨rfl, hb⟩; obtain ⟨hc0, hf0, hz0⟩ := newc hb w.heap.size (by first | omega | (simp; done) | (simp; omega)))
    | (go_at_call 52; with_reducible refine (fint_to N hN.1 hN.2 _ (ht.out.below ?below)).mono ?_; rotate_right; rintro e w2 ⟨rfl, hb2⟩))
  case below => exact (by repeat' (first | with_reducible exact Below.refl _ _ | with_reducible refine below_step ?_ (by assumption) | with_reducible apply below_set' | with_reducible apply below_alloc' | with_reducible apply Below.drew | with_reducible apply below_drewN' | (simp; done) | omega | (simp; omega)))
  go_ret
  exact ⟨rfl, (by repeat' (first | with_reducible exact Below.refl _ _ | with_reducible refine below_step ?_ (by assumption) | with_reducible apply below_set' | with_reducible apply below_alloc' | with_reducible apply Below.drew | with_reducible apply below_drewN' | (simp; done) | omega | (simp; omega)))⟩
set_option maxRecDepth 100000 in
set_option maxHeartbeats 1000000 in
theorem rw_nan (k n : Int) (f : Nat) (s : ByteArray) (N : Int) (F : Nat) (hq : feq F F = false) (C : Hid (∀ w, Calls Tryz.prog 20 #[.agg #[.int .i64 k, .int .i64 n, .float .f64 f, .string s]] w fun e w' => e = .returned (.agg #[.int .i64 2, .int .i64 N, .float .f64 F, .string ⟨#[]⟩]) ∧ RowKit.Below w.heap.size w w')) (w : World) :
    Calls Tryz.prog 19 #[.agg #[.int .i64 k, .int .i64 n, .float .f64 f, .string s]] w fun e w' => e = .returned (.string ⟨#[78, 97, 78]⟩) ∧ RowKit.Below w.heap.size w w' := by
  go_enter Tryz.func19, Tryz.ntmps19
  go_wp2_with (first
    | (go_at_call 20; with_reducible refine (C.out _).mono ?_; rintro e w1 ⟨rfl, hb⟩; obtain ⟨hc0, hf0, hz0⟩ := newc hb w.heap.size (by first | omega | (simp; done) | (simp; omega)))
    | (go_at_call 55; with_reducible refine (number_any _ _).mono ?_; rintro e w1 ⟨rfl, rfl⟩; rw [hq]))
  go_ret
  exact ⟨rfl, (by repeat' (first | with_reducible exact Below.refl _ _ | with_reducible refine below_step ?_ (by assumption) | with_reducible apply below_set' | with_reducible apply below_alloc' | with_reducible apply Below.drew | with_reducible apply below_drewN' | (simp; done) | omega | (simp; omega)))⟩
set_option maxRecDepth 100000 in
set_option maxHeartbeats 1000000 in
theorem rw_up (k n : Int) (f : Nat) (s : ByteArray) (N : Int) (F : Nat) (hq : feq F F = true) (h1 : fgt F 9218868437227405311 = true) (C : Hid (∀ w, Calls Tryz.prog 20 #[.agg #[.int .i64 k, .int .i64 n, .float .f64 f, .string s]] w fun e w' => e = .returned (.agg #[.int .i64 2, .int .i64 N, .float .f64 F, .string ⟨#[]⟩]) ∧ RowKit.Below w.heap.size w w')) (w : World) :
    Calls Tryz.prog 19 #[.agg #[.int .i64 k, .int .i64 n, .float .f64 f, .string s]] w fun e w' => e = .returned (.string ⟨#[73, 110, 102]⟩) ∧ RowKit.Below w.heap.size w w' := by
  have g1 : (FloatKind.f64.format.order F 9218868437227405311 == some .gt) = _ := h1
  go_enter Tryz.func19, Tryz.ntmps19
  go_wp2_with (first
    | (go_at_call 20; with_reducible refine (C.out _).mono ?_; rintro e w1 ⟨rfl, hb⟩; obtain ⟨hc0, hf0, hz0⟩ := newc hb w.heap.size (by first | omega | (simp; done) | (simp; omega)))
    | (go_at_call 55; with_reducible refine (number_any _ _).mono ?_; rintro e w1 ⟨rfl, rfl⟩; rw [hq]))
  go_ret
  exact ⟨rfl, (by repeat' (first | with_reducible exact Below.refl _ _ | with_reducible refine below_step ?_ (by assumption) | with_reducible apply below_set' | with_reducible apply below_alloc' | with_reducible apply Below.drew | with_reducible apply below_drewN' | (simp; done) | omega | (simp; omega)))⟩
set_option maxRecDepth 100000 in
set_option maxHeartbeats 1000000 in
theorem rw_down (k n : Int) (f : Nat) (s : ByteArray) (N : Int) (F : Nat) (hq : feq F F = true) (h1 : fgt F 9218868437227405311 = false) (h2 : flt F 18442240474082181119 = true) (C : Hid (∀ w, Calls Tryz.prog 20 #[.agg #[.int .i64 k, .int .i64 n, .float .f64 f, .string s]] w fun e w' => e = .returned (.agg #[.int .i64 2, .int .i64 N, .float .f64 F, .string ⟨#[]⟩]) ∧ RowKit.Below w.heap.size w w')) (w : World) :
    Calls Tryz.prog 19 #[.agg #[.int .i64 k, .int .i64 n, .float .f64 f, .string s]] w fun e w' => e = .returned (.string ⟨#[45, 73, 110, 102]⟩) ∧ RowKit.Below w.heap.size w w' := by
  have g1 : (FloatKind.f64.format.order F 9218868437227405311 == some .gt) = _ := h1
  have g2 : (FloatKind.f64.format.order F 18442240474082181119 == some .lt) = _ := h2
  go_enter Tryz.func19, Tryz.ntmps19
  go_wp2_with (first
    | (go_at_call 20; with_reducible refine (C.out _).mono ?_; rintro e w1 ⟨rfl, hb⟩; obtain ⟨hc0, hf0, hz0⟩ := newc hb w.heap.size (by first | omega | (simp; done) | (simp; omega)))
    | (go_at_call 55; with_reducible refine (number_any _ _).mono ?_; rintro e w1 ⟨rfl, rfl⟩; rw [hq]))
  go_ret
  exact ⟨rfl, (by repeat' (first | with_reducible exact Below.refl _ _ | with_reducible refine below_step ?_ (by assumption) | with_reducible apply below_set' | with_reducible apply below_alloc' | with_reducible apply Below.drew | with_reducible apply below_drewN' | (simp; done) | omega | (simp; omega)))⟩
end Go.Proofs.YtikpgglbfpdhmaaGreatDoor

/- Plain laws on the order of values. No program in sight. -/
import Derived.Test.YtikpgglbfpdhmaaGreatDoorRdMKit
import Derived.Test.YtikpgglbfpdhmaaGreatDoorRdMValF
import Derived.Test.YtikpgglbfpdhmaaGreatDoorRdMValG
import Derived.Test.YtikpgglbfpdhmaaGreatDoorRdMRdM
namespace Go.Proofs.YtikpgglbfpdhmaaGreatDoor
open Ieee

/-- What a real's bits stand for. -/
abbrev rd64 (x : Nat) : Datum := FloatKind.f64.format.read x
theorem order_nan_left {x y : Nat} (h : (rd64 x).isNaN = true) : FloatKind.f64.format.order x y = none := by
  change (rd64 x).order (rd64 y) = none
  generalize rd64 x = d at h ⊢
  cases d <;> first | (simp [Datum.isNaN] at h; done) | simp [Datum.order]
theorem order_nan_right {x y : Nat} (h : (rd64 y).isNaN = true) : FloatKind.f64.format.order x y = none := by
  change (rd64 x).order (rd64 y) = none
  generalize rd64 y = d at h ⊢
  cases d <;> first | (simp [Datum.isNaN] at h; done) | (cases rd64 x <;> simp [Datum.order])
theorem order_self {x : Nat} (h : (rd64 x).isNaN = false) : FloatKind.f64.format.order x x = some .eq := by
  change (rd64 x).order (rd64 x) = some .eq
  generalize rd64 x = d at h ⊢
  cases d <;> first | (simp [Datum.isNaN] at h; done) | simp [Datum.order]
theorem fnan_iff (x : Nat) : fnan x = (rd64 x).isNaN := by
  unfold fnan
  cases h : (rd64 x).isNaN
  · rw [order_self h]; rfl
  · rw [order_nan_left h]; rfl
theorem feq_self (x : Nat) : feq x x = !fnan x := by
  unfold feq fnan
  simp [bne]
theorem flt_nan_left {x y : Nat} (h : fnan x = true) : flt x y = false := by
  unfold flt; rw [order_nan_left (by rw [← fnan_iff]; exact h)]; rfl
theorem flt_nan_right {x y : Nat} (h : fnan y = true) : flt x y = false := by
  unfold flt; rw [order_nan_right (by rw [← fnan_iff]; exact h)]; rfl
theorem fgt_nan_left {x y : Nat} (h : fnan x = true) : fgt x y = false := by
  unfold fgt; rw [order_nan_left (by rw [← fnan_iff]; exact h)]; rfl
theorem fgt_nan_right {x y : Nat} (h : fnan y = true) : fgt x y = false := by
  unfold fgt; rw [order_nan_right (by rw [← fnan_iff]; exact h)]; rfl
theorem feq_nan_left {x y : Nat} (h : fnan x = true) : feq x y = false := by
  unfold feq; rw [order_nan_left (by rw [← fnan_iff]; exact h)]; rfl
theorem fnan_nanBits : fnan 9221120237041090561 = true := by decide +kernel
theorem fnan_zero : fnan 0 = false := by decide +kernel
/-- The program's clean real and the reference's: one number, or both none. -/
def FOne (x y : Nat) : Prop := (fnan x = true ∧ fnan y = true) ∨ (fnan x = false ∧ x = y)
theorem freal_rreal (x : Nat) : FOne (freal x) (rreal x) := by
  unfold FOne freal rreal
  cases h : fnan x
  · right
    cases g : feq x 0
    · simp [h]
    · simp [fnan_zero]
  · left
    rw [feq_nan_left h]
    simp [h, fnan_nanBits]
theorem FOne.refl (x : Nat) : FOne x x := by unfold FOne; cases fnan x <;> simp
theorem FOne.nan {x y : Nat} (h : FOne x y) : fnan x = fnan y := by
  rcases h with ⟨a, b⟩ | ⟨_, b⟩
  · rw [a, b]
  · rw [b]
theorem cF_rF (k : Int) (f : Nat) : FOne (cF k f) (rF k f) := by
  unfold cF rF
  split
  · exact freal_rreal f
  · exact FOne.refl 0
theorem ford_one {x y x' y' : Nat} (h : FOne x x') (g : FOne y y') : ford x y = ford x' y' := by
  unfold ford fcmp
  rw [h.nan, g.nan]
  cases hx : fnan x' <;> cases hy : fnan y' <;> simp only [Bool.false_eq_true, if_false, if_true]
  rcases h with ⟨_, b⟩ | ⟨_, b⟩
  · rw [hx] at b; cases b
  · rcases g with ⟨_, b'⟩ | ⟨_, b'⟩
    · rw [hy] at b'; cases b'
    · rw [b, b']
/-- How two clean values stand to each other. -/
def pord (K N : Int) (F : Nat) (S : ByteArray) (K' N' : Int) (F' : Nat) (S' : ByteArray) : Int :=
  if K = K' then if K = 2 then ford F F' else if K = 3 then Lib.compareBytes S.data.toList S'.data.toList else icmp N N' else icmp K K'
theorem compareBytes_less (a b : List UInt8) : Lib.compareBytes a b = if Op.bytesLess a b = true then -1 else if (a == b) = true then 0 else 1 := by
  induction a generalizing b with
  | nil => cases b <;> simp [Lib.compareBytes, Op.bytesLess]
  | cons x xs ih =>
    cases b with
    | nil => simp [Lib.compareBytes, Op.bytesLess]
    | cons y ys =>
      by_cases h : x < y
      · simp [Lib.compareBytes, Op.bytesLess, h]
      · by_cases g : y < x
        · have ne : ¬ x = y := by intro e; subst e; exact h g
          simp [Lib.compareBytes, Op.bytesLess, h, g, ne]
        · have e : x = y := by
            have h' : ¬ x.toNat < y.toNat := by simpa [UInt8.lt_iff_toNat_lt] using h
            have g' : ¬ y.toNat < x.toNat := by simpa [UInt8.lt_iff_toNat_lt] using g
            exact UInt8.toNat_inj.1 (by omega)
          subst e
          simp [Lib.compareBytes, Op.bytesLess, ih]
/-- The value of a value: its four parts. -/
structure Va where
  k : Int
  n : Int
  f : Nat
  s : ByteArray
abbrev Va.val (v : Va) : Value := .agg #[.int .i64 v.k, .int .i64 v.n, .float .f64 v.f, .string v.s]
/-- How two values stand to each other. -/
def vord (a b : Va) : Int := pord (cK a.k) (cN a.k a.n) (cF a.k a.f) (cS a.k a.s) (cK b.k) (cN b.k b.n) (cF b.k b.f) (cS b.k b.s)
theorem pord_one (K N : Int) (F G : Nat) (S : ByteArray) (K' N' : Int) (F' G' : Nat) (S' : ByteArray) (h : FOne F G) (h' : FOne F' G') : pord K N F S K' N' F' S' = pord K N G S K' N' G' S' := by
  unfold pord; rw [ford_one h h']
end Go.Proofs.YtikpgglbfpdhmaaGreatDoor

namespace Go.Proofs.YtikpgglbfpdhmaaGreatDoor
open Go.RowKit Go.Joins

theorem cleans (k n : Int) (f : Nat) (s : ByteArray) : Cleans k n f s (cK k) (cN k n) (cF k f) (cS k s) := fun w => clean_any k n f s w
theorem rcleans (k n : Int) (f : Nat) (s : ByteArray) : RCleans k n f s (cK k) (cN k n) (rF k f) (cS k s) := fun w => rclean_any k n f s w

theorem order_cleans {k n : Int} {f : Nat} {s : ByteArray} {K N : Int} {F : Nat} {S : ByteArray} {k' n' : Int} {f' : Nat} {s' : ByteArray} {K' N' : Int} {F' : Nat} {S' : ByteArray}
    (H : Cleans k n f s K N F S) (H' : Cleans k' n' f' s' K' N' F' S') (w : World) :
    Calls Tryz.prog 15 #[.agg #[.int .i64 k, .int .i64 n, .float .f64 f, .string s], .agg #[.int .i64 k', .int .i64 n', .float .f64 f', .string s']] w fun e w' => e = .returned (.int .i64 (pord K N F S K' N' F' S')) ∧ Below w.heap.size w w' := by
  unfold pord
  by_cases h : K = K'
  · subst h
    rw [if_pos rfl]
    by_cases h2 : K = 2
    · subst h2
      rw [if_pos rfl]
      unfold ford
      cases a : fnan F <;> cases b : fnan F'
      · exact order_real_ff _ _ _ _ _ _ _ _ _ _ _ _ _ _ H H' a b w
      · exact order_real_ft _ _ _ _ _ _ _ _ _ _ _ _ _ _ H H' a b w
      · exact order_real_tf _ _ _ _ _ _ _ _ _ _ _ _ _ _ H H' a b w
      · exact order_real_tt _ _ _ _ _ _ _ _ _ _ _ _ _ _ H H' a b w
    · rw [if_neg h2]
      by_cases h3 : K = 3
      · subst h3
        rw [if_pos rfl]
        exact order_text _ _ _ _ _ _ _ _ _ _ _ _ _ _ H H' w
      · rw [if_neg h3]
        exact order_num _ _ _ _ _ _ _ _ _ _ _ _ _ _ _ H H' h2 h3 w
  · rw [if_neg h]
    exact order_diff _ _ _ _ _ _ _ _ _ _ _ _ _ _ _ _ H H' (by simp [h]) w
theorem rorder_cleans {k n : Int} {f : Nat} {s : ByteArray} {K N : Int} {F : Nat} {S : ByteArray} {k' n' : Int} {f' : Nat} {s' : ByteArray} {K' N' : Int} {F' : Nat} {S' : ByteArray}
    (H : RCleans k n f s K N F S) (H' : RCleans k' n' f' s' K' N' F' S') (w : World) :
    Calls Tryz.prog 28 #[.agg #[.int .i64 k, .int .i64 n, .float .f64 f, .string s], .agg #[.int .i64 k', .int .i64 n', .float .f64 f', .string s']] w fun e w' => e = .returned (.int .i64 (pord K N F S K' N' F' S')) ∧ Below w.heap.size w w' := by
  unfold pord
  by_cases h : K = K'
  · subst h
    rw [if_pos rfl]
    by_cases h2 : K = 2
    · subst h2
      rw [if_pos rfl]
      unfold ford
      cases a : fnan F <;> cases b : fnan F'
      · unfold fcmp
        rw [a, b]
        simp only [Bool.false_eq_true, if_false]
        cases l : flt F F'
        · cases g : fgt F F'
          · exact rorder_real_ttff _ _ _ _ _ _ _ _ _ _ _ _ _ _ H H' (by rw [feq_self, a]; rfl) (by rw [feq_self, b]; rfl) l g w
          · exact rorder_real_ttft _ _ _ _ _ _ _ _ _ _ _ _ _ _ H H' (by rw [feq_self, a]; rfl) (by rw [feq_self, b]; rfl) l g w
        · have g : fgt F F' = false := by unfold flt at l; unfold fgt; simp only [beq_iff_eq] at l; rw [l]; rfl
          exact rorder_real_tttf _ _ _ _ _ _ _ _ _ _ _ _ _ _ H H' (by rw [feq_self, a]; rfl) (by rw [feq_self, b]; rfl) l g w
      · exact rorder_real_tfff _ _ _ _ _ _ _ _ _ _ _ _ _ _ H H' (by rw [feq_self, a]; rfl) (by rw [feq_self, b]; rfl) (flt_nan_right b) (fgt_nan_right b) w
      · exact rorder_real_ftff _ _ _ _ _ _ _ _ _ _ _ _ _ _ H H' (by rw [feq_self, a]; rfl) (by rw [feq_self, b]; rfl) (flt_nan_left a) (fgt_nan_left a) w
      · exact rorder_real_ffff _ _ _ _ _ _ _ _ _ _ _ _ _ _ H H' (by rw [feq_self, a]; rfl) (by rw [feq_self, b]; rfl) (flt_nan_left a) (fgt_nan_left a) w
    · rw [if_neg h2]
      by_cases h3 : K = 3
      · subst h3
        rw [if_pos rfl, compareBytes_less, ← ByteArray.toList_eq, ← ByteArray.toList_eq]
        cases l : Op.bytesLess S.toList S'.toList
        · cases e : (S.toList == S'.toList)
          · exact rorder_text_gt _ _ _ _ _ _ _ _ _ _ _ _ _ _ H H' l e w
          · exact rorder_text_eq _ _ _ _ _ _ _ _ _ _ _ _ _ _ H H' l e w
        · exact rorder_text_lt _ _ _ _ _ _ _ _ _ _ _ _ _ _ H H' l w
      · rw [if_neg h3]
        unfold icmp
        by_cases l : N < N'
        · rw [if_pos l]; exact rorder_num_lt _ _ _ _ _ _ _ _ _ _ _ _ _ _ _ H H' h2 h3 l w
        · rw [if_neg l]
          by_cases g : N' < N
          · rw [if_pos g]; exact rorder_num_gt _ _ _ _ _ _ _ _ _ _ _ _ _ _ _ H H' h2 h3 g w
          · rw [if_neg g]
            obtain rfl : N = N' := by omega
            exact rorder_num_eq _ _ _ _ _ _ _ _ _ _ _ _ _ _ H H' h2 h3 w
  · rw [if_neg h]
    unfold icmp
    by_cases l : K < K'
    · rw [if_pos l]; exact rorder_lt _ _ _ _ _ _ _ _ _ _ _ _ _ _ _ _ H H' l w
    · rw [if_neg l, if_pos (by omega)]
      exact rorder_gt _ _ _ _ _ _ _ _ _ _ _ _ _ _ _ _ H H' (by omega) w

/-- The order of two values: the same in both. -/
theorem order_any (a b : Va) (w : World) :
    Calls Tryz.prog 15 #[a.val, b.val] w fun e w' => e = .returned (.int .i64 (vord a b)) ∧ Below w.heap.size w w' :=
  order_cleans (cleans a.k a.n a.f a.s) (cleans b.k b.n b.f b.s) w
theorem rorder_any (a b : Va) (w : World) :
    Calls Tryz.prog 28 #[a.val, b.val] w fun e w' => e = .returned (.int .i64 (vord a b)) ∧ Below w.heap.size w w' := by
  have h := rorder_cleans (rcleans a.k a.n a.f a.s) (rcleans b.k b.n b.f b.s) w
  rw [← pord_one _ _ _ _ _ _ _ _ _ _ (cF_rF a.k a.f) (cF_rF b.k b.f)] at h
  exact h
end Go.Proofs.YtikpgglbfpdhmaaGreatDoor

namespace Go.Proofs.YtikpgglbfpdhmaaGreatDoor
theorem cK_cK (k : Int) : cK (cK k) = cK k := by
  unfold cK
  by_cases h : 0 ≤ k ∧ k ≤ 4
  · rw [if_pos h, if_pos h]
  · rw [if_neg h]; rfl
theorem cK_is {k c : Int} (h : 0 ≤ k ∧ k ≤ 4) (e : cK k = c) : k = c := by unfold cK at e; rw [if_pos h] at e; exact e
theorem cK_eq {k c : Int} (hc : c ≠ 0) : cK k = c ↔ k = c ∧ 0 ≤ c ∧ c ≤ 4 := by
  unfold cK
  by_cases h : 0 ≤ k ∧ k ≤ 4
  · rw [if_pos h]; omega
  · rw [if_neg h]; omega
theorem cN_cN (k n : Int) : cN (cK k) (cN k n) = cN k n := by
  unfold cN
  by_cases h1 : k = 1
  · subst h1; simp [cK]
  · by_cases h4 : k = 4
    · subst h4; by_cases h : n = 0 <;> simp [cK, h]
    · have e1 : ¬ cK k = 1 := by rw [cK_eq (by decide)]; omega
      have e4 : ¬ cK k = 4 := by rw [cK_eq (by decide)]; omega
      simp [h1, h4, e1, e4]
theorem freal_freal (f : Nat) : freal (freal f) = freal f := by
  unfold freal
  cases h : fnan f
  · cases g : feq f 0
    · simp [h, g]
    · have z : feq 0 0 = true := by rw [feq_self, fnan_zero]; rfl
      simp [fnan_zero, z]
  · simp [fnan_nanBits]
theorem rreal_rreal (f : Nat) : rreal (rreal f) = rreal f := by
  unfold rreal
  cases g : feq f 0
  · simp [g]
  · have z : feq 0 0 = true := by rw [feq_self, fnan_zero]; rfl
    simp [z]
theorem cF_cF (k : Int) (f : Nat) : cF (cK k) (cF k f) = cF k f := by
  unfold cF
  by_cases h : k = 2
  · subst h; simp [cK, freal_freal]
  · have e : ¬ cK k = 2 := by rw [cK_eq (by decide)]; omega
    simp [h, e]
theorem rF_rF (k : Int) (f : Nat) : rF (cK k) (rF k f) = rF k f := by
  unfold rF
  by_cases h : k = 2
  · subst h; simp [cK, rreal_rreal]
  · have e : ¬ cK k = 2 := by rw [cK_eq (by decide)]; omega
    simp [h, e]
theorem cS_cS (k : Int) (s : ByteArray) : cS (cK k) (cS k s) = cS k s := by
  unfold cS
  by_cases h : k = 3
  · subst h; simp [cK]
  · have e : ¬ cK k = 3 := by rw [cK_eq (by decide)]; omega
    simp [h, e]
def Sign (t : Int) : Prop := t = -1 ∨ t = 0 ∨ t = 1
theorem icmp_sign (a b : Int) : Sign (icmp a b) := by unfold icmp Sign; by_cases h : a < b <;> by_cases g : b < a <;> simp [h, g]
theorem compareBytes_sign (a b : List UInt8) : Sign (Lib.compareBytes a b) := by
  rw [compareBytes_less]; unfold Sign
  cases Op.bytesLess a b <;> cases (a == b) <;> simp
theorem fcmp_sign (x y : Nat) : Sign (fcmp x y) := by
  unfold fcmp Sign
  cases fnan x <;> cases fnan y <;> cases flt x y <;> cases fgt x y <;> simp
theorem ford_sign (x y : Nat) : Sign (ford x y) := by
  have := fcmp_sign x y
  unfold ford
  cases fnan x <;> cases fnan y <;> simp [Sign] at * <;> exact this
theorem pord_sign (K N : Int) (F : Nat) (S : ByteArray) (K' N' : Int) (F' : Nat) (S' : ByteArray) : Sign (pord K N F S K' N' F' S') := by
  unfold pord
  split
  · split
    · exact ford_sign _ _
    · split
      · exact compareBytes_sign _ _
      · exact icmp_sign _ _
  · exact icmp_sign _ _
end Go.Proofs.YtikpgglbfpdhmaaGreatDoor

namespace Go.Proofs.YtikpgglbfpdhmaaGreatDoor
open Go.RowKit Go.Joins
attribute [local go_sem ↓] Go.wp_at_zero Go.wp_at_succ

@[local go_sem] theorem run_neg_float {P : Program} (w : World) (k : FloatKind) (b : Nat) : (Op.unary .neg (.float k b)).run P w = .ok (.float k (Op.negFloat k b)) w := rfl
/-- The bits of a float turned. -/
theorem fneg_low (x : Nat) : Op.negFloat .f64 x % 9223372036854775808 = x % 9223372036854775808 := by
  have e : Op.negFloat .f64 x = x ^^^ 2 ^ 63 := rfl
  rw [e, show (9223372036854775808 : Nat) = 2 ^ 63 from rfl, Nat.xor_mod_two_pow]
  simp
theorem nan_low {x y : Nat} (h : x % 9223372036854775808 = y % 9223372036854775808) : (rd64 x).isNaN = (rd64 y).isNaN := by
  have c1 : FloatKind.f64.format.signWeight = 9223372036854775808 := by decide +kernel
  show (FloatKind.f64.format.read x).isNaN = (FloatKind.f64.format.read y).isNaN
  unfold Ieee.Format.read
  rw [c1]
  simp only [h]
  split
  · rfl
  · split
    · rfl
    · split <;> rfl
theorem fneg_one {x y : Nat} (h : FOne x y) : FOne (freal (Op.negFloat .f64 x)) (rreal (Op.negFloat .f64 y)) := by
  rcases h with ⟨h1, h2⟩ | ⟨_, rfl⟩
  · left
    have g1 : fnan (Op.negFloat .f64 x) = true := by rw [fnan_iff, nan_low (fneg_low x), ← fnan_iff]; exact h1
    have g2 : fnan (Op.negFloat .f64 y) = true := by rw [fnan_iff, nan_low (fneg_low y), ← fnan_iff]; exact h2
    constructor
    · unfold freal; rw [if_pos g1]; exact fnan_nanBits
    · unfold rreal; rw [feq_nan_left g2]; exact g2
  · exact freal_rreal _

set_option maxRecDepth 100000 in
set_option maxHeartbeats 1000000 in
theorem neg_real (k n : Int) (f : Nat) (s : ByteArray) (N : Int) (F : Nat) (S : ByteArray) (H : Cleans k n f s 2 N F S) (w : World) :
    Calls Tryz.prog 34 #[.agg #[.int .i64 k, .int .i64 n, .float .f64 f, .string s]] w fun e w' => e = .returned (.agg #[.int .i64 2, .int .i64 0, .float .f64 (freal (Op.negFloat .f64 F)), .string ⟨#[]⟩]) ∧ Below w.heap.size w w' := by
  go_enter Tryz.func34, Tryz.ntmps34
  go_wp2_with (first | (go_at_call 30; with_reducible refine (H.at _).mono ?_; rintro e w1 ⟨rfl, hb⟩; obtain ⟨hc0, hf0, hz0⟩ := newc hb w.heap.size (by first | omega | (simp; done) | (simp; omega)); obtain ⟨hc1, hf1, hz1⟩ := newc hb (w.heap.size + 1) (by first | omega | (simp; done) | (simp; omega))) | (go_at_call 22; refine (ofReal_any _ _).mono ?_; rintro e w1 ⟨rfl, hb⟩; obtain ⟨hc0, hf0, hz0⟩ := newc hb w.heap.size (by first | omega | (simp; done) | (simp; omega)); obtain ⟨hc1, hf1, hz1⟩ := newc hb (w.heap.size + 1) (by first | omega | (simp; done) | (simp; omega))))
  exact bodyPost_ret (by simp [results, Tryz.results34, go_sem, *]) rfl ⟨rfl, (by repeat' (first | with_reducible exact Below.refl _ _ | with_reducible refine below_step ?_ (by assumption) | with_reducible apply below_set' | with_reducible apply below_alloc' | with_reducible apply Below.drew | with_reducible apply below_drewN' | (simp; done) | omega | (simp; omega)))⟩
set_option maxRecDepth 100000 in
set_option maxHeartbeats 1000000 in
theorem neg_other (k n : Int) (f : Nat) (s : ByteArray) (K N : Int) (F : Nat) (S : ByteArray) (H : Cleans k n f s K N F S) (h : (K == 2) = false) (K2 N2 : Int)
    (HA : Hid (∀ w, Calls Tryz.prog 17 #[.string ⟨#[45]⟩, .agg #[.int .i64 1, .int .i64 0, .float .f64 0, .string ⟨#[]⟩], .agg #[.int .i64 K, .int .i64 N, .float .f64 F, .string S]] w fun e w' => e = .returned (.agg #[.int .i64 K2, .int .i64 N2, .float .f64 0, .string ⟨#[]⟩]) ∧ Below w.heap.size w w')) (w : World) :
    Calls Tryz.prog 34 #[.agg #[.int .i64 k, .int .i64 n, .float .f64 f, .string s]] w fun e w' => e = .returned (.agg #[.int .i64 K2, .int .i64 N2, .float .f64 0, .string ⟨#[]⟩]) ∧ Below w.heap.size w w' := by
  go_enter Tryz.func34, Tryz.ntmps34
  go_upto_region 4 with (go_at_call 30; with_reducible refine (H.at _).mono ?_; rintro e w1 ⟨rfl, hb⟩; obtain ⟨hc0, hf0, hz0⟩ := newc hb w.heap.size (by first | omega | (simp; done) | (simp; omega)); obtain ⟨hc1, hf1, hz1⟩ := newc hb (w.heap.size + 1) (by first | omega | (simp; done) | (simp; omega)))
  go_region_with (first | (go_at_call 16; refine (ofInt_any _ _).mono ?_; rintro e w1 ⟨rfl, hb⟩; obtain ⟨hc0, hf0, hz0⟩ := newc hb w.heap.size (by first | omega | (simp; done) | (simp; omega)); obtain ⟨hc1, hf1, hz1⟩ := newc hb (w.heap.size + 1) (by first | omega | (simp; done) | (simp; omega))) | (go_at_call 17; with_reducible refine (HA.out _).mono ?_; rintro e w1 ⟨rfl, hb⟩; obtain ⟨hc0, hf0, hz0⟩ := newc hb w.heap.size (by first | omega | (simp; done) | (simp; omega)); obtain ⟨hc1, hf1, hz1⟩ := newc hb (w.heap.size + 1) (by first | omega | (simp; done) | (simp; omega))))
  all_goals go_wp2
  all_goals exact bodyPost_ret (by simp [results, Tryz.results34, go_sem, *]) rfl ⟨rfl, (by repeat' (first | with_reducible exact Below.refl _ _ | with_reducible refine below_step ?_ (by assumption) | with_reducible apply below_set' | with_reducible apply below_alloc' | with_reducible apply Below.drew | with_reducible apply below_drewN' | (simp; done) | omega | (simp; omega)))⟩
set_option maxRecDepth 100000 in
set_option maxHeartbeats 1000000 in
theorem rneg_real (k n : Int) (f : Nat) (s : ByteArray) (N : Int) (F : Nat) (S : ByteArray) (H : RCleans k n f s 2 N F S) (w : World) :
    Calls Tryz.prog 35 #[.agg #[.int .i64 k, .int .i64 n, .float .f64 f, .string s]] w fun e w' => e = .returned (.agg #[.int .i64 2, .int .i64 0, .float .f64 (rreal (Op.negFloat .f64 F)), .string ⟨#[]⟩]) ∧ Below w.heap.size w w' := by
  have R := fun r => show RCleans 2 0 r ⟨#[]⟩ 2 0 (rreal r) ⟨#[]⟩ from fun w => rclean_any 2 0 r ⟨#[]⟩ w
  go_enter Tryz.func35, Tryz.ntmps35
  go_wp2_with (go_at_call 20; first | (with_reducible refine (H.at _).mono ?_; rintro e w1 ⟨rfl, hb⟩; obtain ⟨hc0, hf0, hz0⟩ := newc hb w.heap.size (by first | omega | (simp; done) | (simp; omega)); obtain ⟨hc1, hf1, hz1⟩ := newc hb (w.heap.size + 1) (by first | omega | (simp; done) | (simp; omega))) | (with_reducible refine ((R _).at _).mono ?_; rintro e w1 ⟨rfl, hb⟩; obtain ⟨hc0, hf0, hz0⟩ := newc hb w.heap.size (by first | omega | (simp; done) | (simp; omega)); obtain ⟨hc1, hf1, hz1⟩ := newc hb (w.heap.size + 1) (by first | omega | (simp; done) | (simp; omega))))
  exact bodyPost_ret (by simp [results, Tryz.results35, go_sem, *]) rfl ⟨rfl, (by repeat' (first | with_reducible exact Below.refl _ _ | with_reducible refine below_step ?_ (by assumption) | with_reducible apply below_set' | with_reducible apply below_alloc' | with_reducible apply Below.drew | with_reducible apply below_drewN' | (simp; done) | omega | (simp; omega)))⟩
set_option maxRecDepth 100000 in
set_option maxHeartbeats 1000000 in
theorem rneg_int (k n : Int) (f : Nat) (s : ByteArray) (N : Int) (F : Nat) (S : ByteArray) (H : RCleans k n f s 1 N F S) (g1 : -9223372036854775808 < N) (g2 : N ≤ 9223372036854775807) (w : World) :
    Calls Tryz.prog 35 #[.agg #[.int .i64 k, .int .i64 n, .float .f64 f, .string s]] w fun e w' => e = .returned (.agg #[.int .i64 1, .int .i64 (-N), .float .f64 0, .string ⟨#[]⟩]) ∧ Below w.heap.size w w' := by
  go_enter Tryz.func35, Tryz.ntmps35
  go_wp2_with (go_at_call 20; with_reducible refine (H.at _).mono ?_; rintro e w1 ⟨rfl, hb⟩; obtain ⟨hc0, hf0, hz0⟩ := newc hb w.heap.size (by first | omega | (simp; done) | (simp; omega)); obtain ⟨hc1, hf1, hz1⟩ := newc hb (w.heap.size + 1) (by first | omega | (simp; done) | (simp; omega)))
  exact bodyPost_ret (by simp [results, Tryz.results35, go_sem, *]) rfl ⟨rfl, (by repeat' (first | with_reducible exact Below.refl _ _ | with_reducible refine below_step ?_ (by assumption) | with_reducible apply below_set' | with_reducible apply below_alloc' | with_reducible apply Below.drew | with_reducible apply below_drewN' | (simp; done) | omega | (simp; omega)))⟩
set_option maxRecDepth 100000 in
set_option maxHeartbeats 1000000 in
theorem rneg_min (k n : Int) (f : Nat) (s : ByteArray) (N : Int) (F : Nat) (S : ByteArray) (H : RCleans k n f s 1 N F S) (g : N = -9223372036854775808) (w : World) :
    Calls Tryz.prog 35 #[.agg #[.int .i64 k, .int .i64 n, .float .f64 f, .string s]] w fun e w' => e = .returned (.agg #[.int .i64 0, .int .i64 0, .float .f64 0, .string ⟨#[]⟩]) ∧ Below w.heap.size w w' := by
  go_enter Tryz.func35, Tryz.ntmps35
  go_wp2_with (go_at_call 20; with_reducible refine (H.at _).mono ?_; rintro e w1 ⟨rfl, hb⟩; obtain ⟨hc0, hf0, hz0⟩ := newc hb w.heap.size (by first | omega | (simp; done) | (simp; omega)); obtain ⟨hc1, hf1, hz1⟩ := newc hb (w.heap.size + 1) (by first | omega | (simp; done) | (simp; omega)))
  exact bodyPost_ret (by simp [results, Tryz.results35, go_sem, *]) rfl ⟨rfl, (by repeat' (first | with_reducible exact Below.refl _ _ | with_reducible refine below_step ?_ (by assumption) | with_reducible apply below_set' | with_reducible apply below_alloc' | with_reducible apply Below.drew | with_reducible apply below_drewN' | (simp; done) | omega | (simp; omega)))⟩
set_option maxRecDepth 100000 in
set_option maxHeartbeats 1000000 in
theorem rneg_none (k n : Int) (f : Nat) (s : ByteArray) (K N : Int) (F : Nat) (S : ByteArray) (H : RCleans k n f s K N F S) (h1 : (K == 1) = false) (h2 : (K == 2) = false) (w : World) :
    Calls Tryz.prog 35 #[.agg #[.int .i64 k, .int .i64 n, .float .f64 f, .string s]] w fun e w' => e = .returned (.agg #[.int .i64 0, .int .i64 0, .float .f64 0, .string ⟨#[]⟩]) ∧ Below w.heap.size w w' := by
  go_enter Tryz.func35, Tryz.ntmps35
  go_wp2_with (go_at_call 20; with_reducible refine (H.at _).mono ?_; rintro e w1 ⟨rfl, hb⟩; obtain ⟨hc0, hf0, hz0⟩ := newc hb w.heap.size (by first | omega | (simp; done) | (simp; omega)); obtain ⟨hc1, hf1, hz1⟩ := newc hb (w.heap.size + 1) (by first | omega | (simp; done) | (simp; omega)))
  all_goals exact bodyPost_ret (by simp [results, Tryz.results35, go_sem, *]) rfl ⟨rfl, (by repeat' (first | with_reducible exact Below.refl _ _ | with_reducible refine below_step ?_ (by assumption) | with_reducible apply below_set' | with_reducible apply below_alloc' | with_reducible apply Below.drew | with_reducible apply below_drewN' | (simp; done) | omega | (simp; omega)))⟩
end Go.Proofs.YtikpgglbfpdhmaaGreatDoor

namespace Go.Proofs.YtikpgglbfpdhmaaGreatDoor
open Go.RowKit Go.Joins
attribute [local go_sem ↓] Go.wp_at_zero Go.wp_at_succ

@[local go_sem] theorem run_neg_f {P : Program} (w : World) (k : FloatKind) (b : Nat) : (Op.unary .neg (.float k b)).run P w = .ok (.float k (Op.negFloat k b)) w := rfl
set_option maxRecDepth 100000 in
theorem exact_no (d : Nat) (p : Int) (neg : Bool) (hd : ((d : Int) / 4503599627370496 != 0) = true) (w : World) (i0 : w.cell? ⟨7, 0, none⟩ = some (.int .u64 52)) :
    Calls Tryz.prog 152 #[.int .u64 d, .int .i64 p, .bool neg] w fun e w' => e = .returned (.tuple #[.float .f64 0, .bool false]) ∧ w = w' := by
  go_enter Tryz.func152, Tryz.ntmps152
  go_wp2
  go_ret2
  exact ⟨rfl, rfl⟩
set_option maxRecDepth 100000 in
set_option maxHeartbeats 1000000 in
theorem exact_zero (d f h : Nat) (neg : Bool) (hd : ((d : Int) / 4503599627370496 != 0) = false) (hf : floatOfInt .f64 (d : Int) = f) (hh : Hid ((if neg then Op.negFloat .f64 f else f) = h)) (w : World) (i0 : w.cell? ⟨7, 0, none⟩ = some (.int .u64 52)) :
    Calls Tryz.prog 152 #[.int .u64 d, .int .i64 0, .bool neg] w fun e w' => e = .returned (.tuple #[.float .f64 h, .bool true]) ∧ w = w' := by
  go_enter Tryz.func152, Tryz.ntmps152
  go_upto_if 15 with fail
  go_cut [2, 6] (fun s2 s6 wx => s2 = .bool neg ∧ s6 = .float .f64 h ∧ w = wx)
  case first =>
    go_wp2_with fail
    all_goals go_meet
    · have hn : neg = true := by assumption
      exact ⟨by first | rfl | (rw [hn]), congrArg (Value.float .f64) (by rw [← hh.out, if_pos hn]), rfl⟩
    · have hn : neg = false := by assumption
      exact ⟨by rw [hn], congrArg (Value.float .f64) (by rw [← hh.out, if_neg (by rw [hn]; decide)]), rfl⟩
  case rest =>
    obtain ⟨rfl, rfl, hwc⟩ := hcut
    subst wc
    go_wp2
    go_ret2
    exact ⟨rfl, rfl⟩
set_option maxRecDepth 100000 in
set_option maxHeartbeats 1000000 in
theorem exact_far (d f h : Nat) (p : Int) (neg : Bool) (hd : ((d : Int) / 4503599627370496 != 0) = false) (hf : floatOfInt .f64 (d : Int) = f) (hh : Hid ((if neg then Op.negFloat .f64 f else f) = h)) (hp : 37 < p ∨ p < -22) (w : World) (i0 : w.cell? ⟨7, 0, none⟩ = some (.int .u64 52)) :
    Calls Tryz.prog 152 #[.int .u64 d, .int .i64 p, .bool neg] w fun e w' => e = .returned (.tuple #[.float .f64 h, .bool false]) ∧ w = w' := by
  go_enter Tryz.func152, Tryz.ntmps152
  go_upto_if 15 with fail
  go_cut [2, 6] (fun s2 s6 wx => s2 = .bool neg ∧ s6 = .float .f64 h ∧ w = wx)
  case first =>
    go_wp2_with fail
    all_goals go_meet
    · have hn : neg = true := by assumption
      exact ⟨by first | rfl | (rw [hn]), congrArg (Value.float .f64) (by rw [← hh.out, if_pos hn]), rfl⟩
    · have hn : neg = false := by assumption
      exact ⟨by rw [hn], congrArg (Value.float .f64) (by rw [← hh.out, if_neg (by rw [hn]; decide)]), rfl⟩
  case rest =>
    obtain ⟨rfl, rfl, hwc⟩ := hcut
    subst wc
    go_wp2
    all_goals go_ret2
    all_goals exact ⟨rfl, rfl⟩
set_option maxRecDepth 100000 in
set_option maxHeartbeats 1000000 in
theorem exact_mul (d f h : Nat) (k : Nat) (hk : 1 ≤ k ∧ k ≤ 22) (neg : Bool) (hd : ((d : Int) / 4503599627370496 != 0) = false) (hf : floatOfInt .f64 (d : Int) = f) (hh : Hid ((if neg then Op.negFloat .f64 f else f) = h)) (w : World) (i0 : w.cell? ⟨7, 0, none⟩ = some (.int .u64 52)) (N o c y : Nat) (t0 : w.cell? ⟨12, 0, none⟩ = some (.slice (some ⟨N, o, none⟩) 23 c)) (tk : w.cell? ⟨N, o + k, none⟩ = some (.float .f64 y)) (r : Nat) (hr : ∀ t w, (binOp .mul t (.float .f64 h) (.float .f64 y)).run Tryz.prog w = .ok (.float .f64 r) w) (g1 : (FloatKind.f64.format.order h 4831355200913801216 == some .gt) = false) (g2 : (FloatKind.f64.format.order h 14054727237768577024 == some .lt) = false) :
    Calls Tryz.prog 152 #[.int .u64 d, .int .i64 k, .bool neg] w fun e w' => e = .returned (.tuple #[.float .f64 r, .bool true]) ∧ w = w' := by
  go_enter Tryz.func152, Tryz.ntmps152
  go_upto_if 15 with fail
  go_cut [2, 6] (fun s2 s6 wx => s2 = .bool neg ∧ s6 = .float .f64 h ∧ w = wx)
  case first =>
    go_wp2_with fail
    all_goals go_meet
    · have hn : neg = true := by assumption
      exact ⟨by first | rfl | (rw [hn]), congrArg (Value.float .f64) (by rw [← hh.out, if_pos hn]), rfl⟩
    · have hn : neg = false := by assumption
      exact ⟨by rw [hn], congrArg (Value.float .f64) (by rw [← hh.out, if_neg (by rw [hn]; decide)]), rfl⟩
  case rest =>
    obtain ⟨rfl, rfl, hwc⟩ := hcut
    subst wc
    go_wp2
    all_goals go_ret2
    all_goals exact ⟨rfl, rfl⟩
set_option maxRecDepth 100000 in
set_option maxHeartbeats 1000000 in
theorem exact_over (d f h : Nat) (k : Nat) (hk : 1 ≤ k ∧ k ≤ 22) (neg : Bool) (hd : ((d : Int) / 4503599627370496 != 0) = false) (hf : floatOfInt .f64 (d : Int) = f) (hh : Hid ((if neg then Op.negFloat .f64 f else f) = h)) (w : World) (i0 : w.cell? ⟨7, 0, none⟩ = some (.int .u64 52)) (g1 : (FloatKind.f64.format.order h 4831355200913801216 == some .gt) = true ∨ (FloatKind.f64.format.order h 4831355200913801216 == some .gt) = false ∧ (FloatKind.f64.format.order h 14054727237768577024 == some .lt) = true) :
    Calls Tryz.prog 152 #[.int .u64 d, .int .i64 k, .bool neg] w fun e w' => e = .returned (.tuple #[.float .f64 h, .bool false]) ∧ w = w' := by
  go_enter Tryz.func152, Tryz.ntmps152
  go_upto_if 15 with fail
  go_cut [2, 6] (fun s2 s6 wx => s2 = .bool neg ∧ s6 = .float .f64 h ∧ w = wx)
  case first =>
    go_wp2_with fail
    all_goals go_meet
    · have hn : neg = true := by assumption
      exact ⟨by first | rfl | (rw [hn]), congrArg (Value.float .f64) (by rw [← hh.out, if_pos hn]), rfl⟩
    · have hn : neg = false := by assumption
      exact ⟨by rw [hn], congrArg (Value.float .f64) (by rw [← hh.out, if_neg (by rw [hn]; decide)]), rfl⟩
  case rest =>
    obtain ⟨rfl, rfl, hwc⟩ := hcut
    subst wc
    rcases g1 with g1 | ⟨g1, g2⟩
    all_goals
      go_wp2
      all_goals go_ret2
      all_goals exact ⟨rfl, rfl⟩
set_option maxRecDepth 100000 in
set_option maxHeartbeats 1000000 in
theorem exact_div (d f h : Nat) (k : Nat) (hk : 1 ≤ k ∧ k ≤ 22) (neg : Bool) (hd : ((d : Int) / 4503599627370496 != 0) = false) (hf : floatOfInt .f64 (d : Int) = f) (hh : Hid ((if neg then Op.negFloat .f64 f else f) = h)) (w : World) (i0 : w.cell? ⟨7, 0, none⟩ = some (.int .u64 52)) (N o c y : Nat) (t0 : w.cell? ⟨12, 0, none⟩ = some (.slice (some ⟨N, o, none⟩) 23 c)) (tk : w.cell? ⟨N, o + k, none⟩ = some (.float .f64 y)) (r : Nat) (hr : ∀ t w, (binOp .quo t (.float .f64 h) (.float .f64 y)).run Tryz.prog w = .ok (.float .f64 r) w) :
    Calls Tryz.prog 152 #[.int .u64 d, .int .i64 (-(k : Int)), .bool neg] w fun e w' => e = .returned (.tuple #[.float .f64 r, .bool true]) ∧ w = w' := by
  go_enter Tryz.func152, Tryz.ntmps152
  go_upto_if 15 with fail
  go_cut [2, 6] (fun s2 s6 wx => s2 = .bool neg ∧ s6 = .float .f64 h ∧ w = wx)
  case first =>
    go_wp2_with fail
    all_goals go_meet
    · have hn : neg = true := by assumption
      exact ⟨by first | rfl | (rw [hn]), congrArg (Value.float .f64) (by rw [← hh.out, if_pos hn]), rfl⟩
    · have hn : neg = false := by assumption
      exact ⟨by rw [hn], congrArg (Value.float .f64) (by rw [← hh.out, if_neg (by rw [hn]; decide)]), rfl⟩
  case rest =>
    obtain ⟨rfl, rfl, hwc⟩ := hcut
    subst wc
    go_wp2
    all_goals go_ret2
    all_goals exact ⟨rfl, rfl⟩
set_option maxRecDepth 100000 in
set_option maxHeartbeats 1000000 in
theorem exact_big (d f h : Nat) (k : Nat) (hk : 1 ≤ k ∧ k ≤ 15) (neg : Bool) (hd : ((d : Int) / 4503599627370496 != 0) = false) (hf : floatOfInt .f64 (d : Int) = f) (hh : Hid ((if neg then Op.negFloat .f64 f else f) = h)) (w : World) (i0 : w.cell? ⟨7, 0, none⟩ = some (.int .u64 52)) (N o c y : Nat) (t0 : w.cell? ⟨12, 0, none⟩ = some (.slice (some ⟨N, o, none⟩) 23 c)) (tk : w.cell? ⟨N, o + k, none⟩ = some (.float .f64 y)) (h1 : Nat) (hr1 : ∀ t w, (binOp .mul t (.float .f64 h) (.float .f64 y)).run Tryz.prog w = .ok (.float .f64 h1) w)  (y2 : Nat) (tk2 : w.cell? ⟨N, o + 22, none⟩ = some (.float .f64 y2)) (r : Nat) (hr : ∀ t w, (binOp .mul t (.float .f64 h1) (.float .f64 y2)).run Tryz.prog w = .ok (.float .f64 r) w) (g1 : (FloatKind.f64.format.order h1 4831355200913801216 == some .gt) = false) (g2 : (FloatKind.f64.format.order h1 14054727237768577024 == some .lt) = false) :
    Calls Tryz.prog 152 #[.int .u64 d, .int .i64 ((k : Int) + 22), .bool neg] w fun e w' => e = .returned (.tuple #[.float .f64 r, .bool true]) ∧ w = w' := by
  go_enter Tryz.func152, Tryz.ntmps152
  go_upto_if 15 with fail
  go_cut [2, 6] (fun s2 s6 wx => s2 = .bool neg ∧ s6 = .float .f64 h ∧ w = wx)
  case first =>
    go_wp2_with fail
    all_goals go_meet
    · have hn : neg = true := by assumption
      exact ⟨by first | rfl | (rw [hn]), congrArg (Value.float .f64) (by rw [← hh.out, if_pos hn]), rfl⟩
    · have hn : neg = false := by assumption
      exact ⟨by rw [hn], congrArg (Value.float .f64) (by rw [← hh.out, if_neg (by rw [hn]; decide)]), rfl⟩
  case rest =>
    obtain ⟨rfl, rfl, hwc⟩ := hcut
    subst wc
    go_wp2
    all_goals go_ret2
    all_goals exact ⟨rfl, rfl⟩
set_option maxRecDepth 100000 in
set_option maxHeartbeats 1000000 in
theorem exact_bigo (d f h : Nat) (k : Nat) (hk : 1 ≤ k ∧ k ≤ 15) (neg : Bool) (hd : ((d : Int) / 4503599627370496 != 0) = false) (hf : floatOfInt .f64 (d : Int) = f) (hh : Hid ((if neg then Op.negFloat .f64 f else f) = h)) (w : World) (i0 : w.cell? ⟨7, 0, none⟩ = some (.int .u64 52)) (N o c y : Nat) (t0 : w.cell? ⟨12, 0, none⟩ = some (.slice (some ⟨N, o, none⟩) 23 c)) (tk : w.cell? ⟨N, o + k, none⟩ = some (.float .f64 y)) (h1 : Nat) (hr1 : ∀ t w, (binOp .mul t (.float .f64 h) (.float .f64 y)).run Tryz.prog w = .ok (.float .f64 h1) w)  (g1 : (FloatKind.f64.format.order h1 4831355200913801216 == some .gt) = true ∨ (FloatKind.f64.format.order h1 4831355200913801216 == some .gt) = false ∧ (FloatKind.f64.format.order h1 14054727237768577024 == some .lt) = true) :
    Calls Tryz.prog 152 #[.int .u64 d, .int .i64 ((k : Int) + 22), .bool neg] w fun e w' => e = .returned (.tuple #[.float .f64 h1, .bool false]) ∧ w = w' := by
  go_enter Tryz.func152, Tryz.ntmps152
  go_upto_if 15 with fail
  go_cut [2, 6] (fun s2 s6 wx => s2 = .bool neg ∧ s6 = .float .f64 h ∧ w = wx)
  case first =>
    go_wp2_with fail
    all_goals go_meet
    · have hn : neg = true := by assumption
      exact ⟨by first | rfl | (rw [hn]), congrArg (Value.float .f64) (by rw [← hh.out, if_pos hn]), rfl⟩
    · have hn : neg = false := by assumption
      exact ⟨by rw [hn], congrArg (Value.float .f64) (by rw [← hh.out, if_neg (by rw [hn]; decide)]), rfl⟩
  case rest =>
    obtain ⟨rfl, rfl, hwc⟩ := hcut
    subst wc
    rcases g1 with g1 | ⟨g1, g2⟩
    all_goals
      go_wp2
      all_goals go_ret2
      all_goals exact ⟨rfl, rfl⟩
end Go.Proofs.YtikpgglbfpdhmaaGreatDoor

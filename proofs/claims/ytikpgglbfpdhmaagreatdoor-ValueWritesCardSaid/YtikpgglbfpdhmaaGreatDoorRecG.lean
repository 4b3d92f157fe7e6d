/- A value turned, in the program and in the reference. -/
import Derived.Test.YtikpgglbfpdhmaaGreatDoorValI
import Derived.Test.YtikpgglbfpdhmaaGreatDoorVMore
namespace Go.Proofs.YtikpgglbfpdhmaaGreatDoor
open Go.RowKit Go.Joins
attribute [local go_sem ↓] Go.wp_at_zero Go.wp_at_succ

@[local go_sem] theorem run_neg_float {P : Program} (w : World) (k : FloatKind) (b : Nat) : (Op.unary .neg (.float k b)).run P w = .ok (.float k (Op.negFloat k b)) w := rfl
/-- The bits of a float turned. -/
theorem fneg_low (x : Nat) : Op.negFloat .f64 x % 9223372036854775808 = x % 9223372036854775808 := by
  have e : Op.negFloat .f64 x = x ^^^ 2 ^ 63 := rfl
  rw [e, show (9223372036854775808 : Nat) = 2 ^ 63 from rfl, Nat.xor_mod_two_pow]
  simp
theorem nan_low {x y : Nat} (h : x % 9223372036854775808 = y % 9223372036854775808) : (rd64 x).isNaN = (rd64 y).isNaN := by
  have c1 : FloatKind.f64.format.signWeight = 9223372036854775808 := by decide +kernel
  show (FloatKind.f64.format.read x).isNaN = (FloatKind.f64.format.read y).isNaN
  unfold Ieee.Format.read
  rw [c1]
  simp only [h]
  split
  · rfl
  · split
    · rfl
    · split <;> rfl
theorem fneg_one {x y : Nat} (h : FOne x y) : FOne (freal (Op.negFloat .f64 x)) (rreal (Op.negFloat .f64 y)) := by
  rcases h with ⟨h1, h2⟩ | ⟨_, rfl⟩
  · left
    have g1 : fnan (Op.negFloat .f64 x) = true := by rw [fnan_iff, nan_low (fneg_low x), ← fnan_iff]; exact h1
    have g2 : fnan (Op.negFloat .f64 y) = true := by rw [fnan_iff, nan_low (fneg_low y), ← fnan_iff]; exact h2
    constructor
    · unfold freal; rw [if_pos g1]; exact fnan_nanBits
    · unfold rreal; rw [feq_nan_left g2]; exact g2
  · exact freal_rreal _

set_option maxRecDepth 100000 in
set_option maxHeartbeats 1000000 in
theorem neg_real (k n : Int) (f : Nat) (s : ByteArray) (N : Int) (F : Nat) (S : ByteArray) (H : Cleans k n f s 2 N F S) (w : World) :
    Calls Tryz.prog 34 #[.agg #[.int .i64 k, .int .i64 n, .float .f64 f, .string s]] w fun e w' => e = .returned (.agg #[.int .i64 2, .int .i64 0, .float .f64 (freal (Op.negFloat .f64 F)), .string ⟨#[]⟩]) ∧ Below w.heap.size w w' := by
  go_enter Tryz.func34, Tryz.ntmps34
  go_wp2_with (first | (go_at_call 30; with_reducible refine (H.at _).mono ?_; rintro e w1 ⟨rfl, hb⟩; obtain ⟨hc0, hf0, hz0⟩ := newc hb w.heap.size (by first | omega | (simp; done) | (simp; omega)); obtain ⟨hc1, hf1, hz1⟩ := newc hb (w.heap.size + 1) (by first | omega | (simp; done) | (simp; omega))) | (go_at_call 22; refine (ofReal_any _ _).mono ?_; rintro e w1 ⟨rfl, hb⟩; obtain ⟨hc0, hf0, hz0⟩ := newc hb w.heap.size (by first | omega | (simp; done) | (simp; omega)); obtain ⟨hc1, hf1, hz1⟩ := newc hb (w.heap.size + 1) (by first | omega | (simp; done) | (simp; omega))))
  exact bodyPost_ret (by simp [results, Tryz.results34, go_sem, *]) rfl ⟨rfl, (by repeat' (first | with_reducible exact Below.refl _ _ | with_reducible refine below_step ?_ (by assumption) | with_reducible apply below_set' | with_reducible apply below_alloc' | with_reducible apply Below.drew | with_reducible apply below_drewN' | (simp; done) | omega | (simp; omega)))⟩
set_option maxRecDepth 100000 in
set_option maxHeartbeats 1000000 in
theorem neg_other (k n : Int) (f : Nat) (s : ByteArray) (K N : Int) (F : Nat) (S : ByteArray) (H : Cleans k n f s K N F S) (h : (K == 2) = false) (K2 N2 : Int)
    (HA : Hid (∀ w, Calls Tryz.prog 17 #[.string ⟨#[45]⟩, .agg #[.int .i64 1, .int .i64 0, .float .f64 0, .string ⟨#[]⟩], .agg #[.int .i64 K, .int .i64 N, .float .f64 F, .string S]] w fun e w' => e = .returned (.agg #[.int .i64 K2, .int .i64 N2, .float .f64 0, .string ⟨#[]⟩]) ∧ Below w.heap.size w w')) (w : World) :
    Calls Tryz.prog 34 #[.agg #[.int .i64 k, .int .i64 n, .float .f64 f, .string s]] w fun e w' => e = .returned (.agg #[.int .i64 K2, .int .i64 N2, .float .f64 0, .string ⟨#[]⟩]) ∧ Below w.heap.size w w' := by
  go_enter Tryz.func34, Tryz.ntmps34
  go_upto_region 4 with (go_at_call 30; with_reducible refine (H.at _).mono ?_; rintro e w1 ⟨rfl, hb⟩; obtain ⟨hc0, hf0, hz0⟩ := newc hb w.heap.size (by first | omega | (simp; done) | (simp; omega)); obtain ⟨hc1, hf1, hz1⟩ := newc hb (w.heap.size + 1) (by first | omega | (simp; done) | (simp; omega)))
  go_region_with (first | (go_at_call 16; refine (ofInt_any _ _).mono ?_; rintro e w1 ⟨rfl, hb⟩; obtain ⟨hc0, hf0, hz0⟩ := newc hb w.heap.size (by first | omega | (simp; done) | (simp; omega)); obtain ⟨hc1, hf1, hz1⟩ := newc hb (w.heap.size + 1) (by first | omega | (simp; done) | (simp; omega))) | (go_at_call 17; with_reducible refine (HA.out _).mono ?_; rintro e w1 ⟨rfl, hb⟩; obtain ⟨hc0, hf0, hz0⟩ := newc hb w.heap.size (by first | omega | (simp; done) | (simp; omega)); obtain ⟨hc1, hf1, hz1⟩ := newc hb (w.heap.size + 1) (by first | omega | (simp; done) | (simp; omega))))
  all_goals go_wp2
  all_goals exact bodyPost_ret (by simp [results, Tryz.results34, go_sem, *]) rfl ⟨rfl, (by repeat' (first | with_reducible exact Below.refl _ _ | with_reducible refine below_step ?_ (by assumption) | with_reducible apply below_set' | with_reducible apply below_alloc' | with_reducible apply Below.drew | with_reducible apply below_drewN' | (simp; done) | omega | (simp; omega)))⟩
set_option maxRecDepth 100000 in
set_option maxHeartbeats 1000000 in
theorem rneg_real (k n : Int) (f : Nat) (s : ByteArray) (N : Int) (F : Nat) (S : ByteArray) (H : RCleans k n f s 2 N F S) (w : World) :
    Calls Tryz.prog 35 #[.agg #[.int .i64 k, .int .i64 n, .float .f64 f, .string s]] w fun e w' => e = .returned (.agg #[.int .i64 2, .int .i64 0, .float .f64 (rreal (Op.negFloat .f64 F)), .string ⟨#[]⟩]) ∧ Below w.heap.size w w' := by
  have R := fun r => show RCleans 2 0 r ⟨#[]⟩ 2 0 (rreal r) ⟨#[]⟩ from fun w => rclean_any 2 0 r ⟨#[]⟩ w
  go_enter Tryz.func35, Tryz.ntmps35
  go_wp2_with (go_at_call 20; first | (with_reducible refine (H.at _).mono ?_; rintro e w1 ⟨rfl, hb⟩; obtain ⟨hc0, hf0, hz0⟩ := newc hb w.heap.size (by first | omega | (simp; done) | (simp; omega)); obtain ⟨hc1, hf1, hz1⟩ := newc hb (w.heap.size + 1) (by first | omega | (simp; done) | (simp; omega))) | (with_reducible refine ((R _).at _).mono ?_; rintro e w1 ⟨rfl, hb⟩; obtain ⟨hc0, hf0, hz0⟩ := newc hb w.heap.size (by first | omega | (simp; done) | (simp; omega)); obtain ⟨hc1, hf1, hz1⟩ := newc hb (w.heap.size + 1) (by first | omega | (simp; done) | (simp; omega))))
  exact bodyPost_ret (by simp [results, Tryz.results35, go_sem, *]) rfl ⟨rfl, (by repeat' (first | with_reducible exact Below.refl _ _ | with_reducible refine below_step ?_ (by assumption) | with_reducible apply below_set' | with_reducible apply below_alloc' | with_reducible apply Below.drew | with_reducible apply below_drewN' | (simp; done) | omega | (simp; omega)))⟩
set_option maxRecDepth 100000 in
set_option maxHeartbeats 1000000 in
theorem rneg_int (k n : Int) (f : Nat) (s : ByteArray) (N : Int) (F : Nat) (S : ByteArray) (H : RCleans k n f s 1 N F S) (g1 : -9223372036854775808 < N) (g2 : N ≤ 9223372036854775807) (w : World) :
    Calls Tryz.prog 35 #[.agg #[.int .i64 k, .int .i64 n, .float .f64 f, .string s]] w fun e w' => e = .returned (.agg #[.int .i64 1, .int .i64 (-N), .float .f64 0, .string ⟨#[]⟩]) ∧ Below w.heap.size w w' := by
  go_enter Tryz.func35, Tryz.ntmps35
  go_wp2_with (go_at_call 20; with_reducible refine (H.at _).mono ?_; rintro e w1 ⟨rfl, hb⟩; obtain ⟨hc0, hf0, hz0⟩ := newc hb w.heap.size (by first | omega | (simp; done) | (simp; omega)); obtain ⟨hc1, hf1, hz1⟩ := newc hb (w.heap.size + 1) (by first | omega | (simp; done) | (simp; omega)))
  exact bodyPost_ret (by simp [results, Tryz.results35, go_sem, *]) rfl ⟨rfl, (by repeat' (first | with_reducible exact Below.refl _ _ | with_reducible refine below_step ?_ (by assumption) | with_reducible apply below_set' | with_reducible apply below_alloc' | with_reducible apply Below.drew | with_reducible apply below_drewN' | (simp; done) | omega | (simp; omega)))⟩
set_option maxRecDepth 100000 in
set_option maxHeartbeats 1000000 in
theorem rneg_min (k n : Int) (f : Nat) (s : ByteArray) (N : Int) (F : Nat) (S : ByteArray) (H : RCleans k n f s 1 N F S) (g : N = -9223372036854775808) (w : World) :
    Calls Tryz.prog 35 #[.agg #[.int .i64 k, .int .i64 n, .float .f64 f, .string s]] w fun e w' => e = .returned (.agg #[.int .i64 0, .int .i64 0, .float .f64 0, .string ⟨#[]⟩]) ∧ Below w.heap.size w w' := by
  go_enter Tryz.func35, Tryz.ntmps35
  go_wp2_with (go_at_call 20; with_reducible refine (H.at _).mono ?_; rintro e w1 ⟨rfl, hb⟩; obtain ⟨hc0, hf0, hz0⟩ := newc hb w.heap.size (by first | omega | (simp; done) | (simp; omega)); obtain ⟨hc1, hf1, hz1⟩ := newc hb (w.heap.size + 1) (by first | omega | (simp; done) | (simp; omega)))
  exact bodyPost_ret (by simp [results, Tryz.results35, go_sem, *]) rfl ⟨rfl, (by repeat' (first | with_reducible exact Below.refl _ _ | with_reducible refine below_step ?_ (by assumption) | with_reducible apply below_set' | with_reducible apply below_alloc' | with_reducible apply Below.drew | with_reducible apply below_drewN' | (simp; done) | omega | (simp; omega)))⟩
set_option maxRecDepth 100000 in
set_option maxHeartbeats 1000000 in
theorem rneg_none (k n : Int) (f : Nat) (s : ByteArray) (K N : Int) (F : Nat) (S : ByteArray) (H : RCleans k n f s K N F S) (h1 : (K == 1) = false) (h2 : (K == 2) = false) (w : World) :
    Calls Tryz.prog 35 #[.agg #[.int .i64 k, .int .i64 n, .float .f64 f, .string s]] w fun e w' => e = .returned (.agg #[.int .i64 0, .int .i64 0, .float .f64 0, .string ⟨#[]⟩]) ∧ Below w.heap.size w w' := by
  go_enter Tryz.func35, Tryz.ntmps35
  go_wp2_with (go_at_call 20; with_reducible refine (H.at _).mono ?_; rintro e w1 ⟨rfl, hb⟩; obtain ⟨hc0, hf0, hz0⟩ := newc hb w.heap.size (by first | omega | (simp; done) | (simp; omega)); obtain ⟨hc1, hf1, hz1⟩ := newc hb (w.heap.size + 1) (by first | omega | (simp; done) | (simp; omega)))
  all_goals exact bodyPost_ret (by simp [results, Tryz.results35, go_sem, *]) rfl ⟨rfl, (by repeat' (first | with_reducible exact Below.refl _ _ | with_reducible refine below_step ?_ (by assumption) | with_reducible apply below_set' | with_reducible apply below_alloc' | with_reducible apply Below.drew | with_reducible apply below_drewN' | (simp; done) | omega | (simp; omega)))⟩
end Go.Proofs.YtikpgglbfpdhmaaGreatDoor

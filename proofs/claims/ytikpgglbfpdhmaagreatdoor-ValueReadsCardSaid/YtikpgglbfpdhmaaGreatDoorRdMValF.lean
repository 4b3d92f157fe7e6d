/- The order of two values, in the program. -/
import Derived.Test.YtikpgglbfpdhmaaGreatDoorRdMRdM
namespace Go.Proofs.YtikpgglbfpdhmaaGreatDoor
open Go.RowKit Go.Joins
attribute [local go_sem ↓] Go.wp_at_zero Go.wp_at_succ

/-- What Clean gives at a value. -/
def Cleans (k n : Int) (f : Nat) (s : ByteArray) (K N : Int) (F : Nat) (S : ByteArray) : Prop :=
  ∀ w, Calls Tryz.prog 30 #[.agg #[.int .i64 k, .int .i64 n, .float .f64 f, .string s]] w fun e w' => e = .returned (.agg #[.int .i64 K, .int .i64 N, .float .f64 F, .string S]) ∧ Below w.heap.size w w'

theorem Cleans.at {k n : Int} {f : Nat} {s : ByteArray} {K N : Int} {F : Nat} {S : ByteArray} (h : Cleans k n f s K N F S) (w : World) :
    Calls Tryz.prog 30 #[.agg #[.int .i64 k, .int .i64 n, .float .f64 f, .string s]] w fun e w' => e = .returned (.agg #[.int .i64 K, .int .i64 N, .float .f64 F, .string S]) ∧ Below w.heap.size w w' := h w

set_option maxHeartbeats 1000000 in
theorem order_diff (k n : Int) (f : Nat) (s : ByteArray) (K N : Int) (F : Nat) (S : ByteArray) (k' n' : Int) (f' : Nat) (s' : ByteArray) (K' N' : Int) (F' : Nat) (S' : ByteArray)
    (H : Cleans k n f s K N F S) (H' : Cleans k' n' f' s' K' N' F' S') (hk : (K != K') = true) (w : World) :
    Calls Tryz.prog 15 #[.agg #[.int .i64 k, .int .i64 n, .float .f64 f, .string s], .agg #[.int .i64 k', .int .i64 n', .float .f64 f', .string s']] w fun e w' => e = .returned (.int .i64 (icmp K K')) ∧ Below w.heap.size w w' := by
  go_enter Tryz.func15, Tryz.ntmps15
  go_wp2_with fail
  go_region_with (first | (go_at_call 30; with_reducible refine (H.at _).mono ?_; rintro e w1 ⟨rfl, hb⟩; obtain ⟨hc0, hf0, hz0⟩ := newc hb w.heap.size (by first | omega | (simp; done) | (simp; omega)); obtain ⟨hc1, hf1, hz1⟩ := newc hb (w.heap.size + 1) (by first | omega | (simp; done) | (simp; omega))) | (go_at_call 30; with_reducible refine (H'.at _).mono ?_; rintro e w1 ⟨rfl, hb⟩; obtain ⟨hc0, hf0, hz0⟩ := newc hb w.heap.size (by first | omega | (simp; done) | (simp; omega)); obtain ⟨hc1, hf1, hz1⟩ := newc hb (w.heap.size + 1) (by first | omega | (simp; done) | (simp; omega))))
  all_goals
    go_wp2_with (go_at_call 47; refine (cmpInt_any _ _ _).mono ?_; rintro e w1 ⟨rfl, rfl⟩)
    go_ret
    exact ⟨rfl, (by repeat' (first | with_reducible exact Below.refl _ _ | with_reducible refine below_step ?_ (by assumption) | with_reducible apply below_set' | with_reducible apply below_alloc' | with_reducible apply Below.drew | with_reducible apply below_drewN' | (simp; done) | omega | (simp; omega)))⟩
set_option maxHeartbeats 1000000 in
theorem order_num (c : Int) (k n : Int) (f : Nat) (s : ByteArray) (N : Int) (F : Nat) (S : ByteArray) (k' n' : Int) (f' : Nat) (s' : ByteArray) (N' : Int) (F' : Nat) (S' : ByteArray)
    (H : Cleans k n f s c N F S) (H' : Cleans k' n' f' s' c N' F' S') (h2 : ¬ c = 2) (h3 : ¬ c = 3) (w : World) :
    Calls Tryz.prog 15 #[.agg #[.int .i64 k, .int .i64 n, .float .f64 f, .string s], .agg #[.int .i64 k', .int .i64 n', .float .f64 f', .string s']] w fun e w' => e = .returned (.int .i64 (icmp N N')) ∧ Below w.heap.size w w' := by
  go_enter Tryz.func15, Tryz.ntmps15
  go_wp2_with fail
  go_region_with (first | (go_at_call 30; with_reducible refine (H.at _).mono ?_; rintro e w1 ⟨rfl, hb⟩; obtain ⟨hc0, hf0, hz0⟩ := newc hb w.heap.size (by first | omega | (simp; done) | (simp; omega)); obtain ⟨hc1, hf1, hz1⟩ := newc hb (w.heap.size + 1) (by first | omega | (simp; done) | (simp; omega))) | (go_at_call 30; with_reducible refine (H'.at _).mono ?_; rintro e w1 ⟨rfl, hb⟩; obtain ⟨hc0, hf0, hz0⟩ := newc hb w.heap.size (by first | omega | (simp; done) | (simp; omega)); obtain ⟨hc1, hf1, hz1⟩ := newc hb (w.heap.size + 1) (by first | omega | (simp; done) | (simp; omega))))
  all_goals
    go_wp2_with (go_at_call 50; refine (cmpInt64_any _ _ _).mono ?_; rintro e w1 ⟨rfl, rfl⟩)
    go_ret
    exact ⟨rfl, (by repeat' (first | with_reducible exact Below.refl _ _ | with_reducible refine below_step ?_ (by assumption) | with_reducible apply below_set' | with_reducible apply below_alloc' | with_reducible apply Below.drew | with_reducible apply below_drewN' | (simp; done) | omega | (simp; omega)))⟩
set_option maxHeartbeats 1000000 in
theorem order_text (k n : Int) (f : Nat) (s : ByteArray) (N : Int) (F : Nat) (S : ByteArray) (k' n' : Int) (f' : Nat) (s' : ByteArray) (N' : Int) (F' : Nat) (S' : ByteArray)
    (H : Cleans k n f s 3 N F S) (H' : Cleans k' n' f' s' 3 N' F' S') (w : World) :
    Calls Tryz.prog 15 #[.agg #[.int .i64 k, .int .i64 n, .float .f64 f, .string s], .agg #[.int .i64 k', .int .i64 n', .float .f64 f', .string s']] w fun e w' => e = .returned (.int .i64 (Lib.compareBytes S.data.toList S'.data.toList)) ∧ Below w.heap.size w w' := by
  go_enter Tryz.func15, Tryz.ntmps15
  go_wp2_with fail
  go_region_with (first | (go_at_call 30; with_reducible refine (H.at _).mono ?_; rintro e w1 ⟨rfl, hb⟩; obtain ⟨hc0, hf0, hz0⟩ := newc hb w.heap.size (by first | omega | (simp; done) | (simp; omega)); obtain ⟨hc1, hf1, hz1⟩ := newc hb (w.heap.size + 1) (by first | omega | (simp; done) | (simp; omega))) | (go_at_call 30; with_reducible refine (H'.at _).mono ?_; rintro e w1 ⟨rfl, hb⟩; obtain ⟨hc0, hf0, hz0⟩ := newc hb w.heap.size (by first | omega | (simp; done) | (simp; omega)); obtain ⟨hc1, hf1, hz1⟩ := newc hb (w.heap.size + 1) (by first | omega | (simp; done) | (simp; omega))))
  all_goals
    go_wp2_with (go_at_call 49; refine (cmpStr_any _ _ _).mono ?_; rintro e w1 ⟨rfl, rfl⟩)
    go_ret
    exact ⟨rfl, (by repeat' (first | with_reducible exact Below.refl _ _ | with_reducible refine below_step ?_ (by assumption) | with_reducible apply below_set' | with_reducible apply below_alloc' | with_reducible apply Below.drew | with_reducible apply below_drewN' | (simp; done) | omega | (simp; omega)))⟩
set_option maxHeartbeats 1000000 in
theorem order_real_tt (k n : Int) (f : Nat) (s : ByteArray) (N : Int) (F : Nat) (S : ByteArray) (k' n' : Int) (f' : Nat) (s' : ByteArray) (N' : Int) (F' : Nat) (S' : ByteArray)
    (H : Cleans k n f s 2 N F S) (H' : Cleans k' n' f' s' 2 N' F' S') (a1 : fnan F = true) (a2 : fnan F' = true) (w : World) :
    Calls Tryz.prog 15 #[.agg #[.int .i64 k, .int .i64 n, .float .f64 f, .string s], .agg #[.int .i64 k', .int .i64 n', .float .f64 f', .string s']] w fun e w' => e = .returned (.int .i64 (0)) ∧ Below w.heap.size w w' := by
  go_enter Tryz.func15, Tryz.ntmps15
  go_wp2_with fail
  go_region_with (first | (go_at_call 30; with_reducible refine (H.at _).mono ?_; rintro e w1 ⟨rfl, hb⟩; obtain ⟨hc0, hf0, hz0⟩ := newc hb w.heap.size (by first | omega | (simp; done) | (simp; omega)); obtain ⟨hc1, hf1, hz1⟩ := newc hb (w.heap.size + 1) (by first | omega | (simp; done) | (simp; omega))) | (go_at_call 30; with_reducible refine (H'.at _).mono ?_; rintro e w1 ⟨rfl, hb⟩; obtain ⟨hc0, hf0, hz0⟩ := newc hb w.heap.size (by first | omega | (simp; done) | (simp; omega)); obtain ⟨hc1, hf1, hz1⟩ := newc hb (w.heap.size + 1) (by first | omega | (simp; done) | (simp; omega))))
  all_goals
    go_wp2_with fail
    go_region_held3 (fun w' => w'.cell? ⟨w.heap.size, 2, none⟩ = some (.float .f64 F) ∧ w'.cell? ⟨w.heap.size + 1, 2, none⟩ = some (.float .f64 F')) ((simp [*, go_sem]))
      (first | (go_at_call 46; with_reducible refine (isNaN_any F _).mono ?_; rw [a1]; rintro e w1 ⟨rfl, rfl⟩) | (go_at_call 46; with_reducible refine (isNaN_any F' _).mono ?_; rw [a2]; rintro e w1 ⟨rfl, rfl⟩))
    go_wp2_with (go_at_call 48; refine (cmpFloat_any _ _ _).mono ?_; rintro e w1 ⟨rfl, rfl⟩)
    go_ret
    exact ⟨rfl, (by repeat' (first | with_reducible exact Below.refl _ _ | with_reducible refine below_step ?_ (by assumption) | with_reducible apply below_set' | with_reducible apply below_alloc' | with_reducible apply Below.drew | with_reducible apply below_drewN' | (simp; done) | omega | (simp; omega)))⟩
set_option maxHeartbeats 1000000 in
theorem order_real_tf (k n : Int) (f : Nat) (s : ByteArray) (N : Int) (F : Nat) (S : ByteArray) (k' n' : Int) (f' : Nat) (s' : ByteArray) (N' : Int) (F' : Nat) (S' : ByteArray)
    (H : Cleans k n f s 2 N F S) (H' : Cleans k' n' f' s' 2 N' F' S') (a1 : fnan F = true) (a2 : fnan F' = false) (w : World) :
    Calls Tryz.prog 15 #[.agg #[.int .i64 k, .int .i64 n, .float .f64 f, .string s], .agg #[.int .i64 k', .int .i64 n', .float .f64 f', .string s']] w fun e w' => e = .returned (.int .i64 (1)) ∧ Below w.heap.size w w' := by
  go_enter Tryz.func15, Tryz.ntmps15
  go_wp2_with fail
  go_region_with (first | (go_at_call 30; with_reducible refine (H.at _).mono ?_; rintro e w1 ⟨rfl, hb⟩; obtain ⟨hc0, hf0, hz0⟩ := newc hb w.heap.size (by first | omega | (simp; done) | (simp; omega)); obtain ⟨hc1, hf1, hz1⟩ := newc hb (w.heap.size + 1) (by first | omega | (simp; done) | (simp; omega))) | (go_at_call 30; with_reducible refine (H'.at _).mono ?_; rintro e w1 ⟨rfl, hb⟩; obtain ⟨hc0, hf0, hz0⟩ := newc hb w.heap.size (by first | omega | (simp; done) | (simp; omega)); obtain ⟨hc1, hf1, hz1⟩ := newc hb (w.heap.size + 1) (by first | omega | (simp; done) | (simp; omega))))
  all_goals
    go_wp2_with fail
    go_region_held3 (fun w' => w'.cell? ⟨w.heap.size, 2, none⟩ = some (.float .f64 F) ∧ w'.cell? ⟨w.heap.size + 1, 2, none⟩ = some (.float .f64 F')) ((simp [*, go_sem]))
      (first | (go_at_call 46; with_reducible refine (isNaN_any F _).mono ?_; rw [a1]; rintro e w1 ⟨rfl, rfl⟩) | (go_at_call 46; with_reducible refine (isNaN_any F' _).mono ?_; rw [a2]; rintro e w1 ⟨rfl, rfl⟩))
    go_wp2_with (go_at_call 48; refine (cmpFloat_any _ _ _).mono ?_; rintro e w1 ⟨rfl, rfl⟩)
    go_ret
    exact ⟨rfl, (by repeat' (first | with_reducible exact Below.refl _ _ | with_reducible refine below_step ?_ (by assumption) | with_reducible apply below_set' | with_reducible apply below_alloc' | with_reducible apply Below.drew | with_reducible apply below_drewN' | (simp; done) | omega | (simp; omega)))⟩
set_option maxHeartbeats 1000000 in
theorem order_real_ft (k n : Int) (f : Nat) (s : ByteArray) (N : Int) (F : Nat) (S : ByteArray) (k' n' : Int) (f' : Nat) (s' : ByteArray) (N' : Int) (F' : Nat) (S' : ByteArray)
    (H : Cleans k n f s 2 N F S) (H' : Cleans k' n' f' s' 2 N' F' S') (a1 : fnan F = false) (a2 : fnan F' = true) (w : World) :
    Calls Tryz.prog 15 #[.agg #[.int .i64 k, .int .i64 n, .float .f64 f, .string s], .agg #[.int .i64 k', .int .i64 n', .float .f64 f', .string s']] w fun e w' => e = .returned (.int .i64 (-1)) ∧ Below w.heap.size w w' := by
  go_enter Tryz.func15, Tryz.ntmps15
  go_wp2_with fail
  go_region_with (first | (go_at_call 30; with_reducible refine (H.at _).mono ?_; rintro e w1 ⟨rfl, hb⟩; obtain ⟨hc0, hf0, hz0⟩ := newc hb w.heap.size (by first | omega | (simp; done) | (simp; omega)); obtain ⟨hc1, hf1, hz1⟩ := newc hb (w.heap.size + 1) (by first | omega | (simp; done) | (simp; omega))) | (go_at_call 30; with_reducible refine (H'.at _).mono ?_; rintro e w1 ⟨rfl, hb⟩; obtain ⟨hc0, hf0, hz0⟩ := newc hb w.heap.size (by first | omega | (simp; done) | (simp; omega)); obtain ⟨hc1, hf1, hz1⟩ := newc hb (w.heap.size + 1) (by first | omega | (simp; done) | (simp; omega))))
  all_goals
    go_wp2_with fail
    go_region_held3 (fun w' => w'.cell? ⟨w.heap.size, 2, none⟩ = some (.float .f64 F) ∧ w'.cell? ⟨w.heap.size + 1, 2, none⟩ = some (.float .f64 F')) ((simp [*, go_sem]))
      (first | (go_at_call 46; with_reducible refine (isNaN_any F _).mono ?_; rw [a1]; rintro e w1 ⟨rfl, rfl⟩) | (go_at_call 46; with_reducible refine (isNaN_any F' _).mono ?_; rw [a2]; rintro e w1 ⟨rfl, rfl⟩))
    go_wp2_with (go_at_call 48; refine (cmpFloat_any _ _ _).mono ?_; rintro e w1 ⟨rfl, rfl⟩)
    go_ret
    exact ⟨rfl, (by repeat' (first | with_reducible exact Below.refl _ _ | with_reducible refine below_step ?_ (by assumption) | with_reducible apply below_set' | with_reducible apply below_alloc' | with_reducible apply Below.drew | with_reducible apply below_drewN' | (simp; done) | omega | (simp; omega)))⟩
set_option maxHeartbeats 1000000 in
theorem order_real_ff (k n : Int) (f : Nat) (s : ByteArray) (N : Int) (F : Nat) (S : ByteArray) (k' n' : Int) (f' : Nat) (s' : ByteArray) (N' : Int) (F' : Nat) (S' : ByteArray)
    (H : Cleans k n f s 2 N F S) (H' : Cleans k' n' f' s' 2 N' F' S') (a1 : fnan F = false) (a2 : fnan F' = false) (w : World) :
    Calls Tryz.prog 15 #[.agg #[.int .i64 k, .int .i64 n, .float .f64 f, .string s], .agg #[.int .i64 k', .int .i64 n', .float .f64 f', .string s']] w fun e w' => e = .returned (.int .i64 (fcmp F F')) ∧ Below w.heap.size w w' := by
  go_enter Tryz.func15, Tryz.ntmps15
  go_wp2_with fail
  go_region_with (first | (go_at_call 30; with_reducible refine (H.at _).mono ?_; rintro e w1 ⟨rfl, hb⟩; obtain ⟨hc0, hf0, hz0⟩ := newc hb w.heap.size (by first | omega | (simp; done) | (simp; omega)); obtain ⟨hc1, hf1, hz1⟩ := newc hb (w.heap.size + 1) (by first | omega | (simp; done) | (simp; omega))) | (go_at_call 30; with_reducible refine (H'.at _).mono ?_; rintro e w1 ⟨rfl, hb⟩; obtain ⟨hc0, hf0, hz0⟩ := newc hb w.heap.size (by first | omega | (simp; done) | (simp; omega)); obtain ⟨hc1, hf1, hz1⟩ := newc hb (w.heap.size + 1) (by first | omega | (simp; done) | (simp; omega))))
  all_goals
    go_wp2_with fail
    go_region_held3 (fun w' => w'.cell? ⟨w.heap.size, 2, none⟩ = some (.float .f64 F) ∧ w'.cell? ⟨w.heap.size + 1, 2, none⟩ = some (.float .f64 F')) ((simp [*, go_sem]))
      (first | (go_at_call 46; with_reducible refine (isNaN_any F _).mono ?_; rw [a1]; rintro e w1 ⟨rfl, rfl⟩) | (go_at_call 46; with_reducible refine (isNaN_any F' _).mono ?_; rw [a2]; rintro e w1 ⟨rfl, rfl⟩))
    go_wp2_with (go_at_call 48; refine (cmpFloat_any _ _ _).mono ?_; rintro e w1 ⟨rfl, rfl⟩)
    go_ret
    exact ⟨rfl, (by repeat' (first | with_reducible exact Below.refl _ _ | with_reducible refine below_step ?_ (by assumption) | with_reducible apply below_set' | with_reducible apply below_alloc' | with_reducible apply Below.drew | with_reducible apply below_drewN' | (simp; done) | omega | (simp; omega)))⟩
end Go.Proofs.YtikpgglbfpdhmaaGreatDoor

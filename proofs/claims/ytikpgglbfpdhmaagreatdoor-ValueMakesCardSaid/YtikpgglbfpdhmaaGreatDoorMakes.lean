/- The walk of ValueMakes. -/
import Derived.Test.YtikpgglbfpdhmaaGreatDoorTruths
namespace Go.Proofs.YtikpgglbfpdhmaaGreatDoor
open Go.RowKit Go.Joins
attribute [local go_sem ↓] Go.wp_at_zero Go.wp_at_succ

set_option maxHeartbeats 1000000 in
theorem makes_long (n : Int) (f : Nat) (s : ByteArray) (hs : (1000 : Int) < (s.size : Nat)) (w : World) :
    Calls Tryz.prog 6 #[.int .i64 n, .float .f64 f, .string s] w fun e w' => e = .returned (.bool true) ∧ Below w.heap.size w w' := by
  go_enter Tryz.func6, Tryz.ntmps6
  go_wp2_with (go_at_call 13; (with_reducible refine (lives_any _).mono ?_); rintro e w1 ⟨rfl, hb⟩)
  go_ret
  exact ⟨rfl, (by repeat' (first | with_reducible exact Below.refl _ _ | with_reducible refine below_step ?_ (by assumption) | with_reducible apply below_set' | with_reducible apply below_alloc' | with_reducible apply Below.drew | with_reducible apply below_drewN' | (simp; done) | omega | (simp; omega)))⟩
theorem rclean_real (f : Nat) (w : World) : Calls Tryz.prog 20 #[.agg #[.int .i64 2, .int .i64 0, .float .f64 f, .string ⟨#[]⟩]] w fun e w' => e = .returned (.agg #[.int .i64 2, .int .i64 0, .float .f64 (rreal f), .string ⟨#[]⟩]) ∧ Below w.heap.size w w' := rclean_2 0 f ⟨#[]⟩ w
theorem exact_text (s : ByteArray) (w : World) : Calls Tryz.prog 21 #[.agg #[.int .i64 3, .int .i64 0, .float .f64 0, .string s], .agg #[.int .i64 3, .int .i64 0, .float .f64 0, .string s]] w fun e w' => e = .returned (.bool true) ∧ Below w.heap.size w w' := exact_one 3 0 0 0 s (FOne.refl 0) w
theorem exact_real (f : Nat) (w : World) : Calls Tryz.prog 21 #[.agg #[.int .i64 2, .int .i64 0, .float .f64 (freal f), .string ⟨#[]⟩], .agg #[.int .i64 2, .int .i64 0, .float .f64 (rreal f), .string ⟨#[]⟩]] w fun e w' => e = .returned (.bool true) ∧ Below w.heap.size w w' := exact_one 2 0 _ _ _ (freal_rreal f) w
set_option maxRecDepth 100000 in
set_option maxHeartbeats 4000000 in
theorem makes_short (n : Int) (f : Nat) (s : ByteArray) (hs : ((s.size : Nat) : Int) ≤ 1000) (w : World) :
    Calls Tryz.prog 6 #[.int .i64 n, .float .f64 f, .string s] w fun e w' => e = .returned (.bool true) ∧ Below w.heap.size w w' := by
  have R := Lib.hid (rclean_real f)
  go_enter Tryz.func6, Tryz.ntmps6
  go_wp2_with fail
  refine (lives_any _).mono ?_
  rintro e w1 ⟨rfl, hb⟩
  go_wp2_with fail
  refine (R.out _).mono ?_
  rintro e w4 ⟨rfl, hb4⟩
  go_wp2_with fail
  go_region_held3 (fun w' => w'.cell? ⟨w4.heap.size, 0, none⟩ = some (.int .i64 2) ∧ w'.cell? ⟨w4.heap.size, 1, none⟩ = some (.int .i64 0) ∧ w'.cell? ⟨w4.heap.size, 2, none⟩ = some (.float .f64 (rreal f)) ∧ w'.cell? ⟨w4.heap.size, 3, none⟩ = some (.string ⟨#[]⟩)) ((simp [*, go_sem]))
    (first | (go_at_call 16; (with_reducible refine (ofInt_any _ _).mono ?_); rintro e w1 ⟨rfl, hb⟩; obtain ⟨hcw, _, hzw⟩ := newc hb w4.heap.size (by first | assumption | (simp; done) | omega | (simp; omega))) | (go_at_call 22; (with_reducible refine (ofReal_any _ _).mono ?_); rintro e w1 ⟨rfl, hb⟩; obtain ⟨hcw, _, hzw⟩ := newc hb w4.heap.size (by first | assumption | (simp; done) | omega | (simp; omega))) | (go_at_call 23; (with_reducible refine (ofText_any _ _).mono ?_); rintro e w1 ⟨rfl, hb⟩; obtain ⟨hcw, _, hzw⟩ := newc hb w4.heap.size (by first | assumption | (simp; done) | omega | (simp; omega))) | (go_at_call 24; (with_reducible refine (ofBool_any _ _).mono ?_); rintro e w1 ⟨rfl, hb⟩; obtain ⟨hcw, _, hzw⟩ := newc hb w4.heap.size (by first | assumption | (simp; done) | omega | (simp; omega))) | (go_at_call 25; (with_reducible refine (rBool_any _ _).mono ?_); rintro e w1 ⟨rfl, hb⟩; obtain ⟨hcw, _, hzw⟩ := newc hb w4.heap.size (by first | assumption | (simp; done) | omega | (simp; omega))) | (go_at_call 21; (with_reducible refine (exact_real _ _).mono ?_); rintro e w1 ⟨rfl, hb⟩; obtain ⟨hcw, _, hzw⟩ := newc hb w4.heap.size (by first | assumption | (simp; done) | omega | (simp; omega))) | (go_at_call 21; (with_reducible refine (exact_same _ _ _).mono ?_); rintro e w1 ⟨rfl, hb⟩; obtain ⟨hcw, _, hzw⟩ := newc hb w4.heap.size (by first | assumption | (simp; done) | omega | (simp; omega))) | (go_at_call 21; (with_reducible refine (exact_text _ _).mono ?_); rintro e w1 ⟨rfl, hb⟩; obtain ⟨hcw, _, hzw⟩ := newc hb w4.heap.size (by first | assumption | (simp; done) | omega | (simp; omega))))
  go_wp2
  go_ret
  exact ⟨rfl, (by repeat' (first | with_reducible exact Below.refl _ _ | with_reducible refine below_step ?_ (by assumption) | with_reducible apply below_set' | with_reducible apply below_alloc' | with_reducible apply Below.drew | with_reducible apply below_drewN' | (simp; done) | omega | (simp; omega)))⟩
theorem makes_law (n : Int) (f : Nat) (s : ByteArray) (w : World) :
    Calls Tryz.prog 6 #[.int .i64 n, .float .f64 f, .string s] w fun e w' => e = .returned (.bool true) ∧ Below w.heap.size w w' := by
  by_cases h : ((s.size : Nat) : Int) ≤ 1000
  · exact makes_short n f s h w
  · exact makes_long n f s (by omega) w
end Go.Proofs.YtikpgglbfpdhmaaGreatDoor

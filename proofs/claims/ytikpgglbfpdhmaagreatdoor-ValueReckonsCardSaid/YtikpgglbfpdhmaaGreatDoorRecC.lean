/- What two values come to, in the reference. -/
import Derived.Test.YtikpgglbfpdhmaaGreatDoorValI
import Derived.Test.YtikpgglbfpdhmaaGreatDoorRecB
import Derived.Test.YtikpgglbfpdhmaaGreatDoorVMore
namespace Go.Proofs.YtikpgglbfpdhmaaGreatDoor
open Go.RowKit Go.Joins
attribute [local go_sem ↓] Go.wp_at_zero Go.wp_at_succ

theorem radd_yes {a b : Int} (ha : Fit a) (hb : Fit b) (h : Fit (a + b)) (w : World) :
    Calls Tryz.prog 59 #[.int .i64 a, .int .i64 b] w fun e w' => e = .returned (.tuple #[.int .i64 (a + b), .bool true]) ∧ w = w' :=
  (radd_is a b ha hb w).mono fun e w' ⟨⟨r, he, hr⟩, hw⟩ => ⟨by rw [he, hr h, decide_eq_true h], hw⟩
theorem radd_no {a b : Int} (ha : Fit a) (hb : Fit b) (h : ¬ Fit (a + b)) (w : World) :
    Calls Tryz.prog 59 #[.int .i64 a, .int .i64 b] w fun e w' => (∃ r, e = .returned (.tuple #[.int .i64 r, .bool false])) ∧ w = w' :=
  (radd_is a b ha hb w).mono fun e w' ⟨⟨r, he, _⟩, hw⟩ => ⟨⟨r, by rw [he, decide_eq_false h]⟩, hw⟩
theorem rmul_yes {a b : Int} (ha : Fit a) (hb : Fit b) (h : Fit (a * b)) (w : World) :
    Calls Tryz.prog 60 #[.int .i64 a, .int .i64 b] w fun e w' => e = .returned (.tuple #[.int .i64 (a * b), .bool true]) ∧ w = w' :=
  (rmul_is a b ha hb w).mono fun e w' ⟨⟨r, he, hr⟩, hw⟩ => ⟨by rw [he, hr h, decide_eq_true h], hw⟩
theorem rmul_no {a b : Int} (ha : Fit a) (hb : Fit b) (h : ¬ Fit (a * b)) (w : World) :
    Calls Tryz.prog 60 #[.int .i64 a, .int .i64 b] w fun e w' => (∃ r, e = .returned (.tuple #[.int .i64 r, .bool false])) ∧ w = w' :=
  (rmul_is a b ha hb w).mono fun e w' ⟨⟨r, he, _⟩, hw⟩ => ⟨⟨r, by rw [he, decide_eq_false h]⟩, hw⟩
theorem rclean_real (r : Nat) (w : World) :
    Calls Tryz.prog 20 #[.agg #[.int .i64 2, .int .i64 0, .float .f64 r, .string ⟨#[]⟩]] w fun e w' => e = .returned (.agg #[.int .i64 2, .int .i64 0, .float .f64 (rreal r), .string ⟨#[]⟩]) ∧ Below w.heap.size w w' := rclean_any 2 0 r ⟨#[]⟩ w
theorem rreal_nan {r : Nat} (h : fnan r = true) : rreal r = r := by unfold rreal; rw [feq_nan_left h]; rfl
theorem rclean_nan (r : Nat) (h : (rd64 r).isNaN = true) (w : World) :
    Calls Tryz.prog 20 #[.agg #[.int .i64 2, .int .i64 0, .float .f64 r, .string ⟨#[]⟩]] w fun e w' => (∃ g, FOne 9221120237041090561 g ∧ e = .returned (.agg #[.int .i64 2, .int .i64 0, .float .f64 g, .string ⟨#[]⟩])) ∧ Below w.heap.size w w' :=
  (rclean_real r w).mono fun e w' ⟨he, hb⟩ => ⟨⟨rreal r, Or.inl ⟨fnan_nanBits, by rw [rreal_nan (by rw [fnan_iff]; exact h), fnan_iff]; exact h⟩, he⟩, hb⟩
set_option maxRecDepth 100000 in
set_option maxHeartbeats 1000000 in
theorem rarith_add_yes (k n : Int) (f : Nat) (s : ByteArray) (N : Int) (F : Nat) (S : ByteArray) (k' n' : Int) (f' : Nat) (s' : ByteArray) (N' : Int) (F' : Nat) (S' : ByteArray)
    (H : RCleans k n f s 1 N F S) (H' : RCleans k' n' f' s' 1 N' F' S') (R : Int) (HW : Hid (∀ w, Calls Tryz.prog 59 #[.int .i64 N, .int .i64 N'] w fun e w' => e = .returned (.tuple #[.int .i64 R, .bool true]) ∧ w = w')) (w : World) :
    Calls Tryz.prog 33 #[.string ⟨#[43]⟩, .agg #[.int .i64 k, .int .i64 n, .float .f64 f, .string s], .agg #[.int .i64 k', .int .i64 n', .float .f64 f', .string s']] w fun e w' => e = .returned (.agg #[.int .i64 1, .int .i64 R, .float .f64 0, .string ⟨#[]⟩]) ∧ Below w.heap.size w w' := by
  go_enter Tryz.func33, Tryz.ntmps33
  go_upto_region 1 with fail
  go_cut [] (fun wx => wx.cell? ⟨w.heap.size, 0, none⟩ = some (.int .i64 1) ∧ wx.cell? ⟨w.heap.size, 1, none⟩ = some (.int .i64 N) ∧ wx.cell? ⟨w.heap.size, 2, none⟩ = some (.float .f64 F) ∧ wx.cell? ⟨w.heap.size, 3, none⟩ = some (.string S) ∧ wx.cell? ⟨w.heap.size + 1, 0, none⟩ = some (.int .i64 1) ∧ wx.cell? ⟨w.heap.size + 1, 1, none⟩ = some (.int .i64 N') ∧ wx.cell? ⟨w.heap.size + 1, 2, none⟩ = some (.float .f64 F') ∧ wx.cell? ⟨w.heap.size + 1, 3, none⟩ = some (.string S') ∧ wx.cell? ⟨w.heap.size + 1 + 1, 0, none⟩ = some (.int .i64 0) ∧ wx.cell? ⟨w.heap.size + 1 + 1, 1, none⟩ = some (.int .i64 0) ∧ wx.cell? ⟨w.heap.size + 1 + 1, 2, none⟩ = some (.float .f64 0) ∧ wx.cell? ⟨w.heap.size + 1 + 1, 3, none⟩ = some (.string ⟨#[]⟩) ∧ (∀ o, wx.frozen? ⟨w.heap.size + 1 + 1, o, none⟩ = false) ∧ w.heap.size < wx.heap.size ∧ w.heap.size + 1 < wx.heap.size ∧ w.heap.size + 1 + 1 < wx.heap.size ∧ Below w.heap.size w wx)
  case first =>
    go_region_with (first | (go_at_call 20; with_reducible refine (H.at _).mono ?_; rintro e w1 ⟨rfl, hb⟩; obtain ⟨hc0, hf0, hz0⟩ := newc hb w.heap.size (by first|omega|(simp; done)|(simp; omega)); obtain ⟨hc1, hf1, hz1⟩ := newc hb (w.heap.size + 1) (by first|omega|(simp; done)|(simp; omega)); obtain ⟨hc2, hf2, hz2⟩ := newc hb (w.heap.size + 2) (by first|omega|(simp; done)|(simp; omega)))|(go_at_call 20; with_reducible refine (H'.at _).mono ?_; rintro e w1 ⟨rfl, hb⟩; obtain ⟨hc0, hf0, hz0⟩ := newc hb w.heap.size (by first|omega|(simp; done)|(simp; omega)); obtain ⟨hc1, hf1, hz1⟩ := newc hb (w.heap.size + 1) (by first|omega|(simp; done)|(simp; omega)); obtain ⟨hc2, hf2, hz2⟩ := newc hb (w.heap.size + 2) (by first|omega|(simp; done)|(simp; omega))))
    all_goals
      go_wp2_with fail
      go_meet
      refine ⟨?_, ?_, ?_, ?_, ?_, ?_, ?_, ?_, ?_, ?_, ?_, ?_, ?_, ?_, ?_, ?_, ?_⟩
      all_goals first | (simp [*, go_sem]; done) | (intro o; simp [*, go_sem]; done) | omega | exact (by repeat' (first | with_reducible exact Below.refl _ _ | with_reducible refine below_step ?_ (by assumption) | with_reducible apply below_set' | with_reducible apply below_alloc' | with_reducible apply Below.drew | with_reducible apply below_drewN' | (simp; done) | omega | (simp; omega)))
  case rest =>
    obtain ⟨q0, q1, q2, q3, q4, q5, q6, q7, q8, q9, q10, q11, fz0, sz0, sz1, sz2, hb⟩ := hcut
    clear H H'
    go_wp2_with (first | (go_at_call 59; with_reducible refine (HW.out _).mono ?_; rintro e w1 ⟨rfl, rfl⟩))
    all_goals exact bodyPost_ret (by simp [results, Tryz.results33, go_sem, *]) rfl ⟨rfl, (by repeat' (first | with_reducible exact Below.refl _ _ | with_reducible refine below_step ?_ (by assumption) | with_reducible apply below_set' | with_reducible apply below_alloc' | with_reducible apply Below.drew | with_reducible apply below_drewN' | (simp; done) | omega | (simp; omega)))⟩
set_option maxRecDepth 100000 in
set_option maxHeartbeats 1000000 in
theorem rarith_add_no (k n : Int) (f : Nat) (s : ByteArray) (N : Int) (F : Nat) (S : ByteArray) (k' n' : Int) (f' : Nat) (s' : ByteArray) (N' : Int) (F' : Nat) (S' : ByteArray)
    (H : RCleans k n f s 1 N F S) (H' : RCleans k' n' f' s' 1 N' F' S') (HW : Hid (∀ w, Calls Tryz.prog 59 #[.int .i64 N, .int .i64 N'] w fun e w' => (∃ r, e = .returned (.tuple #[.int .i64 r, .bool false])) ∧ w = w')) (w : World) :
    Calls Tryz.prog 33 #[.string ⟨#[43]⟩, .agg #[.int .i64 k, .int .i64 n, .float .f64 f, .string s], .agg #[.int .i64 k', .int .i64 n', .float .f64 f', .string s']] w fun e w' => e = .returned (.agg #[.int .i64 0, .int .i64 0, .float .f64 0, .string ⟨#[]⟩]) ∧ Below w.heap.size w w' := by
  go_enter Tryz.func33, Tryz.ntmps33
  go_upto_region 1 with fail
  go_cut [] (fun wx => wx.cell? ⟨w.heap.size, 0, none⟩ = some (.int .i64 1) ∧ wx.cell? ⟨w.heap.size, 1, none⟩ = some (.int .i64 N) ∧ wx.cell? ⟨w.heap.size, 2, none⟩ = some (.float .f64 F) ∧ wx.cell? ⟨w.heap.size, 3, none⟩ = some (.string S) ∧ wx.cell? ⟨w.heap.size + 1, 0, none⟩ = some (.int .i64 1) ∧ wx.cell? ⟨w.heap.size + 1, 1, none⟩ = some (.int .i64 N') ∧ wx.cell? ⟨w.heap.size + 1, 2, none⟩ = some (.float .f64 F') ∧ wx.cell? ⟨w.heap.size + 1, 3, none⟩ = some (.string S') ∧ wx.cell? ⟨w.heap.size + 1 + 1, 0, none⟩ = some (.int .i64 0) ∧ wx.cell? ⟨w.heap.size + 1 + 1, 1, none⟩ = some (.int .i64 0) ∧ wx.cell? ⟨w.heap.size + 1 + 1, 2, none⟩ = some (.float .f64 0) ∧ wx.cell? ⟨w.heap.size + 1 + 1, 3, none⟩ = some (.string ⟨#[]⟩) ∧ (∀ o, wx.frozen? ⟨w.heap.size + 1 + 1, o, none⟩ = false) ∧ w.heap.size < wx.heap.size ∧ w.heap.size + 1 < wx.heap.size ∧ w.heap.size + 1 + 1 < wx.heap.size ∧ Below w.heap.size w wx)
  case first =>
    go_region_with (first | (go_at_call 20; with_reducible refine (H.at _).mono ?_; rintro e w1 ⟨rfl, hb⟩; obtain ⟨hc0, hf0, hz0⟩ := newc hb w.heap.size (by first|omega|(simp; done)|(simp; omega)); obtain ⟨hc1, hf1, hz1⟩ := newc hb (w.heap.size + 1) (by first|omega|(simp; done)|(simp; omega)); obtain ⟨hc2, hf2, hz2⟩ := newc hb (w.heap.size + 2) (by first|omega|(simp; done)|(simp; omega)))|(go_at_call 20; with_reducible refine (H'.at _).mono ?_; rintro e w1 ⟨rfl, hb⟩; obtain ⟨hc0, hf0, hz0⟩ := newc hb w.heap.size (by first|omega|(simp; done)|(simp; omega)); obtain ⟨hc1, hf1, hz1⟩ := newc hb (w.heap.size + 1) (by first|omega|(simp; done)|(simp; omega)); obtain ⟨hc2, hf2, hz2⟩ := newc hb (w.heap.size + 2) (by first|omega|(simp; done)|(simp; omega))))
    all_goals
      go_wp2_with fail
      go_meet
      refine ⟨?_, ?_, ?_, ?_, ?_, ?_, ?_, ?_, ?_, ?_, ?_, ?_, ?_, ?_, ?_, ?_, ?_⟩
      all_goals first | (simp [*, go_sem]; done) | (intro o; simp [*, go_sem]; done) | omega | exact (by repeat' (first | with_reducible exact Below.refl _ _ | with_reducible refine below_step ?_ (by assumption) | with_reducible apply below_set' | with_reducible apply below_alloc' | with_reducible apply Below.drew | with_reducible apply below_drewN' | (simp; done) | omega | (simp; omega)))
  case rest =>
    obtain ⟨q0, q1, q2, q3, q4, q5, q6, q7, q8, q9, q10, q11, fz0, sz0, sz1, sz2, hb⟩ := hcut
    clear H H'
    go_wp2_with (first | (go_at_call 59; with_reducible refine (HW.out _).mono ?_; rintro e w1 ⟨⟨r, rfl⟩, rfl⟩))
    all_goals exact bodyPost_ret (by simp [results, Tryz.results33, go_sem, *]) rfl ⟨rfl, (by repeat' (first | with_reducible exact Below.refl _ _ | with_reducible refine below_step ?_ (by assumption) | with_reducible apply below_set' | with_reducible apply below_alloc' | with_reducible apply Below.drew | with_reducible apply below_drewN' | (simp; done) | omega | (simp; omega)))⟩
set_option maxRecDepth 100000 in
set_option maxHeartbeats 1000000 in
theorem rarith_mul_yes (k n : Int) (f : Nat) (s : ByteArray) (N : Int) (F : Nat) (S : ByteArray) (k' n' : Int) (f' : Nat) (s' : ByteArray) (N' : Int) (F' : Nat) (S' : ByteArray)
    (H : RCleans k n f s 1 N F S) (H' : RCleans k' n' f' s' 1 N' F' S') (R : Int) (HW : Hid (∀ w, Calls Tryz.prog 60 #[.int .i64 N, .int .i64 N'] w fun e w' => e = .returned (.tuple #[.int .i64 R, .bool true]) ∧ w = w')) (w : World) :
    Calls Tryz.prog 33 #[.string ⟨#[42]⟩, .agg #[.int .i64 k, .int .i64 n, .float .f64 f, .string s], .agg #[.int .i64 k', .int .i64 n', .float .f64 f', .string s']] w fun e w' => e = .returned (.agg #[.int .i64 1, .int .i64 R, .float .f64 0, .string ⟨#[]⟩]) ∧ Below w.heap.size w w' := by
  go_enter Tryz.func33, Tryz.ntmps33
  go_upto_region 1 with fail
  go_cut [] (fun wx => wx.cell? ⟨w.heap.size, 0, none⟩ = some (.int .i64 1) ∧ wx.cell? ⟨w.heap.size, 1, none⟩ = some (.int .i64 N) ∧ wx.cell? ⟨w.heap.size, 2, none⟩ = some (.float .f64 F) ∧ wx.cell? ⟨w.heap.size, 3, none⟩ = some (.string S) ∧ wx.cell? ⟨w.heap.size + 1, 0, none⟩ = some (.int .i64 1) ∧ wx.cell? ⟨w.heap.size + 1, 1, none⟩ = some (.int .i64 N') ∧ wx.cell? ⟨w.heap.size + 1, 2, none⟩ = some (.float .f64 F') ∧ wx.cell? ⟨w.heap.size + 1, 3, none⟩ = some (.string S') ∧ wx.cell? ⟨w.heap.size + 1 + 1, 0, none⟩ = some (.int .i64 0) ∧ wx.cell? ⟨w.heap.size + 1 + 1, 1, none⟩ = some (.int .i64 0) ∧ wx.cell? ⟨w.heap.size + 1 + 1, 2, none⟩ = some (.float .f64 0) ∧ wx.cell? ⟨w.heap.size + 1 + 1, 3, none⟩ = some (.string ⟨#[]⟩) ∧ (∀ o, wx.frozen? ⟨w.heap.size + 1 + 1, o, none⟩ = false) ∧ w.heap.size < wx.heap.size ∧ w.heap.size + 1 < wx.heap.size ∧ w.heap.size + 1 + 1 < wx.heap.size ∧ Below w.heap.size w wx)
  case first =>
    go_region_with (first | (go_at_call 20; with_reducible refine (H.at _).mono ?_; rintro e w1 ⟨rfl, hb⟩; obtain ⟨hc0, hf0, hz0⟩ := newc hb w.heap.size (by first|omega|(simp; done)|(simp; omega)); obtain ⟨hc1, hf1, hz1⟩ := newc hb (w.heap.size + 1) (by first|omega|(simp; done)|(simp; omega)); obtain ⟨hc2, hf2, hz2⟩ := newc hb (w.heap.size + 2) (by first|omega|(simp; done)|(simp; omega)))|(go_at_call 20; with_reducible refine (H'.at _).mono ?_; rintro e w1 ⟨rfl, hb⟩; obtain ⟨hc0, hf0, hz0⟩ := newc hb w.heap.size (by first|omega|(simp; done)|(simp; omega)); obtain ⟨hc1, hf1, hz1⟩ := newc hb (w.heap.size + 1) (by first|omega|(simp; done)|(simp; omega)); obtain ⟨hc2, hf2, hz2⟩ := newc hb (w.heap.size + 2) (by first|omega|(simp; done)|(simp; omega))))
    all_goals
      go_wp2_with fail
      go_meet
      refine ⟨?_, ?_, ?_, ?_, ?_, ?_, ?_, ?_, ?_, ?_, ?_, ?_, ?_, ?_, ?_, ?_, ?_⟩
      all_goals first | (simp [*, go_sem]; done) | (intro o; simp [*, go_sem]; done) | omega | exact (by repeat' (first | with_reducible exact Below.refl _ _ | with_reducible refine below_step ?_ (by assumption) | with_reducible apply below_set' | with_reducible apply below_alloc' | with_reducible apply Below.drew | with_reducible apply below_drewN' | (simp; done) | omega | (simp; omega)))
  case rest =>
    obtain ⟨q0, q1, q2, q3, q4, q5, q6, q7, q8, q9, q10, q11, fz0, sz0, sz1, sz2, hb⟩ := hcut
    clear H H'
    go_wp2_with (first | (go_at_call 60; with_reducible refine (HW.out _).mono ?_; rintro e w1 ⟨rfl, rfl⟩))
    all_goals exact bodyPost_ret (by simp [results, Tryz.results33, go_sem, *]) rfl ⟨rfl, (by repeat' (first | with_reducible exact Below.refl _ _ | with_reducible refine below_step ?_ (by assumption) | with_reducible apply below_set' | with_reducible apply below_alloc' | with_reducible apply Below.drew | with_reducible apply below_drewN' | (simp; done) | omega | (simp; omega)))⟩
set_option maxRecDepth 100000 in
set_option maxHeartbeats 1000000 in
theorem rarith_mul_no (k n : Int) (f : Nat) (s : ByteArray) (N : Int) (F : Nat) (S : ByteArray) (k' n' : Int) (f' : Nat) (s' : ByteArray) (N' : Int) (F' : Nat) (S' : ByteArray)
    (H : RCleans k n f s 1 N F S) (H' : RCleans k' n' f' s' 1 N' F' S') (HW : Hid (∀ w, Calls Tryz.prog 60 #[.int .i64 N, .int .i64 N'] w fun e w' => (∃ r, e = .returned (.tuple #[.int .i64 r, .bool false])) ∧ w = w')) (w : World) :
    Calls Tryz.prog 33 #[.string ⟨#[42]⟩, .agg #[.int .i64 k, .int .i64 n, .float .f64 f, .string s], .agg #[.int .i64 k', .int .i64 n', .float .f64 f', .string s']] w fun e w' => e = .returned (.agg #[.int .i64 0, .int .i64 0, .float .f64 0, .string ⟨#[]⟩]) ∧ Below w.heap.size w w' := by
  go_enter Tryz.func33, Tryz.ntmps33
  go_upto_region 1 with fail
  go_cut [] (fun wx => wx.cell? ⟨w.heap.size, 0, none⟩ = some (.int .i64 1) ∧ wx.cell? ⟨w.heap.size, 1, none⟩ = some (.int .i64 N) ∧ wx.cell? ⟨w.heap.size, 2, none⟩ = some (.float .f64 F) ∧ wx.cell? ⟨w.heap.size, 3, none⟩ = some (.string S) ∧ wx.cell? ⟨w.heap.size + 1, 0, none⟩ = some (.int .i64 1) ∧ wx.cell? ⟨w.heap.size + 1, 1, none⟩ = some (.int .i64 N') ∧ wx.cell? ⟨w.heap.size + 1, 2, none⟩ = some (.float .f64 F') ∧ wx.cell? ⟨w.heap.size + 1, 3, none⟩ = some (.string S') ∧ wx.cell? ⟨w.heap.size + 1 + 1, 0, none⟩ = some (.int .i64 0) ∧ wx.cell? ⟨w.heap.size + 1 + 1, 1, none⟩ = some (.int .i64 0) ∧ wx.cell? ⟨w.heap.size + 1 + 1, 2, none⟩ = some (.float .f64 0) ∧ wx.cell? ⟨w.heap.size + 1 + 1, 3, none⟩ = some (.string ⟨#[]⟩) ∧ (∀ o, wx.frozen? ⟨w.heap.size + 1 + 1, o, none⟩ = false) ∧ w.heap.size < wx.heap.size ∧ w.heap.size + 1 < wx.heap.size ∧ w.heap.size + 1 + 1 < wx.heap.size ∧ Below w.heap.size w wx)
  case first =>
    go_region_with (first | (go_at_call 20; with_reducible refine (H.at _).mono ?_; rintro e w1 ⟨rfl, hb⟩; obtain ⟨hc0, hf0, hz0⟩ := newc hb w.heap.size (by first|omega|(simp; done)|(simp; omega)); obtain ⟨hc1, hf1, hz1⟩ := newc hb (w.heap.size + 1) (by first|omega|(simp; done)|(simp; omega)); obtain ⟨hc2, hf2, hz2⟩ := newc hb (w.heap.size + 2) (by first|omega|(simp; done)|(simp; omega)))|(go_at_call 20; with_reducible refine (H'.at _).mono ?_; rintro e w1 ⟨rfl, hb⟩; obtain ⟨hc0, hf0, hz0⟩ := newc hb w.heap.size (by first|omega|(simp; done)|(simp; omega)); obtain ⟨hc1, hf1, hz1⟩ := newc hb (w.heap.size + 1) (by first|omega|(simp; done)|(simp; omega)); obtain ⟨hc2, hf2, hz2⟩ := newc hb (w.heap.size + 2) (by first|omega|(simp; done)|(simp; omega))))
    all_goals
      go_wp2_with fail
      go_meet
      refine ⟨?_, ?_, ?_, ?_, ?_, ?_, ?_, ?_, ?_, ?_, ?_, ?_, ?_, ?_, ?_, ?_, ?_⟩
      all_goals first | (simp [*, go_sem]; done) | (intro o; simp [*, go_sem]; done) | omega | exact (by repeat' (first | with_reducible exact Below.refl _ _ | with_reducible refine below_step ?_ (by assumption) | with_reducible apply below_set' | with_reducible apply below_alloc' | with_reducible apply Below.drew | with_reducible apply below_drewN' | (simp; done) | omega | (simp; omega)))
  case rest =>
    obtain ⟨q0, q1, q2, q3, q4, q5, q6, q7, q8, q9, q10, q11, fz0, sz0, sz1, sz2, hb⟩ := hcut
    clear H H'
    go_wp2_with (first | (go_at_call 60; with_reducible refine (HW.out _).mono ?_; rintro e w1 ⟨⟨r, rfl⟩, rfl⟩))
    all_goals exact bodyPost_ret (by simp [results, Tryz.results33, go_sem, *]) rfl ⟨rfl, (by repeat' (first | with_reducible exact Below.refl _ _ | with_reducible refine below_step ?_ (by assumption) | with_reducible apply below_set' | with_reducible apply below_alloc' | with_reducible apply Below.drew | with_reducible apply below_drewN' | (simp; done) | omega | (simp; omega)))⟩
end Go.Proofs.YtikpgglbfpdhmaaGreatDoor

/- What two values come to, in the program. -/
import Derived.Test.YtikpgglbfpdhmaaGreatDoorRdMVOrd
import Derived.Test.YtikpgglbfpdhmaaGreatDoorRdMValP
namespace Go.Proofs.YtikpgglbfpdhmaaGreatDoor
open Go.RowKit Go.Joins
attribute [local go_sem ↓] Go.wp_at_zero Go.wp_at_succ

set_option maxRecDepth 100000 in
set_option maxHeartbeats 1000000 in
theorem arith_ok (op : ByteArray) (k n : Int) (f : Nat) (s : ByteArray) (N : Int) (F : Nat) (S : ByteArray) (k' n' : Int) (f' : Nat) (s' : ByteArray) (N' : Int) (F' : Nat) (S' : ByteArray)
    (H : Cleans k n f s 1 N F S) (H' : Cleans k' n' f' s' 1 N' F' S') (r : Int) (HW : Hid (∀ w, Calls Tryz.prog 51 #[.string op, .int .i64 N, .int .i64 N'] w fun e w' => e = .returned (.tuple #[.int .i64 r, .bool true]) ∧ w = w')) (w : World) :
    Calls Tryz.prog 17 #[.string op, .agg #[.int .i64 k, .int .i64 n, .float .f64 f, .string s], .agg #[.int .i64 k', .int .i64 n', .float .f64 f', .string s']] w fun e w' => e = .returned (.agg #[.int .i64 1, .int .i64 r, .float .f64 0, .string ⟨#[]⟩]) ∧ Below w.heap.size w w' := by
  go_enter Tryz.func17, Tryz.ntmps17
  go_upto_region 1 with fail
  go_cut [] (fun wx => wx.cell? ⟨w.heap.size, 0, none⟩ = some (.int .i64 1) ∧ wx.cell? ⟨w.heap.size, 1, none⟩ = some (.int .i64 N) ∧ wx.cell? ⟨w.heap.size, 2, none⟩ = some (.float .f64 F) ∧ wx.cell? ⟨w.heap.size, 3, none⟩ = some (.string S) ∧ wx.cell? ⟨w.heap.size + 1, 0, none⟩ = some (.int .i64 1) ∧ wx.cell? ⟨w.heap.size + 1, 1, none⟩ = some (.int .i64 N') ∧ wx.cell? ⟨w.heap.size + 1, 2, none⟩ = some (.float .f64 F') ∧ wx.cell? ⟨w.heap.size + 1, 3, none⟩ = some (.string S') ∧ wx.cell? ⟨w.heap.size + 1 + 1, 0, none⟩ = some (.int .i64 0) ∧ wx.cell? ⟨w.heap.size + 1 + 1, 1, none⟩ = some (.int .i64 0) ∧ wx.cell? ⟨w.heap.size + 1 + 1, 2, none⟩ = some (.float .f64 0) ∧ wx.cell? ⟨w.heap.size + 1 + 1, 3, none⟩ = some (.string ⟨#[]⟩) ∧ (∀ o, wx.frozen? ⟨w.heap.size + 1 + 1, o, none⟩ = false) ∧ w.heap.size < wx.heap.size ∧ w.heap.size + 1 < wx.heap.size ∧ w.heap.size + 1 + 1 < wx.heap.size ∧ Below w.heap.size w wx)
  case first =>
    go_region_with (first | (go_at_call 30; with_reducible refine (H.at _).mono ?_; rintro e w1 ⟨rfl, hb⟩; obtain ⟨hc0, hf0, hz0⟩ := newc hb w.heap.size (by first|omega|(simp; done)|(simp; omega)); obtain ⟨hc1, hf1, hz1⟩ := newc hb (w.heap.size + 1) (by first|omega|(simp; done)|(simp; omega)); obtain ⟨hc2, hf2, hz2⟩ := newc hb (w.heap.size + 2) (by first|omega|(simp; done)|(simp; omega)))|(go_at_call 30; with_reducible refine (H'.at _).mono ?_; rintro e w1 ⟨rfl, hb⟩; obtain ⟨hc0, hf0, hz0⟩ := newc hb w.heap.size (by first|omega|(simp; done)|(simp; omega)); obtain ⟨hc1, hf1, hz1⟩ := newc hb (w.heap.size + 1) (by first|omega|(simp; done)|(simp; omega)); obtain ⟨hc2, hf2, hz2⟩ := newc hb (w.heap.size + 2) (by first|omega|(simp; done)|(simp; omega))))
    all_goals
      go_wp2_with fail
      go_meet
      refine ⟨?_, ?_, ?_, ?_, ?_, ?_, ?_, ?_, ?_, ?_, ?_, ?_, ?_, ?_, ?_, ?_, ?_⟩
      all_goals first | (simp [*, go_sem]; done) | (intro o; simp [*, go_sem]; done) | omega | exact (by repeat' (first | with_reducible exact Below.refl _ _ | with_reducible refine below_step ?_ (by assumption) | with_reducible apply below_set' | with_reducible apply below_alloc' | with_reducible apply Below.drew | with_reducible apply below_drewN' | (simp; done) | omega | (simp; omega)))
  case rest =>
    obtain ⟨q0, q1, q2, q3, q4, q5, q6, q7, q8, q9, q10, q11, fz0, sz0, sz1, sz2, hb⟩ := hcut
    clear H H'
    go_wp2_with (first | (go_at_call 51; with_reducible refine (HW.out _).mono ?_; rintro e w1 ⟨rfl, rfl⟩) | (go_at_call 16; refine (ofInt_any _ _).mono ?_; rintro e w1 ⟨rfl, hb⟩; obtain ⟨hc0, hf0, hz0⟩ := newc hb w.heap.size (by first | omega | (simp; done) | (simp; omega)); obtain ⟨hc1, hf1, hz1⟩ := newc hb (w.heap.size + 1) (by first | omega | (simp; done) | (simp; omega)); obtain ⟨hc2, hf2, hz2⟩ := newc hb (w.heap.size + 2) (by first | omega | (simp; done) | (simp; omega))))
    exact bodyPost_ret (by simp [results, Tryz.results17, go_sem, *]) rfl ⟨rfl, (by repeat' (first | with_reducible exact Below.refl _ _ | with_reducible refine below_step ?_ (by assumption) | with_reducible apply below_set' | with_reducible apply below_alloc' | with_reducible apply Below.drew | with_reducible apply below_drewN' | (simp; done) | omega | (simp; omega)))⟩
set_option maxRecDepth 100000 in
set_option maxHeartbeats 1000000 in
theorem arith_no (op : ByteArray) (k n : Int) (f : Nat) (s : ByteArray) (N : Int) (F : Nat) (S : ByteArray) (k' n' : Int) (f' : Nat) (s' : ByteArray) (N' : Int) (F' : Nat) (S' : ByteArray)
    (H : Cleans k n f s 1 N F S) (H' : Cleans k' n' f' s' 1 N' F' S') (r : Int) (HW : Hid (∀ w, Calls Tryz.prog 51 #[.string op, .int .i64 N, .int .i64 N'] w fun e w' => e = .returned (.tuple #[.int .i64 r, .bool false]) ∧ w = w')) (w : World) :
    Calls Tryz.prog 17 #[.string op, .agg #[.int .i64 k, .int .i64 n, .float .f64 f, .string s], .agg #[.int .i64 k', .int .i64 n', .float .f64 f', .string s']] w fun e w' => e = .returned (.agg #[.int .i64 0, .int .i64 0, .float .f64 0, .string ⟨#[]⟩]) ∧ Below w.heap.size w w' := by
  go_enter Tryz.func17, Tryz.ntmps17
  go_upto_region 1 with fail
  go_cut [] (fun wx => wx.cell? ⟨w.heap.size, 0, none⟩ = some (.int .i64 1) ∧ wx.cell? ⟨w.heap.size, 1, none⟩ = some (.int .i64 N) ∧ wx.cell? ⟨w.heap.size, 2, none⟩ = some (.float .f64 F) ∧ wx.cell? ⟨w.heap.size, 3, none⟩ = some (.string S) ∧ wx.cell? ⟨w.heap.size + 1, 0, none⟩ = some (.int .i64 1) ∧ wx.cell? ⟨w.heap.size + 1, 1, none⟩ = some (.int .i64 N') ∧ wx.cell? ⟨w.heap.size + 1, 2, none⟩ = some (.float .f64 F') ∧ wx.cell? ⟨w.heap.size + 1, 3, none⟩ = some (.string S') ∧ wx.cell? ⟨w.heap.size + 1 + 1, 0, none⟩ = some (.int .i64 0) ∧ wx.cell? ⟨w.heap.size + 1 + 1, 1, none⟩ = some (.int .i64 0) ∧ wx.cell? ⟨w.heap.size + 1 + 1, 2, none⟩ = some (.float .f64 0) ∧ wx.cell? ⟨w.heap.size + 1 + 1, 3, none⟩ = some (.string ⟨#[]⟩) ∧ (∀ o, wx.frozen? ⟨w.heap.size + 1 + 1, o, none⟩ = false) ∧ w.heap.size < wx.heap.size ∧ w.heap.size + 1 < wx.heap.size ∧ w.heap.size + 1 + 1 < wx.heap.size ∧ Below w.heap.size w wx)
  case first =>
    go_region_with (first | (go_at_call 30; with_reducible refine (H.at _).mono ?_; rintro e w1 ⟨rfl, hb⟩; obtain ⟨hc0, hf0, hz0⟩ := newc hb w.heap.size (by first|omega|(simp; done)|(simp; omega)); obtain ⟨hc1, hf1, hz1⟩ := newc hb (w.heap.size + 1) (by first|omega|(simp; done)|(simp; omega)); obtain ⟨hc2, hf2, hz2⟩ := newc hb (w.heap.size + 2) (by first|omega|(simp; done)|(simp; omega)))|(go_at_call 30; with_reducible refine (H'.at _).mono ?_; rintro e w1 ⟨rfl, hb⟩; obtain ⟨hc0, hf0, hz0⟩ := newc hb w.heap.size (by first|omega|(simp; done)|(simp; omega)); obtain ⟨hc1, hf1, hz1⟩ := newc hb (w.heap.size + 1) (by first|omega|(simp; done)|(simp; omega)); obtain ⟨hc2, hf2, hz2⟩ := newc hb (w.heap.size + 2) (by first|omega|(simp; done)|(simp; omega))))
    all_goals
      go_wp2_with fail
      go_meet
      refine ⟨?_, ?_, ?_, ?_, ?_, ?_, ?_, ?_, ?_, ?_, ?_, ?_, ?_, ?_, ?_, ?_, ?_⟩
      all_goals first | (simp [*, go_sem]; done) | (intro o; simp [*, go_sem]; done) | omega | exact (by repeat' (first | with_reducible exact Below.refl _ _ | with_reducible refine below_step ?_ (by assumption) | with_reducible apply below_set' | with_reducible apply below_alloc' | with_reducible apply Below.drew | with_reducible apply below_drewN' | (simp; done) | omega | (simp; omega)))
  case rest =>
    obtain ⟨q0, q1, q2, q3, q4, q5, q6, q7, q8, q9, q10, q11, fz0, sz0, sz1, sz2, hb⟩ := hcut
    clear H H'
    go_wp2_with (first | (go_at_call 51; with_reducible refine (HW.out _).mono ?_; rintro e w1 ⟨rfl, rfl⟩) | (go_at_call 16; refine (ofInt_any _ _).mono ?_; rintro e w1 ⟨rfl, hb⟩; obtain ⟨hc0, hf0, hz0⟩ := newc hb w.heap.size (by first | omega | (simp; done) | (simp; omega)); obtain ⟨hc1, hf1, hz1⟩ := newc hb (w.heap.size + 1) (by first | omega | (simp; done) | (simp; omega)); obtain ⟨hc2, hf2, hz2⟩ := newc hb (w.heap.size + 2) (by first | omega | (simp; done) | (simp; omega))))
    exact bodyPost_ret (by simp [results, Tryz.results17, go_sem, *]) rfl ⟨rfl, (by repeat' (first | with_reducible exact Below.refl _ _ | with_reducible refine below_step ?_ (by assumption) | with_reducible apply below_set' | with_reducible apply below_alloc' | with_reducible apply Below.drew | with_reducible apply below_drewN' | (simp; done) | omega | (simp; omega)))⟩
set_option maxRecDepth 100000 in
set_option maxHeartbeats 1000000 in
theorem arith_radd_some (k n : Int) (f : Nat) (s : ByteArray) (N : Int) (F : Nat) (S : ByteArray) (k' n' : Int) (f' : Nat) (s' : ByteArray) (N' : Int) (F' : Nat) (S' : ByteArray)
    (H : Cleans k n f s 2 N F S) (H' : Cleans k' n' f' s' 2 N' F' S') (r : Nat) (hr : floatBits .add .f64 F F' = some r) (w : World) :
    Calls Tryz.prog 17 #[.string ⟨#[43]⟩, .agg #[.int .i64 k, .int .i64 n, .float .f64 f, .string s], .agg #[.int .i64 k', .int .i64 n', .float .f64 f', .string s']] w fun e w' => e = .returned (.agg #[.int .i64 2, .int .i64 0, .float .f64 (freal r), .string ⟨#[]⟩]) ∧ Below w.heap.size w w' := by
  have hrun := fun (wx : World) => run_float_arith (P := Tryz.prog) wx .add 22 .f64 F F' r hr
  go_enter Tryz.func17, Tryz.ntmps17
  go_upto_region 1 with fail
  go_cut [] (fun wx => wx.cell? ⟨w.heap.size, 0, none⟩ = some (.int .i64 2) ∧ wx.cell? ⟨w.heap.size, 1, none⟩ = some (.int .i64 N) ∧ wx.cell? ⟨w.heap.size, 2, none⟩ = some (.float .f64 F) ∧ wx.cell? ⟨w.heap.size, 3, none⟩ = some (.string S) ∧ wx.cell? ⟨w.heap.size + 1, 0, none⟩ = some (.int .i64 2) ∧ wx.cell? ⟨w.heap.size + 1, 1, none⟩ = some (.int .i64 N') ∧ wx.cell? ⟨w.heap.size + 1, 2, none⟩ = some (.float .f64 F') ∧ wx.cell? ⟨w.heap.size + 1, 3, none⟩ = some (.string S') ∧ wx.cell? ⟨w.heap.size + 1 + 1, 0, none⟩ = some (.int .i64 0) ∧ wx.cell? ⟨w.heap.size + 1 + 1, 1, none⟩ = some (.int .i64 0) ∧ wx.cell? ⟨w.heap.size + 1 + 1, 2, none⟩ = some (.float .f64 0) ∧ wx.cell? ⟨w.heap.size + 1 + 1, 3, none⟩ = some (.string ⟨#[]⟩) ∧ (∀ o, wx.frozen? ⟨w.heap.size + 1 + 1, o, none⟩ = false) ∧ w.heap.size < wx.heap.size ∧ w.heap.size + 1 < wx.heap.size ∧ w.heap.size + 1 + 1 < wx.heap.size ∧ Below w.heap.size w wx)
  case first =>
    go_region_with (first | (go_at_call 30; with_reducible refine (H.at _).mono ?_; rintro e w1 ⟨rfl, hb⟩; obtain ⟨hc0, hf0, hz0⟩ := newc hb w.heap.size (by first|omega|(simp; done)|(simp; omega)); obtain ⟨hc1, hf1, hz1⟩ := newc hb (w.heap.size + 1) (by first|omega|(simp; done)|(simp; omega)); obtain ⟨hc2, hf2, hz2⟩ := newc hb (w.heap.size + 2) (by first|omega|(simp; done)|(simp; omega)))|(go_at_call 30; with_reducible refine (H'.at _).mono ?_; rintro e w1 ⟨rfl, hb⟩; obtain ⟨hc0, hf0, hz0⟩ := newc hb w.heap.size (by first|omega|(simp; done)|(simp; omega)); obtain ⟨hc1, hf1, hz1⟩ := newc hb (w.heap.size + 1) (by first|omega|(simp; done)|(simp; omega)); obtain ⟨hc2, hf2, hz2⟩ := newc hb (w.heap.size + 2) (by first|omega|(simp; done)|(simp; omega))))
    all_goals
      go_wp2_with fail
      go_meet
      refine ⟨?_, ?_, ?_, ?_, ?_, ?_, ?_, ?_, ?_, ?_, ?_, ?_, ?_, ?_, ?_, ?_, ?_⟩
      all_goals first | (simp [*, go_sem]; done) | (intro o; simp [*, go_sem]; done) | omega | exact (by repeat' (first | with_reducible exact Below.refl _ _ | with_reducible refine below_step ?_ (by assumption) | with_reducible apply below_set' | with_reducible apply below_alloc' | with_reducible apply Below.drew | with_reducible apply below_drewN' | (simp; done) | omega | (simp; omega)))
  case rest =>
    obtain ⟨q0, q1, q2, q3, q4, q5, q6, q7, q8, q9, q10, q11, fz0, sz0, sz1, sz2, hb⟩ := hcut
    clear H H'
    go_wp2_with (go_at_call 22; refine (ofReal_any _ _).mono ?_; rintro e w1 ⟨rfl, hb⟩; obtain ⟨hc0, hf0, hz0⟩ := newc hb w.heap.size (by first | omega | (simp; done) | (simp; omega)); obtain ⟨hc1, hf1, hz1⟩ := newc hb (w.heap.size + 1) (by first | omega | (simp; done) | (simp; omega)); obtain ⟨hc2, hf2, hz2⟩ := newc hb (w.heap.size + 2) (by first | omega | (simp; done) | (simp; omega)))
    exact bodyPost_ret (by simp [results, Tryz.results17, go_sem, *]) rfl ⟨rfl, (by repeat' (first | with_reducible exact Below.refl _ _ | with_reducible refine below_step ?_ (by assumption) | with_reducible apply below_set' | with_reducible apply below_alloc' | with_reducible apply Below.drew | with_reducible apply below_drewN' | (simp; done) | omega | (simp; omega)))⟩
set_option maxRecDepth 100000 in
set_option maxHeartbeats 1000000 in
theorem arith_radd_none (k n : Int) (f : Nat) (s : ByteArray) (N : Int) (F : Nat) (S : ByteArray) (k' n' : Int) (f' : Nat) (s' : ByteArray) (N' : Int) (F' : Nat) (S' : ByteArray)
    (H : Cleans k n f s 2 N F S) (H' : Cleans k' n' f' s' 2 N' F' S') (hr : floatBits .add .f64 F F' = none) (w : World) :
    Calls Tryz.prog 17 #[.string ⟨#[43]⟩, .agg #[.int .i64 k, .int .i64 n, .float .f64 f, .string s], .agg #[.int .i64 k', .int .i64 n', .float .f64 f', .string s']] w fun e w' => e = .returned (.agg #[.int .i64 2, .int .i64 0, .float .f64 9221120237041090561, .string ⟨#[]⟩]) ∧ Below w.heap.size w w' := by
  have hrun := fun (wx : World) => run_float_none (P := Tryz.prog) wx .add 22 F F' (by simp) hr
  have hnan : ∀ t, freal (Question.cut (.nanBits .f64 F F') t) = 9221120237041090561 := fun t => by unfold freal; rw [if_pos (by rw [fnan_iff]; exact nan_cut F F' t)]
  go_enter Tryz.func17, Tryz.ntmps17
  go_upto_region 1 with fail
  go_cut [] (fun wx => wx.cell? ⟨w.heap.size, 0, none⟩ = some (.int .i64 2) ∧ wx.cell? ⟨w.heap.size, 1, none⟩ = some (.int .i64 N) ∧ wx.cell? ⟨w.heap.size, 2, none⟩ = some (.float .f64 F) ∧ wx.cell? ⟨w.heap.size, 3, none⟩ = some (.string S) ∧ wx.cell? ⟨w.heap.size + 1, 0, none⟩ = some (.int .i64 2) ∧ wx.cell? ⟨w.heap.size + 1, 1, none⟩ = some (.int .i64 N') ∧ wx.cell? ⟨w.heap.size + 1, 2, none⟩ = some (.float .f64 F') ∧ wx.cell? ⟨w.heap.size + 1, 3, none⟩ = some (.string S') ∧ wx.cell? ⟨w.heap.size + 1 + 1, 0, none⟩ = some (.int .i64 0) ∧ wx.cell? ⟨w.heap.size + 1 + 1, 1, none⟩ = some (.int .i64 0) ∧ wx.cell? ⟨w.heap.size + 1 + 1, 2, none⟩ = some (.float .f64 0) ∧ wx.cell? ⟨w.heap.size + 1 + 1, 3, none⟩ = some (.string ⟨#[]⟩) ∧ (∀ o, wx.frozen? ⟨w.heap.size + 1 + 1, o, none⟩ = false) ∧ w.heap.size < wx.heap.size ∧ w.heap.size + 1 < wx.heap.size ∧ w.heap.size + 1 + 1 < wx.heap.size ∧ Below w.heap.size w wx)
  case first =>
    go_region_with (first | (go_at_call 30; with_reducible refine (H.at _).mono ?_; rintro e w1 ⟨rfl, hb⟩; obtain ⟨hc0, hf0, hz0⟩ := newc hb w.heap.size (by first|omega|(simp; done)|(simp; omega)); obtain ⟨hc1, hf1, hz1⟩ := newc hb (w.heap.size + 1) (by first|omega|(simp; done)|(simp; omega)); obtain ⟨hc2, hf2, hz2⟩ := newc hb (w.heap.size + 2) (by first|omega|(simp; done)|(simp; omega)))|(go_at_call 30; with_reducible refine (H'.at _).mono ?_; rintro e w1 ⟨rfl, hb⟩; obtain ⟨hc0, hf0, hz0⟩ := newc hb w.heap.size (by first|omega|(simp; done)|(simp; omega)); obtain ⟨hc1, hf1, hz1⟩ := newc hb (w.heap.size + 1) (by first|omega|(simp; done)|(simp; omega)); obtain ⟨hc2, hf2, hz2⟩ := newc hb (w.heap.size + 2) (by first|omega|(simp; done)|(simp; omega))))
    all_goals
      go_wp2_with fail
      go_meet
      refine ⟨?_, ?_, ?_, ?_, ?_, ?_, ?_, ?_, ?_, ?_, ?_, ?_, ?_, ?_, ?_, ?_, ?_⟩
      all_goals first | (simp [*, go_sem]; done) | (intro o; simp [*, go_sem]; done) | omega | exact (by repeat' (first | with_reducible exact Below.refl _ _ | with_reducible refine below_step ?_ (by assumption) | with_reducible apply below_set' | with_reducible apply below_alloc' | with_reducible apply Below.drew | with_reducible apply below_drewN' | (simp; done) | omega | (simp; omega)))
  case rest =>
    obtain ⟨q0, q1, q2, q3, q4, q5, q6, q7, q8, q9, q10, q11, fz0, sz0, sz1, sz2, hb⟩ := hcut
    clear H H'
    go_wp2_with (go_at_call 22; refine (ofReal_any _ _).mono ?_; rw [hnan]; rintro e w1 ⟨rfl, hb⟩; obtain ⟨hc0, hf0, hz0⟩ := newc hb w.heap.size (by first | omega | (simp; done) | (simp; omega)); obtain ⟨hc1, hf1, hz1⟩ := newc hb (w.heap.size + 1) (by first | omega | (simp; done) | (simp; omega)); obtain ⟨hc2, hf2, hz2⟩ := newc hb (w.heap.size + 2) (by first | omega | (simp; done) | (simp; omega)))
    exact bodyPost_ret (by simp [results, Tryz.results17, go_sem, *]) rfl ⟨rfl, (by repeat' (first | with_reducible exact Below.refl _ _ | with_reducible refine below_step ?_ (by assumption) | with_reducible apply below_set' | with_reducible apply below_alloc' | with_reducible apply Below.drew | with_reducible apply below_drewN' | (simp; done) | omega | (simp; omega)))⟩
set_option maxRecDepth 100000 in
set_option maxHeartbeats 1000000 in
theorem arith_rsub_some (k n : Int) (f : Nat) (s : ByteArray) (N : Int) (F : Nat) (S : ByteArray) (k' n' : Int) (f' : Nat) (s' : ByteArray) (N' : Int) (F' : Nat) (S' : ByteArray)
    (H : Cleans k n f s 2 N F S) (H' : Cleans k' n' f' s' 2 N' F' S') (r : Nat) (hr : floatBits .sub .f64 F F' = some r) (w : World) :
    Calls Tryz.prog 17 #[.string ⟨#[45]⟩, .agg #[.int .i64 k, .int .i64 n, .float .f64 f, .string s], .agg #[.int .i64 k', .int .i64 n', .float .f64 f', .string s']] w fun e w' => e = .returned (.agg #[.int .i64 2, .int .i64 0, .float .f64 (freal r), .string ⟨#[]⟩]) ∧ Below w.heap.size w w' := by
  have hrun := fun (wx : World) => run_float_arith (P := Tryz.prog) wx .sub 22 .f64 F F' r hr
  go_enter Tryz.func17, Tryz.ntmps17
  go_upto_region 1 with fail
  go_cut [] (fun wx => wx.cell? ⟨w.heap.size, 0, none⟩ = some (.int .i64 2) ∧ wx.cell? ⟨w.heap.size, 1, none⟩ = some (.int .i64 N) ∧ wx.cell? ⟨w.heap.size, 2, none⟩ = some (.float .f64 F) ∧ wx.cell? ⟨w.heap.size, 3, none⟩ = some (.string S) ∧ wx.cell? ⟨w.heap.size + 1, 0, none⟩ = some (.int .i64 2) ∧ wx.cell? ⟨w.heap.size + 1, 1, none⟩ = some (.int .i64 N') ∧ wx.cell? ⟨w.heap.size + 1, 2, none⟩ = some (.float .f64 F') ∧ wx.cell? ⟨w.heap.size + 1, 3, none⟩ = some (.string S') ∧ wx.cell? ⟨w.heap.size + 1 + 1, 0, none⟩ = some (.int .i64 0) ∧ wx.cell? ⟨w.heap.size + 1 + 1, 1, none⟩ = some (.int .i64 0) ∧ wx.cell? ⟨w.heap.size + 1 + 1, 2, none⟩ = some (.float .f64 0) ∧ wx.cell? ⟨w.heap.size + 1 + 1, 3, none⟩ = some (.string ⟨#[]⟩) ∧ (∀ o, wx.frozen? ⟨w.heap.size + 1 + 1, o, none⟩ = false) ∧ w.heap.size < wx.heap.size ∧ w.heap.size + 1 < wx.heap.size ∧ w.heap.size + 1 + 1 < wx.heap.size ∧ Below w.heap.size w wx)
  case first =>
    go_region_with (first | (go_at_call 30; with_reducible refine (H.at _).mono ?_; rintro e w1 ⟨rfl, hb⟩; obtain ⟨hc0, hf0, hz0⟩ := newc hb w.heap.size (by first|omega|(simp; done)|(simp; omega)); obtain ⟨hc1, hf1, hz1⟩ := newc hb (w.heap.size + 1) (by first|omega|(simp; done)|(simp; omega)); obtain ⟨hc2, hf2, hz2⟩ := newc hb (w.heap.size + 2) (by first|omega|(simp; done)|(simp; omega)))|(go_at_call 30; with_reducible refine (H'.at _).mono ?_; rintro e w1 ⟨rfl, hb⟩; obtain ⟨hc0, hf0, hz0⟩ := newc hb w.heap.size (by first|omega|(simp; done)|(simp; omega)); obtain ⟨hc1, hf1, hz1⟩ := newc hb (w.heap.size + 1) (by first|omega|(simp; done)|(simp; omega)); obtain ⟨hc2, hf2, hz2⟩ := newc hb (w.heap.size + 2) (by first|omega|(simp; done)|(simp; omega))))
    all_goals
      go_wp2_with fail
      go_meet
      refine ⟨?_, ?_, ?_, ?_, ?_, ?_, ?_, ?_, ?_, ?_, ?_, ?_, ?_, ?_, ?_, ?_, ?_⟩
      all_goals first | (simp [*, go_sem]; done) | (intro o; simp [*, go_sem]; done) | omega | exact (by repeat' (first | with_reducible exact Below.refl _ _ | with_reducible refine below_step ?_ (by assumption) | with_reducible apply below_set' | with_reducible apply below_alloc' | with_reducible apply Below.drew | with_reducible apply below_drewN' | (simp; done) | omega | (simp; omega)))
  case rest =>
    obtain ⟨q0, q1, q2, q3, q4, q5, q6, q7, q8, q9, q10, q11, fz0, sz0, sz1, sz2, hb⟩ := hcut
    clear H H'
    go_wp2_with (go_at_call 22; refine (ofReal_any _ _).mono ?_; rintro e w1 ⟨rfl, hb⟩; obtain ⟨hc0, hf0, hz0⟩ := newc hb w.heap.size (by first | omega | (simp; done) | (simp; omega)); obtain ⟨hc1, hf1, hz1⟩ := newc hb (w.heap.size + 1) (by first | omega | (simp; done) | (simp; omega)); obtain ⟨hc2, hf2, hz2⟩ := newc hb (w.heap.size + 2) (by first | omega | (simp; done) | (simp; omega)))
    exact bodyPost_ret (by simp [results, Tryz.results17, go_sem, *]) rfl ⟨rfl, (by repeat' (first | with_reducible exact Below.refl _ _ | with_reducible refine below_step ?_ (by assumption) | with_reducible apply below_set' | with_reducible apply below_alloc' | with_reducible apply Below.drew | with_reducible apply below_drewN' | (simp; done) | omega | (simp; omega)))⟩
set_option maxRecDepth 100000 in
set_option maxHeartbeats 1000000 in
theorem arith_rsub_none (k n : Int) (f : Nat) (s : ByteArray) (N : Int) (F : Nat) (S : ByteArray) (k' n' : Int) (f' : Nat) (s' : ByteArray) (N' : Int) (F' : Nat) (S' : ByteArray)
    (H : Cleans k n f s 2 N F S) (H' : Cleans k' n' f' s' 2 N' F' S') (hr : floatBits .sub .f64 F F' = none) (w : World) :
    Calls Tryz.prog 17 #[.string ⟨#[45]⟩, .agg #[.int .i64 k, .int .i64 n, .float .f64 f, .string s], .agg #[.int .i64 k', .int .i64 n', .float .f64 f', .string s']] w fun e w' => e = .returned (.agg #[.int .i64 2, .int .i64 0, .float .f64 9221120237041090561, .string ⟨#[]⟩]) ∧ Below w.heap.size w w' := by
  have hrun := fun (wx : World) => run_float_none (P := Tryz.prog) wx .sub 22 F F' (by simp) hr
  have hnan : ∀ t, freal (Question.cut (.nanBits .f64 F F') t) = 9221120237041090561 := fun t => by unfold freal; rw [if_pos (by rw [fnan_iff]; exact nan_cut F F' t)]
  go_enter Tryz.func17, Tryz.ntmps17
  go_upto_region 1 with fail
  go_cut [] (fun wx => wx.cell? ⟨w.heap.size, 0, none⟩ = some (.int .i64 2) ∧ wx.cell? ⟨w.heap.size, 1, none⟩ = some (.int .i64 N) ∧ wx.cell? ⟨w.heap.size, 2, none⟩ = some (.float .f64 F) ∧ wx.cell? ⟨w.heap.size, 3, none⟩ = some (.string S) ∧ wx.cell? ⟨w.heap.size + 1, 0, none⟩ = some (.int .i64 2) ∧ wx.cell? ⟨w.heap.size + 1, 1, none⟩ = some (.int .i64 N') ∧ wx.cell? ⟨w.heap.size + 1, 2, none⟩ = some (.float .f64 F') ∧ wx.cell? ⟨w.heap.size + 1, 3, none⟩ = some (.string S') ∧ wx.cell? ⟨w.heap.size + 1 + 1, 0, none⟩ = some (.int .i64 0) ∧ wx.cell? ⟨w.heap.size + 1 + 1, 1, none⟩ = some (.int .i64 0) ∧ wx.cell? ⟨w.heap.size + 1 + 1, 2, none⟩ = some (.float .f64 0) ∧ wx.cell? ⟨w.heap.size + 1 + 1, 3, none⟩ = some (.string ⟨#[]⟩) ∧ (∀ o, wx.frozen? ⟨w.heap.size + 1 + 1, o, none⟩ = false) ∧ w.heap.size < wx.heap.size ∧ w.heap.size + 1 < wx.heap.size ∧ w.heap.size + 1 + 1 < wx.heap.size ∧ Below w.heap.size w wx)
  case first =>
    go_region_with (first | (go_at_call 30; with_reducible refine (H.at _).mono ?_; rintro e w1 ⟨rfl, hb⟩; obtain ⟨hc0, hf0, hz0⟩ := newc hb w.heap.size (by first|omega|(simp; done)|(simp; omega)); obtain ⟨hc1, hf1, hz1⟩ := newc hb (w.heap.size + 1) (by first|omega|(simp; done)|(simp; omega)); obtain ⟨hc2, hf2, hz2⟩ := newc hb (w.heap.size + 2) (by first|omega|(simp; done)|(simp; omega)))|(go_at_call 30; with_reducible refine (H'.at _).mono ?_; rintro e w1 ⟨rfl, hb⟩; obtain ⟨hc0, hf0, hz0⟩ := newc hb w.heap.size (by first|omega|(simp; done)|(simp; omega)); obtain ⟨hc1, hf1, hz1⟩ := newc hb (w.heap.size + 1) (by first|omega|(simp; done)|(simp; omega)); obtain ⟨hc2, hf2, hz2⟩ := newc hb (w.heap.size + 2) (by first|omega|(simp; done)|(simp; omega))))
    all_goals
      go_wp2_with fail
      go_meet
      refine ⟨?_, ?_, ?_, ?_, ?_, ?_, ?_, ?_, ?_, ?_, ?_, ?_, ?_, ?_, ?_, ?_, ?_⟩
      all_goals first | (simp [*, go_sem]; done) | (intro o; simp [*, go_sem]; done) | omega | exact (by repeat' (first | with_reducible exact Below.refl _ _ | with_reducible refine below_step ?_ (by assumption) | with_reducible apply below_set' | with_reducible apply below_alloc' | with_reducible apply Below.drew | with_reducible apply below_drewN' | (simp; done) | omega | (simp; omega)))
  case rest =>
    obtain ⟨q0, q1, q2, q3, q4, q5, q6, q7, q8, q9, q10, q11, fz0, sz0, sz1, sz2, hb⟩ := hcut
    clear H H'
    go_wp2_with (go_at_call 22; refine (ofReal_any _ _).mono ?_; rw [hnan]; rintro e w1 ⟨rfl, hb⟩; obtain ⟨hc0, hf0, hz0⟩ := newc hb w.heap.size (by first | omega | (simp; done) | (simp; omega)); obtain ⟨hc1, hf1, hz1⟩ := newc hb (w.heap.size + 1) (by first | omega | (simp; done) | (simp; omega)); obtain ⟨hc2, hf2, hz2⟩ := newc hb (w.heap.size + 2) (by first | omega | (simp; done) | (simp; omega)))
    exact bodyPost_ret (by simp [results, Tryz.results17, go_sem, *]) rfl ⟨rfl, (by repeat' (first | with_reducible exact Below.refl _ _ | with_reducible refine below_step ?_ (by assumption) | with_reducible apply below_set' | with_reducible apply below_alloc' | with_reducible apply Below.drew | with_reducible apply below_drewN' | (simp; done) | omega | (simp; omega)))⟩
set_option maxRecDepth 100000 in
set_option maxHeartbeats 1000000 in
theorem arith_rmul_some (k n : Int) (f : Nat) (s : ByteArray) (N : Int) (F : Nat) (S : ByteArray) (k' n' : Int) (f' : Nat) (s' : ByteArray) (N' : Int) (F' : Nat) (S' : ByteArray)
    (H : Cleans k n f s 2 N F S) (H' : Cleans k' n' f' s' 2 N' F' S') (r : Nat) (hr : floatBits .mul .f64 F F' = some r) (w : World) :
    Calls Tryz.prog 17 #[.string ⟨#[42]⟩, .agg #[.int .i64 k, .int .i64 n, .float .f64 f, .string s], .agg #[.int .i64 k', .int .i64 n', .float .f64 f', .string s']] w fun e w' => e = .returned (.agg #[.int .i64 2, .int .i64 0, .float .f64 (freal r), .string ⟨#[]⟩]) ∧ Below w.heap.size w w' := by
  have hrun := fun (wx : World) => run_float_arith (P := Tryz.prog) wx .mul 22 .f64 F F' r hr
  go_enter Tryz.func17, Tryz.ntmps17
  go_upto_region 1 with fail
  go_cut [] (fun wx => wx.cell? ⟨w.heap.size, 0, none⟩ = some (.int .i64 2) ∧ wx.cell? ⟨w.heap.size, 1, none⟩ = some (.int .i64 N) ∧ wx.cell? ⟨w.heap.size, 2, none⟩ = some (.float .f64 F) ∧ wx.cell? ⟨w.heap.size, 3, none⟩ = some (.string S) ∧ wx.cell? ⟨w.heap.size + 1, 0, none⟩ = some (.int .i64 2) ∧ wx.cell? ⟨w.heap.size + 1, 1, none⟩ = some (.int .i64 N') ∧ wx.cell? ⟨w.heap.size + 1, 2, none⟩ = some (.float .f64 F') ∧ wx.cell? ⟨w.heap.size + 1, 3, none⟩ = some (.string S') ∧ wx.cell? ⟨w.heap.size + 1 + 1, 0, none⟩ = some (.int .i64 0) ∧ wx.cell? ⟨w.heap.size + 1 + 1, 1, none⟩ = some (.int .i64 0) ∧ wx.cell? ⟨w.heap.size + 1 + 1, 2, none⟩ = some (.float .f64 0) ∧ wx.cell? ⟨w.heap.size + 1 + 1, 3, none⟩ = some (.string ⟨#[]⟩) ∧ (∀ o, wx.frozen? ⟨w.heap.size + 1 + 1, o, none⟩ = false) ∧ w.heap.size < wx.heap.size ∧ w.heap.size + 1 < wx.heap.size ∧ w.heap.size + 1 + 1 < wx.heap.size ∧ Below w.heap.size w wx)
  case first =>
    go_region_with (first | (go_at_call 30; with_reducible refine (H.at _).mono ?_; rintro e w1 ⟨rfl, hb⟩; obtain ⟨hc0, hf0, hz0⟩ := newc hb w.heap.size (by first|omega|(simp; done)|(simp; omega)); obtain ⟨hc1, hf1, hz1⟩ := newc hb (w.heap.size + 1) (by first|omega|(simp; done)|(simp; omega)); obtain ⟨hc2, hf2, hz2⟩ := newc hb (w.heap.size + 2) (by first|omega|(simp; done)|(simp; omega)))|(go_at_call 30; with_reducible refine (H'.at _).mono ?_; rintro e w1 ⟨rfl, hb⟩; obtain ⟨hc0, hf0, hz0⟩ := newc hb w.heap.size (by first|omega|(simp; done)|(simp; omega)); obtain ⟨hc1, hf1, hz1⟩ := newc hb (w.heap.size + 1) (by first|omega|(simp; done)|(simp; omega)); obtain ⟨hc2, hf2, hz2⟩ := newc hb (w.heap.size + 2) (by first|omega|(simp; done)|(simp; omega))))
    all_goals
      go_wp2_with fail
      go_meet
      refine ⟨?_, ?_, ?_, ?_, ?_, ?_, ?_, ?_, ?_, ?_, ?_, ?_, ?_, ?_, ?_, ?_, ?_⟩
      all_goals first | (simp [*, go_sem]; done) | (intro o; simp [*, go_sem]; done) | omega | exact (by repeat' (first | with_reducible exact Below.refl _ _ | with_reducible refine below_step ?_ (by assumption) | with_reducible apply below_set' | with_reducible apply below_alloc' | with_reducible apply Below.drew | with_reducible apply below_drewN' | (simp; done) | omega | (simp; omega)))
  case rest =>
    obtain ⟨q0, q1, q2, q3, q4, q5, q6, q7, q8, q9, q10, q11, fz0, sz0, sz1, sz2, hb⟩ := hcut
    clear H H'
    go_wp2_with (go_at_call 22; refine (ofReal_any _ _).mono ?_; rintro e w1 ⟨rfl, hb⟩; obtain ⟨hc0, hf0, hz0⟩ := newc hb w.heap.size (by first | omega | (simp; done) | (simp; omega)); obtain ⟨hc1, hf1, hz1⟩ := newc hb (w.heap.size + 1) (by first | omega | (simp; done) | (simp; omega)); obtain ⟨hc2, hf2, hz2⟩ := newc hb (w.heap.size + 2) (by first | omega | (simp; done) | (simp; omega)))
    exact bodyPost_ret (by simp [results, Tryz.results17, go_sem, *]) rfl ⟨rfl, (by repeat' (first | with_reducible exact Below.refl _ _ | with_reducible refine below_step ?_ (by assumption) | with_reducible apply below_set' | with_reducible apply below_alloc' | with_reducible apply Below.drew | with_reducible apply below_drewN' | (simp; done) | omega | (simp; omega)))⟩
set_option maxRecDepth 100000 in
set_option maxHeartbeats 1000000 in
theorem arith_rmul_none (k n : Int) (f : Nat) (s : ByteArray) (N : Int) (F : Nat) (S : ByteArray) (k' n' : Int) (f' : Nat) (s' : ByteArray) (N' : Int) (F' : Nat) (S' : ByteArray)
    (H : Cleans k n f s 2 N F S) (H' : Cleans k' n' f' s' 2 N' F' S') (hr : floatBits .mul .f64 F F' = none) (w : World) :
    Calls Tryz.prog 17 #[.string ⟨#[42]⟩, .agg #[.int .i64 k, .int .i64 n, .float .f64 f, .string s], .agg #[.int .i64 k', .int .i64 n', .float .f64 f', .string s']] w fun e w' => e = .returned (.agg #[.int .i64 2, .int .i64 0, .float .f64 9221120237041090561, .string ⟨#[]⟩]) ∧ Below w.heap.size w w' := by
  have hrun := fun (wx : World) => run_float_none (P := Tryz.prog) wx .mul 22 F F' (by simp) hr
  have hnan : ∀ t, freal (Question.cut (.nanBits .f64 F F') t) = 9221120237041090561 := fun t => by unfold freal; rw [if_pos (by rw [fnan_iff]; exact nan_cut F F' t)]
  go_enter Tryz.func17, Tryz.ntmps17
  go_upto_region 1 with fail
  go_cut [] (fun wx => wx.cell? ⟨w.heap.size, 0, none⟩ = some (.int .i64 2) ∧ wx.cell? ⟨w.heap.size, 1, none⟩ = some (.int .i64 N) ∧ wx.cell? ⟨w.heap.size, 2, none⟩ = some (.float .f64 F) ∧ wx.cell? ⟨w.heap.size, 3, none⟩ = some (.string S) ∧ wx.cell? ⟨w.heap.size + 1, 0, none⟩ = some (.int .i64 2) ∧ wx.cell? ⟨w.heap.size + 1, 1, none⟩ = some (.int .i64 N') ∧ wx.cell? ⟨w.heap.size + 1, 2, none⟩ = some (.float .f64 F') ∧ wx.cell? ⟨w.heap.size + 1, 3, none⟩ = some (.string S') ∧ wx.cell? ⟨w.heap.size + 1 + 1, 0, none⟩ = some (.int .i64 0) ∧ wx.cell? ⟨w.heap.size + 1 + 1, 1, none⟩ = some (.int .i64 0) ∧ wx.cell? ⟨w.heap.size + 1 + 1, 2, none⟩ = some (.float .f64 0) ∧ wx.cell? ⟨w.heap.size + 1 + 1, 3, none⟩ = some (.string ⟨#[]⟩) ∧ (∀ o, wx.frozen? ⟨w.heap.size + 1 + 1, o, none⟩ = false) ∧ w.heap.size < wx.heap.size ∧ w.heap.size + 1 < wx.heap.size ∧ w.heap.size + 1 + 1 < wx.heap.size ∧ Below w.heap.size w wx)
  case first =>
    go_region_with (first | (go_at_call 30; with_reducible refine (H.at _).mono ?_; rintro e w1 ⟨rfl, hb⟩; obtain ⟨hc0, hf0, hz0⟩ := newc hb w.heap.size (by first|omega|(simp; done)|(simp; omega)); obtain ⟨hc1, hf1, hz1⟩ := newc hb (w.heap.size + 1) (by first|omega|(simp; done)|(simp; omega)); obtain ⟨hc2, hf2, hz2⟩ := newc hb (w.heap.size + 2) (by first|omega|(simp; done)|(simp; omega)))|(go_at_call 30; with_reducible refine (H'.at _).mono ?_; rintro e w1 ⟨rfl, hb⟩; obtain ⟨hc0, hf0, hz0⟩ := newc hb w.heap.size (by first|omega|(simp; done)|(simp; omega)); obtain ⟨hc1, hf1, hz1⟩ := newc hb (w.heap.size + 1) (by first|omega|(simp; done)|(simp; omega)); obtain ⟨hc2, hf2, hz2⟩ := newc hb (w.heap.size + 2) (by first|omega|(simp; done)|(simp; omega))))
    all_goals
      go_wp2_with fail
      go_meet
      refine ⟨?_, ?_, ?_, ?_, ?_, ?_, ?_, ?_, ?_, ?_, ?_, ?_, ?_, ?_, ?_, ?_, ?_⟩
      all_goals first | (simp [*, go_sem]; done) | (intro o; simp [*, go_sem]; done) | omega | exact (by repeat' (first | with_reducible exact Below.refl _ _ | with_reducible refine below_step ?_ (by assumption) | with_reducible apply below_set' | with_reducible apply below_alloc' | with_reducible apply Below.drew | with_reducible apply below_drewN' | (simp; done) | omega | (simp; omega)))
  case rest =>
    obtain ⟨q0, q1, q2, q3, q4, q5, q6, q7, q8, q9, q10, q11, fz0, sz0, sz1, sz2, hb⟩ := hcut
    clear H H'
    go_wp2_with (go_at_call 22; refine (ofReal_any _ _).mono ?_; rw [hnan]; rintro e w1 ⟨rfl, hb⟩; obtain ⟨hc0, hf0, hz0⟩ := newc hb w.heap.size (by first | omega | (simp; done) | (simp; omega)); obtain ⟨hc1, hf1, hz1⟩ := newc hb (w.heap.size + 1) (by first | omega | (simp; done) | (simp; omega)); obtain ⟨hc2, hf2, hz2⟩ := newc hb (w.heap.size + 2) (by first | omega | (simp; done) | (simp; omega)))
    exact bodyPost_ret (by simp [results, Tryz.results17, go_sem, *]) rfl ⟨rfl, (by repeat' (first | with_reducible exact Below.refl _ _ | with_reducible refine below_step ?_ (by assumption) | with_reducible apply below_set' | with_reducible apply below_alloc' | with_reducible apply Below.drew | with_reducible apply below_drewN' | (simp; done) | omega | (simp; omega)))⟩
set_option maxRecDepth 100000 in
set_option maxHeartbeats 1000000 in
theorem arith_rother (op : ByteArray) (k n : Int) (f : Nat) (s : ByteArray) (N : Int) (F : Nat) (S : ByteArray) (k' n' : Int) (f' : Nat) (s' : ByteArray) (N' : Int) (F' : Nat) (S' : ByteArray)
    (H : Cleans k n f s 2 N F S) (H' : Cleans k' n' f' s' 2 N' F' S') (h1 : (op.toList == [43]) = false) (h2 : (op.toList == [45]) = false) (h3 : (op.toList == [42]) = false) (w : World) :
    Calls Tryz.prog 17 #[.string op, .agg #[.int .i64 k, .int .i64 n, .float .f64 f, .string s], .agg #[.int .i64 k', .int .i64 n', .float .f64 f', .string s']] w fun e w' => e = .returned (.agg #[.int .i64 0, .int .i64 0, .float .f64 0, .string ⟨#[]⟩]) ∧ Below w.heap.size w w' := by
  go_enter Tryz.func17, Tryz.ntmps17
  go_upto_region 1 with fail
  go_cut [] (fun wx => wx.cell? ⟨w.heap.size, 0, none⟩ = some (.int .i64 2) ∧ wx.cell? ⟨w.heap.size, 1, none⟩ = some (.int .i64 N) ∧ wx.cell? ⟨w.heap.size, 2, none⟩ = some (.float .f64 F) ∧ wx.cell? ⟨w.heap.size, 3, none⟩ = some (.string S) ∧ wx.cell? ⟨w.heap.size + 1, 0, none⟩ = some (.int .i64 2) ∧ wx.cell? ⟨w.heap.size + 1, 1, none⟩ = some (.int .i64 N') ∧ wx.cell? ⟨w.heap.size + 1, 2, none⟩ = some (.float .f64 F') ∧ wx.cell? ⟨w.heap.size + 1, 3, none⟩ = some (.string S') ∧ wx.cell? ⟨w.heap.size + 1 + 1, 0, none⟩ = some (.int .i64 0) ∧ wx.cell? ⟨w.heap.size + 1 + 1, 1, none⟩ = some (.int .i64 0) ∧ wx.cell? ⟨w.heap.size + 1 + 1, 2, none⟩ = some (.float .f64 0) ∧ wx.cell? ⟨w.heap.size + 1 + 1, 3, none⟩ = some (.string ⟨#[]⟩) ∧ (∀ o, wx.frozen? ⟨w.heap.size + 1 + 1, o, none⟩ = false) ∧ w.heap.size < wx.heap.size ∧ w.heap.size + 1 < wx.heap.size ∧ w.heap.size + 1 + 1 < wx.heap.size ∧ Below w.heap.size w wx)
  case first =>
    go_region_with (first | (go_at_call 30; with_reducible refine (H.at _).mono ?_; rintro e w1 ⟨rfl, hb⟩; obtain ⟨hc0, hf0, hz0⟩ := newc hb w.heap.size (by first|omega|(simp; done)|(simp; omega)); obtain ⟨hc1, hf1, hz1⟩ := newc hb (w.heap.size + 1) (by first|omega|(simp; done)|(simp; omega)); obtain ⟨hc2, hf2, hz2⟩ := newc hb (w.heap.size + 2) (by first|omega|(simp; done)|(simp; omega)))|(go_at_call 30; with_reducible refine (H'.at _).mono ?_; rintro e w1 ⟨rfl, hb⟩; obtain ⟨hc0, hf0, hz0⟩ := newc hb w.heap.size (by first|omega|(simp; done)|(simp; omega)); obtain ⟨hc1, hf1, hz1⟩ := newc hb (w.heap.size + 1) (by first|omega|(simp; done)|(simp; omega)); obtain ⟨hc2, hf2, hz2⟩ := newc hb (w.heap.size + 2) (by first|omega|(simp; done)|(simp; omega))))
    all_goals
      go_wp2_with fail
      go_meet
      refine ⟨?_, ?_, ?_, ?_, ?_, ?_, ?_, ?_, ?_, ?_, ?_, ?_, ?_, ?_, ?_, ?_, ?_⟩
      all_goals first | (simp [*, go_sem]; done) | (intro o; simp [*, go_sem]; done) | omega | exact (by repeat' (first | with_reducible exact Below.refl _ _ | with_reducible refine below_step ?_ (by assumption) | with_reducible apply below_set' | with_reducible apply below_alloc' | with_reducible apply Below.drew | with_reducible apply below_drewN' | (simp; done) | omega | (simp; omega)))
  case rest =>
    obtain ⟨q0, q1, q2, q3, q4, q5, q6, q7, q8, q9, q10, q11, fz0, sz0, sz1, sz2, hb⟩ := hcut
    clear H H'
    go_wp2
    exact bodyPost_ret (by simp [results, Tryz.results17, go_sem, *]) rfl ⟨rfl, (by repeat' (first | with_reducible exact Below.refl _ _ | with_reducible refine below_step ?_ (by assumption) | with_reducible apply below_set' | with_reducible apply below_alloc' | with_reducible apply Below.drew | with_reducible apply below_drewN' | (simp; done) | omega | (simp; omega)))⟩
set_option maxRecDepth 100000 in
set_option maxHeartbeats 1000000 in
theorem arith_mixed1 (op : ByteArray) (k n : Int) (f : Nat) (s : ByteArray) (N : Int) (F : Nat) (S : ByteArray) (k' n' : Int) (f' : Nat) (s' : ByteArray) (K' N' : Int) (F' : Nat) (S' : ByteArray)
    (H : Cleans k n f s 1 N F S) (H' : Cleans k' n' f' s' K' N' F' S') (h1 : (K' == 1) = false) (w : World) :
    Calls Tryz.prog 17 #[.string op, .agg #[.int .i64 k, .int .i64 n, .float .f64 f, .string s], .agg #[.int .i64 k', .int .i64 n', .float .f64 f', .string s']] w fun e w' => e = .returned (.agg #[.int .i64 0, .int .i64 0, .float .f64 0, .string ⟨#[]⟩]) ∧ Below w.heap.size w w' := by
  go_enter Tryz.func17, Tryz.ntmps17
  go_upto_region 1 with fail
  go_cut [] (fun wx => wx.cell? ⟨w.heap.size, 0, none⟩ = some (.int .i64 1) ∧ wx.cell? ⟨w.heap.size, 1, none⟩ = some (.int .i64 N) ∧ wx.cell? ⟨w.heap.size, 2, none⟩ = some (.float .f64 F) ∧ wx.cell? ⟨w.heap.size, 3, none⟩ = some (.string S) ∧ wx.cell? ⟨w.heap.size + 1, 0, none⟩ = some (.int .i64 K') ∧ wx.cell? ⟨w.heap.size + 1, 1, none⟩ = some (.int .i64 N') ∧ wx.cell? ⟨w.heap.size + 1, 2, none⟩ = some (.float .f64 F') ∧ wx.cell? ⟨w.heap.size + 1, 3, none⟩ = some (.string S') ∧ wx.cell? ⟨w.heap.size + 1 + 1, 0, none⟩ = some (.int .i64 0) ∧ wx.cell? ⟨w.heap.size + 1 + 1, 1, none⟩ = some (.int .i64 0) ∧ wx.cell? ⟨w.heap.size + 1 + 1, 2, none⟩ = some (.float .f64 0) ∧ wx.cell? ⟨w.heap.size + 1 + 1, 3, none⟩ = some (.string ⟨#[]⟩) ∧ (∀ o, wx.frozen? ⟨w.heap.size + 1 + 1, o, none⟩ = false) ∧ w.heap.size < wx.heap.size ∧ w.heap.size + 1 < wx.heap.size ∧ w.heap.size + 1 + 1 < wx.heap.size ∧ Below w.heap.size w wx)
  case first =>
    go_region_with (first | (go_at_call 30; with_reducible refine (H.at _).mono ?_; rintro e w1 ⟨rfl, hb⟩; obtain ⟨hc0, hf0, hz0⟩ := newc hb w.heap.size (by first|omega|(simp; done)|(simp; omega)); obtain ⟨hc1, hf1, hz1⟩ := newc hb (w.heap.size + 1) (by first|omega|(simp; done)|(simp; omega)); obtain ⟨hc2, hf2, hz2⟩ := newc hb (w.heap.size + 2) (by first|omega|(simp; done)|(simp; omega)))|(go_at_call 30; with_reducible refine (H'.at _).mono ?_; rintro e w1 ⟨rfl, hb⟩; obtain ⟨hc0, hf0, hz0⟩ := newc hb w.heap.size (by first|omega|(simp; done)|(simp; omega)); obtain ⟨hc1, hf1, hz1⟩ := newc hb (w.heap.size + 1) (by first|omega|(simp; done)|(simp; omega)); obtain ⟨hc2, hf2, hz2⟩ := newc hb (w.heap.size + 2) (by first|omega|(simp; done)|(simp; omega))))
    all_goals
      go_wp2_with fail
      go_meet
      refine ⟨?_, ?_, ?_, ?_, ?_, ?_, ?_, ?_, ?_, ?_, ?_, ?_, ?_, ?_, ?_, ?_, ?_⟩
      all_goals first | (simp [*, go_sem]; done) | (intro o; simp [*, go_sem]; done) | omega | exact (by repeat' (first | with_reducible exact Below.refl _ _ | with_reducible refine below_step ?_ (by assumption) | with_reducible apply below_set' | with_reducible apply below_alloc' | with_reducible apply Below.drew | with_reducible apply below_drewN' | (simp; done) | omega | (simp; omega)))
  case rest =>
    obtain ⟨q0, q1, q2, q3, q4, q5, q6, q7, q8, q9, q10, q11, fz0, sz0, sz1, sz2, hb⟩ := hcut
    clear H H'
    go_wp2
    all_goals skip
    exact bodyPost_ret (by simp [results, Tryz.results17, go_sem, *]) rfl ⟨rfl, (by repeat' (first | with_reducible exact Below.refl _ _ | with_reducible refine below_step ?_ (by assumption) | with_reducible apply below_set' | with_reducible apply below_alloc' | with_reducible apply Below.drew | with_reducible apply below_drewN' | (simp; done) | omega | (simp; omega)))⟩
set_option maxRecDepth 100000 in
set_option maxHeartbeats 1000000 in
theorem arith_mixed2 (op : ByteArray) (k n : Int) (f : Nat) (s : ByteArray) (N : Int) (F : Nat) (S : ByteArray) (k' n' : Int) (f' : Nat) (s' : ByteArray) (K' N' : Int) (F' : Nat) (S' : ByteArray)
    (H : Cleans k n f s 2 N F S) (H' : Cleans k' n' f' s' K' N' F' S') (h2 : (K' == 2) = false) (w : World) :
    Calls Tryz.prog 17 #[.string op, .agg #[.int .i64 k, .int .i64 n, .float .f64 f, .string s], .agg #[.int .i64 k', .int .i64 n', .float .f64 f', .string s']] w fun e w' => e = .returned (.agg #[.int .i64 0, .int .i64 0, .float .f64 0, .string ⟨#[]⟩]) ∧ Below w.heap.size w w' := by
  go_enter Tryz.func17, Tryz.ntmps17
  go_upto_region 1 with fail
  go_cut [] (fun wx => wx.cell? ⟨w.heap.size, 0, none⟩ = some (.int .i64 2) ∧ wx.cell? ⟨w.heap.size, 1, none⟩ = some (.int .i64 N) ∧ wx.cell? ⟨w.heap.size, 2, none⟩ = some (.float .f64 F) ∧ wx.cell? ⟨w.heap.size, 3, none⟩ = some (.string S) ∧ wx.cell? ⟨w.heap.size + 1, 0, none⟩ = some (.int .i64 K') ∧ wx.cell? ⟨w.heap.size + 1, 1, none⟩ = some (.int .i64 N') ∧ wx.cell? ⟨w.heap.size + 1, 2, none⟩ = some (.float .f64 F') ∧ wx.cell? ⟨w.heap.size + 1, 3, none⟩ = some (.string S') ∧ wx.cell? ⟨w.heap.size + 1 + 1, 0, none⟩ = some (.int .i64 0) ∧ wx.cell? ⟨w.heap.size + 1 + 1, 1, none⟩ = some (.int .i64 0) ∧ wx.cell? ⟨w.heap.size + 1 + 1, 2, none⟩ = some (.float .f64 0) ∧ wx.cell? ⟨w.heap.size + 1 + 1, 3, none⟩ = some (.string ⟨#[]⟩) ∧ (∀ o, wx.frozen? ⟨w.heap.size + 1 + 1, o, none⟩ = false) ∧ w.heap.size < wx.heap.size ∧ w.heap.size + 1 < wx.heap.size ∧ w.heap.size + 1 + 1 < wx.heap.size ∧ Below w.heap.size w wx)
  case first =>
    go_region_with (first | (go_at_call 30; with_reducible refine (H.at _).mono ?_; rintro e w1 ⟨rfl, hb⟩; obtain ⟨hc0, hf0, hz0⟩ := newc hb w.heap.size (by first|omega|(simp; done)|(simp; omega)); obtain ⟨hc1, hf1, hz1⟩ := newc hb (w.heap.size + 1) (by first|omega|(simp; done)|(simp; omega)); obtain ⟨hc2, hf2, hz2⟩ := newc hb (w.heap.size + 2) (by first|omega|(simp; done)|(simp; omega)))|(go_at_call 30; with_reducible refine (H'.at _).mono ?_; rintro e w1 ⟨rfl, hb⟩; obtain ⟨hc0, hf0, hz0⟩ := newc hb w.heap.size (by first|omega|(simp; done)|(simp; omega)); obtain ⟨hc1, hf1, hz1⟩ := newc hb (w.heap.size + 1) (by first|omega|(simp; done)|(simp; omega)); obtain ⟨hc2, hf2, hz2⟩ := newc hb (w.heap.size + 2) (by first|omega|(simp; done)|(simp; omega))))
    all_goals
      go_wp2_with fail
      go_meet
      refine ⟨?_, ?_, ?_, ?_, ?_, ?_, ?_, ?_, ?_, ?_, ?_, ?_, ?_, ?_, ?_, ?_, ?_⟩
      all_goals first | (simp [*, go_sem]; done) | (intro o; simp [*, go_sem]; done) | omega | exact (by repeat' (first | with_reducible exact Below.refl _ _ | with_reducible refine below_step ?_ (by assumption) | with_reducible apply below_set' | with_reducible apply below_alloc' | with_reducible apply Below.drew | with_reducible apply below_drewN' | (simp; done) | omega | (simp; omega)))
  case rest =>
    obtain ⟨q0, q1, q2, q3, q4, q5, q6, q7, q8, q9, q10, q11, fz0, sz0, sz1, sz2, hb⟩ := hcut
    clear H H'
    go_wp2
    all_goals skip
    exact bodyPost_ret (by simp [results, Tryz.results17, go_sem, *]) rfl ⟨rfl, (by repeat' (first | with_reducible exact Below.refl _ _ | with_reducible refine below_step ?_ (by assumption) | with_reducible apply below_set' | with_reducible apply below_alloc' | with_reducible apply Below.drew | with_reducible apply below_drewN' | (simp; done) | omega | (simp; omega)))⟩
set_option maxRecDepth 100000 in
set_option maxHeartbeats 1000000 in
theorem arith_mixed3 (op : ByteArray) (k n : Int) (f : Nat) (s : ByteArray) (K N : Int) (F : Nat) (S : ByteArray) (k' n' : Int) (f' : Nat) (s' : ByteArray) (K' N' : Int) (F' : Nat) (S' : ByteArray)
    (H : Cleans k n f s K N F S) (H' : Cleans k' n' f' s' K' N' F' S') (h1 : (K == 1) = false) (h2 : (K == 2) = false) (w : World) :
    Calls Tryz.prog 17 #[.string op, .agg #[.int .i64 k, .int .i64 n, .float .f64 f, .string s], .agg #[.int .i64 k', .int .i64 n', .float .f64 f', .string s']] w fun e w' => e = .returned (.agg #[.int .i64 0, .int .i64 0, .float .f64 0, .string ⟨#[]⟩]) ∧ Below w.heap.size w w' := by
  go_enter Tryz.func17, Tryz.ntmps17
  go_upto_region 1 with fail
  go_cut [] (fun wx => wx.cell? ⟨w.heap.size, 0, none⟩ = some (.int .i64 K) ∧ wx.cell? ⟨w.heap.size, 1, none⟩ = some (.int .i64 N) ∧ wx.cell? ⟨w.heap.size, 2, none⟩ = some (.float .f64 F) ∧ wx.cell? ⟨w.heap.size, 3, none⟩ = some (.string S) ∧ wx.cell? ⟨w.heap.size + 1, 0, none⟩ = some (.int .i64 K') ∧ wx.cell? ⟨w.heap.size + 1, 1, none⟩ = some (.int .i64 N') ∧ wx.cell? ⟨w.heap.size + 1, 2, none⟩ = some (.float .f64 F') ∧ wx.cell? ⟨w.heap.size + 1, 3, none⟩ = some (.string S') ∧ wx.cell? ⟨w.heap.size + 1 + 1, 0, none⟩ = some (.int .i64 0) ∧ wx.cell? ⟨w.heap.size + 1 + 1, 1, none⟩ = some (.int .i64 0) ∧ wx.cell? ⟨w.heap.size + 1 + 1, 2, none⟩ = some (.float .f64 0) ∧ wx.cell? ⟨w.heap.size + 1 + 1, 3, none⟩ = some (.string ⟨#[]⟩) ∧ (∀ o, wx.frozen? ⟨w.heap.size + 1 + 1, o, none⟩ = false) ∧ w.heap.size < wx.heap.size ∧ w.heap.size + 1 < wx.heap.size ∧ w.heap.size + 1 + 1 < wx.heap.size ∧ Below w.heap.size w wx)
  case first =>
    go_region_with (first | (go_at_call 30; with_reducible refine (H.at _).mono ?_; rintro e w1 ⟨rfl, hb⟩; obtain ⟨hc0, hf0, hz0⟩ := newc hb w.heap.size (by first|omega|(simp; done)|(simp; omega)); obtain ⟨hc1, hf1, hz1⟩ := newc hb (w.heap.size + 1) (by first|omega|(simp; done)|(simp; omega)); obtain ⟨hc2, hf2, hz2⟩ := newc hb (w.heap.size + 2) (by first|omega|(simp; done)|(simp; omega)))|(go_at_call 30; with_reducible refine (H'.at _).mono ?_; rintro e w1 ⟨rfl, hb⟩; obtain ⟨hc0, hf0, hz0⟩ := newc hb w.heap.size (by first|omega|(simp; done)|(simp; omega)); obtain ⟨hc1, hf1, hz1⟩ := newc hb (w.heap.size + 1) (by first|omega|(simp; done)|(simp; omega)); obtain ⟨hc2, hf2, hz2⟩ := newc hb (w.heap.size + 2) (by first|omega|(simp; done)|(simp; omega))))
    all_goals
      go_wp2_with fail
      go_meet
      refine ⟨?_, ?_, ?_, ?_, ?_, ?_, ?_, ?_, ?_, ?_, ?_, ?_, ?_, ?_, ?_, ?_, ?_⟩
      all_goals first | (simp [*, go_sem]; done) | (intro o; simp [*, go_sem]; done) | omega | exact (by repeat' (first | with_reducible exact Below.refl _ _ | with_reducible refine below_step ?_ (by assumption) | with_reducible apply below_set' | with_reducible apply below_alloc' | with_reducible apply Below.drew | with_reducible apply below_drewN' | (simp; done) | omega | (simp; omega)))
  case rest =>
    obtain ⟨q0, q1, q2, q3, q4, q5, q6, q7, q8, q9, q10, q11, fz0, sz0, sz1, sz2, hb⟩ := hcut
    clear H H'
    go_wp2
    all_goals skip
    exact bodyPost_ret (by simp [results, Tryz.results17, go_sem, *]) rfl ⟨rfl, (by repeat' (first | with_reducible exact Below.refl _ _ | with_reducible refine below_step ?_ (by assumption) | with_reducible apply below_set' | with_reducible apply below_alloc' | with_reducible apply Below.drew | with_reducible apply below_drewN' | (simp; done) | omega | (simp; omega)))⟩
end Go.Proofs.YtikpgglbfpdhmaaGreatDoor

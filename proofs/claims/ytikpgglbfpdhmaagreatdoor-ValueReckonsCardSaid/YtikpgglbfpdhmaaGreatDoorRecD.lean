/- What two values come to, in the reference: the difference. -/
import Derived.Test.YtikpgglbfpdhmaaGreatDoorRecC
namespace Go.Proofs.YtikpgglbfpdhmaaGreatDoor
open Go.RowKit Go.Joins
attribute [local go_sem ↓] Go.wp_at_zero Go.wp_at_succ

set_option maxRecDepth 100000 in
set_option maxHeartbeats 1000000 in
theorem rarith_sub_yes (k n : Int) (f : Nat) (s : ByteArray) (N : Int) (F : Nat) (S : ByteArray) (k' n' : Int) (f' : Nat) (s' : ByteArray) (N' : Int) (F' : Nat) (S' : ByteArray)
    (H : RCleans k n f s 1 N F S) (H' : RCleans k' n' f' s' 1 N' F' S') (g1 : -9223372036854775808 < N') (g2 : N' ≤ 9223372036854775807) (R : Int) (HW : Hid (∀ w, Calls Tryz.prog 59 #[.int .i64 N, .int .i64 (-N')] w fun e w' => e = .returned (.tuple #[.int .i64 R, .bool true]) ∧ w = w')) (w : World) :
    Calls Tryz.prog 33 #[.string ⟨#[45]⟩, .agg #[.int .i64 k, .int .i64 n, .float .f64 f, .string s], .agg #[.int .i64 k', .int .i64 n', .float .f64 f', .string s']] w fun e w' => e = .returned (.agg #[.int .i64 1, .int .i64 R, .float .f64 0, .string ⟨#[]⟩]) ∧ Below w.heap.size w w' := by
  go_enter Tryz.func33, Tryz.ntmps33
  go_upto_region 1 with fail
  go_cut [] (fun wx => wx.cell? ⟨w.heap.size, 0, none⟩ = some (.int .i64 1) ∧ wx.cell? ⟨w.heap.size, 1, none⟩ = some (.int .i64 N) ∧ wx.cell? ⟨w.heap.size, 2, none⟩ = some (.float .f64 F) ∧ wx.cell? ⟨w.heap.size, 3, none⟩ = some (.string S) ∧ wx.cell? ⟨w.heap.size + 1, 0, none⟩ = some (.int .i64 1) ∧ wx.cell? ⟨w.heap.size + 1, 1, none⟩ = some (.int .i64 N') ∧ wx.cell? ⟨w.heap.size + 1, 2, none⟩ = some (.float .f64 F') ∧ wx.cell? ⟨w.heap.size + 1, 3, none⟩ = some (.string S') ∧ wx.cell? ⟨w.heap.size + 1 + 1, 0, none⟩ = some (.int .i64 0) ∧ wx.cell? ⟨w.heap.size + 1 + 1, 1, none⟩ = some (.int .i64 0) ∧ wx.cell? ⟨w.heap.size + 1 + 1, 2, none⟩ = some (.float .f64 0) ∧ wx.cell? ⟨w.heap.size + 1 + 1, 3, none⟩ = some (.string ⟨#[]⟩) ∧ (∀ o, wx.frozen? ⟨w.heap.size + 1 + 1, o, none⟩ = false) ∧ w.heap.size < wx.heap.size ∧ w.heap.size + 1 < wx.heap.size ∧ w.heap.size + 1 + 1 < wx.heap.size ∧ Below w.heap.size w wx)
  case first =>
    go_region_with (first | (go_at_call 20; with_reducible refine (H.at _).mono ?_; rintro e w1 ⟨rfl, hb⟩; obtain ⟨hc0, hf0, hz0⟩ := newc hb w.heap.size (by first|omega|(simp; done)|(simp; omega)); obtain ⟨hc1, hf1, hz1⟩ := newc hb (w.heap.size + 1) (by first|omega|(simp; done)|(simp; omega)); obtain ⟨hc2, hf2, hz2⟩ := newc hb (w.heap.size + 2) (by first|omega|(simp; done)|(simp; omega)))|(go_at_call 20; with_reducible refine (H'.at _).mono ?_; rintro e w1 ⟨rfl, hb⟩; obtain ⟨hc0, hf0, hz0⟩ := newc hb w.heap.size (by first|omega|(simp; done)|(simp; omega)); obtain ⟨hc1, hf1, hz1⟩ := newc hb (w.heap.size + 1) (by first|omega|(simp; done)|(simp; omega)); obtain ⟨hc2, hf2, hz2⟩ := newc hb (w.heap.size + 2) (by first|omega|(simp; done)|(simp; omega))))
    all_goals
      go_wp2_with fail
      go_meet
      refine ⟨?_, ?_, ?_, ?_, ?_, ?_, ?_, ?_, ?_, ?_, ?_, ?_, ?_, ?_, ?_, ?_, ?_⟩
      all_goals first | (simp [*, go_sem]; done) | (intro o; simp [*, go_sem]; done) | omega | exact (by repeat' (first | with_reducible exact Below.refl _ _ | with_reducible refine below_step ?_ (by assumption) | with_reducible apply below_set' | with_reducible apply below_alloc' | with_reducible apply Below.drew | with_reducible apply below_drewN' | (simp; done) | omega | (simp; omega)))
  case rest =>
    obtain ⟨q0, q1, q2, q3, q4, q5, q6, q7, q8, q9, q10, q11, fz0, sz0, sz1, sz2, hb⟩ := hcut
    clear H H'
    go_wp2_with (first | (go_at_call 59; with_reducible refine (HW.out _).mono ?_; rintro e w1 ⟨rfl, rfl⟩))
    all_goals exact bodyPost_ret (by simp [results, Tryz.results33, go_sem, *]) rfl ⟨rfl, (by repeat' (first | with_reducible exact Below.refl _ _ | with_reducible refine below_step ?_ (by assumption) | with_reducible apply below_set' | with_reducible apply below_alloc' | with_reducible apply Below.drew | with_reducible apply below_drewN' | (simp; done) | omega | (simp; omega)))⟩
set_option maxRecDepth 100000 in
set_option maxHeartbeats 1000000 in
theorem rarith_sub_no (k n : Int) (f : Nat) (s : ByteArray) (N : Int) (F : Nat) (S : ByteArray) (k' n' : Int) (f' : Nat) (s' : ByteArray) (N' : Int) (F' : Nat) (S' : ByteArray)
    (H : RCleans k n f s 1 N F S) (H' : RCleans k' n' f' s' 1 N' F' S') (g1 : -9223372036854775808 < N') (g2 : N' ≤ 9223372036854775807) (HW : Hid (∀ w, Calls Tryz.prog 59 #[.int .i64 N, .int .i64 (-N')] w fun e w' => (∃ r, e = .returned (.tuple #[.int .i64 r, .bool false])) ∧ w = w')) (w : World) :
    Calls Tryz.prog 33 #[.string ⟨#[45]⟩, .agg #[.int .i64 k, .int .i64 n, .float .f64 f, .string s], .agg #[.int .i64 k', .int .i64 n', .float .f64 f', .string s']] w fun e w' => e = .returned (.agg #[.int .i64 0, .int .i64 0, .float .f64 0, .string ⟨#[]⟩]) ∧ Below w.heap.size w w' := by
  go_enter Tryz.func33, Tryz.ntmps33
  go_upto_region 1 with fail
  go_cut [] (fun wx => wx.cell? ⟨w.heap.size, 0, none⟩ = some (.int .i64 1) ∧ wx.cell? ⟨w.heap.size, 1, none⟩ = some (.int .i64 N) ∧ wx.cell? ⟨w.heap.size, 2, none⟩ = some (.float .f64 F) ∧ wx.cell? ⟨w.heap.size, 3, none⟩ = some (.string S) ∧ wx.cell? ⟨w.heap.size + 1, 0, none⟩ = some (.int .i64 1) ∧ wx.cell? ⟨w.heap.size + 1, 1, none⟩ = some (.int .i64 N') ∧ wx.cell? ⟨w.heap.size + 1, 2, none⟩ = some (.float .f64 F') ∧ wx.cell? ⟨w.heap.size + 1, 3, none⟩ = some (.string S') ∧ wx.cell? ⟨w.heap.size + 1 + 1, 0, none⟩ = some (.int .i64 0) ∧ wx.cell? ⟨w.heap.size + 1 + 1, 1, none⟩ = some (.int .i64 0) ∧ wx.cell? ⟨w.heap.size + 1 + 1, 2, none⟩ = some (.float .f64 0) ∧ wx.cell? ⟨w.heap.size + 1 + 1, 3, none⟩ = some (.string ⟨#[]⟩) ∧ (∀ o, wx.frozen? ⟨w.heap.size + 1 + 1, o, none⟩ = false) ∧ w.heap.size < wx.heap.size ∧ w.heap.size + 1 < wx.heap.size ∧ w.heap.size + 1 + 1 < wx.heap.size ∧ Below w.heap.size w wx)
  case first =>
    go_region_with (first | (go_at_call 20; with_reducible refine (H.at _).mono ?_; rintro e w1 ⟨rfl, hb⟩; obtain ⟨hc0, hf0, hz0⟩ := newc hb w.heap.size (by first|omega|(simp; done)|(simp; omega)); obtain ⟨hc1, hf1, hz1⟩ := newc hb (w.heap.size + 1) (by first|omega|(simp; done)|(simp; omega)); obtain ⟨hc2, hf2, hz2⟩ := newc hb (w.heap.size + 2) (by first|omega|(simp; done)|(simp; omega)))|(go_at_call 20; with_reducible refine (H'.at _).mono ?_; rintro e w1 ⟨rfl, hb⟩; obtain ⟨hc0, hf0, hz0⟩ := newc hb w.heap.size (by first|omega|(simp; done)|(simp; omega)); obtain ⟨hc1, hf1, hz1⟩ := newc hb (w.heap.size + 1) (by first|omega|(simp; done)|(simp; omega)); obtain ⟨hc2, hf2, hz2⟩ := newc hb (w.heap.size + 2) (by first|omega|(simp; done)|(simp; omega))))
    all_goals
      go_wp2_with fail
      go_meet
      refine ⟨?_, ?_, ?_, ?_, ?_, ?_, ?_, ?_, ?_, ?_, ?_, ?_, ?_, ?_, ?_, ?_, ?_⟩
      all_goals first | (simp [*, go_sem]; done) | (intro o; simp [*, go_sem]; done) | omega | exact (by repeat' (first | with_reducible exact Below.refl _ _ | with_reducible refine below_step ?_ (by assumption) | with_reducible apply below_set' | with_reducible apply below_alloc' | with_reducible apply Below.drew | with_reducible apply below_drewN' | (simp; done) | omega | (simp; omega)))
  case rest =>
    obtain ⟨q0, q1, q2, q3, q4, q5, q6, q7, q8, q9, q10, q11, fz0, sz0, sz1, sz2, hb⟩ := hcut
    clear H H'
    go_wp2_with (first | (go_at_call 59; with_reducible refine (HW.out _).mono ?_; rintro e w1 ⟨⟨r, rfl⟩, rfl⟩))
    all_goals exact bodyPost_ret (by simp [results, Tryz.results33, go_sem, *]) rfl ⟨rfl, (by repeat' (first | with_reducible exact Below.refl _ _ | with_reducible refine below_step ?_ (by assumption) | with_reducible apply below_set' | with_reducible apply below_alloc' | with_reducible apply Below.drew | with_reducible apply below_drewN' | (simp; done) | omega | (simp; omega)))⟩
set_option maxRecDepth 100000 in
set_option maxHeartbeats 1000000 in
theorem rarith_sub_min1 (k n : Int) (f : Nat) (s : ByteArray) (N : Int) (F : Nat) (S : ByteArray) (k' n' : Int) (f' : Nat) (s' : ByteArray) (N' : Int) (F' : Nat) (S' : ByteArray)
    (H : RCleans k n f s 1 N F S) (H' : RCleans k' n' f' s' 1 N' F' S') (hN : N' = -9223372036854775808) (M R : Int) (HW : Hid (∀ w, Calls Tryz.prog 59 #[.int .i64 N, .int .i64 9223372036854775807] w fun e w' => e = .returned (.tuple #[.int .i64 M, .bool true]) ∧ w = w'))(HW2 : Hid (∀ w, Calls Tryz.prog 59 #[.int .i64 M, .int .i64 1] w fun e w' => e = .returned (.tuple #[.int .i64 R, .bool true]) ∧ w = w')) (w : World) :
    Calls Tryz.prog 33 #[.string ⟨#[45]⟩, .agg #[.int .i64 k, .int .i64 n, .float .f64 f, .string s], .agg #[.int .i64 k', .int .i64 n', .float .f64 f', .string s']] w fun e w' => e = .returned (.agg #[.int .i64 1, .int .i64 R, .float .f64 0, .string ⟨#[]⟩]) ∧ Below w.heap.size w w' := by
  go_enter Tryz.func33, Tryz.ntmps33
  go_upto_region 1 with fail
  go_cut [] (fun wx => wx.cell? ⟨w.heap.size, 0, none⟩ = some (.int .i64 1) ∧ wx.cell? ⟨w.heap.size, 1, none⟩ = some (.int .i64 N) ∧ wx.cell? ⟨w.heap.size, 2, none⟩ = some (.float .f64 F) ∧ wx.cell? ⟨w.heap.size, 3, none⟩ = some (.string S) ∧ wx.cell? ⟨w.heap.size + 1, 0, none⟩ = some (.int .i64 1) ∧ wx.cell? ⟨w.heap.size + 1, 1, none⟩ = some (.int .i64 N') ∧ wx.cell? ⟨w.heap.size + 1, 2, none⟩ = some (.float .f64 F') ∧ wx.cell? ⟨w.heap.size + 1, 3, none⟩ = some (.string S') ∧ wx.cell? ⟨w.heap.size + 1 + 1, 0, none⟩ = some (.int .i64 0) ∧ wx.cell? ⟨w.heap.size + 1 + 1, 1, none⟩ = some (.int .i64 0) ∧ wx.cell? ⟨w.heap.size + 1 + 1, 2, none⟩ = some (.float .f64 0) ∧ wx.cell? ⟨w.heap.size + 1 + 1, 3, none⟩ = some (.string ⟨#[]⟩) ∧ (∀ o, wx.frozen? ⟨w.heap.size + 1 + 1, o, none⟩ = false) ∧ w.heap.size < wx.heap.size ∧ w.heap.size + 1 < wx.heap.size ∧ w.heap.size + 1 + 1 < wx.heap.size ∧ Below w.heap.size w wx)
  case first =>
    go_region_with (first | (go_at_call 20; with_reducible refine (H.at _).mono ?_; rintro e w1 ⟨rfl, hb⟩; obtain ⟨hc0, hf0, hz0⟩ := newc hb w.heap.size (by first|omega|(simp; done)|(simp; omega)); obtain ⟨hc1, hf1, hz1⟩ := newc hb (w.heap.size + 1) (by first|omega|(simp; done)|(simp; omega)); obtain ⟨hc2, hf2, hz2⟩ := newc hb (w.heap.size + 2) (by first|omega|(simp; done)|(simp; omega)))|(go_at_call 20; with_reducible refine (H'.at _).mono ?_; rintro e w1 ⟨rfl, hb⟩; obtain ⟨hc0, hf0, hz0⟩ := newc hb w.heap.size (by first|omega|(simp; done)|(simp; omega)); obtain ⟨hc1, hf1, hz1⟩ := newc hb (w.heap.size + 1) (by first|omega|(simp; done)|(simp; omega)); obtain ⟨hc2, hf2, hz2⟩ := newc hb (w.heap.size + 2) (by first|omega|(simp; done)|(simp; omega))))
    all_goals
      go_wp2_with fail
      go_meet
      refine ⟨?_, ?_, ?_, ?_, ?_, ?_, ?_, ?_, ?_, ?_, ?_, ?_, ?_, ?_, ?_, ?_, ?_⟩
      all_goals first | (simp [*, go_sem]; done) | (intro o; simp [*, go_sem]; done) | omega | exact (by repeat' (first | with_reducible exact Below.refl _ _ | with_reducible refine below_step ?_ (by assumption) | with_reducible apply below_set' | with_reducible apply below_alloc' | with_reducible apply Below.drew | with_reducible apply below_drewN' | (simp; done) | omega | (simp; omega)))
  case rest =>
    obtain ⟨q0, q1, q2, q3, q4, q5, q6, q7, q8, q9, q10, q11, fz0, sz0, sz1, sz2, hb⟩ := hcut
    clear H H'
    go_wp2_with (first | (go_at_call 59; with_reducible refine (HW.out _).mono ?_; rintro e w1 ⟨rfl, rfl⟩) | (go_at_call 59; with_reducible refine (HW2.out _).mono ?_; rintro e w1 ⟨rfl, rfl⟩))
    all_goals exact bodyPost_ret (by simp [results, Tryz.results33, go_sem, *]) rfl ⟨rfl, (by repeat' (first | with_reducible exact Below.refl _ _ | with_reducible refine below_step ?_ (by assumption) | with_reducible apply below_set' | with_reducible apply below_alloc' | with_reducible apply Below.drew | with_reducible apply below_drewN' | (simp; done) | omega | (simp; omega)))⟩
set_option maxRecDepth 100000 in
set_option maxHeartbeats 1000000 in
theorem rarith_sub_min2 (k n : Int) (f : Nat) (s : ByteArray) (N : Int) (F : Nat) (S : ByteArray) (k' n' : Int) (f' : Nat) (s' : ByteArray) (N' : Int) (F' : Nat) (S' : ByteArray)
    (H : RCleans k n f s 1 N F S) (H' : RCleans k' n' f' s' 1 N' F' S') (hN : N' = -9223372036854775808) (M : Int) (HW : Hid (∀ w, Calls Tryz.prog 59 #[.int .i64 N, .int .i64 9223372036854775807] w fun e w' => e = .returned (.tuple #[.int .i64 M, .bool true]) ∧ w = w'))(HW2 : Hid (∀ w, Calls Tryz.prog 59 #[.int .i64 M, .int .i64 1] w fun e w' => (∃ r, e = .returned (.tuple #[.int .i64 r, .bool false])) ∧ w = w')) (w : World) :
    Calls Tryz.prog 33 #[.string ⟨#[45]⟩, .agg #[.int .i64 k, .int .i64 n, .float .f64 f, .string s], .agg #[.int .i64 k', .int .i64 n', .float .f64 f', .string s']] w fun e w' => e = .returned (.agg #[.int .i64 0, .int .i64 0, .float .f64 0, .string ⟨#[]⟩]) ∧ Below w.heap.size w w' := by
  go_enter Tryz.func33, Tryz.ntmps33
  go_upto_region 1 with fail
  go_cut [] (fun wx => wx.cell? ⟨w.heap.size, 0, none⟩ = some (.int .i64 1) ∧ wx.cell? ⟨w.heap.size, 1, none⟩ = some (.int .i64 N) ∧ wx.cell? ⟨w.heap.size, 2, none⟩ = some (.float .f64 F) ∧ wx.cell? ⟨w.heap.size, 3, none⟩ = some (.string S) ∧ wx.cell? ⟨w.heap.size + 1, 0, none⟩ = some (.int .i64 1) ∧ wx.cell? ⟨w.heap.size + 1, 1, none⟩ = some (.int .i64 N') ∧ wx.cell? ⟨w.heap.size + 1, 2, none⟩ = some (.float .f64 F') ∧ wx.cell? ⟨w.heap.size + 1, 3, none⟩ = some (.string S') ∧ wx.cell? ⟨w.heap.size + 1 + 1, 0, none⟩ = some (.int .i64 0) ∧ wx.cell? ⟨w.heap.size + 1 + 1, 1, none⟩ = some (.int .i64 0) ∧ wx.cell? ⟨w.heap.size + 1 + 1, 2, none⟩ = some (.float .f64 0) ∧ wx.cell? ⟨w.heap.size + 1 + 1, 3, none⟩ = some (.string ⟨#[]⟩) ∧ (∀ o, wx.frozen? ⟨w.heap.size + 1 + 1, o, none⟩ = false) ∧ w.heap.size < wx.heap.size ∧ w.heap.size + 1 < wx.heap.size ∧ w.heap.size + 1 + 1 < wx.heap.size ∧ Below w.heap.size w wx)
  case first =>
    go_region_with (first | (go_at_call 20; with_reducible refine (H.at _).mono ?_; rintro e w1 ⟨rfl, hb⟩; obtain ⟨hc0, hf0, hz0⟩ := newc hb w.heap.size (by first|omega|(simp; done)|(simp; omega)); obtain ⟨hc1, hf1, hz1⟩ := newc hb (w.heap.size + 1) (by first|omega|(simp; done)|(simp; omega)); obtain ⟨hc2, hf2, hz2⟩ := newc hb (w.heap.size + 2) (by first|omega|(simp; done)|(simp; omega)))|(go_at_call 20; with_reducible refine (H'.at _).mono ?_; rintro e w1 ⟨rfl, hb⟩; obtain ⟨hc0, hf0, hz0⟩ := newc hb w.heap.size (by first|omega|(simp; done)|(simp; omega)); obtain ⟨hc1, hf1, hz1⟩ := newc hb (w.heap.size + 1) (by first|omega|(simp; done)|(simp; omega)); obtain ⟨hc2, hf2, hz2⟩ := newc hb (w.heap.size + 2) (by first|omega|(simp; done)|(simp; omega))))
    all_goals
      go_wp2_with fail
      go_meet
      refine ⟨?_, ?_, ?_, ?_, ?_, ?_, ?_, ?_, ?_, ?_, ?_, ?_, ?_, ?_, ?_, ?_, ?_⟩
      all_goals first | (simp [*, go_sem]; done) | (intro o; simp [*, go_sem]; done) | omega | exact (by repeat' (first | with_reducible exact Below.refl _ _ | with_reducible refine below_step ?_ (by assumption) | with_reducible apply below_set' | with_reducible apply below_alloc' | with_reducible apply Below.drew | with_reducible apply below_drewN' | (simp; done) | omega | (simp; omega)))
  case rest =>
    obtain ⟨q0, q1, q2, q3, q4, q5, q6, q7, q8, q9, q10, q11, fz0, sz0, sz1, sz2, hb⟩ := hcut
    clear H H'
    go_wp2_with (first | (go_at_call 59; with_reducible refine (HW.out _).mono ?_; rintro e w1 ⟨rfl, rfl⟩) | (go_at_call 59; with_reducible refine (HW2.out _).mono ?_; rintro e w1 ⟨⟨r, rfl⟩, rfl⟩))
    all_goals exact bodyPost_ret (by simp [results, Tryz.results33, go_sem, *]) rfl ⟨rfl, (by repeat' (first | with_reducible exact Below.refl _ _ | with_reducible refine below_step ?_ (by assumption) | with_reducible apply below_set' | with_reducible apply below_alloc' | with_reducible apply Below.drew | with_reducible apply below_drewN' | (simp; done) | omega | (simp; omega)))⟩
set_option maxRecDepth 100000 in
set_option maxHeartbeats 1000000 in
theorem rarith_sub_min3 (k n : Int) (f : Nat) (s : ByteArray) (N : Int) (F : Nat) (S : ByteArray) (k' n' : Int) (f' : Nat) (s' : ByteArray) (N' : Int) (F' : Nat) (S' : ByteArray)
    (H : RCleans k n f s 1 N F S) (H' : RCleans k' n' f' s' 1 N' F' S') (hN : N' = -9223372036854775808) (h0 : 0 ≤ N) (HW : Hid (∀ w, Calls Tryz.prog 59 #[.int .i64 N, .int .i64 9223372036854775807] w fun e w' => (∃ r, e = .returned (.tuple #[.int .i64 r, .bool false])) ∧ w = w')) (w : World) :
    Calls Tryz.prog 33 #[.string ⟨#[45]⟩, .agg #[.int .i64 k, .int .i64 n, .float .f64 f, .string s], .agg #[.int .i64 k', .int .i64 n', .float .f64 f', .string s']] w fun e w' => e = .returned (.agg #[.int .i64 0, .int .i64 0, .float .f64 0, .string ⟨#[]⟩]) ∧ Below w.heap.size w w' := by
  go_enter Tryz.func33, Tryz.ntmps33
  go_upto_region 1 with fail
  go_cut [] (fun wx => wx.cell? ⟨w.heap.size, 0, none⟩ = some (.int .i64 1) ∧ wx.cell? ⟨w.heap.size, 1, none⟩ = some (.int .i64 N) ∧ wx.cell? ⟨w.heap.size, 2, none⟩ = some (.float .f64 F) ∧ wx.cell? ⟨w.heap.size, 3, none⟩ = some (.string S) ∧ wx.cell? ⟨w.heap.size + 1, 0, none⟩ = some (.int .i64 1) ∧ wx.cell? ⟨w.heap.size + 1, 1, none⟩ = some (.int .i64 N') ∧ wx.cell? ⟨w.heap.size + 1, 2, none⟩ = some (.float .f64 F') ∧ wx.cell? ⟨w.heap.size + 1, 3, none⟩ = some (.string S') ∧ wx.cell? ⟨w.heap.size + 1 + 1, 0, none⟩ = some (.int .i64 0) ∧ wx.cell? ⟨w.heap.size + 1 + 1, 1, none⟩ = some (.int .i64 0) ∧ wx.cell? ⟨w.heap.size + 1 + 1, 2, none⟩ = some (.float .f64 0) ∧ wx.cell? ⟨w.heap.size + 1 + 1, 3, none⟩ = some (.string ⟨#[]⟩) ∧ (∀ o, wx.frozen? ⟨w.heap.size + 1 + 1, o, none⟩ = false) ∧ w.heap.size < wx.heap.size ∧ w.heap.size + 1 < wx.heap.size ∧ w.heap.size + 1 + 1 < wx.heap.size ∧ Below w.heap.size w wx)
  case first =>
    go_region_with (first | (go_at_call 20; with_reducible refine (H.at _).mono ?_; rintro e w1 ⟨rfl, hb⟩; obtain ⟨hc0, hf0, hz0⟩ := newc hb w.heap.size (by first|omega|(simp; done)|(simp; omega)); obtain ⟨hc1, hf1, hz1⟩ := newc hb (w.heap.size + 1) (by first|omega|(simp; done)|(simp; omega)); obtain ⟨hc2, hf2, hz2⟩ := newc hb (w.heap.size + 2) (by first|omega|(simp; done)|(simp; omega)))|(go_at_call 20; with_reducible refine (H'.at _).mono ?_; rintro e w1 ⟨rfl, hb⟩; obtain ⟨hc0, hf0, hz0⟩ := newc hb w.heap.size (by first|omega|(simp; done)|(simp; omega)); obtain ⟨hc1, hf1, hz1⟩ := newc hb (w.heap.size + 1) (by first|omega|(simp; done)|(simp; omega)); obtain ⟨hc2, hf2, hz2⟩ := newc hb (w.heap.size + 2) (by first|omega|(simp; done)|(simp; omega))))
    all_goals
      go_wp2_with fail
      go_meet
      refine ⟨?_, ?_, ?_, ?_, ?_, ?_, ?_, ?_, ?_, ?_, ?_, ?_, ?_, ?_, ?_, ?_, ?_⟩
      all_goals first | (simp [*, go_sem]; done) | (intro o; simp [*, go_sem]; done) | omega | exact (by repeat' (first | with_reducible exact Below.refl _ _ | with_reducible refine below_step ?_ (by assumption) | with_reducible apply below_set' | with_reducible apply below_alloc' | with_reducible apply Below.drew | with_reducible apply below_drewN' | (simp; done) | omega | (simp; omega)))
  case rest =>
    obtain ⟨q0, q1, q2, q3, q4, q5, q6, q7, q8, q9, q10, q11, fz0, sz0, sz1, sz2, hb⟩ := hcut
    clear H H'
    go_wp2_with (first | (go_at_call 59; with_reducible refine (HW.out _).mono ?_; rintro e w1 ⟨⟨r, rfl⟩, rfl⟩))
    all_goals exact bodyPost_ret (by simp [results, Tryz.results33, go_sem, *]) rfl ⟨rfl, (by repeat' (first | with_reducible exact Below.refl _ _ | with_reducible refine below_step ?_ (by assumption) | with_reducible apply below_set' | with_reducible apply below_alloc' | with_reducible apply Below.drew | with_reducible apply below_drewN' | (simp; done) | omega | (simp; omega)))⟩
end Go.Proofs.YtikpgglbfpdhmaaGreatDoor

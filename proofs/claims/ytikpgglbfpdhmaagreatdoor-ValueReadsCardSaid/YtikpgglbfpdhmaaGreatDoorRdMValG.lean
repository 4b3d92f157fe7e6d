/- The order of two values, in the reference. -/
import Derived.Test.YtikpgglbfpdhmaaGreatDoorRdMValC
namespace Go.Proofs.YtikpgglbfpdhmaaGreatDoor
open Go.RowKit Go.Joins
attribute [local go_sem ↓] Go.wp_at_zero Go.wp_at_succ

/-- What the reference's Clean gives at a value. -/
def RCleans (k n : Int) (f : Nat) (s : ByteArray) (K N : Int) (F : Nat) (S : ByteArray) : Prop :=
  ∀ w, Calls Tryz.prog 20 #[.agg #[.int .i64 k, .int .i64 n, .float .f64 f, .string s]] w fun e w' => e = .returned (.agg #[.int .i64 K, .int .i64 N, .float .f64 F, .string S]) ∧ Below w.heap.size w w'
theorem RCleans.at {k n : Int} {f : Nat} {s : ByteArray} {K N : Int} {F : Nat} {S : ByteArray} (h : RCleans k n f s K N F S) (w : World) :
    Calls Tryz.prog 20 #[.agg #[.int .i64 k, .int .i64 n, .float .f64 f, .string s]] w fun e w' => e = .returned (.agg #[.int .i64 K, .int .i64 N, .float .f64 F, .string S]) ∧ Below w.heap.size w w' := h w

set_option maxRecDepth 100000 in
set_option maxHeartbeats 1000000 in
theorem rorder_lt (k n : Int) (f : Nat) (s : ByteArray) (K N : Int) (F : Nat) (S : ByteArray) (k' n' : Int) (f' : Nat) (s' : ByteArray) (K' N' : Int) (F' : Nat) (S' : ByteArray)
    (H : RCleans k n f s K N F S) (H' : RCleans k' n' f' s' K' N' F' S') (h : K < K') (w : World) :
    Calls Tryz.prog 28 #[.agg #[.int .i64 k, .int .i64 n, .float .f64 f, .string s], .agg #[.int .i64 k', .int .i64 n', .float .f64 f', .string s']] w fun e w' => e = .returned (.int .i64 (-1)) ∧ Below w.heap.size w w' := by
  go_enter Tryz.func28, Tryz.ntmps28
  go_upto_region 1 with fail
  go_cut [] (fun wx => wx.cell? ⟨w.heap.size, 0, none⟩ = some (.int .i64 K) ∧ wx.cell? ⟨w.heap.size, 1, none⟩ = some (.int .i64 N) ∧ wx.cell? ⟨w.heap.size, 2, none⟩ = some (.float .f64 F) ∧ wx.cell? ⟨w.heap.size, 3, none⟩ = some (.string S) ∧ wx.cell? ⟨w.heap.size + 1, 0, none⟩ = some (.int .i64 K') ∧ wx.cell? ⟨w.heap.size + 1, 1, none⟩ = some (.int .i64 N') ∧ wx.cell? ⟨w.heap.size + 1, 2, none⟩ = some (.float .f64 F') ∧ wx.cell? ⟨w.heap.size + 1, 3, none⟩ = some (.string S') ∧ w.heap.size < wx.heap.size ∧ w.heap.size + 1 < wx.heap.size ∧ Below w.heap.size w wx)
  case first =>
    go_region_with (first | (go_at_call 20; with_reducible refine (H.at _).mono ?_; rintro e w1 ⟨rfl, hb⟩; obtain ⟨hc0, hf0, hz0⟩ := newc hb w.heap.size (by first|omega|(simp; done)|(simp; omega)); obtain ⟨hc1, hf1, hz1⟩ := newc hb (w.heap.size + 1) (by first|omega|(simp; done)|(simp; omega)))|(go_at_call 20; with_reducible refine (H'.at _).mono ?_; rintro e w1 ⟨rfl, hb⟩; obtain ⟨hc0, hf0, hz0⟩ := newc hb w.heap.size (by first|omega|(simp; done)|(simp; omega)); obtain ⟨hc1, hf1, hz1⟩ := newc hb (w.heap.size + 1) (by first|omega|(simp; done)|(simp; omega))))
    all_goals
      go_wp2_with fail
      go_meet
      refine ⟨?_, ?_, ?_, ?_, ?_, ?_, ?_, ?_, ?_, ?_, ?_⟩
      all_goals first | (simp [*, go_sem]; done) | (intro o; simp [*, go_sem]; done) | omega | exact (by repeat' (first | with_reducible exact Below.refl _ _ | with_reducible refine below_step ?_ (by assumption) | with_reducible apply below_set' | with_reducible apply below_alloc' | with_reducible apply Below.drew | with_reducible apply below_drewN' | (simp; done) | omega | (simp; omega)))
  case rest =>
    obtain ⟨q0, q1, q2, q3, q4, q5, q6, q7, sz0, sz1, hb⟩ := hcut
    clear H H'
    go_wp2
    go_quiet (fail)
    go_wp2
    go_ret
    exact ⟨rfl, (by repeat' (first | with_reducible exact Below.refl _ _ | with_reducible refine below_step ?_ (by assumption) | with_reducible apply below_set' | with_reducible apply below_alloc' | with_reducible apply Below.drew | with_reducible apply below_drewN' | (simp; done) | omega | (simp; omega)))⟩
set_option maxRecDepth 100000 in
set_option maxHeartbeats 1000000 in
theorem rorder_gt (k n : Int) (f : Nat) (s : ByteArray) (K N : Int) (F : Nat) (S : ByteArray) (k' n' : Int) (f' : Nat) (s' : ByteArray) (K' N' : Int) (F' : Nat) (S' : ByteArray)
    (H : RCleans k n f s K N F S) (H' : RCleans k' n' f' s' K' N' F' S') (h : K' < K) (w : World) :
    Calls Tryz.prog 28 #[.agg #[.int .i64 k, .int .i64 n, .float .f64 f, .string s], .agg #[.int .i64 k', .int .i64 n', .float .f64 f', .string s']] w fun e w' => e = .returned (.int .i64 (1)) ∧ Below w.heap.size w w' := by
  go_enter Tryz.func28, Tryz.ntmps28
  go_upto_region 1 with fail
  go_cut [] (fun wx => wx.cell? ⟨w.heap.size, 0, none⟩ = some (.int .i64 K) ∧ wx.cell? ⟨w.heap.size, 1, none⟩ = some (.int .i64 N) ∧ wx.cell? ⟨w.heap.size, 2, none⟩ = some (.float .f64 F) ∧ wx.cell? ⟨w.heap.size, 3, none⟩ = some (.string S) ∧ wx.cell? ⟨w.heap.size + 1, 0, none⟩ = some (.int .i64 K') ∧ wx.cell? ⟨w.heap.size + 1, 1, none⟩ = some (.int .i64 N') ∧ wx.cell? ⟨w.heap.size + 1, 2, none⟩ = some (.float .f64 F') ∧ wx.cell? ⟨w.heap.size + 1, 3, none⟩ = some (.string S') ∧ w.heap.size < wx.heap.size ∧ w.heap.size + 1 < wx.heap.size ∧ Below w.heap.size w wx)
  case first =>
    go_region_with (first | (go_at_call 20; with_reducible refine (H.at _).mono ?_; rintro e w1 ⟨rfl, hb⟩; obtain ⟨hc0, hf0, hz0⟩ := newc hb w.heap.size (by first|omega|(simp; done)|(simp; omega)); obtain ⟨hc1, hf1, hz1⟩ := newc hb (w.heap.size + 1) (by first|omega|(simp; done)|(simp; omega)))|(go_at_call 20; with_reducible refine (H'.at _).mono ?_; rintro e w1 ⟨rfl, hb⟩; obtain ⟨hc0, hf0, hz0⟩ := newc hb w.heap.size (by first|omega|(simp; done)|(simp; omega)); obtain ⟨hc1, hf1, hz1⟩ := newc hb (w.heap.size + 1) (by first|omega|(simp; done)|(simp; omega))))
    all_goals
      go_wp2_with fail
      go_meet
      refine ⟨?_, ?_, ?_, ?_, ?_, ?_, ?_, ?_, ?_, ?_, ?_⟩
      all_goals first | (simp [*, go_sem]; done) | (intro o; simp [*, go_sem]; done) | omega | exact (by repeat' (first | with_reducible exact Below.refl _ _ | with_reducible refine below_step ?_ (by assumption) | with_reducible apply below_set' | with_reducible apply below_alloc' | with_reducible apply Below.drew | with_reducible apply below_drewN' | (simp; done) | omega | (simp; omega)))
  case rest =>
    obtain ⟨q0, q1, q2, q3, q4, q5, q6, q7, sz0, sz1, hb⟩ := hcut
    clear H H'
    go_wp2
    go_quiet (fail)
    go_wp2
    go_ret
    exact ⟨rfl, (by repeat' (first | with_reducible exact Below.refl _ _ | with_reducible refine below_step ?_ (by assumption) | with_reducible apply below_set' | with_reducible apply below_alloc' | with_reducible apply Below.drew | with_reducible apply below_drewN' | (simp; done) | omega | (simp; omega)))⟩
set_option maxRecDepth 100000 in
set_option maxHeartbeats 1000000 in
theorem rorder_num_lt (c : Int) (k n : Int) (f : Nat) (s : ByteArray) (N : Int) (F : Nat) (S : ByteArray) (k' n' : Int) (f' : Nat) (s' : ByteArray) (N' : Int) (F' : Nat) (S' : ByteArray)
    (H : RCleans k n f s c N F S) (H' : RCleans k' n' f' s' c N' F' S') (h2 : ¬ c = 2) (h3 : ¬ c = 3) (h : N < N') (w : World) :
    Calls Tryz.prog 28 #[.agg #[.int .i64 k, .int .i64 n, .float .f64 f, .string s], .agg #[.int .i64 k', .int .i64 n', .float .f64 f', .string s']] w fun e w' => e = .returned (.int .i64 (-1)) ∧ Below w.heap.size w w' := by
  go_enter Tryz.func28, Tryz.ntmps28
  go_upto_region 1 with fail
  go_cut [] (fun wx => wx.cell? ⟨w.heap.size, 0, none⟩ = some (.int .i64 c) ∧ wx.cell? ⟨w.heap.size, 1, none⟩ = some (.int .i64 N) ∧ wx.cell? ⟨w.heap.size, 2, none⟩ = some (.float .f64 F) ∧ wx.cell? ⟨w.heap.size, 3, none⟩ = some (.string S) ∧ wx.cell? ⟨w.heap.size + 1, 0, none⟩ = some (.int .i64 c) ∧ wx.cell? ⟨w.heap.size + 1, 1, none⟩ = some (.int .i64 N') ∧ wx.cell? ⟨w.heap.size + 1, 2, none⟩ = some (.float .f64 F') ∧ wx.cell? ⟨w.heap.size + 1, 3, none⟩ = some (.string S') ∧ w.heap.size < wx.heap.size ∧ w.heap.size + 1 < wx.heap.size ∧ Below w.heap.size w wx)
  case first =>
    go_region_with (first | (go_at_call 20; with_reducible refine (H.at _).mono ?_; rintro e w1 ⟨rfl, hb⟩; obtain ⟨hc0, hf0, hz0⟩ := newc hb w.heap.size (by first|omega|(simp; done)|(simp; omega)); obtain ⟨hc1, hf1, hz1⟩ := newc hb (w.heap.size + 1) (by first|omega|(simp; done)|(simp; omega)))|(go_at_call 20; with_reducible refine (H'.at _).mono ?_; rintro e w1 ⟨rfl, hb⟩; obtain ⟨hc0, hf0, hz0⟩ := newc hb w.heap.size (by first|omega|(simp; done)|(simp; omega)); obtain ⟨hc1, hf1, hz1⟩ := newc hb (w.heap.size + 1) (by first|omega|(simp; done)|(simp; omega))))
    all_goals
      go_wp2_with fail
      go_meet
      refine ⟨?_, ?_, ?_, ?_, ?_, ?_, ?_, ?_, ?_, ?_, ?_⟩
      all_goals first | (simp [*, go_sem]; done) | (intro o; simp [*, go_sem]; done) | omega | exact (by repeat' (first | with_reducible exact Below.refl _ _ | with_reducible refine below_step ?_ (by assumption) | with_reducible apply below_set' | with_reducible apply below_alloc' | with_reducible apply Below.drew | with_reducible apply below_drewN' | (simp; done) | omega | (simp; omega)))
  case rest =>
    obtain ⟨q0, q1, q2, q3, q4, q5, q6, q7, sz0, sz1, hb⟩ := hcut
    clear H H'
    go_wp2
    go_quiet (fail)
    go_wp2
    go_quiet (fail)
    go_wp2
    go_ret
    exact ⟨rfl, (by repeat' (first | with_reducible exact Below.refl _ _ | with_reducible refine below_step ?_ (by assumption) | with_reducible apply below_set' | with_reducible apply below_alloc' | with_reducible apply Below.drew | with_reducible apply below_drewN' | (simp; done) | omega | (simp; omega)))⟩
set_option maxRecDepth 100000 in
set_option maxHeartbeats 1000000 in
theorem rorder_num_gt (c : Int) (k n : Int) (f : Nat) (s : ByteArray) (N : Int) (F : Nat) (S : ByteArray) (k' n' : Int) (f' : Nat) (s' : ByteArray) (N' : Int) (F' : Nat) (S' : ByteArray)
    (H : RCleans k n f s c N F S) (H' : RCleans k' n' f' s' c N' F' S') (h2 : ¬ c = 2) (h3 : ¬ c = 3) (h : N' < N) (w : World) :
    Calls Tryz.prog 28 #[.agg #[.int .i64 k, .int .i64 n, .float .f64 f, .string s], .agg #[.int .i64 k', .int .i64 n', .float .f64 f', .string s']] w fun e w' => e = .returned (.int .i64 (1)) ∧ Below w.heap.size w w' := by
  go_enter Tryz.func28, Tryz.ntmps28
  go_upto_region 1 with fail
  go_cut [] (fun wx => wx.cell? ⟨w.heap.size, 0, none⟩ = some (.int .i64 c) ∧ wx.cell? ⟨w.heap.size, 1, none⟩ = some (.int .i64 N) ∧ wx.cell? ⟨w.heap.size, 2, none⟩ = some (.float .f64 F) ∧ wx.cell? ⟨w.heap.size, 3, none⟩ = some (.string S) ∧ wx.cell? ⟨w.heap.size + 1, 0, none⟩ = some (.int .i64 c) ∧ wx.cell? ⟨w.heap.size + 1, 1, none⟩ = some (.int .i64 N') ∧ wx.cell? ⟨w.heap.size + 1, 2, none⟩ = some (.float .f64 F') ∧ wx.cell? ⟨w.heap.size + 1, 3, none⟩ = some (.string S') ∧ w.heap.size < wx.heap.size ∧ w.heap.size + 1 < wx.heap.size ∧ Below w.heap.size w wx)
  case first =>
    go_region_with (first | (go_at_call 20; with_reducible refine (H.at _).mono ?_; rintro e w1 ⟨rfl, hb⟩; obtain ⟨hc0, hf0, hz0⟩ := newc hb w.heap.size (by first|omega|(simp; done)|(simp; omega)); obtain ⟨hc1, hf1, hz1⟩ := newc hb (w.heap.size + 1) (by first|omega|(simp; done)|(simp; omega)))|(go_at_call 20; with_reducible refine (H'.at _).mono ?_; rintro e w1 ⟨rfl, hb⟩; obtain ⟨hc0, hf0, hz0⟩ := newc hb w.heap.size (by first|omega|(simp; done)|(simp; omega)); obtain ⟨hc1, hf1, hz1⟩ := newc hb (w.heap.size + 1) (by first|omega|(simp; done)|(simp; omega))))
    all_goals
      go_wp2_with fail
      go_meet
      refine ⟨?_, ?_, ?_, ?_, ?_, ?_, ?_, ?_, ?_, ?_, ?_⟩
      all_goals first | (simp [*, go_sem]; done) | (intro o; simp [*, go_sem]; done) | omega | exact (by repeat' (first | with_reducible exact Below.refl _ _ | with_reducible refine below_step ?_ (by assumption) | with_reducible apply below_set' | with_reducible apply below_alloc' | with_reducible apply Below.drew | with_reducible apply below_drewN' | (simp; done) | omega | (simp; omega)))
  case rest =>
    obtain ⟨q0, q1, q2, q3, q4, q5, q6, q7, sz0, sz1, hb⟩ := hcut
    clear H H'
    go_wp2
    go_quiet (fail)
    go_wp2
    go_quiet (fail)
    go_wp2
    go_ret
    exact ⟨rfl, (by repeat' (first | with_reducible exact Below.refl _ _ | with_reducible refine below_step ?_ (by assumption) | with_reducible apply below_set' | with_reducible apply below_alloc' | with_reducible apply Below.drew | with_reducible apply below_drewN' | (simp; done) | omega | (simp; omega)))⟩
set_option maxRecDepth 100000 in
set_option maxHeartbeats 1000000 in
theorem rorder_num_eq (c : Int) (k n : Int) (f : Nat) (s : ByteArray) (N : Int) (F : Nat) (S : ByteArray) (k' n' : Int) (f' : Nat) (s' : ByteArray) (F' : Nat) (S' : ByteArray)
    (H : RCleans k n f s c N F S) (H' : RCleans k' n' f' s' c N F' S') (h2 : ¬ c = 2) (h3 : ¬ c = 3) (w : World) :
    Calls Tryz.prog 28 #[.agg #[.int .i64 k, .int .i64 n, .float .f64 f, .string s], .agg #[.int .i64 k', .int .i64 n', .float .f64 f', .string s']] w fun e w' => e = .returned (.int .i64 (0)) ∧ Below w.heap.size w w' := by
  go_enter Tryz.func28, Tryz.ntmps28
  go_upto_region 1 with fail
  go_cut [] (fun wx => wx.cell? ⟨w.heap.size, 0, none⟩ = some (.int .i64 c) ∧ wx.cell? ⟨w.heap.size, 1, none⟩ = some (.int .i64 N) ∧ wx.cell? ⟨w.heap.size, 2, none⟩ = some (.float .f64 F) ∧ wx.cell? ⟨w.heap.size, 3, none⟩ = some (.string S) ∧ wx.cell? ⟨w.heap.size + 1, 0, none⟩ = some (.int .i64 c) ∧ wx.cell? ⟨w.heap.size + 1, 1, none⟩ = some (.int .i64 N) ∧ wx.cell? ⟨w.heap.size + 1, 2, none⟩ = some (.float .f64 F') ∧ wx.cell? ⟨w.heap.size + 1, 3, none⟩ = some (.string S') ∧ w.heap.size < wx.heap.size ∧ w.heap.size + 1 < wx.heap.size ∧ Below w.heap.size w wx)
  case first =>
    go_region_with (first | (go_at_call 20; with_reducible refine (H.at _).mono ?_; rintro e w1 ⟨rfl, hb⟩; obtain ⟨hc0, hf0, hz0⟩ := newc hb w.heap.size (by first|omega|(simp; done)|(simp; omega)); obtain ⟨hc1, hf1, hz1⟩ := newc hb (w.heap.size + 1) (by first|omega|(simp; done)|(simp; omega)))|(go_at_call 20; with_reducible refine (H'.at _).mono ?_; rintro e w1 ⟨rfl, hb⟩; obtain ⟨hc0, hf0, hz0⟩ := newc hb w.heap.size (by first|omega|(simp; done)|(simp; omega)); obtain ⟨hc1, hf1, hz1⟩ := newc hb (w.heap.size + 1) (by first|omega|(simp; done)|(simp; omega))))
    all_goals
      go_wp2_with fail
      go_meet
      refine ⟨?_, ?_, ?_, ?_, ?_, ?_, ?_, ?_, ?_, ?_, ?_⟩
      all_goals first | (simp [*, go_sem]; done) | (intro o; simp [*, go_sem]; done) | omega | exact (by repeat' (first | with_reducible exact Below.refl _ _ | with_reducible refine below_step ?_ (by assumption) | with_reducible apply below_set' | with_reducible apply below_alloc' | with_reducible apply Below.drew | with_reducible apply below_drewN' | (simp; done) | omega | (simp; omega)))
  case rest =>
    obtain ⟨q0, q1, q2, q3, q4, q5, q6, q7, sz0, sz1, hb⟩ := hcut
    clear H H'
    go_wp2
    go_quiet (fail)
    go_wp2
    go_quiet (fail)
    go_wp2
    go_ret
    exact ⟨rfl, (by repeat' (first | with_reducible exact Below.refl _ _ | with_reducible refine below_step ?_ (by assumption) | with_reducible apply below_set' | with_reducible apply below_alloc' | with_reducible apply Below.drew | with_reducible apply below_drewN' | (simp; done) | omega | (simp; omega)))⟩
set_option maxRecDepth 100000 in
set_option maxHeartbeats 1000000 in
theorem rorder_text_lt (k n : Int) (f : Nat) (s : ByteArray) (N : Int) (F : Nat) (S : ByteArray) (k' n' : Int) (f' : Nat) (s' : ByteArray) (N' : Int) (F' : Nat) (S' : ByteArray)
    (H : RCleans k n f s 3 N F S) (H' : RCleans k' n' f' s' 3 N' F' S') (h1 : (Op.bytesLess S.toList S'.toList) = true) (w : World) :
    Calls Tryz.prog 28 #[.agg #[.int .i64 k, .int .i64 n, .float .f64 f, .string s], .agg #[.int .i64 k', .int .i64 n', .float .f64 f', .string s']] w fun e w' => e = .returned (.int .i64 (-1)) ∧ Below w.heap.size w w' := by
  go_enter Tryz.func28, Tryz.ntmps28
  go_upto_region 1 with fail
  go_cut [] (fun wx => wx.cell? ⟨w.heap.size, 0, none⟩ = some (.int .i64 3) ∧ wx.cell? ⟨w.heap.size, 1, none⟩ = some (.int .i64 N) ∧ wx.cell? ⟨w.heap.size, 2, none⟩ = some (.float .f64 F) ∧ wx.cell? ⟨w.heap.size, 3, none⟩ = some (.string S) ∧ wx.cell? ⟨w.heap.size + 1, 0, none⟩ = some (.int .i64 3) ∧ wx.cell? ⟨w.heap.size + 1, 1, none⟩ = some (.int .i64 N') ∧ wx.cell? ⟨w.heap.size + 1, 2, none⟩ = some (.float .f64 F') ∧ wx.cell? ⟨w.heap.size + 1, 3, none⟩ = some (.string S') ∧ w.heap.size < wx.heap.size ∧ w.heap.size + 1 < wx.heap.size ∧ Below w.heap.size w wx)
  case first =>
    go_region_with (first | (go_at_call 20; with_reducible refine (H.at _).mono ?_; rintro e w1 ⟨rfl, hb⟩; obtain ⟨hc0, hf0, hz0⟩ := newc hb w.heap.size (by first|omega|(simp; done)|(simp; omega)); obtain ⟨hc1, hf1, hz1⟩ := newc hb (w.heap.size + 1) (by first|omega|(simp; done)|(simp; omega)))|(go_at_call 20; with_reducible refine (H'.at _).mono ?_; rintro e w1 ⟨rfl, hb⟩; obtain ⟨hc0, hf0, hz0⟩ := newc hb w.heap.size (by first|omega|(simp; done)|(simp; omega)); obtain ⟨hc1, hf1, hz1⟩ := newc hb (w.heap.size + 1) (by first|omega|(simp; done)|(simp; omega))))
    all_goals
      go_wp2_with fail
      go_meet
      refine ⟨?_, ?_, ?_, ?_, ?_, ?_, ?_, ?_, ?_, ?_, ?_⟩
      all_goals first | (simp [*, go_sem]; done) | (intro o; simp [*, go_sem]; done) | omega | exact (by repeat' (first | with_reducible exact Below.refl _ _ | with_reducible refine below_step ?_ (by assumption) | with_reducible apply below_set' | with_reducible apply below_alloc' | with_reducible apply Below.drew | with_reducible apply below_drewN' | (simp; done) | omega | (simp; omega)))
  case rest =>
    obtain ⟨q0, q1, q2, q3, q4, q5, q6, q7, sz0, sz1, hb⟩ := hcut
    clear H H'
    go_wp2
    go_quiet (fail)
    go_wp2
    go_quiet (fail)
    go_wp2
    go_quiet (fail)
    go_wp2
    go_ret
    exact ⟨rfl, (by repeat' (first | with_reducible exact Below.refl _ _ | with_reducible refine below_step ?_ (by assumption) | with_reducible apply below_set' | with_reducible apply below_alloc' | with_reducible apply Below.drew | with_reducible apply below_drewN' | (simp; done) | omega | (simp; omega)))⟩
set_option maxRecDepth 100000 in
set_option maxHeartbeats 1000000 in
theorem rorder_text_eq (k n : Int) (f : Nat) (s : ByteArray) (N : Int) (F : Nat) (S : ByteArray) (k' n' : Int) (f' : Nat) (s' : ByteArray) (N' : Int) (F' : Nat) (S' : ByteArray)
    (H : RCleans k n f s 3 N F S) (H' : RCleans k' n' f' s' 3 N' F' S') (h1 : (Op.bytesLess S.toList S'.toList) = false) (h2 : (S.toList == S'.toList) = true) (w : World) :
    Calls Tryz.prog 28 #[.agg #[.int .i64 k, .int .i64 n, .float .f64 f, .string s], .agg #[.int .i64 k', .int .i64 n', .float .f64 f', .string s']] w fun e w' => e = .returned (.int .i64 (0)) ∧ Below w.heap.size w w' := by
  go_enter Tryz.func28, Tryz.ntmps28
  go_upto_region 1 with fail
  go_cut [] (fun wx => wx.cell? ⟨w.heap.size, 0, none⟩ = some (.int .i64 3) ∧ wx.cell? ⟨w.heap.size, 1, none⟩ = some (.int .i64 N) ∧ wx.cell? ⟨w.heap.size, 2, none⟩ = some (.float .f64 F) ∧ wx.cell? ⟨w.heap.size, 3, none⟩ = some (.string S) ∧ wx.cell? ⟨w.heap.size + 1, 0, none⟩ = some (.int .i64 3) ∧ wx.cell? ⟨w.heap.size + 1, 1, none⟩ = some (.int .i64 N') ∧ wx.cell? ⟨w.heap.size + 1, 2, none⟩ = some (.float .f64 F') ∧ wx.cell? ⟨w.heap.size + 1, 3, none⟩ = some (.string S') ∧ w.heap.size < wx.heap.size ∧ w.heap.size + 1 < wx.heap.size ∧ Below w.heap.size w wx)
  case first =>
    go_region_with (first | (go_at_call 20; with_reducible refine (H.at _).mono ?_; rintro e w1 ⟨rfl, hb⟩; obtain ⟨hc0, hf0, hz0⟩ := newc hb w.heap.size (by first|omega|(simp; done)|(simp; omega)); obtain ⟨hc1, hf1, hz1⟩ := newc hb (w.heap.size + 1) (by first|omega|(simp; done)|(simp; omega)))|(go_at_call 20; with_reducible refine (H'.at _).mono ?_; rintro e w1 ⟨rfl, hb⟩; obtain ⟨hc0, hf0, hz0⟩ := newc hb w.heap.size (by first|omega|(simp; done)|(simp; omega)); obtain ⟨hc1, hf1, hz1⟩ := newc hb (w.heap.size + 1) (by first|omega|(simp; done)|(simp; omega))))
    all_goals
      go_wp2_with fail
      go_meet
      refine ⟨?_, ?_, ?_, ?_, ?_, ?_, ?_, ?_, ?_, ?_, ?_⟩
      all_goals first | (simp [*, go_sem]; done) | (intro o; simp [*, go_sem]; done) | omega | exact (by repeat' (first | with_reducible exact Below.refl _ _ | with_reducible refine below_step ?_ (by assumption) | with_reducible apply below_set' | with_reducible apply below_alloc' | with_reducible apply Below.drew | with_reducible apply below_drewN' | (simp; done) | omega | (simp; omega)))
  case rest =>
    obtain ⟨q0, q1, q2, q3, q4, q5, q6, q7, sz0, sz1, hb⟩ := hcut
    clear H H'
    go_wp2
    go_quiet (fail)
    go_wp2
    go_quiet (fail)
    go_wp2
    go_quiet (fail)
    go_wp2
    go_ret
    exact ⟨rfl, (by repeat' (first | with_reducible exact Below.refl _ _ | with_reducible refine below_step ?_ (by assumption) | with_reducible apply below_set' | with_reducible apply below_alloc' | with_reducible apply Below.drew | with_reducible apply below_drewN' | (simp; done) | omega | (simp; omega)))⟩
set_option maxRecDepth 100000 in
set_option maxHeartbeats 1000000 in
theorem rorder_text_gt (k n : Int) (f : Nat) (s : ByteArray) (N : Int) (F : Nat) (S : ByteArray) (k' n' : Int) (f' : Nat) (s' : ByteArray) (N' : Int) (F' : Nat) (S' : ByteArray)
    (H : RCleans k n f s 3 N F S) (H' : RCleans k' n' f' s' 3 N' F' S') (h1 : (Op.bytesLess S.toList S'.toList) = false) (h2 : (S.toList == S'.toList) = false) (w : World) :
    Calls Tryz.prog 28 #[.agg #[.int .i64 k, .int .i64 n, .float .f64 f, .string s], .agg #[.int .i64 k', .int .i64 n', .float .f64 f', .string s']] w fun e w' => e = .returned (.int .i64 (1)) ∧ Below w.heap.size w w' := by
  go_enter Tryz.func28, Tryz.ntmps28
  go_upto_region 1 with fail
  go_cut [] (fun wx => wx.cell? ⟨w.heap.size, 0, none⟩ = some (.int .i64 3) ∧ wx.cell? ⟨w.heap.size, 1, none⟩ = some (.int .i64 N) ∧ wx.cell? ⟨w.heap.size, 2, none⟩ = some (.float .f64 F) ∧ wx.cell? ⟨w.heap.size, 3, none⟩ = some (.string S) ∧ wx.cell? ⟨w.heap.size + 1, 0, none⟩ = some (.int .i64 3) ∧ wx.cell? ⟨w.heap.size + 1, 1, none⟩ = some (.int .i64 N') ∧ wx.cell? ⟨w.heap.size + 1, 2, none⟩ = some (.float .f64 F') ∧ wx.cell? ⟨w.heap.size + 1, 3, none⟩ = some (.string S') ∧ w.heap.size < wx.heap.size ∧ w.heap.size + 1 < wx.heap.size ∧ Below w.heap.size w wx)
  case first =>
    go_region_with (first | (go_at_call 20; with_reducible refine (H.at _).mono ?_; rintro e w1 ⟨rfl, hb⟩; obtain ⟨hc0, hf0, hz0⟩ := newc hb w.heap.size (by first|omega|(simp; done)|(simp; omega)); obtain ⟨hc1, hf1, hz1⟩ := newc hb (w.heap.size + 1) (by first|omega|(simp; done)|(simp; omega)))|(go_at_call 20; with_reducible refine (H'.at _).mono ?_; rintro e w1 ⟨rfl, hb⟩; obtain ⟨hc0, hf0, hz0⟩ := newc hb w.heap.size (by first|omega|(simp; done)|(simp; omega)); obtain ⟨hc1, hf1, hz1⟩ := newc hb (w.heap.size + 1) (by first|omega|(simp; done)|(simp; omega))))
    all_goals
      go_wp2_with fail
      go_meet
      refine ⟨?_, ?_, ?_, ?_, ?_, ?_, ?_, ?_, ?_, ?_, ?_⟩
      all_goals first | (simp [*, go_sem]; done) | (intro o; simp [*, go_sem]; done) | omega | exact (by repeat' (first | with_reducible exact Below.refl _ _ | with_reducible refine below_step ?_ (by assumption) | with_reducible apply below_set' | with_reducible apply below_alloc' | with_reducible apply Below.drew | with_reducible apply below_drewN' | (simp; done) | omega | (simp; omega)))
  case rest =>
    obtain ⟨q0, q1, q2, q3, q4, q5, q6, q7, sz0, sz1, hb⟩ := hcut
    clear H H'
    go_wp2
    go_quiet (fail)
    go_wp2
    go_quiet (fail)
    go_wp2
    go_quiet (fail)
    go_wp2
    go_ret
    exact ⟨rfl, (by repeat' (first | with_reducible exact Below.refl _ _ | with_reducible refine below_step ?_ (by assumption) | with_reducible apply below_set' | with_reducible apply below_alloc' | with_reducible apply Below.drew | with_reducible apply below_drewN' | (simp; done) | omega | (simp; omega)))⟩
set_option maxRecDepth 100000 in
set_option maxHeartbeats 1000000 in
theorem rorder_real_ffff (k n : Int) (f : Nat) (s : ByteArray) (N : Int) (F : Nat) (S : ByteArray) (k' n' : Int) (f' : Nat) (s' : ByteArray) (N' : Int) (F' : Nat) (S' : ByteArray)
    (H : RCleans k n f s 2 N F S) (H' : RCleans k' n' f' s' 2 N' F' S') (a1 : feq F F = false) (a2 : feq F' F' = false) (a3 : (FloatKind.f64.format.order F F' == some Ordering.lt) = false) (a4 : (FloatKind.f64.format.order F F' == some Ordering.gt) = false) (w : World) :
    Calls Tryz.prog 28 #[.agg #[.int .i64 k, .int .i64 n, .float .f64 f, .string s], .agg #[.int .i64 k', .int .i64 n', .float .f64 f', .string s']] w fun e w' => e = .returned (.int .i64 (0)) ∧ Below w.heap.size w w' := by
  go_enter Tryz.func28, Tryz.ntmps28
  go_upto_region 1 with fail
  go_cut [] (fun wx => wx.cell? ⟨w.heap.size, 0, none⟩ = some (.int .i64 2) ∧ wx.cell? ⟨w.heap.size, 1, none⟩ = some (.int .i64 N) ∧ wx.cell? ⟨w.heap.size, 2, none⟩ = some (.float .f64 F) ∧ wx.cell? ⟨w.heap.size, 3, none⟩ = some (.string S) ∧ wx.cell? ⟨w.heap.size + 1, 0, none⟩ = some (.int .i64 2) ∧ wx.cell? ⟨w.heap.size + 1, 1, none⟩ = some (.int .i64 N') ∧ wx.cell? ⟨w.heap.size + 1, 2, none⟩ = some (.float .f64 F') ∧ wx.cell? ⟨w.heap.size + 1, 3, none⟩ = some (.string S') ∧ w.heap.size < wx.heap.size ∧ w.heap.size + 1 < wx.heap.size ∧ Below w.heap.size w wx)
  case first =>
    go_region_with (first | (go_at_call 20; with_reducible refine (H.at _).mono ?_; rintro e w1 ⟨rfl, hb⟩; obtain ⟨hc0, hf0, hz0⟩ := newc hb w.heap.size (by first|omega|(simp; done)|(simp; omega)); obtain ⟨hc1, hf1, hz1⟩ := newc hb (w.heap.size + 1) (by first|omega|(simp; done)|(simp; omega)))|(go_at_call 20; with_reducible refine (H'.at _).mono ?_; rintro e w1 ⟨rfl, hb⟩; obtain ⟨hc0, hf0, hz0⟩ := newc hb w.heap.size (by first|omega|(simp; done)|(simp; omega)); obtain ⟨hc1, hf1, hz1⟩ := newc hb (w.heap.size + 1) (by first|omega|(simp; done)|(simp; omega))))
    all_goals
      go_wp2_with fail
      go_meet
      refine ⟨?_, ?_, ?_, ?_, ?_, ?_, ?_, ?_, ?_, ?_, ?_⟩
      all_goals first | (simp [*, go_sem]; done) | (intro o; simp [*, go_sem]; done) | omega | exact (by repeat' (first | with_reducible exact Below.refl _ _ | with_reducible refine below_step ?_ (by assumption) | with_reducible apply below_set' | with_reducible apply below_alloc' | with_reducible apply Below.drew | with_reducible apply below_drewN' | (simp; done) | omega | (simp; omega)))
  case rest =>
    obtain ⟨q0, q1, q2, q3, q4, q5, q6, q7, sz0, sz1, hb⟩ := hcut
    clear H H'
    go_wp2
    go_quiet (fail)
    go_wp2
    go_quiet (fail)
    go_wp2_with (first | (go_at_call 55; with_reducible refine (number_any F _).mono ?_; rw [a1]; rintro e w1 ⟨rfl, rfl⟩) | (go_at_call 55; with_reducible refine (number_any F' _).mono ?_; rw [a2]; rintro e w1 ⟨rfl, rfl⟩))
    go_ret
    exact ⟨rfl, (by repeat' (first | with_reducible exact Below.refl _ _ | with_reducible refine below_step ?_ (by assumption) | with_reducible apply below_set' | with_reducible apply below_alloc' | with_reducible apply Below.drew | with_reducible apply below_drewN' | (simp; done) | omega | (simp; omega)))⟩
set_option maxRecDepth 100000 in
set_option maxHeartbeats 1000000 in
theorem rorder_real_ftff (k n : Int) (f : Nat) (s : ByteArray) (N : Int) (F : Nat) (S : ByteArray) (k' n' : Int) (f' : Nat) (s' : ByteArray) (N' : Int) (F' : Nat) (S' : ByteArray)
    (H : RCleans k n f s 2 N F S) (H' : RCleans k' n' f' s' 2 N' F' S') (a1 : feq F F = false) (a2 : feq F' F' = true) (a3 : (FloatKind.f64.format.order F F' == some Ordering.lt) = false) (_a4 : (FloatKind.f64.format.order F F' == some Ordering.gt) = false) (w : World) :
    Calls Tryz.prog 28 #[.agg #[.int .i64 k, .int .i64 n, .float .f64 f, .string s], .agg #[.int .i64 k', .int .i64 n', .float .f64 f', .string s']] w fun e w' => e = .returned (.int .i64 (1)) ∧ Below w.heap.size w w' := by
  go_enter Tryz.func28, Tryz.ntmps28
  go_upto_region 1 with fail
  go_cut [] (fun wx => wx.cell? ⟨w.heap.size, 0, none⟩ = some (.int .i64 2) ∧ wx.cell? ⟨w.heap.size, 1, none⟩ = some (.int .i64 N) ∧ wx.cell? ⟨w.heap.size, 2, none⟩ = some (.float .f64 F) ∧ wx.cell? ⟨w.heap.size, 3, none⟩ = some (.string S) ∧ wx.cell? ⟨w.heap.size + 1, 0, none⟩ = some (.int .i64 2) ∧ wx.cell? ⟨w.heap.size + 1, 1, none⟩ = some (.int .i64 N') ∧ wx.cell? ⟨w.heap.size + 1, 2, none⟩ = some (.float .f64 F') ∧ wx.cell? ⟨w.heap.size + 1, 3, none⟩ = some (.string S') ∧ w.heap.size < wx.heap.size ∧ w.heap.size + 1 < wx.heap.size ∧ Below w.heap.size w wx)
  case first =>
    go_region_with (first | (go_at_call 20; with_reducible refine (H.at _).mono ?_; rintro e w1 ⟨rfl, hb⟩; obtain ⟨hc0, hf0, hz0⟩ := newc hb w.heap.size (by first|omega|(simp; done)|(simp; omega)); obtain ⟨hc1, hf1, hz1⟩ := newc hb (w.heap.size + 1) (by first|omega|(simp; done)|(simp; omega)))|(go_at_call 20; with_reducible refine (H'.at _).mono ?_; rintro e w1 ⟨rfl, hb⟩; obtain ⟨hc0, hf0, hz0⟩ := newc hb w.heap.size (by first|omega|(simp; done)|(simp; omega)); obtain ⟨hc1, hf1, hz1⟩ := newc hb (w.heap.size + 1) (by first|omega|(simp; done)|(simp; omega))))
    all_goals
      go_wp2_with fail
      go_meet
      refine ⟨?_, ?_, ?_, ?_, ?_, ?_, ?_, ?_, ?_, ?_, ?_⟩
      all_goals first | (simp [*, go_sem]; done) | (intro o; simp [*, go_sem]; done) | omega | exact (by repeat' (first | with_reducible exact Below.refl _ _ | with_reducible refine below_step ?_ (by assumption) | with_reducible apply below_set' | with_reducible apply below_alloc' | with_reducible apply Below.drew | with_reducible apply below_drewN' | (simp; done) | omega | (simp; omega)))
  case rest =>
    obtain ⟨q0, q1, q2, q3, q4, q5, q6, q7, sz0, sz1, hb⟩ := hcut
    clear H H'
    go_wp2
    go_quiet (fail)
    go_wp2
    go_quiet (fail)
    go_wp2_with (first | (go_at_call 55; with_reducible refine (number_any F _).mono ?_; rw [a1]; rintro e w1 ⟨rfl, rfl⟩) | (go_at_call 55; with_reducible refine (number_any F' _).mono ?_; rw [a2]; rintro e w1 ⟨rfl, rfl⟩))
    go_ret
    exact ⟨rfl, (by repeat' (first | with_reducible exact Below.refl _ _ | with_reducible refine below_step ?_ (by assumption) | with_reducible apply below_set' | with_reducible apply below_alloc' | with_reducible apply Below.drew | with_reducible apply below_drewN' | (simp; done) | omega | (simp; omega)))⟩
set_option maxRecDepth 100000 in
set_option maxHeartbeats 1000000 in
theorem rorder_real_tfff (k n : Int) (f : Nat) (s : ByteArray) (N : Int) (F : Nat) (S : ByteArray) (k' n' : Int) (f' : Nat) (s' : ByteArray) (N' : Int) (F' : Nat) (S' : ByteArray)
    (H : RCleans k n f s 2 N F S) (H' : RCleans k' n' f' s' 2 N' F' S') (a1 : feq F F = true) (a2 : feq F' F' = false) (_a3 : (FloatKind.f64.format.order F F' == some Ordering.lt) = false) (a4 : (FloatKind.f64.format.order F F' == some Ordering.gt) = false) (w : World) :
    Calls Tryz.prog 28 #[.agg #[.int .i64 k, .int .i64 n, .float .f64 f, .string s], .agg #[.int .i64 k', .int .i64 n', .float .f64 f', .string s']] w fun e w' => e = .returned (.int .i64 (-1)) ∧ Below w.heap.size w w' := by
  go_enter Tryz.func28, Tryz.ntmps28
  go_upto_region 1 with fail
  go_cut [] (fun wx => wx.cell? ⟨w.heap.size, 0, none⟩ = some (.int .i64 2) ∧ wx.cell? ⟨w.heap.size, 1, none⟩ = some (.int .i64 N) ∧ wx.cell? ⟨w.heap.size, 2, none⟩ = some (.float .f64 F) ∧ wx.cell? ⟨w.heap.size, 3, none⟩ = some (.string S) ∧ wx.cell? ⟨w.heap.size + 1, 0, none⟩ = some (.int .i64 2) ∧ wx.cell? ⟨w.heap.size + 1, 1, none⟩ = some (.int .i64 N') ∧ wx.cell? ⟨w.heap.size + 1, 2, none⟩ = some (.float .f64 F') ∧ wx.cell? ⟨w.heap.size + 1, 3, none⟩ = some (.string S') ∧ w.heap.size < wx.heap.size ∧ w.heap.size + 1 < wx.heap.size ∧ Below w.heap.size w wx)
  case first =>
    go_region_with (first | (go_at_call 20; with_reducible refine (H.at _).mono ?_; rintro e w1 ⟨rfl, hb⟩; obtain ⟨hc0, hf0, hz0⟩ := newc hb w.heap.size (by first|omega|(simp; done)|(simp; omega)); obtain ⟨hc1, hf1, hz1⟩ := newc hb (w.heap.size + 1) (by first|omega|(simp; done)|(simp; omega)))|(go_at_call 20; with_reducible refine (H'.at _).mono ?_; rintro e w1 ⟨rfl, hb⟩; obtain ⟨hc0, hf0, hz0⟩ := newc hb w.heap.size (by first|omega|(simp; done)|(simp; omega)); obtain ⟨hc1, hf1, hz1⟩ := newc hb (w.heap.size + 1) (by first|omega|(simp; done)|(simp; omega))))
    all_goals
      go_wp2_with fail
      go_meet
      refine ⟨?_, ?_, ?_, ?_, ?_, ?_, ?_, ?_, ?_, ?_, ?_⟩
      all_goals first | (simp [*, go_sem]; done) | (intro o; simp [*, go_sem]; done) | omega | exact (by repeat' (first | with_reducible exact Below.refl _ _ | with_reducible refine below_step ?_ (by assumption) | with_reducible apply below_set' | with_reducible apply below_alloc' | with_reducible apply Below.drew | with_reducible apply below_drewN' | (simp; done) | omega | (simp; omega)))
  case rest =>
    obtain ⟨q0, q1, q2, q3, q4, q5, q6, q7, sz0, sz1, hb⟩ := hcut
    clear H H'
    go_wp2
    go_quiet (fail)
    go_wp2
    go_quiet (fail)
    go_wp2_with (first | (go_at_call 55; with_reducible refine (number_any F _).mono ?_; rw [a1]; rintro e w1 ⟨rfl, rfl⟩) | (go_at_call 55; with_reducible refine (number_any F' _).mono ?_; rw [a2]; rintro e w1 ⟨rfl, rfl⟩))
    go_ret
    exact ⟨rfl, (by repeat' (first | with_reducible exact Below.refl _ _ | with_reducible refine below_step ?_ (by assumption) | with_reducible apply below_set' | with_reducible apply below_alloc' | with_reducible apply Below.drew | with_reducible apply below_drewN' | (simp; done) | omega | (simp; omega)))⟩
set_option maxRecDepth 100000 in
set_option maxHeartbeats 1000000 in
theorem rorder_real_tttf (k n : Int) (f : Nat) (s : ByteArray) (N : Int) (F : Nat) (S : ByteArray) (k' n' : Int) (f' : Nat) (s' : ByteArray) (N' : Int) (F' : Nat) (S' : ByteArray)
    (H : RCleans k n f s 2 N F S) (H' : RCleans k' n' f' s' 2 N' F' S') (a1 : feq F F = true) (a2 : feq F' F' = true) (a3 : (FloatKind.f64.format.order F F' == some Ordering.lt) = true) (a4 : (FloatKind.f64.format.order F F' == some Ordering.gt) = false) (w : World) :
    Calls Tryz.prog 28 #[.agg #[.int .i64 k, .int .i64 n, .float .f64 f, .string s], .agg #[.int .i64 k', .int .i64 n', .float .f64 f', .string s']] w fun e w' => e = .returned (.int .i64 (-1)) ∧ Below w.heap.size w w' := by
  go_enter Tryz.func28, Tryz.ntmps28
  go_upto_region 1 with fail
  go_cut [] (fun wx => wx.cell? ⟨w.heap.size, 0, none⟩ = some (.int .i64 2) ∧ wx.cell? ⟨w.heap.size, 1, none⟩ = some (.int .i64 N) ∧ wx.cell? ⟨w.heap.size, 2, none⟩ = some (.float .f64 F) ∧ wx.cell? ⟨w.heap.size, 3, none⟩ = some (.string S) ∧ wx.cell? ⟨w.heap.size + 1, 0, none⟩ = some (.int .i64 2) ∧ wx.cell? ⟨w.heap.size + 1, 1, none⟩ = some (.int .i64 N') ∧ wx.cell? ⟨w.heap.size + 1, 2, none⟩ = some (.float .f64 F') ∧ wx.cell? ⟨w.heap.size + 1, 3, none⟩ = some (.string S') ∧ w.heap.size < wx.heap.size ∧ w.heap.size + 1 < wx.heap.size ∧ Below w.heap.size w wx)
  case first =>
    go_region_with (first | (go_at_call 20; with_reducible refine (H.at _).mono ?_; rintro e w1 ⟨rfl, hb⟩; obtain ⟨hc0, hf0, hz0⟩ := newc hb w.heap.size (by first|omega|(simp; done)|(simp; omega)); obtain ⟨hc1, hf1, hz1⟩ := newc hb (w.heap.size + 1) (by first|omega|(simp; done)|(simp; omega)))|(go_at_call 20; with_reducible refine (H'.at _).mono ?_; rintro e w1 ⟨rfl, hb⟩; obtain ⟨hc0, hf0, hz0⟩ := newc hb w.heap.size (by first|omega|(simp; done)|(simp; omega)); obtain ⟨hc1, hf1, hz1⟩ := newc hb (w.heap.size + 1) (by first|omega|(simp; done)|(simp; omega))))
    all_goals
      go_wp2_with fail
      go_meet
      refine ⟨?_, ?_, ?_, ?_, ?_, ?_, ?_, ?_, ?_, ?_, ?_⟩
      all_goals first | (simp [*, go_sem]; done) | (intro o; simp [*, go_sem]; done) | omega | exact (by repeat' (first | with_reducible exact Below.refl _ _ | with_reducible refine below_step ?_ (by assumption) | with_reducible apply below_set' | with_reducible apply below_alloc' | with_reducible apply Below.drew | with_reducible apply below_drewN' | (simp; done) | omega | (simp; omega)))
  case rest =>
    obtain ⟨q0, q1, q2, q3, q4, q5, q6, q7, sz0, sz1, hb⟩ := hcut
    clear H H'
    go_wp2
    go_quiet (fail)
    go_wp2
    go_quiet (fail)
    go_wp2_with (first | (go_at_call 55; with_reducible refine (number_any F _).mono ?_; rw [a1]; rintro e w1 ⟨rfl, rfl⟩) | (go_at_call 55; with_reducible refine (number_any F' _).mono ?_; rw [a2]; rintro e w1 ⟨rfl, rfl⟩))
    go_ret
    exact ⟨rfl, (by repeat' (first | with_reducible exact Below.refl _ _ | with_reducible refine below_step ?_ (by assumption) | with_reducible apply below_set' | with_reducible apply below_alloc' | with_reducible apply Below.drew | with_reducible apply below_drewN' | (simp; done) | omega | (simp; omega)))⟩
set_option maxRecDepth 100000 in
set_option maxHeartbeats 1000000 in
theorem rorder_real_ttft (k n : Int) (f : Nat) (s : ByteArray) (N : Int) (F : Nat) (S : ByteArray) (k' n' : Int) (f' : Nat) (s' : ByteArray) (N' : Int) (F' : Nat) (S' : ByteArray)
    (H : RCleans k n f s 2 N F S) (H' : RCleans k' n' f' s' 2 N' F' S') (a1 : feq F F = true) (a2 : feq F' F' = true) (a3 : (FloatKind.f64.format.order F F' == some Ordering.lt) = false) (a4 : (FloatKind.f64.format.order F F' == some Ordering.gt) = true) (w : World) :
    Calls Tryz.prog 28 #[.agg #[.int .i64 k, .int .i64 n, .float .f64 f, .string s], .agg #[.int .i64 k', .int .i64 n', .float .f64 f', .string s']] w fun e w' => e = .returned (.int .i64 (1)) ∧ Below w.heap.size w w' := by
  go_enter Tryz.func28, Tryz.ntmps28
  go_upto_region 1 with fail
  go_cut [] (fun wx => wx.cell? ⟨w.heap.size, 0, none⟩ = some (.int .i64 2) ∧ wx.cell? ⟨w.heap.size, 1, none⟩ = some (.int .i64 N) ∧ wx.cell? ⟨w.heap.size, 2, none⟩ = some (.float .f64 F) ∧ wx.cell? ⟨w.heap.size, 3, none⟩ = some (.string S) ∧ wx.cell? ⟨w.heap.size + 1, 0, none⟩ = some (.int .i64 2) ∧ wx.cell? ⟨w.heap.size + 1, 1, none⟩ = some (.int .i64 N') ∧ wx.cell? ⟨w.heap.size + 1, 2, none⟩ = some (.float .f64 F') ∧ wx.cell? ⟨w.heap.size + 1, 3, none⟩ = some (.string S') ∧ w.heap.size < wx.heap.size ∧ w.heap.size + 1 < wx.heap.size ∧ Below w.heap.size w wx)
  case first =>
    go_region_with (first | (go_at_call 20; with_reducible refine (H.at _).mono ?_; rintro e w1 ⟨rfl, hb⟩; obtain ⟨hc0, hf0, hz0⟩ := newc hb w.heap.size (by first|omega|(simp; done)|(simp; omega)); obtain ⟨hc1, hf1, hz1⟩ := newc hb (w.heap.size + 1) (by first|omega|(simp; done)|(simp; omega)))|(go_at_call 20; with_reducible refine (H'.at _).mono ?_; rintro e w1 ⟨rfl, hb⟩; obtain ⟨hc0, hf0, hz0⟩ := newc hb w.heap.size (by first|omega|(simp; done)|(simp; omega)); obtain ⟨hc1, hf1, hz1⟩ := newc hb (w.heap.size + 1) (by first|omega|(simp; done)|(simp; omega))))
    all_goals
      go_wp2_with fail
      go_meet
      refine ⟨?_, ?_, ?_, ?_, ?_, ?_, ?_, ?_, ?_, ?_, ?_⟩
      all_goals first | (simp [*, go_sem]; done) | (intro o; simp [*, go_sem]; done) | omega | exact (by repeat' (first | with_reducible exact Below.refl _ _ | with_reducible refine below_step ?_ (by assumption) | with_reducible apply below_set' | with_reducible apply below_alloc' | with_reducible apply Below.drew | with_reducible apply below_drewN' | (simp; done) | omega | (simp; omega)))
  case rest =>
    obtain ⟨q0, q1, q2, q3, q4, q5, q6, q7, sz0, sz1, hb⟩ := hcut
    clear H H'
    go_wp2
    go_quiet (fail)
    go_wp2
    go_quiet (fail)
    go_wp2_with (first | (go_at_call 55; with_reducible refine (number_any F _).mono ?_; rw [a1]; rintro e w1 ⟨rfl, rfl⟩) | (go_at_call 55; with_reducible refine (number_any F' _).mono ?_; rw [a2]; rintro e w1 ⟨rfl, rfl⟩))
    go_ret
    exact ⟨rfl, (by repeat' (first | with_reducible exact Below.refl _ _ | with_reducible refine below_step ?_ (by assumption) | with_reducible apply below_set' | with_reducible apply below_alloc' | with_reducible apply Below.drew | with_reducible apply below_drewN' | (simp; done) | omega | (simp; omega)))⟩
set_option maxRecDepth 100000 in
set_option maxHeartbeats 1000000 in
theorem rorder_real_ttff (k n : Int) (f : Nat) (s : ByteArray) (N : Int) (F : Nat) (S : ByteArray) (k' n' : Int) (f' : Nat) (s' : ByteArray) (N' : Int) (F' : Nat) (S' : ByteArray)
    (H : RCleans k n f s 2 N F S) (H' : RCleans k' n' f' s' 2 N' F' S') (a1 : feq F F = true) (a2 : feq F' F' = true) (a3 : (FloatKind.f64.format.order F F' == some Ordering.lt) = false) (a4 : (FloatKind.f64.format.order F F' == some Ordering.gt) = false) (w : World) :
    Calls Tryz.prog 28 #[.agg #[.int .i64 k, .int .i64 n, .float .f64 f, .string s], .agg #[.int .i64 k', .int .i64 n', .float .f64 f', .string s']] w fun e w' => e = .returned (.int .i64 (0)) ∧ Below w.heap.size w w' := by
  go_enter Tryz.func28, Tryz.ntmps28
  go_upto_region 1 with fail
  go_cut [] (fun wx => wx.cell? ⟨w.heap.size, 0, none⟩ = some (.int .i64 2) ∧ wx.cell? ⟨w.heap.size, 1, none⟩ = some (.int .i64 N) ∧ wx.cell? ⟨w.heap.size, 2, none⟩ = some (.float .f64 F) ∧ wx.cell? ⟨w.heap.size, 3, none⟩ = some (.string S) ∧ wx.cell? ⟨w.heap.size + 1, 0, none⟩ = some (.int .i64 2) ∧ wx.cell? ⟨w.heap.size + 1, 1, none⟩ = some (.int .i64 N') ∧ wx.cell? ⟨w.heap.size + 1, 2, none⟩ = some (.float .f64 F') ∧ wx.cell? ⟨w.heap.size + 1, 3, none⟩ = some (.string S') ∧ w.heap.size < wx.heap.size ∧ w.heap.size + 1 < wx.heap.size ∧ Below w.heap.size w wx)
  case first =>
    go_region_with (first | (go_at_call 20; with_reducible refine (H.at _).mono ?_; rintro e w1 ⟨rfl, hb⟩; obtain ⟨hc0, hf0, hz0⟩ := newc hb w.heap.size (by first|omega|(simp; done)|(simp; omega)); obtain ⟨hc1, hf1, hz1⟩ := newc hb (w.heap.size + 1) (by first|omega|(simp; done)|(simp; omega)))|(go_at_call 20; with_reducible refine (H'.at _).mono ?_; rintro e w1 ⟨rfl, hb⟩; obtain ⟨hc0, hf0, hz0⟩ := newc hb w.heap.size (by first|omega|(simp; done)|(simp; omega)); obtain ⟨hc1, hf1, hz1⟩ := newc hb (w.heap.size + 1) (by first|omega|(simp; done)|(simp; omega))))
    all_goals
      go_wp2_with fail
      go_meet
      refine ⟨?_, ?_, ?_, ?_, ?_, ?_, ?_, ?_, ?_, ?_, ?_⟩
      all_goals first | (simp [*, go_sem]; done) | (intro o; simp [*, go_sem]; done) | omega | exact (by repeat' (first | with_reducible exact Below.refl _ _ | with_reducible refine below_step ?_ (by assumption) | with_reducible apply below_set' | with_reducible apply below_alloc' | with_reducible apply Below.drew | with_reducible apply below_drewN' | (simp; done) | omega | (simp; omega)))
  case rest =>
    obtain ⟨q0, q1, q2, q3, q4, q5, q6, q7, sz0, sz1, hb⟩ := hcut
    clear H H'
    go_wp2
    go_quiet (fail)
    go_wp2
    go_quiet (fail)
    go_wp2_with (first | (go_at_call 55; with_reducible refine (number_any F _).mono ?_; rw [a1]; rintro e w1 ⟨rfl, rfl⟩) | (go_at_call 55; with_reducible refine (number_any F' _).mono ?_; rw [a2]; rintro e w1 ⟨rfl, rfl⟩))
    go_ret
    exact ⟨rfl, (by repeat' (first | with_reducible exact Below.refl _ _ | with_reducible refine below_step ?_ (by assumption) | with_reducible apply below_set' | with_reducible apply below_alloc' | with_reducible apply Below.drew | with_reducible apply below_drewN' | (simp; done) | omega | (simp; omega)))⟩
end Go.Proofs.YtikpgglbfpdhmaaGreatDoor

/- And, or. -/
import Derived.Test.YtikpgglbfpdhmaaGreatDoorValD
namespace Go.Proofs.YtikpgglbfpdhmaaGreatDoor
open Go.RowKit Go.Joins
attribute [local go_sem ↓] Go.wp_at_zero Go.wp_at_succ

set_option maxHeartbeats 1000000 in
theorem and_of {t t' : Int} (g : Three t) (g' : Three t') (k n : Int) (f : Nat) (s : ByteArray) (k' n' : Int) (f' : Nat) (s' : ByteArray) (w : World)
    (ht : ptruth k n = t) (ht' : ptruth k' n' = t') :
    Calls Tryz.prog 40 #[.agg #[.int .i64 k, .int .i64 n, .float .f64 f, .string s], .agg #[.int .i64 k', .int .i64 n', .float .f64 f', .string s']] w fun e w' => e = .returned (.agg #[.int .i64 (tk (and3 t t')), .int .i64 (tn (and3 t t')), .float .f64 0, .string ⟨#[]⟩]) ∧ Below w.heap.size w w' := by
  have T := truth_any k n f s
  have T' := truth_any k' n' f' s'
  rw [ht] at T
  rw [ht'] at T'
  have H := Lib.hid T
  have H' := Lib.hid T'
  clear T T' ht ht'
  rcases g with rfl | rfl | rfl <;> rcases g' with rfl | rfl | rfl
  all_goals
    go_enter Tryz.func40, Tryz.ntmps40
    go_wp2_with fail
    go_region_held3 (fun w' => w'.cell? ⟨w.heap.size, 0, none⟩ = some (.int .i64 k) ∧ w'.cell? ⟨w.heap.size, 1, none⟩ = some (.int .i64 n) ∧ w'.cell? ⟨w.heap.size, 2, none⟩ = some (.float .f64 f) ∧ w'.cell? ⟨w.heap.size, 3, none⟩ = some (.string s) ∧ w'.cell? ⟨w.heap.size + 1, 0, none⟩ = some (.int .i64 k') ∧ w'.cell? ⟨w.heap.size + 1, 1, none⟩ = some (.int .i64 n') ∧ w'.cell? ⟨w.heap.size + 1, 2, none⟩ = some (.float .f64 f') ∧ w'.cell? ⟨w.heap.size + 1, 3, none⟩ = some (.string s')) (go_keep)
      (first | (go_at_call 61; with_reducible refine (H.out _).mono ?_; rintro e w1 ⟨rfl, hb⟩; obtain ⟨hc0, hf0, hz0⟩ := newc hb w.heap.size (by first | omega | (simp; done) | (simp; omega)); obtain ⟨hc1, hf1, hz1⟩ := newc hb (w.heap.size + 1) (by first | omega | (simp; done) | (simp; omega)); obtain ⟨hc2, hf2, hz2⟩ := newc hb (w.heap.size + 2) (by first | omega | (simp; done) | (simp; omega))) | (go_at_call 61; with_reducible refine (H'.out _).mono ?_; rintro e w1 ⟨rfl, hb⟩; obtain ⟨hc0, hf0, hz0⟩ := newc hb w.heap.size (by first | omega | (simp; done) | (simp; omega)); obtain ⟨hc1, hf1, hz1⟩ := newc hb (w.heap.size + 1) (by first | omega | (simp; done) | (simp; omega)); obtain ⟨hc2, hf2, hz2⟩ := newc hb (w.heap.size + 2) (by first | omega | (simp; done) | (simp; omega))))
    go_wp2_with (go_at_call 62; refine (of_any _ _).mono ?_; rintro e w1 ⟨rfl, hb⟩; obtain ⟨hc0, hf0, hz0⟩ := newc hb w.heap.size (by first | omega | (simp; done) | (simp; omega)); obtain ⟨hc1, hf1, hz1⟩ := newc hb (w.heap.size + 1) (by first | omega | (simp; done) | (simp; omega)); obtain ⟨hc2, hf2, hz2⟩ := newc hb (w.heap.size + 2) (by first | omega | (simp; done) | (simp; omega)))
    exact bodyPost_ret (by simp [results, Tryz.results40, go_sem, *]) rfl ⟨rfl, (by repeat' (first | with_reducible exact Below.refl _ _ | with_reducible refine below_step ?_ (by assumption) | with_reducible apply below_set' | with_reducible apply below_alloc' | with_reducible apply Below.drew | with_reducible apply below_drewN' | (simp; done) | omega | (simp; omega)))⟩
set_option maxHeartbeats 1000000 in
theorem and_any (k n : Int) (f : Nat) (s : ByteArray) (k' n' : Int) (f' : Nat) (s' : ByteArray) (w : World) :
    Calls Tryz.prog 40 #[.agg #[.int .i64 k, .int .i64 n, .float .f64 f, .string s], .agg #[.int .i64 k', .int .i64 n', .float .f64 f', .string s']] w fun e w' => e = .returned (.agg #[.int .i64 (tk (and3 (ptruth k n) (ptruth k' n'))), .int .i64 (tn (and3 (ptruth k n) (ptruth k' n'))), .float .f64 0, .string ⟨#[]⟩]) ∧ Below w.heap.size w w' :=
  and_of (ptruth_three _ _) (ptruth_three _ _) k n f s k' n' f' s' w rfl rfl
set_option maxHeartbeats 1000000 in
theorem or_any (k n : Int) (f : Nat) (s : ByteArray) (k' n' : Int) (f' : Nat) (s' : ByteArray) (w : World) :
    Calls Tryz.prog 42 #[.agg #[.int .i64 k, .int .i64 n, .float .f64 f, .string s], .agg #[.int .i64 k', .int .i64 n', .float .f64 f', .string s']] w fun e w' => e = .returned (.agg #[.int .i64 (tk (or3 (ptruth k n) (ptruth k' n'))), .int .i64 (tn (or3 (ptruth k n) (ptruth k' n'))), .float .f64 0, .string ⟨#[]⟩]) ∧ Below w.heap.size w w' := by
  have g := ptruth_three k n
  have g' := ptruth_three k' n'
  have e1 := not3_three g
  have e2 := not3_three g'
  have N1 := not_any k n f s
  have N2 := not_any k' n' f' s'
  have A := and_any (tk (not3 (ptruth k n))) (tn (not3 (ptruth k n))) 0 ⟨#[]⟩ (tk (not3 (ptruth k' n'))) (tn (not3 (ptruth k' n'))) 0 ⟨#[]⟩
  rw [ptruth_tv e1, ptruth_tv e2] at A
  have N3 := not_any (tk (and3 (not3 (ptruth k n)) (not3 (ptruth k' n')))) (tn (and3 (not3 (ptruth k n)) (not3 (ptruth k' n')))) 0 ⟨#[]⟩
  rw [ptruth_tv (and3_three e1 e2)] at N3
  have H1 := Lib.hid N1
  have H2 := Lib.hid N2
  have H3 := Lib.hid A
  have H4 := Lib.hid N3
  clear N1 N2 A N3 g g' e1 e2
  unfold or3
  go_enter Tryz.func42, Tryz.ntmps42
  go_wp2_with fail
  go_region_held3 (fun w' => w'.cell? ⟨w.heap.size, 0, none⟩ = some (.int .i64 k) ∧ w'.cell? ⟨w.heap.size, 1, none⟩ = some (.int .i64 n) ∧ w'.cell? ⟨w.heap.size, 2, none⟩ = some (.float .f64 f) ∧ w'.cell? ⟨w.heap.size, 3, none⟩ = some (.string s) ∧ w'.cell? ⟨w.heap.size + 1, 0, none⟩ = some (.int .i64 k') ∧ w'.cell? ⟨w.heap.size + 1, 1, none⟩ = some (.int .i64 n') ∧ w'.cell? ⟨w.heap.size + 1, 2, none⟩ = some (.float .f64 f') ∧ w'.cell? ⟨w.heap.size + 1, 3, none⟩ = some (.string s')) (go_keep)
    (first | (go_at_call 38; with_reducible refine (H1.out _).mono ?_; rintro e w1 ⟨rfl, hb⟩; obtain ⟨hc0, hf0, hz0⟩ := newc hb w.heap.size (by first | omega | (simp; done) | (simp; omega)); obtain ⟨hc1, hf1, hz1⟩ := newc hb (w.heap.size + 1) (by first | omega | (simp; done) | (simp; omega)); obtain ⟨hc2, hf2, hz2⟩ := newc hb (w.heap.size + 2) (by first | omega | (simp; done) | (simp; omega))) | (go_at_call 38; with_reducible refine (H2.out _).mono ?_; rintro e w1 ⟨rfl, hb⟩; obtain ⟨hc0, hf0, hz0⟩ := newc hb w.heap.size (by first | omega | (simp; done) | (simp; omega)); obtain ⟨hc1, hf1, hz1⟩ := newc hb (w.heap.size + 1) (by first | omega | (simp; done) | (simp; omega)); obtain ⟨hc2, hf2, hz2⟩ := newc hb (w.heap.size + 2) (by first | omega | (simp; done) | (simp; omega))) | (go_at_call 40; with_reducible refine (H3.out _).mono ?_; rintro e w1 ⟨rfl, hb⟩; obtain ⟨hc0, hf0, hz0⟩ := newc hb w.heap.size (by first | omega | (simp; done) | (simp; omega)); obtain ⟨hc1, hf1, hz1⟩ := newc hb (w.heap.size + 1) (by first | omega | (simp; done) | (simp; omega)); obtain ⟨hc2, hf2, hz2⟩ := newc hb (w.heap.size + 2) (by first | omega | (simp; done) | (simp; omega))) | (go_at_call 38; with_reducible refine (H4.out _).mono ?_; rintro e w1 ⟨rfl, hb⟩; obtain ⟨hc0, hf0, hz0⟩ := newc hb w.heap.size (by first | omega | (simp; done) | (simp; omega)); obtain ⟨hc1, hf1, hz1⟩ := newc hb (w.heap.size + 1) (by first | omega | (simp; done) | (simp; omega)); obtain ⟨hc2, hf2, hz2⟩ := newc hb (w.heap.size + 2) (by first | omega | (simp; done) | (simp; omega))))
  go_wp2
  exact bodyPost_ret (by simp [results, Tryz.results42, go_sem, *]) rfl ⟨rfl, (by repeat' (first | with_reducible exact Below.refl _ _ | with_reducible refine below_step ?_ (by assumption) | with_reducible apply below_set' | with_reducible apply below_alloc' | with_reducible apply Below.drew | with_reducible apply below_drewN' | (simp; done) | omega | (simp; omega)))⟩
set_option maxHeartbeats 1000000 in
theorem rand_any (k n : Int) (f : Nat) (s : ByteArray) (k' n' : Int) (f' : Nat) (s' : ByteArray) (w : World) :
    Calls Tryz.prog 41 #[.agg #[.int .i64 k, .int .i64 n, .float .f64 f, .string s], .agg #[.int .i64 k', .int .i64 n', .float .f64 f', .string s']] w fun e w' => e = .returned (.agg #[.int .i64 (tk (and3 (ptruth k n) (ptruth k' n'))), .int .i64 (tn (and3 (ptruth k n) (ptruth k' n'))), .float .f64 0, .string ⟨#[]⟩]) ∧ Below w.heap.size w w' := by
  have g := ptruth_three k n
  have g' := ptruth_three k' n'
  have T := rtruth_any k n f s
  have T' := rtruth_any k' n' f' s'
  rw [rtruth_eq] at T T'
  have e := and3_min g g'
  generalize ptruth k n = t at *
  generalize ptruth k' n' = t' at *
  have H := Lib.hid T
  have H' := Lib.hid T'
  clear T T' e
  rcases g with rfl | rfl | rfl <;> rcases g' with rfl | rfl | rfl
  all_goals
    simp only [p2r_m, p2r_0, p2r_1] at H H'
    go_enter Tryz.func41, Tryz.ntmps41
    go_wp2_with fail
    go_region_held3 (fun w' => w'.cell? ⟨w.heap.size, 0, none⟩ = some (.int .i64 k) ∧ w'.cell? ⟨w.heap.size, 1, none⟩ = some (.int .i64 n) ∧ w'.cell? ⟨w.heap.size, 2, none⟩ = some (.float .f64 f) ∧ w'.cell? ⟨w.heap.size, 3, none⟩ = some (.string s) ∧ w'.cell? ⟨w.heap.size + 1, 0, none⟩ = some (.int .i64 k') ∧ w'.cell? ⟨w.heap.size + 1, 1, none⟩ = some (.int .i64 n') ∧ w'.cell? ⟨w.heap.size + 1, 2, none⟩ = some (.float .f64 f') ∧ w'.cell? ⟨w.heap.size + 1, 3, none⟩ = some (.string s')) (go_keep)
      (first | (go_at_call 37; with_reducible refine (H.out _).mono ?_; rintro e w1 ⟨rfl, hb⟩; obtain ⟨hc0, hf0, hz0⟩ := newc hb w.heap.size (by first | omega | (simp; done) | (simp; omega)); obtain ⟨hc1, hf1, hz1⟩ := newc hb (w.heap.size + 1) (by first | omega | (simp; done) | (simp; omega)); obtain ⟨hc2, hf2, hz2⟩ := newc hb (w.heap.size + 2) (by first | omega | (simp; done) | (simp; omega))) | (go_at_call 37; with_reducible refine (H'.out _).mono ?_; rintro e w1 ⟨rfl, hb⟩; obtain ⟨hc0, hf0, hz0⟩ := newc hb w.heap.size (by first | omega | (simp; done) | (simp; omega)); obtain ⟨hc1, hf1, hz1⟩ := newc hb (w.heap.size + 1) (by first | omega | (simp; done) | (simp; omega)); obtain ⟨hc2, hf2, hz2⟩ := newc hb (w.heap.size + 2) (by first | omega | (simp; done) | (simp; omega))) | (go_at_call 63; refine (rof_any _ _ (by decide)).mono ?_; rintro e w1 ⟨rfl, hb⟩; obtain ⟨hc0, hf0, hz0⟩ := newc hb w.heap.size (by first | omega | (simp; done) | (simp; omega)); obtain ⟨hc1, hf1, hz1⟩ := newc hb (w.heap.size + 1) (by first | omega | (simp; done) | (simp; omega)); obtain ⟨hc2, hf2, hz2⟩ := newc hb (w.heap.size + 2) (by first | omega | (simp; done) | (simp; omega))))
    go_wp2
    exact bodyPost_ret (by simp [results, Tryz.results41, go_sem, *]) rfl ⟨rfl, (by repeat' (first | with_reducible exact Below.refl _ _ | with_reducible refine below_step ?_ (by assumption) | with_reducible apply below_set' | with_reducible apply below_alloc' | with_reducible apply Below.drew | with_reducible apply below_drewN' | (simp; done) | omega | (simp; omega)))⟩
set_option maxHeartbeats 1000000 in
theorem ror_any (k n : Int) (f : Nat) (s : ByteArray) (k' n' : Int) (f' : Nat) (s' : ByteArray) (w : World) :
    Calls Tryz.prog 43 #[.agg #[.int .i64 k, .int .i64 n, .float .f64 f, .string s], .agg #[.int .i64 k', .int .i64 n', .float .f64 f', .string s']] w fun e w' => e = .returned (.agg #[.int .i64 (tk (or3 (ptruth k n) (ptruth k' n'))), .int .i64 (tn (or3 (ptruth k n) (ptruth k' n'))), .float .f64 0, .string ⟨#[]⟩]) ∧ Below w.heap.size w w' := by
  have g := ptruth_three k n
  have g' := ptruth_three k' n'
  have T := rtruth_any k n f s
  have T' := rtruth_any k' n' f' s'
  rw [rtruth_eq] at T T'
  have e := or3_max g g'
  generalize ptruth k n = t at *
  generalize ptruth k' n' = t' at *
  have H := Lib.hid T
  have H' := Lib.hid T'
  unfold or3
  clear T T' e
  rcases g with rfl | rfl | rfl <;> rcases g' with rfl | rfl | rfl
  all_goals
    simp only [p2r_m, p2r_0, p2r_1] at H H'
    go_enter Tryz.func43, Tryz.ntmps43
    go_wp2_with fail
    go_region_held3 (fun w' => w'.cell? ⟨w.heap.size, 0, none⟩ = some (.int .i64 k) ∧ w'.cell? ⟨w.heap.size, 1, none⟩ = some (.int .i64 n) ∧ w'.cell? ⟨w.heap.size, 2, none⟩ = some (.float .f64 f) ∧ w'.cell? ⟨w.heap.size, 3, none⟩ = some (.string s) ∧ w'.cell? ⟨w.heap.size + 1, 0, none⟩ = some (.int .i64 k') ∧ w'.cell? ⟨w.heap.size + 1, 1, none⟩ = some (.int .i64 n') ∧ w'.cell? ⟨w.heap.size + 1, 2, none⟩ = some (.float .f64 f') ∧ w'.cell? ⟨w.heap.size + 1, 3, none⟩ = some (.string s')) (go_keep)
      (first | (go_at_call 37; with_reducible refine (H.out _).mono ?_; rintro e w1 ⟨rfl, hb⟩; obtain ⟨hc0, hf0, hz0⟩ := newc hb w.heap.size (by first | omega | (simp; done) | (simp; omega)); obtain ⟨hc1, hf1, hz1⟩ := newc hb (w.heap.size + 1) (by first | omega | (simp; done) | (simp; omega)); obtain ⟨hc2, hf2, hz2⟩ := newc hb (w.heap.size + 2) (by first | omega | (simp; done) | (simp; omega))) | (go_at_call 37; with_reducible refine (H'.out _).mono ?_; rintro e w1 ⟨rfl, hb⟩; obtain ⟨hc0, hf0, hz0⟩ := newc hb w.heap.size (by first | omega | (simp; done) | (simp; omega)); obtain ⟨hc1, hf1, hz1⟩ := newc hb (w.heap.size + 1) (by first | omega | (simp; done) | (simp; omega)); obtain ⟨hc2, hf2, hz2⟩ := newc hb (w.heap.size + 2) (by first | omega | (simp; done) | (simp; omega))) | (go_at_call 63; refine (rof_any _ _ (by decide)).mono ?_; rintro e w1 ⟨rfl, hb⟩; obtain ⟨hc0, hf0, hz0⟩ := newc hb w.heap.size (by first | omega | (simp; done) | (simp; omega)); obtain ⟨hc1, hf1, hz1⟩ := newc hb (w.heap.size + 1) (by first | omega | (simp; done) | (simp; omega)); obtain ⟨hc2, hf2, hz2⟩ := newc hb (w.heap.size + 2) (by first | omega | (simp; done) | (simp; omega))))
    go_wp2
    exact bodyPost_ret (by simp [results, Tryz.results43, go_sem, *]) rfl ⟨rfl, (by repeat' (first | with_reducible exact Below.refl _ _ | with_reducible refine below_step ?_ (by assumption) | with_reducible apply below_set' | with_reducible apply below_alloc' | with_reducible apply Below.drew | with_reducible apply below_drewN' | (simp; done) | omega | (simp; omega)))⟩
end Go.Proofs.YtikpgglbfpdhmaaGreatDoor

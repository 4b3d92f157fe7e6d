/- Truths, in the program and in the reference. -/
import Derived.Test.YtikpgglbfpdhmaaGreatDoorRdMKit
namespace Go.Proofs.YtikpgglbfpdhmaaGreatDoor
open Go.RowKit Go.Joins
attribute [local go_sem ↓] Go.wp_at_zero Go.wp_at_succ

theorem truth_any (k n : Int) (f : Nat) (s : ByteArray) (w : World) :
    Calls Tryz.prog 61 #[.agg #[.int .i64 k, .int .i64 n, .float .f64 f, .string s]] w fun e w' => e = .returned (.int .i64 (ptruth k n)) ∧ Below w.heap.size w w' := by
  unfold ptruth
  by_cases h4 : k = 4
  · subst h4
    by_cases h0 : n = 0
    · subst h0
      go_enter Tryz.func61, Tryz.ntmps61
      go_wp2
      go_ret
      exact ⟨rfl, (by repeat' (first | with_reducible exact Below.refl _ _ | with_reducible refine below_step ?_ (by assumption) | with_reducible apply below_set' | with_reducible apply below_alloc' | with_reducible apply Below.drew | with_reducible apply below_drewN' | (simp; done) | omega | (simp; omega)))⟩
    · have h0' : (n != 0) = true := by simp [h0]
      go_enter Tryz.func61, Tryz.ntmps61
      go_wp2
      go_ret
      exact ⟨rfl, (by repeat' (first | with_reducible exact Below.refl _ _ | with_reducible refine below_step ?_ (by assumption) | with_reducible apply below_set' | with_reducible apply below_alloc' | with_reducible apply Below.drew | with_reducible apply below_drewN' | (simp; done) | omega | (simp; omega)))⟩
  · go_enter Tryz.func61, Tryz.ntmps61
    go_wp2
    go_ret
    exact ⟨rfl, (by repeat' (first | with_reducible exact Below.refl _ _ | with_reducible refine below_step ?_ (by assumption) | with_reducible apply below_set' | with_reducible apply below_alloc' | with_reducible apply Below.drew | with_reducible apply below_drewN' | (simp; done) | omega | (simp; omega)))⟩
theorem rtruth_any (k n : Int) (f : Nat) (s : ByteArray) (w : World) :
    Calls Tryz.prog 37 #[.agg #[.int .i64 k, .int .i64 n, .float .f64 f, .string s]] w fun e w' => e = .returned (.int .i64 (rtruth k n)) ∧ Below w.heap.size w w' := by
  unfold rtruth
  by_cases h4 : k = 4
  · subst h4
    by_cases h0 : n = 0
    · subst h0
      go_enter Tryz.func37, Tryz.ntmps37
      go_wp2
      go_ret
      exact ⟨rfl, (by repeat' (first | with_reducible exact Below.refl _ _ | with_reducible refine below_step ?_ (by assumption) | with_reducible apply below_set' | with_reducible apply below_alloc' | with_reducible apply Below.drew | with_reducible apply below_drewN' | (simp; done) | omega | (simp; omega)))⟩
    · have h0' : (n == 0) = false := by simp [h0]
      go_enter Tryz.func37, Tryz.ntmps37
      go_wp2
      go_ret
      exact ⟨rfl, (by repeat' (first | with_reducible exact Below.refl _ _ | with_reducible refine below_step ?_ (by assumption) | with_reducible apply below_set' | with_reducible apply below_alloc' | with_reducible apply Below.drew | with_reducible apply below_drewN' | (simp; done) | omega | (simp; omega)))⟩
  · go_enter Tryz.func37, Tryz.ntmps37
    go_wp2
    go_ret
    exact ⟨rfl, (by repeat' (first | with_reducible exact Below.refl _ _ | with_reducible refine below_step ?_ (by assumption) | with_reducible apply below_set' | with_reducible apply below_alloc' | with_reducible apply Below.drew | with_reducible apply below_drewN' | (simp; done) | omega | (simp; omega)))⟩
theorem true_any (k n : Int) (f : Nat) (s : ByteArray) (w : World) :
    Calls Tryz.prog 36 #[.agg #[.int .i64 k, .int .i64 n, .float .f64 f, .string s]] w fun e w' => e = .returned (.bool (ptruth k n == 1)) ∧ Below w.heap.size w w' := by
  go_enter Tryz.func36, Tryz.ntmps36
  go_wp2_with (go_at_call 61; refine (truth_any _ _ _ _ _).mono ?_; rintro e w1 ⟨rfl, hb⟩)
  go_ret
  exact ⟨rfl, (by repeat' (first | with_reducible exact Below.refl _ _ | with_reducible refine below_step ?_ (by assumption) | with_reducible apply below_set' | with_reducible apply below_alloc' | with_reducible apply Below.drew | with_reducible apply below_drewN' | (simp; done) | omega | (simp; omega)))⟩
theorem of_any (t : Int) (w : World) :
    Calls Tryz.prog 62 #[.int .i64 t] w fun e w' => e = .returned (.agg #[.int .i64 (tk t), .int .i64 (tn t), .float .f64 0, .string ⟨#[]⟩]) ∧ Below w.heap.size w w' := by
  unfold tk tn
  by_cases h : t < 0
  · go_enter Tryz.func62, Tryz.ntmps62
    go_wp2
    exact bodyPost_ret (by simp [results, Tryz.results62, go_sem, *]) rfl ⟨rfl, (by repeat' (first | with_reducible exact Below.refl _ _ | with_reducible refine below_step ?_ (by assumption) | with_reducible apply below_set' | with_reducible apply below_alloc' | with_reducible apply Below.drew | with_reducible apply below_drewN' | (simp; done) | omega | (simp; omega)))⟩
  · go_enter Tryz.func62, Tryz.ntmps62
    go_wp2_with (go_at_call 24; refine (ofBool_any _ _).mono ?_; rintro e w1 ⟨rfl, hb⟩; obtain ⟨hc0, hf0, hz0⟩ := newc hb w.heap.size (by first | omega | (simp; done) | (simp; omega)))
    exact bodyPost_ret (by simp [results, Tryz.results62, go_sem, *]) rfl ⟨rfl, (by repeat' (first | with_reducible exact Below.refl _ _ | with_reducible refine below_step ?_ (by assumption) | with_reducible apply below_set' | with_reducible apply below_alloc' | with_reducible apply Below.drew | with_reducible apply below_drewN' | (simp; done) | omega | (simp; omega)))⟩
theorem rof_any (t : Int) (w : World) (ht : 0 ≤ t ∧ t ≤ 2) :
    Calls Tryz.prog 63 #[.int .i64 t] w fun e w' => e = .returned (.agg #[.int .i64 (tk (r2p t)), .int .i64 (tn (r2p t)), .float .f64 0, .string ⟨#[]⟩]) ∧ Below w.heap.size w w' := by
  unfold tk tn r2p
  have h3 : t = 0 ∨ t = 1 ∨ t = 2 := by omega
  rcases h3 with rfl | rfl | rfl
  all_goals
    clear ht
    go_enter Tryz.func63, Tryz.ntmps63
    go_wp2_with (go_at_call 25; refine (rBool_any _ _).mono ?_; rintro e w1 ⟨rfl, hb⟩; obtain ⟨hc0, hf0, hz0⟩ := newc hb w.heap.size (by first | omega | (simp; done) | (simp; omega)))
    exact bodyPost_ret (by simp [results, Tryz.results63, go_sem, *]) rfl ⟨rfl, (by repeat' (first | with_reducible exact Below.refl _ _ | with_reducible refine below_step ?_ (by assumption) | with_reducible apply below_set' | with_reducible apply below_alloc' | with_reducible apply Below.drew | with_reducible apply below_drewN' | (simp; done) | omega | (simp; omega)))⟩
theorem not_any (k n : Int) (f : Nat) (s : ByteArray) (w : World) :
    Calls Tryz.prog 38 #[.agg #[.int .i64 k, .int .i64 n, .float .f64 f, .string s]] w fun e w' => e = .returned (.agg #[.int .i64 (tk (not3 (ptruth k n))), .int .i64 (tn (not3 (ptruth k n))), .float .f64 0, .string ⟨#[]⟩]) ∧ Below w.heap.size w w' := by
  have T := truth_any k n f s
  rcases ptruth_three k n with h | h | h <;> rw [h] at T ⊢ <;> clear h
  all_goals
    have T' := Lib.hid T
    clear T
    go_enter Tryz.func38, Tryz.ntmps38
    go_wp2_with (first | (go_at_call 61; refine (T'.out _).mono ?_; rintro e w1 ⟨rfl, hb⟩; obtain ⟨hc0, hf0, hz0⟩ := newc hb w.heap.size (by first | omega | (simp; done) | (simp; omega)); obtain ⟨hc1, hf1, hz1⟩ := newc hb (w.heap.size + 1) (by first | omega | (simp; done) | (simp; omega))) | (go_at_call 62; refine (of_any _ _).mono ?_; rintro e w1 ⟨rfl, hb⟩; obtain ⟨hc0, hf0, hz0⟩ := newc hb w.heap.size (by first | omega | (simp; done) | (simp; omega)); obtain ⟨hc1, hf1, hz1⟩ := newc hb (w.heap.size + 1) (by first | omega | (simp; done) | (simp; omega))))
    exact bodyPost_ret (by simp [results, Tryz.results38, go_sem, *]) rfl ⟨rfl, (by repeat' (first | with_reducible exact Below.refl _ _ | with_reducible refine below_step ?_ (by assumption) | with_reducible apply below_set' | with_reducible apply below_alloc' | with_reducible apply Below.drew | with_reducible apply below_drewN' | (simp; done) | omega | (simp; omega)))⟩
theorem rnot_any (k n : Int) (f : Nat) (s : ByteArray) (w : World) :
    Calls Tryz.prog 39 #[.agg #[.int .i64 k, .int .i64 n, .float .f64 f, .string s]] w fun e w' => e = .returned (.agg #[.int .i64 (tk (not3 (ptruth k n))), .int .i64 (tn (not3 (ptruth k n))), .float .f64 0, .string ⟨#[]⟩]) ∧ Below w.heap.size w w' := by
  have T := rtruth_any k n f s
  rw [rtruth_eq] at T
  rcases ptruth_three k n with h | h | h <;> rw [h] at T ⊢ <;> clear h <;> simp only [p2r_m, p2r_0, p2r_1] at T
  all_goals
    have T' := Lib.hid T
    clear T
    go_enter Tryz.func39, Tryz.ntmps39
    go_wp2_with (first | (go_at_call 37; refine (T'.out _).mono ?_; rintro e w1 ⟨rfl, hb⟩; obtain ⟨hc0, hf0, hz0⟩ := newc hb w.heap.size (by first | omega | (simp; done) | (simp; omega)); obtain ⟨hc1, hf1, hz1⟩ := newc hb (w.heap.size + 1) (by first | omega | (simp; done) | (simp; omega))) | (go_at_call 63; refine (rof_any _ _ (by decide)).mono ?_; rintro e w1 ⟨rfl, hb⟩; obtain ⟨hc0, hf0, hz0⟩ := newc hb w.heap.size (by first | omega | (simp; done) | (simp; omega)); obtain ⟨hc1, hf1, hz1⟩ := newc hb (w.heap.size + 1) (by first | omega | (simp; done) | (simp; omega))))
    exact bodyPost_ret (by simp [results, Tryz.results39, go_sem, *]) rfl ⟨rfl, (by repeat' (first | with_reducible exact Below.refl _ _ | with_reducible refine below_step ?_ (by assumption) | with_reducible apply below_set' | with_reducible apply below_alloc' | with_reducible apply Below.drew | with_reducible apply below_drewN' | (simp; done) | omega | (simp; omega)))⟩
end Go.Proofs.YtikpgglbfpdhmaaGreatDoor

/- What a clean value is, in the program and in its reference; truths. -/
import Derived.Test.YtikpgglbfpdhmaaGreatDoorValA
namespace Go.Proofs.YtikpgglbfpdhmaaGreatDoor
open Go.RowKit Go.Joins

theorem clean_1 (n : Int) (f : Nat) (s : ByteArray) (w : World) :
    Calls Tryz.prog 30 #[.agg #[.int .i64 1, .int .i64 n, .float .f64 f, .string s]] w fun e w' => e = .returned (.agg #[.int .i64 1, .int .i64 n, .float .f64 0, .string ⟨#[]⟩]) ∧ Below w.heap.size w w' := by
  go_enter Tryz.func30, Tryz.ntmps30
  go_wp2_with (go_at_call 16; refine (ofInt_any _ _).mono ?_; rintro e w1 ⟨rfl, hb⟩; obtain ⟨hc0, hf0, hz0⟩ := newc hb w.heap.size (by first | omega | (simp; done) | (simp; omega)); obtain ⟨hc1, hf1, hz1⟩ := newc hb (w.heap.size + 1) (by first | omega | (simp; done) | (simp; omega)))
  exact bodyPost_ret (by simp [results, Tryz.results30, go_sem, *]) rfl ⟨rfl, (by repeat' (first | with_reducible exact Below.refl _ _ | with_reducible refine below_step ?_ (by assumption) | with_reducible apply below_set' | with_reducible apply below_alloc' | with_reducible apply Below.drew | with_reducible apply below_drewN' | (simp; done) | omega | (simp; omega)))⟩
theorem clean_2 (n : Int) (f : Nat) (s : ByteArray) (w : World) :
    Calls Tryz.prog 30 #[.agg #[.int .i64 2, .int .i64 n, .float .f64 f, .string s]] w fun e w' => e = .returned (.agg #[.int .i64 2, .int .i64 0, .float .f64 (freal f), .string ⟨#[]⟩]) ∧ Below w.heap.size w w' := by
  go_enter Tryz.func30, Tryz.ntmps30
  go_wp2_with (go_at_call 22; refine (ofReal_any _ _).mono ?_; rintro e w1 ⟨rfl, hb⟩; obtain ⟨hc0, hf0, hz0⟩ := newc hb w.heap.size (by first | omega | (simp; done) | (simp; omega)); obtain ⟨hc1, hf1, hz1⟩ := newc hb (w.heap.size + 1) (by first | omega | (simp; done) | (simp; omega)))
  exact bodyPost_ret (by simp [results, Tryz.results30, go_sem, *]) rfl ⟨rfl, (by repeat' (first | with_reducible exact Below.refl _ _ | with_reducible refine below_step ?_ (by assumption) | with_reducible apply below_set' | with_reducible apply below_alloc' | with_reducible apply Below.drew | with_reducible apply below_drewN' | (simp; done) | omega | (simp; omega)))⟩
theorem clean_3 (n : Int) (f : Nat) (s : ByteArray) (w : World) :
    Calls Tryz.prog 30 #[.agg #[.int .i64 3, .int .i64 n, .float .f64 f, .string s]] w fun e w' => e = .returned (.agg #[.int .i64 3, .int .i64 0, .float .f64 0, .string s]) ∧ Below w.heap.size w w' := by
  go_enter Tryz.func30, Tryz.ntmps30
  go_wp2_with (go_at_call 23; refine (ofText_any _ _).mono ?_; rintro e w1 ⟨rfl, hb⟩; obtain ⟨hc0, hf0, hz0⟩ := newc hb w.heap.size (by first | omega | (simp; done) | (simp; omega)); obtain ⟨hc1, hf1, hz1⟩ := newc hb (w.heap.size + 1) (by first | omega | (simp; done) | (simp; omega)))
  exact bodyPost_ret (by simp [results, Tryz.results30, go_sem, *]) rfl ⟨rfl, (by repeat' (first | with_reducible exact Below.refl _ _ | with_reducible refine below_step ?_ (by assumption) | with_reducible apply below_set' | with_reducible apply below_alloc' | with_reducible apply Below.drew | with_reducible apply below_drewN' | (simp; done) | omega | (simp; omega)))⟩
theorem clean_4 (n : Int) (f : Nat) (s : ByteArray) (w : World) :
    Calls Tryz.prog 30 #[.agg #[.int .i64 4, .int .i64 n, .float .f64 f, .string s]] w fun e w' => e = .returned (.agg #[.int .i64 4, .int .i64 (b2i (n != 0)), .float .f64 0, .string ⟨#[]⟩]) ∧ Below w.heap.size w w' := by
  go_enter Tryz.func30, Tryz.ntmps30
  go_wp2_with (go_at_call 24; refine (ofBool_any _ _).mono ?_; rintro e w1 ⟨rfl, hb⟩; obtain ⟨hc0, hf0, hz0⟩ := newc hb w.heap.size (by first | omega | (simp; done) | (simp; omega)); obtain ⟨hc1, hf1, hz1⟩ := newc hb (w.heap.size + 1) (by first | omega | (simp; done) | (simp; omega)))
  exact bodyPost_ret (by simp [results, Tryz.results30, go_sem, *]) rfl ⟨rfl, (by repeat' (first | with_reducible exact Below.refl _ _ | with_reducible refine below_step ?_ (by assumption) | with_reducible apply below_set' | with_reducible apply below_alloc' | with_reducible apply Below.drew | with_reducible apply below_drewN' | (simp; done) | omega | (simp; omega)))⟩
theorem clean_5 (k n : Int) (f : Nat) (s : ByteArray) (w : World) (h1 : ¬ k = 1) (h2 : ¬ k = 2) (h3 : ¬ k = 3) (h4 : ¬ k = 4) :
    Calls Tryz.prog 30 #[.agg #[.int .i64 k, .int .i64 n, .float .f64 f, .string s]] w fun e w' => e = .returned (.agg #[.int .i64 0, .int .i64 0, .float .f64 0, .string ⟨#[]⟩]) ∧ Below w.heap.size w w' := by
  go_enter Tryz.func30, Tryz.ntmps30
  go_wp2
  exact bodyPost_ret (by simp [results, Tryz.results30, go_sem, *]) rfl ⟨rfl, (by repeat' (first | with_reducible exact Below.refl _ _ | with_reducible refine below_step ?_ (by assumption) | with_reducible apply below_set' | with_reducible apply below_alloc' | with_reducible apply Below.drew | with_reducible apply below_drewN' | (simp; done) | omega | (simp; omega)))⟩
theorem clean_any (k n : Int) (f : Nat) (s : ByteArray) (w : World) :
    Calls Tryz.prog 30 #[.agg #[.int .i64 k, .int .i64 n, .float .f64 f, .string s]] w fun e w' => e = .returned (.agg #[.int .i64 (cK k), .int .i64 (cN k n), .float .f64 (cF k f), .string (cS k s)]) ∧ Below w.heap.size w w' := by
  by_cases h1 : k = 1
  · subst h1; exact clean_1 n f s w
  by_cases h2 : k = 2
  · subst h2; exact clean_2 n f s w
  by_cases h3 : k = 3
  · subst h3; exact clean_3 n f s w
  by_cases h4 : k = 4
  · subst h4
    have e : b2i (n != 0) = cN 4 n := by unfold b2i cN; by_cases h : n = 0 <;> simp [h]
    have := clean_4 n f s w
    rw [e] at this
    exact this
  · have e0 : cK k = 0 := by unfold cK; split <;> omega
    have e1 : cN k n = 0 := by unfold cN; rw [if_neg h1, if_neg h4]
    have e2 : cF k f = 0 := by unfold cF; rw [if_neg h2]
    have e3 : cS k s = ⟨#[]⟩ := by unfold cS; rw [if_neg h3]
    rw [e0, e1, e2, e3]
    exact clean_5 k n f s w h1 h2 h3 h4
end Go.Proofs.YtikpgglbfpdhmaaGreatDoor

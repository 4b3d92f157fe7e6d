/- The walk of ValueTruths. -/
import Derived.Test.YtikpgglbfpdhmaaGreatDoorLives
import Derived.Test.YtikpgglbfpdhmaaGreatDoorValE
import Derived.Test.YtikpgglbfpdhmaaGreatDoorValH
import Derived.Test.YtikpgglbfpdhmaaGreatDoorVMore
namespace Go.Proofs.YtikpgglbfpdhmaaGreatDoor
open Go.RowKit Go.Joins
attribute [local go_sem ↓] Go.wp_at_zero Go.wp_at_succ

/-- Two values with one kind, number and text, and reals that are one: Exact says yes. -/
theorem exact_one (k n : Int) (f g : Nat) (s : ByteArray) (h : FOne f g) (w : World) :
    Calls Tryz.prog 21 #[.agg #[.int .i64 k, .int .i64 n, .float .f64 f, .string s], .agg #[.int .i64 k, .int .i64 n, .float .f64 g, .string s]] w fun e w' => e = .returned (.bool true) ∧ Below w.heap.size w w' := by
  rcases h with ⟨h1, h2⟩ | ⟨h1, rfl⟩
  · exact exact_nan k n f g s (by rw [feq_self, h1]; rfl) (by rw [feq_self, h2]; rfl) w
  · exact exact_num k n f s (by rw [feq_self, h1]; rfl) w
theorem exact_same (k n : Int) (w : World) :
    Calls Tryz.prog 21 #[.agg #[.int .i64 k, .int .i64 n, .float .f64 0, .string ⟨#[]⟩], .agg #[.int .i64 k, .int .i64 n, .float .f64 0, .string ⟨#[]⟩]] w fun e w' => e = .returned (.bool true) ∧ Below w.heap.size w w' := exact_one k n 0 0 _ (FOne.refl 0) w
theorem short_is (r : Bool) {vs : List Va} (hs : shortB vs = r) (n : Nat) (B off c : Nat) (vs' : List Va) (hn : vs'.length = n) (w : World) (hB : B < w.heap.size) (hrow : RowAt w B off vs') (hm : n ≤ 1000) (hvs : vs' = vs := by rfl) :
    Calls Tryz.prog 14 #[.slice (some ⟨B, off, none⟩) n c] w fun e w' => e = .returned (.bool r) ∧ Below w.heap.size w w' := by
  subst hvs; subst hs; exact short_n n B off c vs' hn w hB hrow hm
set_option maxRecDepth 100000 in
set_option maxHeartbeats 4000000 in
theorem truths_long (a : Va) (b : Va) (hs : shortB [a, b] = false) (w : World) :
    Calls Tryz.prog 10 #[a.val, b.val] w fun e w' => e = .returned (.bool true) ∧ Below w.heap.size w w' := by
  go_enter Tryz.func10, Tryz.ntmps10
  go_wp2_with fail
  refine (lives_any _).mono ?_
  rintro e w1 ⟨rfl, hb⟩
  obtain ⟨hc0, hf0, hz0⟩ := newc hb w.heap.size (by first | omega | (simp; done) | (simp; omega)); obtain ⟨hc1, hf1, hz1⟩ := newc hb (w.heap.size + 1) (by first | omega | (simp; done) | (simp; omega))
  go_wp2_with fail
  refine (short_is false hs 2 w1.heap.size 0 2 [a, b] rfl _ (by simp) (row2_at (row1_at (by simp) (by simp) (by simp) (by simp)) (by simp) (by simp) (by simp) (by simp)) (by decide)).mono ?_
  rintro e w2 ⟨rfl, hb2⟩
  go_wp2_with fail
  refine (lives_any _).mono ?_
  rintro e w3 ⟨rfl, hb3⟩
  go_wp2
  go_ret
  exact ⟨rfl, (by repeat' (first | with_reducible exact Below.refl _ _ | with_reducible refine below_step ?_ (by assumption) | with_reducible apply below_set' | with_reducible apply below_alloc' | with_reducible apply Below.drew | with_reducible apply below_drewN' | (simp; done) | omega | (simp; omega)))⟩
set_option maxRecDepth 100000 in
set_option maxHeartbeats 4000000 in
theorem truths_short (a : Va) (b : Va) (hs : shortB [a, b] = true)
    (r : Int) (tb : Bool) (hr : (r == 2) = tb)
    (T1 : Hid (∀ w, Calls Tryz.prog 36 #[.agg #[.int .i64 a.k, .int .i64 a.n, .float .f64 a.f, .string a.s]] w fun e w' => e = .returned (.bool tb) ∧ Below w.heap.size w w'))
    (T2 : Hid (∀ w, Calls Tryz.prog 37 #[.agg #[.int .i64 a.k, .int .i64 a.n, .float .f64 a.f, .string a.s]] w fun e w' => e = .returned (.int .i64 r) ∧ Below w.heap.size w w')) (w : World) :
    Calls Tryz.prog 10 #[a.val, b.val] w fun e w' => e = .returned (.bool true) ∧ Below w.heap.size w w' := by
  go_enter Tryz.func10, Tryz.ntmps10
  go_wp2_with fail
  refine (lives_any _).mono ?_
  rintro e w1 ⟨rfl, hb⟩
  obtain ⟨hc0, hf0, hz0⟩ := newc hb w.heap.size (by first | omega | (simp; done) | (simp; omega)); obtain ⟨hc1, hf1, hz1⟩ := newc hb (w.heap.size + 1) (by first | omega | (simp; done) | (simp; omega))
  go_wp2_with fail
  refine (short_is true hs 2 w1.heap.size 0 2 [a, b] rfl _ (by simp) (row2_at (row1_at (by simp) (by simp) (by simp) (by simp)) (by simp) (by simp) (by simp) (by simp)) (by decide)).mono ?_
  rintro e w2 ⟨rfl, hb2⟩
  have hb0 : Below w.heap.size w w2 := (by repeat' (first | with_reducible exact Below.refl _ _ | with_reducible refine below_step ?_ (by assumption) | with_reducible apply below_set' | with_reducible apply below_alloc' | with_reducible apply Below.drew | with_reducible apply below_drewN' | (simp; done) | omega | (simp; omega)))
  obtain ⟨hc0', _, hz0'⟩ := newc hb2 (w.heap.size) (by first | omega | (simp; done) | (simp; omega))
  obtain ⟨hc1', _, hz1'⟩ := newc hb2 (w.heap.size + 1) (by first | omega | (simp; done) | (simp; omega))
  have p0 : w2.cell? ⟨w.heap.size, 0, none⟩ = some (.int .i64 a.k) := by simp [*, go_sem]
  have p1 : w2.cell? ⟨w.heap.size, 1, none⟩ = some (.int .i64 a.n) := by simp [*, go_sem]
  have p2 : w2.cell? ⟨w.heap.size, 2, none⟩ = some (.float .f64 a.f) := by simp [*, go_sem]
  have p3 : w2.cell? ⟨w.heap.size, 3, none⟩ = some (.string a.s) := by simp [*, go_sem]
  have p4 : w2.cell? ⟨w.heap.size + 1, 0, none⟩ = some (.int .i64 b.k) := by simp [*, go_sem]
  have p5 : w2.cell? ⟨w.heap.size + 1, 1, none⟩ = some (.int .i64 b.n) := by simp [*, go_sem]
  have p6 : w2.cell? ⟨w.heap.size + 1, 2, none⟩ = some (.float .f64 b.f) := by simp [*, go_sem]
  have p7 : w2.cell? ⟨w.heap.size + 1, 3, none⟩ = some (.string b.s) := by simp [*, go_sem]
  clear hc0 hc0' hf0 hz0 hc1 hc1' hf1 hz1 hb hb2
  go_wp2_with fail
  go_region_held3 (fun w' => w'.cell? ⟨w.heap.size, 0, none⟩ = some (.int .i64 a.k) ∧ w'.cell? ⟨w.heap.size, 1, none⟩ = some (.int .i64 a.n) ∧ w'.cell? ⟨w.heap.size, 2, none⟩ = some (.float .f64 a.f) ∧ w'.cell? ⟨w.heap.size, 3, none⟩ = some (.string a.s) ∧ w'.cell? ⟨w.heap.size + 1, 0, none⟩ = some (.int .i64 b.k) ∧ w'.cell? ⟨w.heap.size + 1, 1, none⟩ = some (.int .i64 b.n) ∧ w'.cell? ⟨w.heap.size + 1, 2, none⟩ = some (.float .f64 b.f) ∧ w'.cell? ⟨w.heap.size + 1, 3, none⟩ = some (.string b.s)) ((simp [*, go_sem]))
    (first | (go_at_call 36; (with_reducible refine (T1.out _).mono ?_); rintro e w1 ⟨rfl, hb⟩; obtain ⟨hc0, hf0, hz0⟩ := newc hb (w.heap.size) (by first | assumption | omega | (simp; done) | (simp; omega)); obtain ⟨hc1, hf1, hz1⟩ := newc hb (w.heap.size + 1) (by first | assumption | omega | (simp; done) | (simp; omega))) | (go_at_call 37; (with_reducible refine (T2.out _).mono ?_); rintro e w1 ⟨rfl, hb⟩; obtain ⟨hc0, hf0, hz0⟩ := newc hb (w.heap.size) (by first | assumption | omega | (simp; done) | (simp; omega)); obtain ⟨hc1, hf1, hz1⟩ := newc hb (w.heap.size + 1) (by first | assumption | omega | (simp; done) | (simp; omega))) | (go_at_call 38; (with_reducible refine (not_any _ _ _ _ _).mono ?_); rintro e w1 ⟨rfl, hb⟩; obtain ⟨hc0, hf0, hz0⟩ := newc hb (w.heap.size) (by first | assumption | omega | (simp; done) | (simp; omega)); obtain ⟨hc1, hf1, hz1⟩ := newc hb (w.heap.size + 1) (by first | assumption | omega | (simp; done) | (simp; omega))) | (go_at_call 39; (with_reducible refine (rnot_any _ _ _ _ _).mono ?_); rintro e w1 ⟨rfl, hb⟩; obtain ⟨hc0, hf0, hz0⟩ := newc hb (w.heap.size) (by first | assumption | omega | (simp; done) | (simp; omega)); obtain ⟨hc1, hf1, hz1⟩ := newc hb (w.heap.size + 1) (by first | assumption | omega | (simp; done) | (simp; omega))) | (go_at_call 21; (with_reducible refine (exact_same _ _ _).mono ?_); rintro e w1 ⟨rfl, hb⟩; obtain ⟨hc0, hf0, hz0⟩ := newc hb (w.heap.size) (by first | assumption | omega | (simp; done) | (simp; omega)); obtain ⟨hc1, hf1, hz1⟩ := newc hb (w.heap.size + 1) (by first | assumption | omega | (simp; done) | (simp; omega))))
  go_wp2_with fail
  go_region_held3 (fun w' => w'.cell? ⟨w.heap.size, 0, none⟩ = some (.int .i64 a.k) ∧ w'.cell? ⟨w.heap.size, 1, none⟩ = some (.int .i64 a.n) ∧ w'.cell? ⟨w.heap.size, 2, none⟩ = some (.float .f64 a.f) ∧ w'.cell? ⟨w.heap.size, 3, none⟩ = some (.string a.s) ∧ w'.cell? ⟨w.heap.size + 1, 0, none⟩ = some (.int .i64 b.k) ∧ w'.cell? ⟨w.heap.size + 1, 1, none⟩ = some (.int .i64 b.n) ∧ w'.cell? ⟨w.heap.size + 1, 2, none⟩ = some (.float .f64 b.f) ∧ w'.cell? ⟨w.heap.size + 1, 3, none⟩ = some (.string b.s)) ((simp [*, go_sem]))
    (first | (go_at_call 40; (with_reducible refine (and_any _ _ _ _ _ _ _ _ _).mono ?_); rintro e w1 ⟨rfl, hb⟩; obtain ⟨hc0, hf0, hz0⟩ := newc hb (w.heap.size) (by first | assumption | omega | (simp; done) | (simp; omega)); obtain ⟨hc1, hf1, hz1⟩ := newc hb (w.heap.size + 1) (by first | assumption | omega | (simp; done) | (simp; omega))) | (go_at_call 41; (with_reducible refine (rand_any _ _ _ _ _ _ _ _ _).mono ?_); rintro e w1 ⟨rfl, hb⟩; obtain ⟨hc0, hf0, hz0⟩ := newc hb (w.heap.size) (by first | assumption | omega | (simp; done) | (simp; omega)); obtain ⟨hc1, hf1, hz1⟩ := newc hb (w.heap.size + 1) (by first | assumption | omega | (simp; done) | (simp; omega))) | (go_at_call 42; (with_reducible refine (or_any _ _ _ _ _ _ _ _ _).mono ?_); rintro e w1 ⟨rfl, hb⟩; obtain ⟨hc0, hf0, hz0⟩ := newc hb (w.heap.size) (by first | assumption | omega | (simp; done) | (simp; omega)); obtain ⟨hc1, hf1, hz1⟩ := newc hb (w.heap.size + 1) (by first | assumption | omega | (simp; done) | (simp; omega))) | (go_at_call 43; (with_reducible refine (ror_any _ _ _ _ _ _ _ _ _).mono ?_); rintro e w1 ⟨rfl, hb⟩; obtain ⟨hc0, hf0, hz0⟩ := newc hb (w.heap.size) (by first | assumption | omega | (simp; done) | (simp; omega)); obtain ⟨hc1, hf1, hz1⟩ := newc hb (w.heap.size + 1) (by first | assumption | omega | (simp; done) | (simp; omega))) | (go_at_call 21; (with_reducible refine (exact_same _ _ _).mono ?_); rintro e w1 ⟨rfl, hb⟩; obtain ⟨hc0, hf0, hz0⟩ := newc hb (w.heap.size) (by first | assumption | omega | (simp; done) | (simp; omega)); obtain ⟨hc1, hf1, hz1⟩ := newc hb (w.heap.size + 1) (by first | assumption | omega | (simp; done) | (simp; omega))))
  go_wp2
  go_ret
  exact ⟨rfl, (by repeat' (first | with_reducible exact Below.refl _ _ | with_reducible refine below_step ?_ (by assumption) | with_reducible apply below_set' | with_reducible apply below_alloc' | with_reducible apply Below.drew | with_reducible apply below_drewN' | (simp; done) | omega | (simp; omega)))⟩
theorem truths_any (a : Va) (b : Va) (w : World) :
    Calls Tryz.prog 10 #[a.val, b.val] w fun e w' => e = .returned (.bool true) ∧ Below w.heap.size w w' := by
  cases hs : shortB [a, b]
  · exact truths_long a b hs w
  · exact truths_short a b hs (rtruth a.k a.n) (ptruth a.k a.n == 1) (by rw [rtruth_eq]; rcases ptruth_three a.k a.n with h | h | h <;> rw [h] <;> rfl) (Lib.hid fun w => true_any _ _ _ _ w) (Lib.hid fun w => rtruth_any _ _ _ _ w) w
end Go.Proofs.YtikpgglbfpdhmaaGreatDoor

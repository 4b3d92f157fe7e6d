/- The walk of ValueBack. -/
import Derived.Test.YtikpgglbfpdhmaaGreatDoorLives
import Derived.Test.YtikpgglbfpdhmaaGreatDoorInts
namespace Go.Proofs.YtikpgglbfpdhmaaGreatDoor
open Go.RowKit Go.Joins
attribute [local go_sem ↓] Go.wp_at_zero Go.wp_at_succ

set_option maxRecDepth 100000 in
set_option maxHeartbeats 2000000 in
theorem back_00 (a b : Int)
    (C1 : Hid (∀ w, Calls Tryz.prog 17 #[.string ⟨#[43]⟩, .agg #[.int .i64 1, .int .i64 a, .float .f64 0, .string ⟨#[]⟩], .agg #[.int .i64 1, .int .i64 b, .float .f64 0, .string ⟨#[]⟩]] w fun e w' => e = .returned (.agg #[.int .i64 0, .int .i64 0, .float .f64 0, .string ⟨#[]⟩]) ∧ Below w.heap.size w w'))
    (C3 : Hid (∀ w, Calls Tryz.prog 17 #[.string ⟨#[42]⟩, .agg #[.int .i64 1, .int .i64 a, .float .f64 0, .string ⟨#[]⟩], .agg #[.int .i64 1, .int .i64 b, .float .f64 0, .string ⟨#[]⟩]] w fun e w' => e = .returned (.agg #[.int .i64 0, .int .i64 0, .float .f64 0, .string ⟨#[]⟩]) ∧ Below w.heap.size w w')) (w : World) :
    Calls Tryz.prog 4 #[.int .i64 a, .int .i64 b] w fun e w' => e = .returned (.bool true) ∧ Below w.heap.size w w' := by
  go_enter Tryz.func4, Tryz.ntmps4
  go_wp2_with fail
  refine (lives_any _).mono ?_
  rintro e w0 ⟨rfl, hb0'⟩
  go_wp2_with fail
  refine (ofInt_any _ _).mono ?_
  rintro e w1 ⟨rfl, hb1⟩
  go_wp2_with fail
  refine (ofInt_any _ _).mono ?_
  rintro e w2 ⟨rfl, hb2⟩
  go_wp2_with fail
  refine (C1.out _).mono ?_
  rintro e w3 ⟨rfl, hb3⟩
  obtain ⟨cx, _, zx⟩ := newc hb3 w2.heap.size (by first | assumption | omega | (simp; done) | (simp; omega))
  obtain ⟨cy, _, zy⟩ := newc hb3 (w2.heap.size + 1) (by first | assumption | omega | (simp; done) | (simp; omega))
  have lx : w2.heap.size < w3.heap.size + 1 := by omega
  have ly : w2.heap.size + 1 < w3.heap.size + 1 := by omega
  go_wp2_with fail
  refine (C3.out _).mono ?_
  rintro e w5 ⟨rfl, hb5⟩
  go_wp2
  go_ret
  exact ⟨rfl, (by repeat' (first | with_reducible exact Below.refl _ _ | with_reducible refine below_step ?_ (by assumption) | with_reducible apply below_set' | with_reducible apply below_alloc' | with_reducible apply Below.drew | with_reducible apply below_drewN' | (simp; done) | omega | (simp; omega)))⟩
set_option maxRecDepth 100000 in
set_option maxHeartbeats 2000000 in
theorem back_01 (a b p : Int)
    (C1 : Hid (∀ w, Calls Tryz.prog 17 #[.string ⟨#[43]⟩, .agg #[.int .i64 1, .int .i64 a, .float .f64 0, .string ⟨#[]⟩], .agg #[.int .i64 1, .int .i64 b, .float .f64 0, .string ⟨#[]⟩]] w fun e w' => e = .returned (.agg #[.int .i64 0, .int .i64 0, .float .f64 0, .string ⟨#[]⟩]) ∧ Below w.heap.size w w'))
    (C3 : Hid (∀ w, Calls Tryz.prog 17 #[.string ⟨#[42]⟩, .agg #[.int .i64 1, .int .i64 a, .float .f64 0, .string ⟨#[]⟩], .agg #[.int .i64 1, .int .i64 b, .float .f64 0, .string ⟨#[]⟩]] w fun e w' => e = .returned (.agg #[.int .i64 1, .int .i64 p, .float .f64 0, .string ⟨#[]⟩]) ∧ Below w.heap.size w w'))
    (hb0 : ¬ b = 0) (ht : (wrap64 (p.tdiv b) == a) = true) (hm : p.tmod b = 0) (w : World) :
    Calls Tryz.prog 4 #[.int .i64 a, .int .i64 b] w fun e w' => e = .returned (.bool true) ∧ Below w.heap.size w w' := by
  go_enter Tryz.func4, Tryz.ntmps4
  go_wp2_with fail
  refine (lives_any _).mono ?_
  rintro e w0 ⟨rfl, hb0'⟩
  go_wp2_with fail
  refine (ofInt_any _ _).mono ?_
  rintro e w1 ⟨rfl, hb1⟩
  go_wp2_with fail
  refine (ofInt_any _ _).mono ?_
  rintro e w2 ⟨rfl, hb2⟩
  go_wp2_with fail
  refine (C1.out _).mono ?_
  rintro e w3 ⟨rfl, hb3⟩
  obtain ⟨cx, _, zx⟩ := newc hb3 w2.heap.size (by first | assumption | omega | (simp; done) | (simp; omega))
  obtain ⟨cy, _, zy⟩ := newc hb3 (w2.heap.size + 1) (by first | assumption | omega | (simp; done) | (simp; omega))
  have lx : w2.heap.size < w3.heap.size + 1 := by omega
  have ly : w2.heap.size + 1 < w3.heap.size + 1 := by omega
  go_wp2_with fail
  refine (C3.out _).mono ?_
  rintro e w5 ⟨rfl, hb5⟩
  go_wp2
  go_ret
  exact ⟨rfl, (by repeat' (first | with_reducible exact Below.refl _ _ | with_reducible refine below_step ?_ (by assumption) | with_reducible apply below_set' | with_reducible apply below_alloc' | with_reducible apply Below.drew | with_reducible apply below_drewN' | (simp; done) | omega | (simp; omega)))⟩
set_option maxRecDepth 100000 in
set_option maxHeartbeats 2000000 in
theorem back_02 (a p : Int)
    (C1 : Hid (∀ w, Calls Tryz.prog 17 #[.string ⟨#[43]⟩, .agg #[.int .i64 1, .int .i64 a, .float .f64 0, .string ⟨#[]⟩], .agg #[.int .i64 1, .int .i64 0, .float .f64 0, .string ⟨#[]⟩]] w fun e w' => e = .returned (.agg #[.int .i64 0, .int .i64 0, .float .f64 0, .string ⟨#[]⟩]) ∧ Below w.heap.size w w'))
    (C3 : Hid (∀ w, Calls Tryz.prog 17 #[.string ⟨#[42]⟩, .agg #[.int .i64 1, .int .i64 a, .float .f64 0, .string ⟨#[]⟩], .agg #[.int .i64 1, .int .i64 0, .float .f64 0, .string ⟨#[]⟩]] w fun e w' => e = .returned (.agg #[.int .i64 1, .int .i64 p, .float .f64 0, .string ⟨#[]⟩]) ∧ Below w.heap.size w w')) (w : World) :
    Calls Tryz.prog 4 #[.int .i64 a, .int .i64 0] w fun e w' => e = .returned (.bool true) ∧ Below w.heap.size w w' := by
  go_enter Tryz.func4, Tryz.ntmps4
  go_wp2_with fail
  refine (lives_any _).mono ?_
  rintro e w0 ⟨rfl, hb0'⟩
  go_wp2_with fail
  refine (ofInt_any _ _).mono ?_
  rintro e w1 ⟨rfl, hb1⟩
  go_wp2_with fail
  refine (ofInt_any _ _).mono ?_
  rintro e w2 ⟨rfl, hb2⟩
  go_wp2_with fail
  refine (C1.out _).mono ?_
  rintro e w3 ⟨rfl, hb3⟩
  obtain ⟨cx, _, zx⟩ := newc hb3 w2.heap.size (by first | assumption | omega | (simp; done) | (simp; omega))
  obtain ⟨cy, _, zy⟩ := newc hb3 (w2.heap.size + 1) (by first | assumption | omega | (simp; done) | (simp; omega))
  have lx : w2.heap.size < w3.heap.size + 1 := by omega
  have ly : w2.heap.size + 1 < w3.heap.size + 1 := by omega
  go_wp2_with fail
  refine (C3.out _).mono ?_
  rintro e w5 ⟨rfl, hb5⟩
  go_wp2
  go_ret
  exact ⟨rfl, (by repeat' (first | with_reducible exact Below.refl _ _ | with_reducible refine below_step ?_ (by assumption) | with_reducible apply below_set' | with_reducible apply below_alloc' | with_reducible apply Below.drew | with_reducible apply below_drewN' | (simp; done) | omega | (simp; omega)))⟩
set_option maxRecDepth 100000 in
set_option maxHeartbeats 2000000 in
theorem back_10 (a b s : Int)
    (C1 : Hid (∀ w, Calls Tryz.prog 17 #[.string ⟨#[43]⟩, .agg #[.int .i64 1, .int .i64 a, .float .f64 0, .string ⟨#[]⟩], .agg #[.int .i64 1, .int .i64 b, .float .f64 0, .string ⟨#[]⟩]] w fun e w' => e = .returned (.agg #[.int .i64 1, .int .i64 s, .float .f64 0, .string ⟨#[]⟩]) ∧ Below w.heap.size w w'))
    (C2 : Hid (∀ w, Calls Tryz.prog 17 #[.string ⟨#[45]⟩, .agg #[.int .i64 1, .int .i64 s, .float .f64 0, .string ⟨#[]⟩], .agg #[.int .i64 1, .int .i64 b, .float .f64 0, .string ⟨#[]⟩]] w fun e w' => e = .returned (.agg #[.int .i64 1, .int .i64 a, .float .f64 0, .string ⟨#[]⟩]) ∧ Below w.heap.size w w'))
    (C3 : Hid (∀ w, Calls Tryz.prog 17 #[.string ⟨#[42]⟩, .agg #[.int .i64 1, .int .i64 a, .float .f64 0, .string ⟨#[]⟩], .agg #[.int .i64 1, .int .i64 b, .float .f64 0, .string ⟨#[]⟩]] w fun e w' => e = .returned (.agg #[.int .i64 0, .int .i64 0, .float .f64 0, .string ⟨#[]⟩]) ∧ Below w.heap.size w w')) (w : World) :
    Calls Tryz.prog 4 #[.int .i64 a, .int .i64 b] w fun e w' => e = .returned (.bool true) ∧ Below w.heap.size w w' := by
  go_enter Tryz.func4, Tryz.ntmps4
  go_wp2_with fail
  refine (lives_any _).mono ?_
  rintro e w0 ⟨rfl, hb0'⟩
  go_wp2_with fail
  refine (ofInt_any _ _).mono ?_
  rintro e w1 ⟨rfl, hb1⟩
  go_wp2_with fail
  refine (ofInt_any _ _).mono ?_
  rintro e w2 ⟨rfl, hb2⟩
  go_wp2_with fail
  refine (C1.out _).mono ?_
  rintro e w3 ⟨rfl, hb3⟩
  obtain ⟨cx, _, zx⟩ := newc hb3 w2.heap.size (by first | assumption | omega | (simp; done) | (simp; omega))
  obtain ⟨cy, _, zy⟩ := newc hb3 (w2.heap.size + 1) (by first | assumption | omega | (simp; done) | (simp; omega))
  have lx : w2.heap.size < w3.heap.size + 1 := by omega
  have ly : w2.heap.size + 1 < w3.heap.size + 1 := by omega
  go_wp2_with fail
  refine (C2.out _).mono ?_
  rintro e w4 ⟨rfl, hb4⟩
  obtain ⟨cx', _, zx'⟩ := newc hb4 w2.heap.size (by first | assumption | omega | (simp; done) | (simp; omega))
  obtain ⟨cy', _, zy'⟩ := newc hb4 (w2.heap.size + 1) (by first | assumption | omega | (simp; done) | (simp; omega))
  have lx' : w2.heap.size < w4.heap.size + 1 := by omega
  have ly' : w2.heap.size + 1 < w4.heap.size + 1 := by omega
  go_wp2_with fail
  refine (C3.out _).mono ?_
  rintro e w5 ⟨rfl, hb5⟩
  go_wp2
  go_ret
  exact ⟨rfl, (by repeat' (first | with_reducible exact Below.refl _ _ | with_reducible refine below_step ?_ (by assumption) | with_reducible apply below_set' | with_reducible apply below_alloc' | with_reducible apply Below.drew | with_reducible apply below_drewN' | (simp; done) | omega | (simp; omega)))⟩
set_option maxRecDepth 100000 in
set_option maxHeartbeats 2000000 in
theorem back_11 (a b s p : Int)
    (C1 : Hid (∀ w, Calls Tryz.prog 17 #[.string ⟨#[43]⟩, .agg #[.int .i64 1, .int .i64 a, .float .f64 0, .string ⟨#[]⟩], .agg #[.int .i64 1, .int .i64 b, .float .f64 0, .string ⟨#[]⟩]] w fun e w' => e = .returned (.agg #[.int .i64 1, .int .i64 s, .float .f64 0, .string ⟨#[]⟩]) ∧ Below w.heap.size w w'))
    (C2 : Hid (∀ w, Calls Tryz.prog 17 #[.string ⟨#[45]⟩, .agg #[.int .i64 1, .int .i64 s, .float .f64 0, .string ⟨#[]⟩], .agg #[.int .i64 1, .int .i64 b, .float .f64 0, .string ⟨#[]⟩]] w fun e w' => e = .returned (.agg #[.int .i64 1, .int .i64 a, .float .f64 0, .string ⟨#[]⟩]) ∧ Below w.heap.size w w'))
    (C3 : Hid (∀ w, Calls Tryz.prog 17 #[.string ⟨#[42]⟩, .agg #[.int .i64 1, .int .i64 a, .float .f64 0, .string ⟨#[]⟩], .agg #[.int .i64 1, .int .i64 b, .float .f64 0, .string ⟨#[]⟩]] w fun e w' => e = .returned (.agg #[.int .i64 1, .int .i64 p, .float .f64 0, .string ⟨#[]⟩]) ∧ Below w.heap.size w w'))
    (hb0 : ¬ b = 0) (ht : (wrap64 (p.tdiv b) == a) = true) (hm : p.tmod b = 0) (w : World) :
    Calls Tryz.prog 4 #[.int .i64 a, .int .i64 b] w fun e w' => e = .returned (.bool true) ∧ Below w.heap.size w w' := by
  go_enter Tryz.func4, Tryz.ntmps4
  go_wp2_with fail
  refine (lives_any _).mono ?_
  rintro e w0 ⟨rfl, hb0'⟩
  go_wp2_with fail
  refine (ofInt_any _ _).mono ?_
  rintro e w1 ⟨rfl, hb1⟩
  go_wp2_with fail
  refine (ofInt_any _ _).mono ?_
  rintro e w2 ⟨rfl, hb2⟩
  go_wp2_with fail
  refine (C1.out _).mono ?_
  rintro e w3 ⟨rfl, hb3⟩
  obtain ⟨cx, _, zx⟩ := newc hb3 w2.heap.size (by first | assumption | omega | (simp; done) | (simp; omega))
  obtain ⟨cy, _, zy⟩ := newc hb3 (w2.heap.size + 1) (by first | assumption | omega | (simp; done) | (simp; omega))
  have lx : w2.heap.size < w3.heap.size + 1 := by omega
  have ly : w2.heap.size + 1 < w3.heap.size + 1 := by omega
  go_wp2_with fail
  refine (C2.out _).mono ?_
  rintro e w4 ⟨rfl, hb4⟩
  obtain ⟨cx', _, zx'⟩ := newc hb4 w2.heap.size (by first | assumption | omega | (simp; done) | (simp; omega))
  obtain ⟨cy', _, zy'⟩ := newc hb4 (w2.heap.size + 1) (by first | assumption | omega | (simp; done) | (simp; omega))
  have lx' : w2.heap.size < w4.heap.size + 1 := by omega
  have ly' : w2.heap.size + 1 < w4.heap.size + 1 := by omega
  go_wp2_with fail
  refine (C3.out _).mono ?_
  rintro e w5 ⟨rfl, hb5⟩
  go_wp2
  go_ret
  exact ⟨rfl, (by repeat' (first | with_reducible exact Below.refl _ _ | with_reducible refine below_step ?_ (by assumption) | with_reducible apply below_set' | with_reducible apply below_alloc' | with_reducible apply Below.drew | with_reducible apply below_drewN' | (simp; done) | omega | (simp; omega)))⟩
set_option maxRecDepth 100000 in
set_option maxHeartbeats 2000000 in
theorem back_12 (a s p : Int)
    (C1 : Hid (∀ w, Calls Tryz.prog 17 #[.string ⟨#[43]⟩, .agg #[.int .i64 1, .int .i64 a, .float .f64 0, .string ⟨#[]⟩], .agg #[.int .i64 1, .int .i64 0, .float .f64 0, .string ⟨#[]⟩]] w fun e w' => e = .returned (.agg #[.int .i64 1, .int .i64 s, .float .f64 0, .string ⟨#[]⟩]) ∧ Below w.heap.size w w'))
    (C2 : Hid (∀ w, Calls Tryz.prog 17 #[.string ⟨#[45]⟩, .agg #[.int .i64 1, .int .i64 s, .float .f64 0, .string ⟨#[]⟩], .agg #[.int .i64 1, .int .i64 0, .float .f64 0, .string ⟨#[]⟩]] w fun e w' => e = .returned (.agg #[.int .i64 1, .int .i64 a, .float .f64 0, .string ⟨#[]⟩]) ∧ Below w.heap.size w w'))
    (C3 : Hid (∀ w, Calls Tryz.prog 17 #[.string ⟨#[42]⟩, .agg #[.int .i64 1, .int .i64 a, .float .f64 0, .string ⟨#[]⟩], .agg #[.int .i64 1, .int .i64 0, .float .f64 0, .string ⟨#[]⟩]] w fun e w' => e = .returned (.agg #[.int .i64 1, .int .i64 p, .float .f64 0, .string ⟨#[]⟩]) ∧ Below w.heap.size w w')) (w : World) :
    Calls Tryz.prog 4 #[.int .i64 a, .int .i64 0] w fun e w' => e = .returned (.bool true) ∧ Below w.heap.size w w' := by
  go_enter Tryz.func4, Tryz.ntmps4
  go_wp2_with fail
  refine (lives_any _).mono ?_
  rintro e w0 ⟨rfl, hb0'⟩
  go_wp2_with fail
  refine (ofInt_any _ _).mono ?_
  rintro e w1 ⟨rfl, hb1⟩
  go_wp2_with fail
  refine (ofInt_any _ _).mono ?_
  rintro e w2 ⟨rfl, hb2⟩
  go_wp2_with fail
  refine (C1.out _).mono ?_
  rintro e w3 ⟨rfl, hb3⟩
  obtain ⟨cx, _, zx⟩ := newc hb3 w2.heap.size (by first | assumption | omega | (simp; done) | (simp; omega))
  obtain ⟨cy, _, zy⟩ := newc hb3 (w2.heap.size + 1) (by first | assumption | omega | (simp; done) | (simp; omega))
  have lx : w2.heap.size < w3.heap.size + 1 := by omega
  have ly : w2.heap.size + 1 < w3.heap.size + 1 := by omega
  go_wp2_with fail
  refine (C2.out _).mono ?_
  rintro e w4 ⟨rfl, hb4⟩
  obtain ⟨cx', _, zx'⟩ := newc hb4 w2.heap.size (by first | assumption | omega | (simp; done) | (simp; omega))
  obtain ⟨cy', _, zy'⟩ := newc hb4 (w2.heap.size + 1) (by first | assumption | omega | (simp; done) | (simp; omega))
  have lx' : w2.heap.size < w4.heap.size + 1 := by omega
  have ly' : w2.heap.size + 1 < w4.heap.size + 1 := by omega
  go_wp2_with fail
  refine (C3.out _).mono ?_
  rintro e w5 ⟨rfl, hb5⟩
  go_wp2
  go_ret
  exact ⟨rfl, (by repeat' (first | with_reducible exact Below.refl _ _ | with_reducible refine below_step ?_ (by assumption) | with_reducible apply below_set' | with_reducible apply below_alloc' | with_reducible apply Below.drew | with_reducible apply below_drewN' | (simp; done) | omega | (simp; omega)))⟩
theorem back_law (a b : Int) (ha : Fit a) (hb : Fit b) (w : World) :
    Calls Tryz.prog 4 #[.int .i64 a, .int .i64 b] w fun e w' => e = .returned (.bool true) ∧ Below w.heap.size w w' := by
  have M := fun (h : Fit (a + b)) => asub_yes (cleansI (a + b)) (cleansI b) (by rw [Int.add_sub_cancel]; exact ha)
  simp only [Int.add_sub_cancel] at M
  by_cases h : Fit (a + b)
  · by_cases g : Fit (a * b)
    · by_cases z : b = 0
      · subst z
        exact back_12 a _ _ (Lib.hid (aadd_yes (cleansI a) (cleansI 0) h)) (Lib.hid (M h)) (Lib.hid (amul_yes (cleansI a) (cleansI 0) ha g)) w
      · exact back_11 a b _ _ (Lib.hid (aadd_yes (cleansI a) (cleansI b) h)) (Lib.hid (M h)) (Lib.hid (amul_yes (cleansI a) (cleansI b) ha g)) z (by have := mul_back ha z g; rw [wrap_fit g] at this; exact this) (mul_rem a b) w
    · exact back_10 a b _ (Lib.hid (aadd_yes (cleansI a) (cleansI b) h)) (Lib.hid (M h)) (Lib.hid (amul_no (cleansI a) (cleansI b) ha hb g)) w
  · by_cases g : Fit (a * b)
    · by_cases z : b = 0
      · subst z
        exact back_02 a _ (Lib.hid (aadd_no (cleansI a) (cleansI 0) ha hb h)) (Lib.hid (amul_yes (cleansI a) (cleansI 0) ha g)) w
      · exact back_01 a b _ (Lib.hid (aadd_no (cleansI a) (cleansI b) ha hb h)) (Lib.hid (amul_yes (cleansI a) (cleansI b) ha g)) z (by have := mul_back ha z g; rw [wrap_fit g] at this; exact this) (mul_rem a b) w
    · exact back_00 a b (Lib.hid (aadd_no (cleansI a) (cleansI b) ha hb h)) (Lib.hid (amul_no (cleansI a) (cleansI b) ha hb g)) w
end Go.Proofs.YtikpgglbfpdhmaaGreatDoor

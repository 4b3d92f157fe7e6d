/- Exact: where two values are one, field by field, the answer is yes. -/
import Derived.Test.YtikpgglbfpdhmaaGreatDoorValA
namespace Go.Proofs.YtikpgglbfpdhmaaGreatDoor
open Go.RowKit Go.Joins
attribute [local go_sem ↓] Go.wp_at_zero Go.wp_at_succ

set_option maxRecDepth 100000 in
set_option maxHeartbeats 2000000 in
theorem exact_nan (k n : Int) (f g : Nat) (s : ByteArray) (a1 : feq f f = false) (a2 : feq g g = false) (w : World) :
    Calls Tryz.prog 21 #[.agg #[.int .i64 k, .int .i64 n, .float .f64 f, .string s], .agg #[.int .i64 k, .int .i64 n, .float .f64 g, .string s]] w fun e w' => e = .returned (.bool true) ∧ Below w.heap.size w w' := by
  go_enter Tryz.func21, Tryz.ntmps21
  go_wp2_with fail
  go_quiet ((go_at_call 55; exact Calls.quiet_of_same ((number_any _ _).mono fun _ _ h => ⟨h.1, h.2.symm⟩)))
  go_wp2
  go_ret
  exact ⟨rfl, (by repeat' (first | with_reducible exact Below.refl _ _ | with_reducible refine below_step ?_ (by assumption) | with_reducible apply below_set' | with_reducible apply below_alloc' | with_reducible apply Below.drew | with_reducible apply below_drewN' | (simp; done) | omega | (simp; omega)))⟩
set_option maxRecDepth 100000 in
set_option maxHeartbeats 2000000 in
theorem exact_num (k n : Int) (f : Nat) (s : ByteArray) (a1 : feq f f = true) (w : World) :
    Calls Tryz.prog 21 #[.agg #[.int .i64 k, .int .i64 n, .float .f64 f, .string s], .agg #[.int .i64 k, .int .i64 n, .float .f64 f, .string s]] w fun e w' => e = .returned (.bool true) ∧ Below w.heap.size w w' := by
  have a2 : (FloatKind.f64.format.order f f == some Ordering.eq) = true := a1
  go_enter Tryz.func21, Tryz.ntmps21
  go_wp2_with fail
  go_region_held3 (fun w' => w'.cell? ⟨w.heap.size, 0, none⟩ = some (.int .i64 k) ∧ w'.cell? ⟨w.heap.size, 1, none⟩ = some (.int .i64 n) ∧ w'.cell? ⟨w.heap.size, 2, none⟩ = some (.float .f64 f) ∧ w'.cell? ⟨w.heap.size, 3, none⟩ = some (.string s) ∧ w'.cell? ⟨w.heap.size + 1, 0, none⟩ = some (.int .i64 k) ∧ w'.cell? ⟨w.heap.size + 1, 1, none⟩ = some (.int .i64 n) ∧ w'.cell? ⟨w.heap.size + 1, 2, none⟩ = some (.float .f64 f) ∧ w'.cell? ⟨w.heap.size + 1, 3, none⟩ = some (.string s)) (go_keep)
    (first | (go_at_call 55; with_reducible refine (number_any f _).mono ?_; rw [a1]; rintro e w1 ⟨rfl, rfl⟩) | (go_at_call 57; with_reducible refine (signbit_any f _).mono ?_; rintro e w1 ⟨rfl, rfl⟩))
  go_wp2
  go_ret
  exact ⟨rfl, (by repeat' (first | with_reducible exact Below.refl _ _ | with_reducible refine below_step ?_ (by assumption) | with_reducible apply below_set' | with_reducible apply below_alloc' | with_reducible apply Below.drew | with_reducible apply below_drewN' | (simp; done) | omega | (simp; omega)))⟩
end Go.Proofs.YtikpgglbfpdhmaaGreatDoor

/- What a clean value is in the reference. -/
import Derived.Test.YtikpgglbfpdhmaaGreatDoorRdMKit
namespace Go.Proofs.YtikpgglbfpdhmaaGreatDoor
open Go.RowKit Go.Joins

theorem rclean_0 (n : Int) (f : Nat) (s : ByteArray) (w : World) :
    Calls Tryz.prog 20 #[.agg #[.int .i64 0, .int .i64 n, .float .f64 f, .string s]] w fun e w' => e = .returned (.agg #[.int .i64 0, .int .i64 0, .float .f64 0, .string ⟨#[]⟩]) ∧ Below w.heap.size w w' := by
  go_enter Tryz.func20, Tryz.ntmps20
  go_wp2
  exact bodyPost_ret (by simp [results, Tryz.results20, go_sem, *]) rfl ⟨rfl, (by repeat' (first | with_reducible exact Below.refl _ _ | with_reducible refine below_step ?_ (by assumption) | with_reducible apply below_set' | with_reducible apply below_alloc' | with_reducible apply Below.drew | with_reducible apply below_drewN' | (simp; done) | omega | (simp; omega)))⟩
theorem rclean_1 (n : Int) (f : Nat) (s : ByteArray) (w : World) :
    Calls Tryz.prog 20 #[.agg #[.int .i64 1, .int .i64 n, .float .f64 f, .string s]] w fun e w' => e = .returned (.agg #[.int .i64 1, .int .i64 n, .float .f64 0, .string ⟨#[]⟩]) ∧ Below w.heap.size w w' := by
  go_enter Tryz.func20, Tryz.ntmps20
  go_wp2
  exact bodyPost_ret (by simp [results, Tryz.results20, go_sem, *]) rfl ⟨rfl, (by repeat' (first | with_reducible exact Below.refl _ _ | with_reducible refine below_step ?_ (by assumption) | with_reducible apply below_set' | with_reducible apply below_alloc' | with_reducible apply Below.drew | with_reducible apply below_drewN' | (simp; done) | omega | (simp; omega)))⟩
theorem rclean_2 (n : Int) (f : Nat) (s : ByteArray) (w : World) :
    Calls Tryz.prog 20 #[.agg #[.int .i64 2, .int .i64 n, .float .f64 f, .string s]] w fun e w' => e = .returned (.agg #[.int .i64 2, .int .i64 0, .float .f64 (rreal f), .string ⟨#[]⟩]) ∧ Below w.heap.size w w' := by
  unfold rreal
  cases h : feq f 0
  · have h' : (FloatKind.f64.format.order f 0 != some Ordering.eq) = true := by unfold feq at h; simp [bne, h]
    go_enter Tryz.func20, Tryz.ntmps20
    go_wp2
    exact bodyPost_ret (by simp [results, Tryz.results20, go_sem, *]) rfl ⟨rfl, (by repeat' (first | with_reducible exact Below.refl _ _ | with_reducible refine below_step ?_ (by assumption) | with_reducible apply below_set' | with_reducible apply below_alloc' | with_reducible apply Below.drew | with_reducible apply below_drewN' | (simp; done) | omega | (simp; omega)))⟩
  · have h' : (FloatKind.f64.format.order f 0 != some Ordering.eq) = false := by unfold feq at h; simp [bne, h]
    go_enter Tryz.func20, Tryz.ntmps20
    go_wp2
    exact bodyPost_ret (by simp [results, Tryz.results20, go_sem, *]) rfl ⟨rfl, (by repeat' (first | with_reducible exact Below.refl _ _ | with_reducible refine below_step ?_ (by assumption) | with_reducible apply below_set' | with_reducible apply below_alloc' | with_reducible apply Below.drew | with_reducible apply below_drewN' | (simp; done) | omega | (simp; omega)))⟩
theorem rclean_3 (n : Int) (f : Nat) (s : ByteArray) (w : World) :
    Calls Tryz.prog 20 #[.agg #[.int .i64 3, .int .i64 n, .float .f64 f, .string s]] w fun e w' => e = .returned (.agg #[.int .i64 3, .int .i64 0, .float .f64 0, .string s]) ∧ Below w.heap.size w w' := by
  go_enter Tryz.func20, Tryz.ntmps20
  go_wp2
  exact bodyPost_ret (by simp [results, Tryz.results20, go_sem, *]) rfl ⟨rfl, (by repeat' (first | with_reducible exact Below.refl _ _ | with_reducible refine below_step ?_ (by assumption) | with_reducible apply below_set' | with_reducible apply below_alloc' | with_reducible apply Below.drew | with_reducible apply below_drewN' | (simp; done) | omega | (simp; omega)))⟩
theorem rclean_4 (n : Int) (f : Nat) (s : ByteArray) (w : World) :
    Calls Tryz.prog 20 #[.agg #[.int .i64 4, .int .i64 n, .float .f64 f, .string s]] w fun e w' => e = .returned (.agg #[.int .i64 4, .int .i64 (if n = 0 then 0 else 1), .float .f64 0, .string ⟨#[]⟩]) ∧ Below w.heap.size w w' := by
  by_cases h : n = 0
  · subst h
    go_enter Tryz.func20, Tryz.ntmps20
    go_wp2
    exact bodyPost_ret (by simp [results, Tryz.results20, go_sem, *]) rfl ⟨rfl, (by repeat' (first | with_reducible exact Below.refl _ _ | with_reducible refine below_step ?_ (by assumption) | with_reducible apply below_set' | with_reducible apply below_alloc' | with_reducible apply Below.drew | with_reducible apply below_drewN' | (simp; done) | omega | (simp; omega)))⟩
  · go_enter Tryz.func20, Tryz.ntmps20
    go_wp2
    exact bodyPost_ret (by simp [results, Tryz.results20, go_sem, *]) rfl ⟨rfl, (by repeat' (first | with_reducible exact Below.refl _ _ | with_reducible refine below_step ?_ (by assumption) | with_reducible apply below_set' | with_reducible apply below_alloc' | with_reducible apply Below.drew | with_reducible apply below_drewN' | (simp; done) | omega | (simp; omega)))⟩
theorem rclean_5 (k n : Int) (f : Nat) (s : ByteArray) (w : World) (h : k < 0 ∨ 4 < k) :
    Calls Tryz.prog 20 #[.agg #[.int .i64 k, .int .i64 n, .float .f64 f, .string s]] w fun e w' => e = .returned (.agg #[.int .i64 0, .int .i64 0, .float .f64 0, .string ⟨#[]⟩]) ∧ Below w.heap.size w w' := by
  by_cases h0 : k < 0
  · clear h
    go_enter Tryz.func20, Tryz.ntmps20
    go_wp2
    exact bodyPost_ret (by simp [results, Tryz.results20, go_sem, *]) rfl ⟨rfl, (by repeat' (first | with_reducible exact Below.refl _ _ | with_reducible refine below_step ?_ (by assumption) | with_reducible apply below_set' | with_reducible apply below_alloc' | with_reducible apply Below.drew | with_reducible apply below_drewN' | (simp; done) | omega | (simp; omega)))⟩
  · have h4 : 4 < k := by omega
    clear h
    go_enter Tryz.func20, Tryz.ntmps20
    go_wp2
    exact bodyPost_ret (by simp [results, Tryz.results20, go_sem, *]) rfl ⟨rfl, (by repeat' (first | with_reducible exact Below.refl _ _ | with_reducible refine below_step ?_ (by assumption) | with_reducible apply below_set' | with_reducible apply below_alloc' | with_reducible apply Below.drew | with_reducible apply below_drewN' | (simp; done) | omega | (simp; omega)))⟩
theorem rclean_any (k n : Int) (f : Nat) (s : ByteArray) (w : World) :
    Calls Tryz.prog 20 #[.agg #[.int .i64 k, .int .i64 n, .float .f64 f, .string s]] w fun e w' => e = .returned (.agg #[.int .i64 (cK k), .int .i64 (cN k n), .float .f64 (rF k f), .string (cS k s)]) ∧ Below w.heap.size w w' := by
  by_cases h1 : k = 1
  · subst h1; exact rclean_1 n f s w
  by_cases h2 : k = 2
  · subst h2; exact rclean_2 n f s w
  by_cases h3 : k = 3
  · subst h3; exact rclean_3 n f s w
  by_cases h4 : k = 4
  · subst h4; exact rclean_4 n f s w
  · have e0 : cK k = 0 := by unfold cK; split <;> omega
    have e1 : cN k n = 0 := by unfold cN; rw [if_neg h1, if_neg h4]
    have e2 : rF k f = 0 := by unfold rF; rw [if_neg h2]
    have e3 : cS k s = ⟨#[]⟩ := by unfold cS; rw [if_neg h3]
    rw [e0, e1, e2, e3]
    by_cases hk : k = 0
    · subst hk; exact rclean_0 n f s w
    · exact rclean_5 k n f s w (by omega)
end Go.Proofs.YtikpgglbfpdhmaaGreatDoor

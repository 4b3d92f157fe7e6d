/- What two whole numbers come to, in the program: where it fits, and where not. -/
import Derived.Test.YtikpgglbfpdhmaaGreatDoorValK
import Derived.Test.YtikpgglbfpdhmaaGreatDoorVArith
namespace Go.Proofs.YtikpgglbfpdhmaaGreatDoor
open Go.RowKit Go.Joins

section
variable {k n : Int} {f : Nat} {s : ByteArray} {N : Int} {F : Nat} {S : ByteArray} {k' n' : Int} {f' : Nat} {s' : ByteArray} {N' : Int} {F' : Nat} {S' : ByteArray}
theorem aadd_yes (H : Cleans k n f s 1 N F S) (H' : Cleans k' n' f' s' 1 N' F' S') (h : Fit (N + N')) (w : World) :
    Calls Tryz.prog 17 #[.string ⟨#[43]⟩, .agg #[.int .i64 k, .int .i64 n, .float .f64 f, .string s], .agg #[.int .i64 k', .int .i64 n', .float .f64 f', .string s']] w fun e w' => e = .returned (.agg #[.int .i64 1, .int .i64 (N + N'), .float .f64 0, .string ⟨#[]⟩]) ∧ Below w.heap.size w w' :=
  arith_ok _ _ _ _ _ _ _ _ _ _ _ _ _ _ _ H H' _ (Lib.hid fun w => by have := whole_add N N' w; rw [add_yes h, wrap_fit h] at this; exact this) w
theorem aadd_no (H : Cleans k n f s 1 N F S) (H' : Cleans k' n' f' s' 1 N' F' S') (g : Fit N) (g' : Fit N') (h : ¬ Fit (N + N')) (w : World) :
    Calls Tryz.prog 17 #[.string ⟨#[43]⟩, .agg #[.int .i64 k, .int .i64 n, .float .f64 f, .string s], .agg #[.int .i64 k', .int .i64 n', .float .f64 f', .string s']] w fun e w' => e = .returned (.agg #[.int .i64 0, .int .i64 0, .float .f64 0, .string ⟨#[]⟩]) ∧ Below w.heap.size w w' :=
  arith_no _ _ _ _ _ _ _ _ _ _ _ _ _ _ _ H H' _ (Lib.hid fun w => by have := whole_add N N' w; rw [add_no g g' h] at this; exact this) w
theorem asub_yes (H : Cleans k n f s 1 N F S) (H' : Cleans k' n' f' s' 1 N' F' S') (h : Fit (N - N')) (w : World) :
    Calls Tryz.prog 17 #[.string ⟨#[45]⟩, .agg #[.int .i64 k, .int .i64 n, .float .f64 f, .string s], .agg #[.int .i64 k', .int .i64 n', .float .f64 f', .string s']] w fun e w' => e = .returned (.agg #[.int .i64 1, .int .i64 (N - N'), .float .f64 0, .string ⟨#[]⟩]) ∧ Below w.heap.size w w' :=
  arith_ok _ _ _ _ _ _ _ _ _ _ _ _ _ _ _ H H' _ (Lib.hid fun w => by have := whole_sub N N' w; rw [sub_yes h, wrap_fit h] at this; exact this) w
theorem asub_no (H : Cleans k n f s 1 N F S) (H' : Cleans k' n' f' s' 1 N' F' S') (g : Fit N) (g' : Fit N') (h : ¬ Fit (N - N')) (w : World) :
    Calls Tryz.prog 17 #[.string ⟨#[45]⟩, .agg #[.int .i64 k, .int .i64 n, .float .f64 f, .string s], .agg #[.int .i64 k', .int .i64 n', .float .f64 f', .string s']] w fun e w' => e = .returned (.agg #[.int .i64 0, .int .i64 0, .float .f64 0, .string ⟨#[]⟩]) ∧ Below w.heap.size w w' :=
  arith_no _ _ _ _ _ _ _ _ _ _ _ _ _ _ _ H H' _ (Lib.hid fun w => by have := whole_sub N N' w; rw [sub_no g g' h] at this; exact this) w
theorem amul_yes (H : Cleans k n f s 1 N F S) (H' : Cleans k' n' f' s' 1 N' F' S') (g : Fit N) (h : Fit (N * N')) (w : World) :
    Calls Tryz.prog 17 #[.string ⟨#[42]⟩, .agg #[.int .i64 k, .int .i64 n, .float .f64 f, .string s], .agg #[.int .i64 k', .int .i64 n', .float .f64 f', .string s']] w fun e w' => e = .returned (.agg #[.int .i64 1, .int .i64 (N * N'), .float .f64 0, .string ⟨#[]⟩]) ∧ Below w.heap.size w w' := by
  refine arith_ok _ _ _ _ _ _ _ _ _ _ _ _ _ _ _ H H' _ (Lib.hid fun w => ?_) w
  by_cases h0 : N = 0 ∨ N' = 0
  · have := whole_mul0 N N' h0 w
    rwa [show N * N' = 0 from by rcases h0 with e | e <;> simp [e]]
  · have e1 : ¬ N = 0 := fun e => h0 (Or.inl e)
    have e2 : ¬ N' = 0 := fun e => h0 (Or.inr e)
    have := whole_mul_t N N' (by simp [e1]) (by simp [e2]) e2 (mul_back g e2 h)
      (by by_cases c : N = -1
          · right; subst c; unfold Fit at h; have : ¬ N' = -9223372036854775808 := by omega
            simp [this]
          · left; simp [c])
      (by by_cases c : N' = -1
          · right; subst c; unfold Fit at h; have : ¬ N = -9223372036854775808 := by omega
            simp [this]
          · left; simp [c]) w
    rw [wrap_fit h] at this
    exact this
theorem amul_no (H : Cleans k n f s 1 N F S) (H' : Cleans k' n' f' s' 1 N' F' S') (g : Fit N) (g' : Fit N') (h : ¬ Fit (N * N')) (w : World) :
    Calls Tryz.prog 17 #[.string ⟨#[42]⟩, .agg #[.int .i64 k, .int .i64 n, .float .f64 f, .string s], .agg #[.int .i64 k', .int .i64 n', .float .f64 f', .string s']] w fun e w' => e = .returned (.agg #[.int .i64 0, .int .i64 0, .float .f64 0, .string ⟨#[]⟩]) ∧ Below w.heap.size w w' := by
  have e1 : ¬ N = 0 := by intro e; apply h; rw [e]; simp [Fit]
  have e2 : ¬ N' = 0 := by intro e; apply h; rw [e]; simp [Fit]
  cases ht : (wrap64 ((wrap64 (N * N')).tdiv N') == N)
  · exact arith_no _ _ _ _ _ _ _ _ _ _ _ _ _ _ _ H H' _ (Lib.hid (whole_mul_f N N' (by simp [e1]) (by simp [e2]) e2 ht)) w
  · obtain ⟨rfl, rfl⟩ := mul_no g g' e2 h ht
    exact arith_no _ _ _ _ _ _ _ _ _ _ _ _ _ _ _ H H' _ (Lib.hid whole_mul_s) w
end
theorem cleansI (a : Int) : Cleans 1 a 0 ⟨#[]⟩ 1 a 0 ⟨#[]⟩ := cleans 1 a 0 ⟨#[]⟩
end Go.Proofs.YtikpgglbfpdhmaaGreatDoor

/- The order of any two values, in the program and in the reference. -/
import Derived.Test.YtikpgglbfpdhmaaGreatDoorValF
import Derived.Test.YtikpgglbfpdhmaaGreatDoorValG
import Derived.Test.YtikpgglbfpdhmaaGreatDoorVOrd
namespace Go.Proofs.YtikpgglbfpdhmaaGreatDoor
open Go.RowKit Go.Joins

theorem cleans (k n : Int) (f : Nat) (s : ByteArray) : Cleans k n f s (cK k) (cN k n) (cF k f) (cS k s) := fun w => clean_any k n f s w
theorem rcleans (k n : Int) (f : Nat) (s : ByteArray) : RCleans k n f s (cK k) (cN k n) (rF k f) (cS k s) := fun w => rclean_any k n f s w

theorem order_cleans {k n : Int} {f : Nat} {s : ByteArray} {K N : Int} {F : Nat} {S : ByteArray} {k' n' : Int} {f' : Nat} {s' : ByteArray} {K' N' : Int} {F' : Nat} {S' : ByteArray}
    (H : Cleans k n f s K N F S) (H' : Cleans k' n' f' s' K' N' F' S') (w : World) :
    Calls Tryz.prog 15 #[.agg #[.int .i64 k, .int .i64 n, .float .f64 f, .string s], .agg #[.int .i64 k', .int .i64 n', .float .f64 f', .string s']] w fun e w' => e = .returned (.int .i64 (pord K N F S K' N' F' S')) ∧ Below w.heap.size w w' := by
  unfold pord
  by_cases h : K = K'
  · subst h
    rw [if_pos rfl]
    by_cases h2 : K = 2
    · subst h2
      rw [if_pos rfl]
      unfold ford
      cases a : fnan F <;> cases b : fnan F'
      · exact order_real_ff _ _ _ _ _ _ _ _ _ _ _ _ _ _ H H' a b w
      · exact order_real_ft _ _ _ _ _ _ _ _ _ _ _ _ _ _ H H' a b w
      · exact order_real_tf _ _ _ _ _ _ _ _ _ _ _ _ _ _ H H' a b w
      · exact order_real_tt _ _ _ _ _ _ _ _ _ _ _ _ _ _ H H' a b w
    · rw [if_neg h2]
      by_cases h3 : K = 3
      · subst h3
        rw [if_pos rfl]
        exact order_text _ _ _ _ _ _ _ _ _ _ _ _ _ _ H H' w
      · rw [if_neg h3]
        exact order_num _ _ _ _ _ _ _ _ _ _ _ _ _ _ _ H H' h2 h3 w
  · rw [if_neg h]
    exact order_diff _ _ _ _ _ _ _ _ _ _ _ _ _ _ _ _ H H' (by simp [h]) w
theorem rorder_cleans {k n : Int} {f : Nat} {s : ByteArray} {K N : Int} {F : Nat} {S : ByteArray} {k' n' : Int} {f' : Nat} {s' : ByteArray} {K' N' : Int} {F' : Nat} {S' : ByteArray}
    (H : RCleans k n f s K N F S) (H' : RCleans k' n' f' s' K' N' F' S') (w : World) :
    Calls Tryz.prog 28 #[.agg #[.int .i64 k, .int .i64 n, .float .f64 f, .string s], .agg #[.int .i64 k', .int .i64 n', .float .f64 f', .string s']] w fun e w' => e = .returned (.int .i64 (pord K N F S K' N' F' S')) ∧ Below w.heap.size w w' := by
  unfold pord
  by_cases h : K = K'
  · subst h
    rw [if_pos rfl]
    by_cases h2 : K = 2
    · subst h2
      rw [if_pos rfl]
      unfold ford
      cases a : fnan F <;> cases b : fnan F'
      · unfold fcmp
        rw [a, b]
        simp only [Bool.false_eq_true, if_false]
        cases l : flt F F'
        · cases g : fgt F F'
          · exact rorder_real_ttff _ _ _ _ _ _ _ _ _ _ _ _ _ _ H H' (by rw [feq_self, a]; rfl) (by rw [feq_self, b]; rfl) l g w
          · exact rorder_real_ttft _ _ _ _ _ _ _ _ _ _ _ _ _ _ H H' (by rw [feq_self, a]; rfl) (by rw [feq_self, b]; rfl) l g w
        · have g : fgt F F' = false := by unfold flt at l; unfold fgt; simp only [beq_iff_eq] at l; rw [l]; rfl
          exact rorder_real_tttf _ _ _ _ _ _ _ _ _ _ _ _ _ _ H H' (by rw [feq_self, a]; rfl) (by rw [feq_self, b]; rfl) l g w
      · exact rorder_real_tfff _ _ _ _ _ _ _ _ _ _ _ _ _ _ H H' (by rw [feq_self, a]; rfl) (by rw [feq_self, b]; rfl) (flt_nan_right b) (fgt_nan_right b) w
      · exact rorder_real_ftff _ _ _ _ _ _ _ _ _ _ _ _ _ _ H H' (by rw [feq_self, a]; rfl) (by rw [feq_self, b]; rfl) (flt_nan_left a) (fgt_nan_left a) w
      · exact rorder_real_ffff _ _ _ _ _ _ _ _ _ _ _ _ _ _ H H' (by rw [feq_self, a]; rfl) (by rw [feq_self, b]; rfl) (flt_nan_left a) (fgt_nan_left a) w
    · rw [if_neg h2]
      by_cases h3 : K = 3
      · subst h3
        rw [if_pos rfl, compareBytes_less, ← ByteArray.toList_eq, ← ByteArray.toList_eq]
        cases l : Op.bytesLess S.toList S'.toList
        · cases e : (S.toList == S'.toList)
          · exact rorder_text_gt _ _ _ _ _ _ _ _ _ _ _ _ _ _ H H' l e w
          · exact rorder_text_eq _ _ _ _ _ _ _ _ _ _ _ _ _ _ H H' l e w
        · exact rorder_text_lt _ _ _ _ _ _ _ _ _ _ _ _ _ _ H H' l w
      · rw [if_neg h3]
        unfold icmp
        by_cases l : N < N'
        · rw [if_pos l]; exact rorder_num_lt _ _ _ _ _ _ _ _ _ _ _ _ _ _ _ H H' h2 h3 l w
        · rw [if_neg l]
          by_cases g : N' < N
          · rw [if_pos g]; exact rorder_num_gt _ _ _ _ _ _ _ _ _ _ _ _ _ _ _ H H' h2 h3 g w
          · rw [if_neg g]
            obtain rfl : N = N' := by omega
            exact rorder_num_eq _ _ _ _ _ _ _ _ _ _ _ _ _ _ H H' h2 h3 w
  · rw [if_neg h]
    unfold icmp
    by_cases l : K < K'
    · rw [if_pos l]; exact rorder_lt _ _ _ _ _ _ _ _ _ _ _ _ _ _ _ _ H H' l w
    · rw [if_neg l, if_pos (by omega)]
      exact rorder_gt _ _ _ _ _ _ _ _ _ _ _ _ _ _ _ _ H H' (by omega) w

/-- The order of two values: the same in both. -/
theorem order_any (a b : Va) (w : World) :
    Calls Tryz.prog 15 #[a.val, b.val] w fun e w' => e = .returned (.int .i64 (vord a b)) ∧ Below w.heap.size w w' :=
  order_cleans (cleans a.k a.n a.f a.s) (cleans b.k b.n b.f b.s) w
theorem rorder_any (a b : Va) (w : World) :
    Calls Tryz.prog 28 #[a.val, b.val] w fun e w' => e = .returned (.int .i64 (vord a b)) ∧ Below w.heap.size w w' := by
  have h := rorder_cleans (rcleans a.k a.n a.f a.s) (rcleans b.k b.n b.f b.s) w
  rw [← pord_one _ _ _ _ _ _ _ _ _ _ (cF_rF a.k a.f) (cF_rF b.k b.f)] at h
  exact h
end Go.Proofs.YtikpgglbfpdhmaaGreatDoor

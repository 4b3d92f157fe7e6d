/- Compare: the program and the reference give one value. -/
import Derived.Test.YtikpgglbfpdhmaaGreatDoorRdMVOrd
import Derived.Test.YtikpgglbfpdhmaaGreatDoorRdMValL
import Derived.Test.YtikpgglbfpdhmaaGreatDoorRdMValM
import Derived.Test.YtikpgglbfpdhmaaGreatDoorRdMValN
import Derived.Test.YtikpgglbfpdhmaaGreatDoorRdMValO
import Derived.Test.YtikpgglbfpdhmaaGreatDoorRdMRdM
namespace Go.Proofs.YtikpgglbfpdhmaaGreatDoor
open Go.RowKit Go.Joins

/-- Two calls that each give the value of kind K and number N, and nothing else in it. -/
def BothGive (P : Program) (f g : FuncId) (args : Array Value) (K N : Int) : Prop :=
  (∀ w, Calls P f args w fun e w' => e = .returned (.agg #[.int .i64 K, .int .i64 N, .float .f64 0, .string ⟨#[]⟩]) ∧ Below w.heap.size w w') ∧
  (∀ w, Calls P g args w fun e w' => e = .returned (.agg #[.int .i64 K, .int .i64 N, .float .f64 0, .string ⟨#[]⟩]) ∧ Below w.heap.size w w')

theorem cleans_again (k n : Int) (f : Nat) (s : ByteArray) : Cleans (cK k) (cN k n) (cF k f) (cS k s) (cK k) (cN k n) (cF k f) (cS k s) := by
  have h := cleans (cK k) (cN k n) (cF k f) (cS k s)
  rw [cK_cK, cN_cN, cF_cF, cS_cS] at h
  exact h
theorem rcleans_again (k n : Int) (f : Nat) (s : ByteArray) : RCleans (cK k) (cN k n) (rF k f) (cS k s) (cK k) (cN k n) (rF k f) (cS k s) := by
  have h := rcleans (cK k) (cN k n) (rF k f) (cS k s)
  rw [cK_cK, cN_cN, rF_rF, cS_cS] at h
  exact h
theorem ba_eq {a b : ByteArray} (h : (a.toList == b.toList) = true) : a = b := by
  have h' : a.toList = b.toList := by simpa using h
  rw [ByteArray.toList_eq, ByteArray.toList_eq] at h'
  cases a; cases b
  simp only at h'
  congr
  exact Array.toList_inj.1 h'

theorem compare_both (op : ByteArray) (a b : Va) : ∃ K N, BothGive Tryz.prog 26 27 #[.string op, a.val, b.val] K N := by
  have H := cleans a.k a.n a.f a.s
  have H' := cleans b.k b.n b.f b.s
  have R := rcleans a.k a.n a.f a.s
  have R' := rcleans b.k b.n b.f b.s
  have A := cleans_again a.k a.n a.f a.s
  have A' := cleans_again b.k b.n b.f b.s
  have B := rcleans_again a.k a.n a.f a.s
  have B' := rcleans_again b.k b.n b.f b.s
  by_cases hk : cK a.k = cK b.k
  · by_cases h0 : cK a.k = 0
    · rw [h0] at H R
      rw [← hk, h0] at R'
      exact ⟨0, 0, fun w => compare_null1 _ _ _ _ _ _ _ _ _ _ _ _ _ _ _ _ H H' w, fun w => rcompare_null1 _ _ _ _ _ _ _ _ _ _ _ _ _ _ _ R R' w⟩
    · have HO := Lib.hid (order_cleans A A')
      have RO := rorder_cleans B B'
      rw [← pord_one _ _ _ _ _ _ _ _ _ _ (cF_rF a.k a.f) (cF_rF b.k b.f)] at RO
      have hs := pord_sign (cK a.k) (cN a.k a.n) (cF a.k a.f) (cS a.k a.s) (cK b.k) (cN b.k b.n) (cF b.k b.f) (cS b.k b.s)
      generalize pord (cK a.k) (cN a.k a.n) (cF a.k a.f) (cS a.k a.s) (cK b.k) (cN b.k b.n) (cF b.k b.f) (cS b.k b.s) = r at *
      rw [← hk] at H' R' HO RO
      have hc : (cK a.k == 0) = false := by simp [h0]
      generalize cK a.k = c at *
      by_cases e1 : (op.toList == [61]) = true
      · obtain rfl : op = ⟨#[61]⟩ := ba_eq (by rw [ByteArray.toList_eq ⟨#[61]⟩]; exact e1)
        rcases hs with rfl | rfl | rfl
        · exact ⟨4, 0, fun w => compare_eq _ _ _ _ _ _ _ _ _ _ _ _ _ _ _ H H' hc _ HO w, fun w => rcompare_eq_m _ _ _ _ _ _ _ _ _ _ _ _ _ _ _ R R' hc (Lib.hid RO) w⟩
        · exact ⟨4, 1, fun w => compare_eq _ _ _ _ _ _ _ _ _ _ _ _ _ _ _ H H' hc _ HO w, fun w => rcompare_eq_z _ _ _ _ _ _ _ _ _ _ _ _ _ _ _ R R' hc (Lib.hid RO) w⟩
        · exact ⟨4, 0, fun w => compare_eq _ _ _ _ _ _ _ _ _ _ _ _ _ _ _ H H' hc _ HO w, fun w => rcompare_eq_p _ _ _ _ _ _ _ _ _ _ _ _ _ _ _ R R' hc (Lib.hid RO) w⟩
      by_cases e2 : (op.toList == [60, 62]) = true
      · obtain rfl : op = ⟨#[60, 62]⟩ := ba_eq (by rw [ByteArray.toList_eq ⟨#[60, 62]⟩]; exact e2)
        rcases hs with rfl | rfl | rfl
        · exact ⟨4, 1, fun w => compare_ne _ _ _ _ _ _ _ _ _ _ _ _ _ _ _ H H' hc _ HO w, fun w => rcompare_ne_m _ _ _ _ _ _ _ _ _ _ _ _ _ _ _ R R' hc (Lib.hid RO) w⟩
        · exact ⟨4, 0, fun w => compare_ne _ _ _ _ _ _ _ _ _ _ _ _ _ _ _ H H' hc _ HO w, fun w => rcompare_ne_z _ _ _ _ _ _ _ _ _ _ _ _ _ _ _ R R' hc (Lib.hid RO) w⟩
        · exact ⟨4, 1, fun w => compare_ne _ _ _ _ _ _ _ _ _ _ _ _ _ _ _ H H' hc _ HO w, fun w => rcompare_ne_p _ _ _ _ _ _ _ _ _ _ _ _ _ _ _ R R' hc (Lib.hid RO) w⟩
      by_cases e3 : (op.toList == [60]) = true
      · obtain rfl : op = ⟨#[60]⟩ := ba_eq (by rw [ByteArray.toList_eq ⟨#[60]⟩]; exact e3)
        rcases hs with rfl | rfl | rfl
        · exact ⟨4, 1, fun w => compare_lt _ _ _ _ _ _ _ _ _ _ _ _ _ _ _ H H' hc _ HO w, fun w => rcompare_lt_m _ _ _ _ _ _ _ _ _ _ _ _ _ _ _ R R' hc (Lib.hid RO) w⟩
        · exact ⟨4, 0, fun w => compare_lt _ _ _ _ _ _ _ _ _ _ _ _ _ _ _ H H' hc _ HO w, fun w => rcompare_lt_z _ _ _ _ _ _ _ _ _ _ _ _ _ _ _ R R' hc (Lib.hid RO) w⟩
        · exact ⟨4, 0, fun w => compare_lt _ _ _ _ _ _ _ _ _ _ _ _ _ _ _ H H' hc _ HO w, fun w => rcompare_lt_p _ _ _ _ _ _ _ _ _ _ _ _ _ _ _ R R' hc (Lib.hid RO) w⟩
      by_cases e4 : (op.toList == [60, 61]) = true
      · obtain rfl : op = ⟨#[60, 61]⟩ := ba_eq (by rw [ByteArray.toList_eq ⟨#[60, 61]⟩]; exact e4)
        rcases hs with rfl | rfl | rfl
        · exact ⟨4, 1, fun w => compare_le _ _ _ _ _ _ _ _ _ _ _ _ _ _ _ H H' hc _ HO w, fun w => rcompare_le_m _ _ _ _ _ _ _ _ _ _ _ _ _ _ _ R R' hc (Lib.hid RO) w⟩
        · exact ⟨4, 1, fun w => compare_le _ _ _ _ _ _ _ _ _ _ _ _ _ _ _ H H' hc _ HO w, fun w => rcompare_le_z _ _ _ _ _ _ _ _ _ _ _ _ _ _ _ R R' hc (Lib.hid RO) w⟩
        · exact ⟨4, 0, fun w => compare_le _ _ _ _ _ _ _ _ _ _ _ _ _ _ _ H H' hc _ HO w, fun w => rcompare_le_p _ _ _ _ _ _ _ _ _ _ _ _ _ _ _ R R' hc (Lib.hid RO) w⟩
      by_cases e5 : (op.toList == [62]) = true
      · obtain rfl : op = ⟨#[62]⟩ := ba_eq (by rw [ByteArray.toList_eq ⟨#[62]⟩]; exact e5)
        rcases hs with rfl | rfl | rfl
        · exact ⟨4, 0, fun w => compare_gt _ _ _ _ _ _ _ _ _ _ _ _ _ _ _ H H' hc _ HO w, fun w => rcompare_gt_m _ _ _ _ _ _ _ _ _ _ _ _ _ _ _ R R' hc (Lib.hid RO) w⟩
        · exact ⟨4, 0, fun w => compare_gt _ _ _ _ _ _ _ _ _ _ _ _ _ _ _ H H' hc _ HO w, fun w => rcompare_gt_z _ _ _ _ _ _ _ _ _ _ _ _ _ _ _ R R' hc (Lib.hid RO) w⟩
        · exact ⟨4, 1, fun w => compare_gt _ _ _ _ _ _ _ _ _ _ _ _ _ _ _ H H' hc _ HO w, fun w => rcompare_gt_p _ _ _ _ _ _ _ _ _ _ _ _ _ _ _ R R' hc (Lib.hid RO) w⟩
      by_cases e6 : (op.toList == [62, 61]) = true
      · obtain rfl : op = ⟨#[62, 61]⟩ := ba_eq (by rw [ByteArray.toList_eq ⟨#[62, 61]⟩]; exact e6)
        rcases hs with rfl | rfl | rfl
        · exact ⟨4, 0, fun w => compare_ge _ _ _ _ _ _ _ _ _ _ _ _ _ _ _ H H' hc _ HO w, fun w => rcompare_ge_m _ _ _ _ _ _ _ _ _ _ _ _ _ _ _ R R' hc (Lib.hid RO) w⟩
        · exact ⟨4, 1, fun w => compare_ge _ _ _ _ _ _ _ _ _ _ _ _ _ _ _ H H' hc _ HO w, fun w => rcompare_ge_z _ _ _ _ _ _ _ _ _ _ _ _ _ _ _ R R' hc (Lib.hid RO) w⟩
        · exact ⟨4, 1, fun w => compare_ge _ _ _ _ _ _ _ _ _ _ _ _ _ _ _ H H' hc _ HO w, fun w => rcompare_ge_p _ _ _ _ _ _ _ _ _ _ _ _ _ _ _ R R' hc (Lib.hid RO) w⟩
      · exact ⟨0, 0, fun w => compare_other _ _ _ _ _ _ _ _ _ _ _ _ _ _ _ _ H H' hc _ HO (by simpa using e1) (by simpa using e2) (by simpa using e3) (by simpa using e4) (by simpa using e5) (by simpa using e6) w, fun w => rcompare_other _ _ _ _ _ _ _ _ _ _ _ _ _ _ _ _ R R' hc (by simpa using e1) (by simpa using e2) (by simpa using e3) (by simpa using e4) (by simpa using e5) (by simpa using e6) w⟩
  · have hk' : (cK a.k != cK b.k) = true := by simp [hk]
    refine ⟨0, 0, fun w => ?_, fun w => rcompare_null2 _ _ _ _ _ _ _ _ _ _ _ _ _ _ _ _ _ R R' hk' w⟩
    by_cases h0 : cK a.k = 0
    · rw [h0] at H
      exact compare_null1 _ _ _ _ _ _ _ _ _ _ _ _ _ _ _ _ H H' w
    · exact compare_null2 _ _ _ _ _ _ _ _ _ _ _ _ _ _ _ _ _ H H' (by simp [h0]) hk' w
/-- One text ahead of another. -/
theorem compare_texts (s s' : ByteArray) (h : Lib.compareBytes s.data.toList s'.data.toList = -1) (w : World) :
    Calls Tryz.prog 26 #[.string ⟨#[60]⟩, .agg #[.int .i64 3, .int .i64 0, .float .f64 0, .string s], .agg #[.int .i64 3, .int .i64 0, .float .f64 0, .string s']] w fun e w' => e = .returned (.agg #[.int .i64 4, .int .i64 1, .float .f64 0, .string ⟨#[]⟩]) ∧ Below w.heap.size w w' := by
  have H : Cleans 3 0 0 s 3 0 0 s := cleans 3 0 0 s
  have H' : Cleans 3 0 0 s' 3 0 0 s' := cleans 3 0 0 s'
  have HO := order_cleans H H'
  have e : pord 3 0 0 s 3 0 0 s' = -1 := h
  rw [e] at HO
  exact compare_lt _ _ _ _ _ _ _ _ _ _ _ _ _ _ _ H H' rfl _ (Lib.hid HO) w
end Go.Proofs.YtikpgglbfpdhmaaGreatDoor

namespace Go.Proofs.YtikpgglbfpdhmaaGreatDoor
open Go.RowKit Go.Joins
attribute [local go_sem ↓] Go.wp_at_zero Go.wp_at_succ

theorem whole_add (a b : Int) (w : World) :
    Calls Tryz.prog 51 #[.string ⟨#[43]⟩, .int .i64 a, .int .i64 b] w fun e w' => e = .returned (.tuple #[.int .i64 (wrap64 (a + b)), .bool (decide (a < wrap64 (a + b)) == decide (0 < b))]) ∧ w = w' := by
  go_enter Tryz.func51, Tryz.ntmps51
  go_wp2
  go_ret2
  exact ⟨rfl, rfl⟩
theorem whole_sub (a b : Int) (w : World) :
    Calls Tryz.prog 51 #[.string ⟨#[45]⟩, .int .i64 a, .int .i64 b] w fun e w' => e = .returned (.tuple #[.int .i64 (wrap64 (a - b)), .bool (decide (wrap64 (a - b) < a) == decide (0 < b))]) ∧ w = w' := by
  go_enter Tryz.func51, Tryz.ntmps51
  go_wp2
  go_ret2
  exact ⟨rfl, rfl⟩
theorem whole_mul0 (a b : Int) (h : a = 0 ∨ b = 0) (w : World) :
    Calls Tryz.prog 51 #[.string ⟨#[42]⟩, .int .i64 a, .int .i64 b] w fun e w' => e = .returned (.tuple #[.int .i64 0, .bool true]) ∧ w = w' := by
  by_cases h0 : a = 0
  · subst h0
    clear h
    go_enter Tryz.func51, Tryz.ntmps51
    go_wp2
    go_ret2
    exact ⟨rfl, rfl⟩
  · have h1 : b = 0 := by omega
    subst h1
    clear h
    go_enter Tryz.func51, Tryz.ntmps51
    go_wp2
    go_ret2
    exact ⟨rfl, rfl⟩
theorem whole_other (op : ByteArray) (a b : Int) (h1 : (op.toList == [43]) = false) (h2 : (op.toList == [45]) = false) (h3 : (op.toList == [42]) = false) (w : World) :
    Calls Tryz.prog 51 #[.string op, .int .i64 a, .int .i64 b] w fun e w' => e = .returned (.tuple #[.int .i64 0, .bool false]) ∧ w = w' := by
  go_enter Tryz.func51, Tryz.ntmps51
  go_wp2
  go_ret2
  exact ⟨rfl, rfl⟩
set_option maxRecDepth 100000 in
set_option maxHeartbeats 1000000 in
theorem whole_mul_t (a b : Int) (h0 : (a == 0) = false) (h1 : (b == 0) = false) (hb : ¬ b = 0) (ht : (wrap64 ((wrap64 (a * b)).tdiv b) == a) = true)
    (h2 : (a == -1) = false ∨ (b == -9223372036854775808) = false) (h3 : (b == -1) = false ∨ (a == -9223372036854775808) = false) (w : World) :
    Calls Tryz.prog 51 #[.string ⟨#[42]⟩, .int .i64 a, .int .i64 b] w fun e w' => e = .returned (.tuple #[.int .i64 (wrap64 (a * b)), .bool true]) ∧ w = w' := by
  rcases h2 with h2 | h2 <;> rcases h3 with h3 | h3
  all_goals
    go_enter Tryz.func51, Tryz.ntmps51
    go_wp2
    all_goals go_ret2
    all_goals first | exact ⟨rfl, rfl⟩ | simp [*]
set_option maxRecDepth 100000 in
set_option maxHeartbeats 1000000 in
theorem whole_mul_f (a b : Int) (h0 : (a == 0) = false) (h1 : (b == 0) = false) (hb : ¬ b = 0) (ht : (wrap64 ((wrap64 (a * b)).tdiv b) == a) = false) (w : World) :
    Calls Tryz.prog 51 #[.string ⟨#[42]⟩, .int .i64 a, .int .i64 b] w fun e w' => e = .returned (.tuple #[.int .i64 (wrap64 (a * b)), .bool false]) ∧ w = w' := by
  go_enter Tryz.func51, Tryz.ntmps51
  go_wp2
  all_goals go_ret2
  all_goals first | exact ⟨rfl, rfl⟩ | simp [*]
set_option maxRecDepth 100000 in
set_option maxHeartbeats 1000000 in
theorem whole_mul_s (w : World) :
    Calls Tryz.prog 51 #[.string ⟨#[42]⟩, .int .i64 (-9223372036854775808), .int .i64 (-1)] w fun e w' => e = .returned (.tuple #[.int .i64 (-9223372036854775808), .bool false]) ∧ w = w' := by
  have hw : wrap64 9223372036854775808 = -9223372036854775808 := by unfold wrap64; omega
  go_enter Tryz.func51, Tryz.ntmps51
  go_wp2
  all_goals go_ret2
  all_goals first | exact ⟨rfl, rfl⟩ | simp [*]
end Go.Proofs.YtikpgglbfpdhmaaGreatDoor

/- Plain laws on whole numbers of 64 bits: what a sum, a difference and a product come to. No program in sight. -/
import Derived.WalkKit
namespace Go.Proofs.YtikpgglbfpdhmaaGreatDoor
open Go.RowKit

/-- Does a number fit into 64 bits? -/
def Fit (x : Int) : Prop := -9223372036854775808 ≤ x ∧ x ≤ 9223372036854775807
instance (x : Int) : Decidable (Fit x) := by unfold Fit; exact inferInstance
theorem wrap_fit {x : Int} (h : Fit x) : wrap64 x = x := by unfold Fit at h; unfold wrap64; omega
theorem add_yes {a b : Int} (h : Fit (a + b)) : (decide (a < wrap64 (a + b)) == decide (0 < b)) = true := by
  rw [wrap_fit h]; simp; omega
theorem add_no {a b : Int} (ha : Fit a) (hb : Fit b) (h : ¬ Fit (a + b)) : (decide (a < wrap64 (a + b)) == decide (0 < b)) = false := by
  unfold Fit at *
  have e : (a < wrap64 (a + b)) ↔ ¬ 0 < b := by unfold wrap64; omega
  by_cases g : 0 < b <;> simp [e, g]
theorem sub_yes {a b : Int} (h : Fit (a - b)) : (decide (wrap64 (a - b) < a) == decide (0 < b)) = true := by
  rw [wrap_fit h]; simp; omega
theorem sub_no {a b : Int} (ha : Fit a) (hb : Fit b) (h : ¬ Fit (a - b)) : (decide (wrap64 (a - b) < a) == decide (0 < b)) = false := by
  unfold Fit at *
  have e : (wrap64 (a - b) < a) ↔ ¬ 0 < b := by unfold wrap64; omega
  by_cases g : 0 < b <;> simp [e, g]
theorem mul_back {a b : Int} (ha : Fit a) (hb : b ≠ 0) (h : Fit (a * b)) : (wrap64 ((wrap64 (a * b)).tdiv b) == a) = true := by
  rw [wrap_fit h, Int.mul_tdiv_cancel a hb, wrap_fit ha]; simp
theorem mul_rem (a b : Int) : (a * b).tmod b = 0 := Int.mul_tmod_left a b
theorem wrap_is (x : Int) : ∃ k : Int, wrap64 x = x - 18446744073709551616 * k ∧ Fit (wrap64 x) := by
  refine ⟨(x + 9223372036854775808) / 18446744073709551616, ?_, ?_⟩
  · unfold wrap64; omega
  · unfold Fit wrap64; constructor <;> omega
/-- A product that doesn't fit is told by dividing it, but for one. -/
theorem mul_no {a b : Int} (ha : Fit a) (hb : Fit b) (hb0 : b ≠ 0) (h : ¬ Fit (a * b)) (ht : (wrap64 ((wrap64 (a * b)).tdiv b) == a) = true) : a = -9223372036854775808 ∧ b = -1 := by
  have ht' : wrap64 ((wrap64 (a * b)).tdiv b) = a := by simpa using ht
  obtain ⟨k, hk, hf⟩ := wrap_is (a * b)
  have hk0 : k ≠ 0 := by intro e; rw [e] at hk; apply h; rw [show a * b = wrap64 (a * b) by omega]; exact hf
  generalize wrap64 (a * b) = n at *
  have hdiv := Int.mul_tdiv_add_tmod n b
  have habs : (n.tdiv b).natAbs = n.natAbs / b.natAbs := Int.natAbs_tdiv n b
  have hrem : (n.tmod b).natAbs < b.natAbs := by
    rw [Int.natAbs_tmod]; exact Nat.mod_lt _ (by omega)
  have hle : (n.tdiv b).natAbs ≤ n.natAbs := by rw [habs]; exact Nat.div_le_self _ _
  unfold Fit at *
  generalize hq : n.tdiv b = q at *
  generalize n.tmod b = r at *
  by_cases hfq : -9223372036854775808 ≤ q ∧ q ≤ 9223372036854775807
  · exfalso
    have e : q = a := by rw [wrap_fit hfq] at ht'; exact ht'
    subst e
    rw [Int.mul_comm b q] at hdiv
    generalize q * b = p at *
    omega
  · have e : q = 9223372036854775808 := by omega
    have hn : n = -9223372036854775808 := by omega
    have ea : a = -9223372036854775808 := by rw [← ht', e]; unfold wrap64; omega
    refine ⟨ea, ?_⟩
    subst e
    subst hn
    omega
end Go.Proofs.YtikpgglbfpdhmaaGreatDoor

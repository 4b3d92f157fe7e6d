/- More plain laws on clean values. No program in sight. -/
import Derived.Test.YtikpgglbfpdhmaaGreatDoorVOrd
namespace Go.Proofs.YtikpgglbfpdhmaaGreatDoor
theorem cK_cK (k : Int) : cK (cK k) = cK k := by
  unfold cK
  by_cases h : 0 ≤ k ∧ k ≤ 4
  · rw [if_pos h, if_pos h]
  · rw [if_neg h]; rfl
theorem cK_is {k c : Int} (h : 0 ≤ k ∧ k ≤ 4) (e : cK k = c) : k = c := by unfold cK at e; rw [if_pos h] at e; exact e
theorem cK_eq {k c : Int} (hc : c ≠ 0) : cK k = c ↔ k = c ∧ 0 ≤ c ∧ c ≤ 4 := by
  unfold cK
  by_cases h : 0 ≤ k ∧ k ≤ 4
  · rw [if_pos h]; omega
  · rw [if_neg h]; omega
theorem cN_cN (k n : Int) : cN (cK k) (cN k n) = cN k n := by
  unfold cN
  by_cases h1 : k = 1
  · subst h1; simp [cK]
  · by_cases h4 : k = 4
    · subst h4; by_cases h : n = 0 <;> simp [cK, h]
    · have e1 : ¬ cK k = 1 := by rw [cK_eq (by decide)]; omega
      have e4 : ¬ cK k = 4 := by rw [cK_eq (by decide)]; omega
      simp [h1, h4, e1, e4]
theorem freal_freal (f : Nat) : freal (freal f) = freal f := by
  unfold freal
  cases h : fnan f
  · cases g : feq f 0
    · simp [h, g]
    · have z : feq 0 0 = true := by rw [feq_self, fnan_zero]; rfl
      simp [fnan_zero, z]
  · simp [fnan_nanBits]
theorem rreal_rreal (f : Nat) : rreal (rreal f) = rreal f := by
  unfold rreal
  cases g : feq f 0
  · simp [g]
  · have z : feq 0 0 = true := by rw [feq_self, fnan_zero]; rfl
    simp [z]
theorem cF_cF (k : Int) (f : Nat) : cF (cK k) (cF k f) = cF k f := by
  unfold cF
  by_cases h : k = 2
  · subst h; simp [cK, freal_freal]
  · have e : ¬ cK k = 2 := by rw [cK_eq (by decide)]; omega
    simp [h, e]
theorem rF_rF (k : Int) (f : Nat) : rF (cK k) (rF k f) = rF k f := by
  unfold rF
  by_cases h : k = 2
  · subst h; simp [cK, rreal_rreal]
  · have e : ¬ cK k = 2 := by rw [cK_eq (by decide)]; omega
    simp [h, e]
theorem cS_cS (k : Int) (s : ByteArray) : cS (cK k) (cS k s) = cS k s := by
  unfold cS
  by_cases h : k = 3
  · subst h; simp [cK]
  · have e : ¬ cK k = 3 := by rw [cK_eq (by decide)]; omega
    simp [h, e]
def Sign (t : Int) : Prop := t = -1 ∨ t = 0 ∨ t = 1
theorem icmp_sign (a b : Int) : Sign (icmp a b) := by unfold icmp Sign; by_cases h : a < b <;> by_cases g : b < a <;> simp [h, g]
theorem compareBytes_sign (a b : List UInt8) : Sign (Lib.compareBytes a b) := by
  rw [compareBytes_less]; unfold Sign
  cases Op.bytesLess a b <;> cases (a == b) <;> simp
theorem fcmp_sign (x y : Nat) : Sign (fcmp x y) := by
  unfold fcmp Sign
  cases fnan x <;> cases fnan y <;> cases flt x y <;> cases fgt x y <;> simp
theorem ford_sign (x y : Nat) : Sign (ford x y) := by
  have := fcmp_sign x y
  unfold ford
  cases fnan x <;> cases fnan y <;> simp [Sign] at * <;> exact this
theorem pord_sign (K N : Int) (F : Nat) (S : ByteArray) (K' N' : Int) (F' : Nat) (S' : ByteArray) : Sign (pord K N F S K' N' F' S') := by
  unfold pord
  split
  · split
    · exact ford_sign _ _
    · split
      · exact compareBytes_sign _ _
      · exact icmp_sign _ _
  · exact icmp_sign _ _
end Go.Proofs.YtikpgglbfpdhmaaGreatDoor

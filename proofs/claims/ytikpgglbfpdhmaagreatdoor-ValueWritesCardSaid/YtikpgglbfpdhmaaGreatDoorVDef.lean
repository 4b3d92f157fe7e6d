/- Plain functions on values of the engine: what is clean, how two are ordered. No program in sight. -/
import Derived.Laws.FloatArith
import Derived.Lib.Bytealg
namespace Go.Proofs.YtikpgglbfpdhmaaGreatDoor
/-- Is it no number? -/
def fnan (x : Nat) : Bool := FloatKind.f64.format.order x x != some .eq
def feq (x y : Nat) : Bool := FloatKind.f64.format.order x y == some .eq
def flt (x y : Nat) : Bool := FloatKind.f64.format.order x y == some .lt
def fgt (x y : Nat) : Bool := FloatKind.f64.format.order x y == some .gt
/-- A real as the program keeps it. -/
def freal (x : Nat) : Nat := if fnan x = true then 9221120237041090561 else if feq x 0 = true then 0 else x
/-- A real as the reference keeps it. -/
def rreal (x : Nat) : Nat := if feq x 0 = true then 0 else x
def cK (k : Int) : Int := if 0 ≤ k ∧ k ≤ 4 then k else 0
def cN (k n : Int) : Int := if k = 1 then n else if k = 4 then (if n = 0 then 0 else 1) else 0
def cF (k : Int) (f : Nat) : Nat := if k = 2 then freal f else 0
def rF (k : Int) (f : Nat) : Nat := if k = 2 then rreal f else 0
def cS (k : Int) (s : ByteArray) : ByteArray := if k = 3 then s else ⟨#[]⟩
def icmp (a b : Int) : Int := if a < b then -1 else if b < a then 1 else 0
def fcmp (x y : Nat) : Int := if fnan x = true then (if fnan y = true then 0 else -1) else if fnan y = true then 1 else if flt x y = true then -1 else if fgt x y = true then 1 else 0
/-- Which of two reals comes first, where one may be none. -/
def ford (x y : Nat) : Int := if fnan x = true then (if fnan y = true then 0 else 1) else if fnan y = true then -1 else fcmp x y
def b2i (b : Bool) : Int := if b = true then 1 else 0
@[simp] theorem b2i_true : b2i true = 1 := rfl
@[simp] theorem b2i_false : b2i false = 0 := rfl
/-- A value as a truth, in the reference's numbers: 0 no, 1 unknown, 2 yes. -/
def rtruth (k n : Int) : Int := if k = 4 then (if n = 0 then 0 else 2) else 1
/-- A value as a truth, in the program's numbers: 1 yes, 0 no, -1 unknown. -/
def ptruth (k n : Int) : Int := if k = 4 then (if n = 0 then 0 else 1) else -1
/-- The value of a truth: its kind, its number. -/
def tk (t : Int) : Int := if t < 0 then 0 else 4
def tn (t : Int) : Int := if t < 0 then 0 else b2i (t == 1)
def and3 (t u : Int) : Int := if t = 0 ∨ u = 0 then 0 else if t < 0 ∨ u < 0 then -1 else 1
def not3 (t : Int) : Int := if t < 0 then -1 else 1 - t
def or3 (t u : Int) : Int := not3 (and3 (not3 t) (not3 u))
/-- The two numberings of truths. -/
def p2r (t : Int) : Int := if t < 0 then 1 else 2 * t
def r2p (u : Int) : Int := if u = 1 then -1 else if u = 2 then 1 else 0
@[simp] theorem not3_m : not3 (-1) = -1 := rfl
@[simp] theorem not3_0 : not3 0 = 1 := rfl
@[simp] theorem not3_1 : not3 1 = 0 := rfl
@[simp] theorem p2r_m : p2r (-1) = 1 := rfl
@[simp] theorem p2r_0 : p2r 0 = 0 := rfl
@[simp] theorem p2r_1 : p2r 1 = 2 := rfl
@[simp] theorem r2p_1 : r2p 1 = -1 := rfl
@[simp] theorem r2p_0 : r2p 0 = 0 := rfl
@[simp] theorem r2p_2 : r2p 2 = 1 := rfl
@[simp] theorem and3_mm : and3 (-1) (-1) = -1 := rfl
@[simp] theorem and3_m0 : and3 (-1) 0 = 0 := rfl
@[simp] theorem and3_m1 : and3 (-1) 1 = -1 := rfl
@[simp] theorem and3_0m : and3 0 (-1) = 0 := rfl
@[simp] theorem and3_00 : and3 0 0 = 0 := rfl
@[simp] theorem and3_01 : and3 0 1 = 0 := rfl
@[simp] theorem and3_1m : and3 1 (-1) = -1 := rfl
@[simp] theorem and3_10 : and3 1 0 = 0 := rfl
@[simp] theorem and3_11 : and3 1 1 = 1 := rfl
def Three (t : Int) : Prop := t = -1 ∨ t = 0 ∨ t = 1
instance (t : Int) : Decidable (Three t) := by unfold Three; exact inferInstance
theorem ptruth_three (k n : Int) : Three (ptruth k n) := by
  unfold ptruth Three
  by_cases h : k = 4
  · by_cases g : n = 0 <;> simp [h, g]
  · simp [h]
theorem rtruth_eq (k n : Int) : rtruth k n = p2r (ptruth k n) := by
  unfold rtruth ptruth p2r
  by_cases h : k = 4
  · by_cases g : n = 0 <;> simp [h, g]
  · simp [h]
theorem p2r_range {t : Int} (h : Three t) : 0 ≤ p2r t ∧ p2r t ≤ 2 := by
  rcases h with rfl | rfl | rfl <;> decide
theorem ptruth_tv {t : Int} (h : Three t) : ptruth (tk t) (tn t) = t := by
  rcases h with rfl | rfl | rfl <;> decide
theorem not3_three {t : Int} (h : Three t) : Three (not3 t) := by
  rcases h with rfl | rfl | rfl <;> decide
theorem and3_three {t u : Int} (h : Three t) (g : Three u) : Three (and3 t u) := by
  rcases h with rfl | rfl | rfl <;> rcases g with rfl | rfl | rfl <;> decide
theorem and3_min {t u : Int} (h : Three t) (g : Three u) : r2p (min (p2r t) (p2r u)) = and3 t u := by
  rcases h with rfl | rfl | rfl <;> rcases g with rfl | rfl | rfl <;> decide
theorem or3_max {t u : Int} (h : Three t) (g : Three u) : r2p (max (p2r t) (p2r u)) = or3 t u := by
  rcases h with rfl | rfl | rfl <;> rcases g with rfl | rfl | rfl <;> decide
theorem not3_two {t : Int} (h : Three t) : r2p (2 - p2r t) = not3 t := by
  rcases h with rfl | rfl | rfl <;> decide
end Go.Proofs.YtikpgglbfpdhmaaGreatDoor

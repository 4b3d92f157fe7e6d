/- Plain laws on the order of values. No program in sight. -/
import Derived.Test.YtikpgglbfpdhmaaGreatDoorVDef
namespace Go.Proofs.YtikpgglbfpdhmaaGreatDoor
open Ieee

/-- What a real's bits stand for. -/
abbrev rd64 (x : Nat) : Datum := FloatKind.f64.format.read x
theorem order_nan_left {x y : Nat} (h : (rd64 x).isNaN = true) : FloatKind.f64.format.order x y = none := by
  change (rd64 x).order (rd64 y) = none
  generalize rd64 x = d at h ⊢
  cases d <;> first | (simp [Datum.isNaN] at h; done) | simp [Datum.order]
theorem order_nan_right {x y : Nat} (h : (rd64 y).isNaN = true) : FloatKind.f64.format.order x y = none := by
  change (rd64 x).order (rd64 y) = none
  generalize rd64 y = d at h ⊢
  cases d <;> first | (simp [Datum.isNaN] at h; done) | (cases rd64 x <;> simp [Datum.order])
theorem order_self {x : Nat} (h : (rd64 x).isNaN = false) : FloatKind.f64.format.order x x = some .eq := by
  change (rd64 x).order (rd64 x) = some .eq
  generalize rd64 x = d at h ⊢
  cases d <;> first | (simp [Datum.isNaN] at h; done) | simp [Datum.order]
theorem fnan_iff (x : Nat) : fnan x = (rd64 x).isNaN := by
  unfold fnan
  cases h : (rd64 x).isNaN
  · rw [order_self h]; rfl
  · rw [order_nan_left h]; rfl
theorem feq_self (x : Nat) : feq x x = !fnan x := by
  unfold feq fnan
  simp [bne]
theorem flt_nan_left {x y : Nat} (h : fnan x = true) : flt x y = false := by
  unfold flt; rw [order_nan_left (by rw [← fnan_iff]; exact h)]; rfl
theorem flt_nan_right {x y : Nat} (h : fnan y = true) : flt x y = false := by
  unfold flt; rw [order_nan_right (by rw [← fnan_iff]; exact h)]; rfl
theorem fgt_nan_left {x y : Nat} (h : fnan x = true) : fgt x y = false := by
  unfold fgt; rw [order_nan_left (by rw [← fnan_iff]; exact h)]; rfl
theorem fgt_nan_right {x y : Nat} (h : fnan y = true) : fgt x y = false := by
  unfold fgt; rw [order_nan_right (by rw [← fnan_iff]; exact h)]; rfl
theorem feq_nan_left {x y : Nat} (h : fnan x = true) : feq x y = false := by
  unfold feq; rw [order_nan_left (by rw [← fnan_iff]; exact h)]; rfl
theorem fnan_nanBits : fnan 9221120237041090561 = true := by decide +kernel
theorem fnan_zero : fnan 0 = false := by decide +kernel
/-- The program's clean real and the reference's: one number, or both none. -/
def FOne (x y : Nat) : Prop := (fnan x = true ∧ fnan y = true) ∨ (fnan x = false ∧ x = y)
theorem freal_rreal (x : Nat) : FOne (freal x) (rreal x) := by
  unfold FOne freal rreal
  cases h : fnan x
  · right
    cases g : feq x 0
    · simp [h]
    · simp [fnan_zero]
  · left
    rw [feq_nan_left h]
    simp [h, fnan_nanBits]
theorem FOne.refl (x : Nat) : FOne x x := by unfold FOne; cases fnan x <;> simp
theorem FOne.nan {x y : Nat} (h : FOne x y) : fnan x = fnan y := by
  rcases h with ⟨a, b⟩ | ⟨_, b⟩
  · rw [a, b]
  · rw [b]
theorem cF_rF (k : Int) (f : Nat) : FOne (cF k f) (rF k f) := by
  unfold cF rF
  split
  · exact freal_rreal f
  · exact FOne.refl 0
theorem ford_one {x y x' y' : Nat} (h : FOne x x') (g : FOne y y') : ford x y = ford x' y' := by
  unfold ford fcmp
  rw [h.nan, g.nan]
  cases hx : fnan x' <;> cases hy : fnan y' <;> simp only [Bool.false_eq_true, if_false, if_true]
  rcases h with ⟨_, b⟩ | ⟨_, b⟩
  · rw [hx] at b; cases b
  · rcases g with ⟨_, b'⟩ | ⟨_, b'⟩
    · rw [hy] at b'; cases b'
    · rw [b, b']
/-- How two clean values stand to each other. -/
def pord (K N : Int) (F : Nat) (S : ByteArray) (K' N' : Int) (F' : Nat) (S' : ByteArray) : Int :=
  if K = K' then if K = 2 then ford F F' else if K = 3 then Lib.compareBytes S.data.toList S'.data.toList else icmp N N' else icmp K K'
theorem compareBytes_less (a b : List UInt8) : Lib.compareBytes a b = if Op.bytesLess a b = true then -1 else if (a == b) = true then 0 else 1 := by
  induction a generalizing b with
  | nil => cases b <;> simp [Lib.compareBytes, Op.bytesLess]
  | cons x xs ih =>
    cases b with
    | nil => simp [Lib.compareBytes, Op.bytesLess]
    | cons y ys =>
      by_cases h : x < y
      · simp [Lib.compareBytes, Op.bytesLess, h]
      · by_cases g : y < x
        · have ne : ¬ x = y := by intro e; subst e; exact h g
          simp [Lib.compareBytes, Op.bytesLess, h, g, ne]
        · have e : x = y := by
            have h' : ¬ x.toNat < y.toNat := by simpa [UInt8.lt_iff_toNat_lt] using h
            have g' : ¬ y.toNat < x.toNat := by simpa [UInt8.lt_iff_toNat_lt] using g
            exact UInt8.toNat_inj.1 (by omega)
          subst e
          simp [Lib.compareBytes, Op.bytesLess, ih]
/-- The value of a value: its four parts. -/
structure Va where
  k : Int
  n : Int
  f : Nat
  s : ByteArray
abbrev Va.val (v : Va) : Value := .agg #[.int .i64 v.k, .int .i64 v.n, .float .f64 v.f, .string v.s]
/-- How two values stand to each other. -/
def vord (a b : Va) : Int := pord (cK a.k) (cN a.k a.n) (cF a.k a.f) (cS a.k a.s) (cK b.k) (cN b.k b.n) (cF b.k b.f) (cS b.k b.s)
theorem pord_one (K N : Int) (F G : Nat) (S : ByteArray) (K' N' : Int) (F' G' : Nat) (S' : ByteArray) (h : FOne F G) (h' : FOne F' G') : pord K N F S K' N' F' S' = pord K N G S K' N' G' S' := by
  unfold pord; rw [ford_one h h']
end Go.Proofs.YtikpgglbfpdhmaaGreatDoor

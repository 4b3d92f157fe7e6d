/- Small general lemmas of this set's proofs: stores of floats, facts on floats' order. No program in sight. -/
import Derived.WalkKit
import Derived.WalkSpells
import Derived.WalkLawsBesides
import Derived.Lib.Hide
import Derived.Lib.SmallJoins
import Derived.Deep.RegionWith
import Derived.Deep.RegionHeld3
import Derived.Deep.QuietTactic
import Derived.BigQuiet
import Derived.Deep.DrawnRows
import Derived.Deep.DeepCutAuto
import Derived.Deep.CutBlock
import Derived.Laws.FloatArith
namespace Go.Proofs.YtikpgglbfpdhmaaGreatDoor
open Go.RowKit Go.Joins

section
variable (P : Program) (w : World) (a : Addr) (m : Mode)
@[go_sem] theorem run_store_float (k : FloatKind) (b : Nat) : (store a (.float k b) m).run P w = stored P w a (.float k b) m := run_store P w a _ m rfl
end

/-- '+', '-', '*' of two floats where the operation is not valid: some bits, off the tape. -/
theorem run_float_none {P : Program} (w : World) (op : BinOp) (t : TypeId) (x y : Nat) (hop : op = .add ∨ op = .sub ∨ op = .mul) (h : floatBits op .f64 x y = none) :
    (binOp op t (.float .f64 x) (.float .f64 y)).run P w = .ok (.float .f64 (Question.cut (.nanBits .f64 x y) (w.tape w.drawn (.nanBits .f64 x y)))) w.drew := by
  rcases hop with rfl | rfl | rfl <;> simp [floatBits] at h <;> simp [binOp, Op.floatArith, h, Question.forced]
/-- .. which are none of a number. -/
theorem nan_cut (x y t : Nat) : (FloatKind.f64.format.read (Question.cut (.nanBits .f64 x y) t)).isNaN = true := by
  have e : Question.cut (.nanBits .f64 x y) t = t % 2 * 9223372036854775808 + 9218868437227405312 + 1 + t / 2 % 4503599627370495 := rfl
  rw [e]
  have h1 : t % 2 < 2 := Nat.mod_lt _ (by omega)
  have h2 : t / 2 % 4503599627370495 < 4503599627370495 := Nat.mod_lt _ (by omega)
  generalize t % 2 = a at *
  generalize t / 2 % 4503599627370495 = b at *
  have c1 : FloatKind.f64.format.signWeight = 9223372036854775808 := by decide +kernel
  have c2 : FloatKind.f64.format.binade = 4503599627370496 := by decide +kernel
  have c3 : FloatKind.f64.format.infRung = 9218868437227405312 := by decide +kernel
  have r1 : (a * 9223372036854775808 + 9218868437227405312 + 1 + b) % 9223372036854775808 = 9218868437227405313 + b := by omega
  unfold Ieee.Format.read
  rw [c1, c2, c3]
  simp only [r1]
  rw [if_neg (by omega), if_neg (by omega), if_neg (by omega)]
  rfl
theorem bcell {W w1 : World} (hb : Below W.heap.size W w1) : (∀ b o, b < W.heap.size → w1.cell? ⟨b, o, none⟩ = W.cell? ⟨b, o, none⟩) ∧ (∀ b o, b < W.heap.size → w1.frozen? ⟨b, o, none⟩ = W.frozen? ⟨b, o, none⟩) :=
  ⟨fun b o h => hb.cell (p := ⟨b, o, none⟩) h, fun b o h => hb.frozen (p := ⟨b, o, none⟩) h⟩

/-! Blocks that lie some steps apart. -/
@[simp, go_sem] theorem apart_2 (n : Nat) : (n = n + 1 + 1) = False := by first | (simp; done) | (simp; omega)
@[simp, go_sem] theorem apart_2' (n : Nat) : (n + 1 + 1 = n) = False := by first | (simp; done) | (simp; omega)
@[simp, go_sem] theorem before_2 (n : Nat) : (n < n + 1 + 1) = True := by first | (simp; done) | (simp; omega)
@[simp, go_sem] theorem apart_3 (n : Nat) : (n = n + 1 + 1 + 1) = False := by first | (simp; done) | (simp; omega)
@[simp, go_sem] theorem apart_3' (n : Nat) : (n + 1 + 1 + 1 = n) = False := by first | (simp; done) | (simp; omega)
@[simp, go_sem] theorem before_3 (n : Nat) : (n < n + 1 + 1 + 1) = True := by first | (simp; done) | (simp; omega)
@[simp, go_sem] theorem apart_4 (n : Nat) : (n = n + 1 + 1 + 1 + 1) = False := by first | (simp; done) | (simp; omega)
@[simp, go_sem] theorem apart_4' (n : Nat) : (n + 1 + 1 + 1 + 1 = n) = False := by first | (simp; done) | (simp; omega)
@[simp, go_sem] theorem before_4 (n : Nat) : (n < n + 1 + 1 + 1 + 1) = True := by first | (simp; done) | (simp; omega)
@[simp, go_sem] theorem apart_5 (n : Nat) : (n = n + 1 + 1 + 1 + 1 + 1) = False := by first | (simp; done) | (simp; omega)
@[simp, go_sem] theorem apart_5' (n : Nat) : (n + 1 + 1 + 1 + 1 + 1 = n) = False := by first | (simp; done) | (simp; omega)
@[simp, go_sem] theorem before_5 (n : Nat) : (n < n + 1 + 1 + 1 + 1 + 1) = True := by first | (simp; done) | (simp; omega)
@[simp, go_sem] theorem apart_6 (n : Nat) : (n = n + 1 + 1 + 1 + 1 + 1 + 1) = False := by first | (simp; done) | (simp; omega)
@[simp, go_sem] theorem apart_6' (n : Nat) : (n + 1 + 1 + 1 + 1 + 1 + 1 = n) = False := by first | (simp; done) | (simp; omega)
@[simp, go_sem] theorem before_6 (n : Nat) : (n < n + 1 + 1 + 1 + 1 + 1 + 1) = True := by first | (simp; done) | (simp; omega)
/-- What a call that only makes memory leaves of one of our blocks. -/
theorem newc {W w1 : World} (hb : Below W.heap.size W w1) (b : Nat) (h : b < W.heap.size) : (∀ o, w1.cell? ⟨b, o, none⟩ = W.cell? ⟨b, o, none⟩) ∧ (∀ o, w1.frozen? ⟨b, o, none⟩ = W.frozen? ⟨b, o, none⟩) ∧ b < w1.heap.size :=
  ⟨fun o => hb.cell (p := ⟨b, o, none⟩) h, fun o => hb.frozen (p := ⟨b, o, none⟩) h, Nat.lt_of_lt_of_le h hb.size⟩
theorem below_alloc' {w W : World} (h : Below w.heap.size w W) (o : Obj) : Below w.heap.size w (W.alloc o) := h.alloc h.size o
theorem below_set' {w W : World} (h : Below w.heap.size w W) {p : Addr} (hp : w.heap.size ≤ p.block) (u : Value) : Below w.heap.size w (W.setCell p u) := h.setCell hp u
theorem below_step {w W w1 : World} (h : Below w.heap.size w W) (hb : Below W.heap.size W w1) : Below w.heap.size w w1 := h.trans (hb.mono h.size)
theorem below_drewN' {w W : World} {n : Nat} (h : Below w.heap.size w W) : Below w.heap.size w (W.drewN n) := h.trans (below_draws _ _ _)

end Go.Proofs.YtikpgglbfpdhmaaGreatDoor

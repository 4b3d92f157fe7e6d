/- Small general lemmas of this set's proofs: stores of floats, facts on floats' order. No program in sight. -/
import Derived.WalkKit
import Derived.WalkSpells
import Derived.WalkLawsBesides
import Derived.Lib.Hide
import Derived.Lib.SmallJoins
import Derived.Deep.RegionWith
import Derived.Deep.RegionHeld3
import Derived.Deep.QuietTactic
import Derived.BigQuiet
import Derived.Deep.DrawnRows
import Derived.Deep.DeepCutAuto
import Derived.Deep.CutBlock
import Derived.Laws.FloatArith
import Derived.Lib.Bytealg
import Derived.Test.YtikpgglbfpdhmaaGreatDoorProg
namespace Go.Proofs.YtikpgglbfpdhmaaGreatDoor
open Go.RowKit Go.Joins

section
variable (P : Program) (w : World) (a : Addr) (m : Mode)
@[go_sem] theorem run_store_float (k : FloatKind) (b : Nat) : (store a (.float k b) m).run P w = stored P w a (.float k b) m := run_store P w a _ m rfl
end

/-- '+', '-', '*' of two floats where the operation is not valid: some bits, off the tape. -/
theorem run_float_none {P : Program} (w : World) (op : BinOp) (t : TypeId) (x y : Nat) (hop : op = .add ∨ op = .sub ∨ op = .mul) (h : floatBits op .f64 x y = none) :
    (binOp op t (.float .f64 x) (.float .f64 y)).run P w = .ok (.float .f64 (Question.cut (.nanBits .f64 x y) (w.tape w.drawn (.nanBits .f64 x y)))) w.drew := by
  rcases hop with rfl | rfl | rfl <;> simp [floatBits] at h <;> simp [binOp, Op.floatArith, h, Question.forced]
/-- .. which are none of a number. -/
theorem nan_cut (x y t : Nat) : (FloatKind.f64.format.read (Question.cut (.nanBits .f64 x y) t)).isNaN = true := by
  have e : Question.cut (.nanBits .f64 x y) t = t % 2 * 9223372036854775808 + 9218868437227405312 + 1 + t / 2 % 4503599627370495 := rfl
  rw [e]
  have h1 : t % 2 < 2 := Nat.mod_lt _ (by omega)
  have h2 : t / 2 % 4503599627370495 < 4503599627370495 := Nat.mod_lt _ (by omega)
  generalize t % 2 = a at *
  generalize t / 2 % 4503599627370495 = b at *
  have c1 : FloatKind.f64.format.signWeight = 9223372036854775808 := by decide +kernel
  have c2 : FloatKind.f64.format.binade = 4503599627370496 := by decide +kernel
  have c3 : FloatKind.f64.format.infRung = 9218868437227405312 := by decide +kernel
  have r1 : (a * 9223372036854775808 + 9218868437227405312 + 1 + b) % 9223372036854775808 = 9218868437227405313 + b := by omega
  unfold Ieee.Format.read
  rw [c1, c2, c3]
  simp only [r1]
  rw [if_neg (by omega), if_neg (by omega), if_neg (by omega)]
  rfl
theorem bcell {W w1 : World} (hb : Below W.heap.size W w1) : (∀ b o, b < W.heap.size → w1.cell? ⟨b, o, none⟩ = W.cell? ⟨b, o, none⟩) ∧ (∀ b o, b < W.heap.size → w1.frozen? ⟨b, o, none⟩ = W.frozen? ⟨b, o, none⟩) :=
  ⟨fun b o h => hb.cell (p := ⟨b, o, none⟩) h, fun b o h => hb.frozen (p := ⟨b, o, none⟩) h⟩

/-! Blocks that lie some steps apart. -/
@[simp, go_sem] theorem apart_2 (n : Nat) : (n = n + 1 + 1) = False := by first | (simp; done) | (simp; omega)
@[simp, go_sem] theorem apart_2' (n : Nat) : (n + 1 + 1 = n) = False := by first | (simp; done) | (simp; omega)
@[simp, go_sem] theorem before_2 (n : Nat) : (n < n + 1 + 1) = True := by first | (simp; done) | (simp; omega)
@[simp, go_sem] theorem apart_3 (n : Nat) : (n = n + 1 + 1 + 1) = False := by first | (simp; done) | (simp; omega)
@[simp, go_sem] theorem apart_3' (n : Nat) : (n + 1 + 1 + 1 = n) = False := by first | (simp; done) | (simp; omega)
@[simp, go_sem] theorem before_3 (n : Nat) : (n < n + 1 + 1 + 1) = True := by first | (simp; done) | (simp; omega)
@[simp, go_sem] theorem apart_4 (n : Nat) : (n = n + 1 + 1 + 1 + 1) = False := by first | (simp; done) | (simp; omega)
@[simp, go_sem] theorem apart_4' (n : Nat) : (n + 1 + 1 + 1 + 1 = n) = False := by first | (simp; done) | (simp; omega)
@[simp, go_sem] theorem before_4 (n : Nat) : (n < n + 1 + 1 + 1 + 1) = True := by first | (simp; done) | (simp; omega)
@[simp, go_sem] theorem apart_5 (n : Nat) : (n = n + 1 + 1 + 1 + 1 + 1) = False := by first | (simp; done) | (simp; omega)
@[simp, go_sem] theorem apart_5' (n : Nat) : (n + 1 + 1 + 1 + 1 + 1 = n) = False := by first | (simp; done) | (simp; omega)
@[simp, go_sem] theorem before_5 (n : Nat) : (n < n + 1 + 1 + 1 + 1 + 1) = True := by first | (simp; done) | (simp; omega)
@[simp, go_sem] theorem apart_6 (n : Nat) : (n = n + 1 + 1 + 1 + 1 + 1 + 1) = False := by first | (simp; done) | (simp; omega)
@[simp, go_sem] theorem apart_6' (n : Nat) : (n + 1 + 1 + 1 + 1 + 1 + 1 = n) = False := by first | (simp; done) | (simp; omega)
@[simp, go_sem] theorem before_6 (n : Nat) : (n < n + 1 + 1 + 1 + 1 + 1 + 1) = True := by first | (simp; done) | (simp; omega)
/-- What a call that only makes memory leaves of one of our blocks. -/
theorem newc {W w1 : World} (hb : Below W.heap.size W w1) (b : Nat) (h : b < W.heap.size) : (∀ o, w1.cell? ⟨b, o, none⟩ = W.cell? ⟨b, o, none⟩) ∧ (∀ o, w1.frozen? ⟨b, o, none⟩ = W.frozen? ⟨b, o, none⟩) ∧ b < w1.heap.size :=
  ⟨fun o => hb.cell (p := ⟨b, o, none⟩) h, fun o => hb.frozen (p := ⟨b, o, none⟩) h, Nat.lt_of_lt_of_le h hb.size⟩
theorem below_alloc' {w W : World} (h : Below w.heap.size w W) (o : Obj) : Below w.heap.size w (W.alloc o) := h.alloc h.size o
theorem below_set' {w W : World} (h : Below w.heap.size w W) {p : Addr} (hp : w.heap.size ≤ p.block) (u : Value) : Below w.heap.size w (W.setCell p u) := h.setCell hp u
theorem below_step {w W w1 : World} (h : Below w.heap.size w W) (hb : Below W.heap.size W w1) : Below w.heap.size w w1 := h.trans (hb.mono h.size)
theorem below_drewN' {w W : World} {n : Nat} (h : Below w.heap.size w W) : Below w.heap.size w (W.drewN n) := h.trans (below_draws _ _ _)

end Go.Proofs.YtikpgglbfpdhmaaGreatDoor

namespace Go.Proofs.YtikpgglbfpdhmaaGreatDoor
/-- Is it no number? -/
def fnan (x : Nat) : Bool := FloatKind.f64.format.order x x != some .eq
def feq (x y : Nat) : Bool := FloatKind.f64.format.order x y == some .eq
def flt (x y : Nat) : Bool := FloatKind.f64.format.order x y == some .lt
def fgt (x y : Nat) : Bool := FloatKind.f64.format.order x y == some .gt
/-- A real as the program keeps it. -/
def freal (x : Nat) : Nat := if fnan x = true then 9221120237041090561 else if feq x 0 = true then 0 else x
/-- A real as the reference keeps it. -/
def rreal (x : Nat) : Nat := if feq x 0 = true then 0 else x
def cK (k : Int) : Int := if 0 ≤ k ∧ k ≤ 4 then k else 0
def cN (k n : Int) : Int := if k = 1 then n else if k = 4 then (if n = 0 then 0 else 1) else 0
def cF (k : Int) (f : Nat) : Nat := if k = 2 then freal f else 0
def rF (k : Int) (f : Nat) : Nat := if k = 2 then rreal f else 0
def cS (k : Int) (s : ByteArray) : ByteArray := if k = 3 then s else ⟨#[]⟩
def icmp (a b : Int) : Int := if a < b then -1 else if b < a then 1 else 0
def fcmp (x y : Nat) : Int := if fnan x = true then (if fnan y = true then 0 else -1) else if fnan y = true then 1 else if flt x y = true then -1 else if fgt x y = true then 1 else 0
/-- Which of two reals comes first, where one may be none. -/
def ford (x y : Nat) : Int := if fnan x = true then (if fnan y = true then 0 else 1) else if fnan y = true then -1 else fcmp x y
def b2i (b : Bool) : Int := if b = true then 1 else 0
@[simp] theorem b2i_true : b2i true = 1 := rfl
@[simp] theorem b2i_false : b2i false = 0 := rfl
/-- A value as a truth, in the reference's numbers: 0 no, 1 unknown, 2 yes. -/
def rtruth (k n : Int) : Int := if k = 4 then (if n = 0 then 0 else 2) else 1
/-- A value as a truth, in the program's numbers: 1 yes, 0 no, -1 unknown. -/
def ptruth (k n : Int) : Int := if k = 4 then (if n = 0 then 0 else 1) else -1
/-- The value of a truth: its kind, its number. -/
def tk (t : Int) : Int := if t < 0 then 0 else 4
def tn (t : Int) : Int := if t < 0 then 0 else b2i (t == 1)
def and3 (t u : Int) : Int := if t = 0 ∨ u = 0 then 0 else if t < 0 ∨ u < 0 then -1 else 1
def not3 (t : Int) : Int := if t < 0 then -1 else 1 - t
def or3 (t u : Int) : Int := not3 (and3 (not3 t) (not3 u))
/-- The two numberings of truths. -/
def p2r (t : Int) : Int := if t < 0 then 1 else 2 * t
def r2p (u : Int) : Int := if u = 1 then -1 else if u = 2 then 1 else 0
@[simp] theorem not3_m : not3 (-1) = -1 := rfl
@[simp] theorem not3_0 : not3 0 = 1 := rfl
@[simp] theorem not3_1 : not3 1 = 0 := rfl
@[simp] theorem p2r_m : p2r (-1) = 1 := rfl
@[simp] theorem p2r_0 : p2r 0 = 0 := rfl
@[simp] theorem p2r_1 : p2r 1 = 2 := rfl
@[simp] theorem r2p_1 : r2p 1 = -1 := rfl
@[simp] theorem r2p_0 : r2p 0 = 0 := rfl
@[simp] theorem r2p_2 : r2p 2 = 1 := rfl
@[simp] theorem and3_mm : and3 (-1) (-1) = -1 := rfl
@[simp] theorem and3_m0 : and3 (-1) 0 = 0 := rfl
@[simp] theorem and3_m1 : and3 (-1) 1 = -1 := rfl
@[simp] theorem and3_0m : and3 0 (-1) = 0 := rfl
@[simp] theorem and3_00 : and3 0 0 = 0 := rfl
@[simp] theorem and3_01 : and3 0 1 = 0 := rfl
@[simp] theorem and3_1m : and3 1 (-1) = -1 := rfl
@[simp] theorem and3_10 : and3 1 0 = 0 := rfl
@[simp] theorem and3_11 : and3 1 1 = 1 := rfl
def Three (t : Int) : Prop := t = -1 ∨ t = 0 ∨ t = 1
instance (t : Int) : Decidable (Three t) := by unfold Three; exact inferInstance
theorem ptruth_three (k n : Int) : Three (ptruth k n) := by
  unfold ptruth Three
  by_cases h : k = 4
  · by_cases g : n = 0 <;> simp [h, g]
  · simp [h]
theorem rtruth_eq (k n : Int) : rtruth k n = p2r (ptruth k n) := by
  unfold rtruth ptruth p2r
  by_cases h : k = 4
  · by_cases g : n = 0 <;> simp [h, g]
  · simp [h]
theorem p2r_range {t : Int} (h : Three t) : 0 ≤ p2r t ∧ p2r t ≤ 2 := by
  rcases h with rfl | rfl | rfl <;> decide
theorem ptruth_tv {t : Int} (h : Three t) : ptruth (tk t) (tn t) = t := by
  rcases h with rfl | rfl | rfl <;> decide
theorem not3_three {t : Int} (h : Three t) : Three (not3 t) := by
  rcases h with rfl | rfl | rfl <;> decide
theorem and3_three {t u : Int} (h : Three t) (g : Three u) : Three (and3 t u) := by
  rcases h with rfl | rfl | rfl <;> rcases g with rfl | rfl | rfl <;> decide
theorem and3_min {t u : Int} (h : Three t) (g : Three u) : r2p (min (p2r t) (p2r u)) = and3 t u := by
  rcases h with rfl | rfl | rfl <;> rcases g with rfl | rfl | rfl <;> decide
theorem or3_max {t u : Int} (h : Three t) (g : Three u) : r2p (max (p2r t) (p2r u)) = or3 t u := by
  rcases h with rfl | rfl | rfl <;> rcases g with rfl | rfl | rfl <;> decide
theorem not3_two {t : Int} (h : Three t) : r2p (2 - p2r t) = not3 t := by
  rcases h with rfl | rfl | rfl <;> decide
end Go.Proofs.YtikpgglbfpdhmaaGreatDoor

namespace Go.Proofs.YtikpgglbfpdhmaaGreatDoor
open Go.RowKit Go.Joins

theorem run_float64bits (b : Nat) (w : World) : (callFunc 76 #[.float .f64 b]).run Tryz.prog w = .ok (.value (.int .u64 b)) w := by
  rw [run_callFunc_extern (e := Extern.MathFloatBits.float64bits) Tryz.func76 (by kernel_rfl) rfl (by kernel_rfl) (by kernel_rfl)]
  rfl
theorem run_float64frombits (n : Int) (w : World) : (callFunc 77 #[.int .u64 n]).run Tryz.prog w = .ok (.value (.float .f64 n.toNat)) w := by
  rw [run_callFunc_extern (e := Extern.MathFloatBits.float64frombits) Tryz.func77 (by kernel_rfl) rfl (by kernel_rfl) (by kernel_rfl)]
  rfl

theorem isNaN_any (f : Nat) (w : World) : Calls Tryz.prog 46 #[.float .f64 f] w fun e w' => e = .returned (.bool (fnan f)) ∧ w = w' := by
  go_enter Tryz.func46, Tryz.ntmps46
  go_wp2
  go_ret
  exact ⟨rfl, rfl⟩
theorem number_any (f : Nat) (w : World) : Calls Tryz.prog 55 #[.float .f64 f] w fun e w' => e = .returned (.bool (feq f f)) ∧ w = w' := by
  go_enter Tryz.func55, Tryz.ntmps55
  go_wp2
  go_ret
  exact ⟨rfl, rfl⟩
theorem naN_any (w : World) : Calls Tryz.prog 58 #[] w fun e w' => e = .returned (.float .f64 9221120237041090561) ∧ w = w' := by
  have h := run_float64frombits 9221120237041090561
  go_enter Tryz.func58, Tryz.ntmps58
  go_wp2
  go_ret
  exact ⟨rfl, rfl⟩
theorem cmpInt_any (a b : Int) (w : World) : Calls Tryz.prog 47 #[.int .i64 a, .int .i64 b] w fun e w' => e = .returned (.int .i64 (icmp a b)) ∧ w = w' := by
  unfold icmp
  go_enter Tryz.func47, Tryz.ntmps47
  go_wp2
  all_goals go_ret; exact ⟨rfl, rfl⟩
theorem cmpInt64_any (a b : Int) (w : World) : Calls Tryz.prog 50 #[.int .i64 a, .int .i64 b] w fun e w' => e = .returned (.int .i64 (icmp a b)) ∧ w = w' := by
  unfold icmp
  go_enter Tryz.func50, Tryz.ntmps50
  go_wp2
  all_goals go_ret; exact ⟨rfl, rfl⟩
theorem isNaNf_any (f : Nat) (w : World) : Calls Tryz.prog 68 #[.float .f64 f] w fun e w' => e = .returned (.bool (fnan f)) ∧ w = w' := by
  go_enter Tryz.func68, Tryz.ntmps68
  go_wp2
  go_ret
  exact ⟨rfl, rfl⟩
theorem cmpFloat_any (a b : Nat) (w : World) : Calls Tryz.prog 48 #[.float .f64 a, .float .f64 b] w fun e w' => e = .returned (.int .i64 (fcmp a b)) ∧ w = w' := by
  unfold fcmp
  have l0 : (FloatKind.f64.format.order a b == some Ordering.lt) = flt a b := rfl
  have g0 : (FloatKind.f64.format.order a b == some Ordering.gt) = fgt a b := rfl
  cases h1 : fnan a <;> cases h2 : fnan b <;> cases h3 : flt a b <;> cases h4 : fgt a b
  all_goals
    go_enter Tryz.func48, Tryz.ntmps48
    go_wp2_with (first | (go_at_call_of 68 (Value.float FloatKind.f64 a); refine (isNaNf_any a _).mono ?_; rw [h1]; rintro e w' ⟨rfl, rfl⟩) | (go_at_call_of 68 (Value.float FloatKind.f64 b); refine (isNaNf_any b _).mono ?_; rw [h2]; rintro e w' ⟨rfl, rfl⟩))
    go_ret
    exact ⟨rfl, rfl⟩
theorem run_cmpstring (a b : ByteArray) (w : World) : (callFunc 86 #[.string a, .string b]).run Tryz.prog w = .ok (.value (.int .i64 (Lib.compareBytes a.data.toList b.data.toList))) w := by
  rw [run_callFunc_extern (e := Extern.BytealgCompare.compare) Tryz.func86 (by kernel_rfl) rfl (by kernel_rfl) (by kernel_rfl), Lib.run_compareString]
  rfl
theorem cmpStr_any (a b : ByteArray) (w : World) : Calls Tryz.prog 49 #[.string a, .string b] w fun e w' => e = .returned (.int .i64 (Lib.compareBytes a.data.toList b.data.toList)) ∧ w = w' := by
  have h := run_cmpstring a b
  go_enter Tryz.func49, Tryz.ntmps49
  go_wp2
  go_ret
  exact ⟨rfl, rfl⟩
theorem signbit_any (f : Nat) (w : World) : Calls Tryz.prog 57 #[.float .f64 f] w fun e w' => e = .returned (.bool (decide (wrap64 (f : Int) < 0))) ∧ w = w' := by
  have h := run_float64bits f
  go_enter Tryz.func57, Tryz.ntmps57
  go_wp2
  go_ret
  exact ⟨rfl, rfl⟩

theorem ofInt_any (n : Int) (w : World) :
    Calls Tryz.prog 16 #[.int .i64 n] w fun e w' => e = .returned (.agg #[.int .i64 1, .int .i64 n, .float .f64 0, .string ⟨#[]⟩]) ∧ Below w.heap.size w w' := by
  go_enter Tryz.func16, Tryz.ntmps16
  go_wp2
  exact bodyPost_ret (v := .agg #[.int .i64 1, .int .i64 n, .float .f64 0, .string ⟨#[]⟩]) (by simp [results, Tryz.results16, go_sem]) rfl ⟨rfl, below_alloc1 _ _⟩
theorem ofText_any (s : ByteArray) (w : World) :
    Calls Tryz.prog 23 #[.string s] w fun e w' => e = .returned (.agg #[.int .i64 3, .int .i64 0, .float .f64 0, .string s]) ∧ Below w.heap.size w w' := by
  go_enter Tryz.func23, Tryz.ntmps23
  go_wp2
  exact bodyPost_ret (v := .agg #[.int .i64 3, .int .i64 0, .float .f64 0, .string s]) (by simp [results, Tryz.results23, go_sem]) rfl ⟨rfl, below_alloc1 _ _⟩
theorem ofBool_any (b : Bool) (w : World) :
    Calls Tryz.prog 24 #[.bool b] w fun e w' => e = .returned (.agg #[.int .i64 4, .int .i64 (b2i b), .float .f64 0, .string ⟨#[]⟩]) ∧ Below w.heap.size w w' := by
  unfold b2i
  cases b
  all_goals
    go_enter Tryz.func24, Tryz.ntmps24
    go_wp2
    exact bodyPost_ret (by simp [results, Tryz.results24, go_sem]) rfl ⟨rfl, below_alloc2 _ _ _⟩
theorem rBool_any (b : Bool) (w : World) :
    Calls Tryz.prog 25 #[.bool b] w fun e w' => e = .returned (.agg #[.int .i64 4, .int .i64 (b2i b), .float .f64 0, .string ⟨#[]⟩]) ∧ Below w.heap.size w w' := by
  unfold b2i
  cases b
  all_goals
    go_enter Tryz.func25, Tryz.ntmps25
    go_wp2
    exact bodyPost_ret (by simp [results, Tryz.results25, go_sem]) rfl ⟨rfl, below_alloc1 _ _⟩
theorem ofReal_any (f : Nat) (w : World) :
    Calls Tryz.prog 22 #[.float .f64 f] w fun e w' => e = .returned (.agg #[.int .i64 2, .int .i64 0, .float .f64 (freal f), .string ⟨#[]⟩]) ∧ Below w.heap.size w w' := by
  unfold freal
  have z0 : (FloatKind.f64.format.order f 0 == some Ordering.eq) = feq f 0 := rfl
  cases h1 : fnan f <;> cases h2 : feq f 0
  all_goals
    go_enter Tryz.func22, Tryz.ntmps22
    go_wp2_with (first | (go_at_call 46; refine (isNaN_any _ _).mono ?_; rw [h1]; rintro e w' ⟨rfl, rfl⟩) | (go_at_call 58; refine (naN_any _).mono ?_; rintro e w' ⟨rfl, rfl⟩))
    exact bodyPost_ret (by simp [results, Tryz.results22, go_sem]) rfl ⟨rfl, below_alloc1 _ _⟩
end Go.Proofs.YtikpgglbfpdhmaaGreatDoor

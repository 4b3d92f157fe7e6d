/- Small functions of package value, of its reference and of the library: what each call gives. -/
import Derived.Test.YtikpgglbfpdhmaaGreatDoorProg
import Derived.Test.YtikpgglbfpdhmaaGreatDoorKit
import Derived.Test.YtikpgglbfpdhmaaGreatDoorVDef
namespace Go.Proofs.YtikpgglbfpdhmaaGreatDoor
open Go.RowKit Go.Joins

theorem run_float64bits (b : Nat) (w : World) : (callFunc 76 #[.float .f64 b]).run Tryz.prog w = .ok (.value (.int .u64 b)) w := by
  rw [run_callFunc_extern (e := Extern.MathFloatBits.float64bits) Tryz.func76 (by kernel_rfl) rfl (by kernel_rfl) (by kernel_rfl)]
  rfl
theorem run_float64frombits (n : Int) (w : World) : (callFunc 77 #[.int .u64 n]).run Tryz.prog w = .ok (.value (.float .f64 n.toNat)) w := by
  rw [run_callFunc_extern (e := Extern.MathFloatBits.float64frombits) Tryz.func77 (by kernel_rfl) rfl (by kernel_rfl) (by kernel_rfl)]
  rfl

theorem isNaN_any (f : Nat) (w : World) : Calls Tryz.prog 46 #[.float .f64 f] w fun e w' => e = .returned (.bool (fnan f)) ∧ w = w' := by
  go_enter Tryz.func46, Tryz.ntmps46
  go_wp2
  go_ret
  exact ⟨rfl, rfl⟩
theorem number_any (f : Nat) (w : World) : Calls Tryz.prog 55 #[.float .f64 f] w fun e w' => e = .returned (.bool (feq f f)) ∧ w = w' := by
  go_enter Tryz.func55, Tryz.ntmps55
  go_wp2
  go_ret
  exact ⟨rfl, rfl⟩
theorem naN_any (w : World) : Calls Tryz.prog 58 #[] w fun e w' => e = .returned (.float .f64 9221120237041090561) ∧ w = w' := by
  have h := run_float64frombits 9221120237041090561
  go_enter Tryz.func58, Tryz.ntmps58
  go_wp2
  go_ret
  exact ⟨rfl, rfl⟩
theorem cmpInt_any (a b : Int) (w : World) : Calls Tryz.prog 47 #[.int .i64 a, .int .i64 b] w fun e w' => e = .returned (.int .i64 (icmp a b)) ∧ w = w' := by
  unfold icmp
  go_enter Tryz.func47, Tryz.ntmps47
  go_wp2
  all_goals go_ret; exact ⟨rfl, rfl⟩
theorem cmpInt64_any (a b : Int) (w : World) : Calls Tryz.prog 50 #[.int .i64 a, .int .i64 b] w fun e w' => e = .returned (.int .i64 (icmp a b)) ∧ w = w' := by
  unfold icmp
  go_enter Tryz.func50, Tryz.ntmps50
  go_wp2
  all_goals go_ret; exact ⟨rfl, rfl⟩
theorem isNaNf_any (f : Nat) (w : World) : Calls Tryz.prog 68 #[.float .f64 f] w fun e w' => e = .returned (.bool (fnan f)) ∧ w = w' := by
  go_enter Tryz.func68, Tryz.ntmps68
  go_wp2
  go_ret
  exact ⟨rfl, rfl⟩
theorem cmpFloat_any (a b : Nat) (w : World) : Calls Tryz.prog 48 #[.float .f64 a, .float .f64 b] w fun e w' => e = .returned (.int .i64 (fcmp a b)) ∧ w = w' := by
  unfold fcmp
  have l0 : (FloatKind.f64.format.order a b == some Ordering.lt) = flt a b := rfl
  have g0 : (FloatKind.f64.format.order a b == some Ordering.gt) = fgt a b := rfl
  cases h1 : fnan a <;> cases h2 : fnan b <;> cases h3 : flt a b <;> cases h4 : fgt a b
  all_goals
    go_enter Tryz.func48, Tryz.ntmps48
    go_wp2_with (first | (go_at_call_of 68 (Value.float FloatKind.f64 a); refine (isNaNf_any a _).mono ?_; rw [h1]; rintro e w' ⟨rfl, rfl⟩) | (go_at_call_of 68 (Value.float FloatKind.f64 b); refine (isNaNf_any b _).mono ?_; rw [h2]; rintro e w' ⟨rfl, rfl⟩))
    go_ret
    exact ⟨rfl, rfl⟩
theorem run_cmpstring (a b : ByteArray) (w : World) : (callFunc 86 #[.string a, .string b]).run Tryz.prog w = .ok (.value (.int .i64 (Lib.compareBytes a.data.toList b.data.toList))) w := by
  rw [run_callFunc_extern (e := Extern.BytealgCompare.compare) Tryz.func86 (by kernel_rfl) rfl (by kernel_rfl) (by kernel_rfl), Lib.run_compareString]
  rfl
theorem cmpStr_any (a b : ByteArray) (w : World) : Calls Tryz.prog 49 #[.string a, .string b] w fun e w' => e = .returned (.int .i64 (Lib.compareBytes a.data.toList b.data.toList)) ∧ w = w' := by
  have h := run_cmpstring a b
  go_enter Tryz.func49, Tryz.ntmps49
  go_wp2
  go_ret
  exact ⟨rfl, rfl⟩
theorem signbit_any (f : Nat) (w : World) : Calls Tryz.prog 57 #[.float .f64 f] w fun e w' => e = .returned (.bool (decide (wrap64 (f : Int) < 0))) ∧ w = w' := by
  have h := run_float64bits f
  go_enter Tryz.func57, Tryz.ntmps57
  go_wp2
  go_ret
  exact ⟨rfl, rfl⟩

theorem ofInt_any (n : Int) (w : World) :
    Calls Tryz.prog 16 #[.int .i64 n] w fun e w' => e = .returned (.agg #[.int .i64 1, .int .i64 n, .float .f64 0, .string ⟨#[]⟩]) ∧ Below w.heap.size w w' := by
  go_enter Tryz.func16, Tryz.ntmps16
  go_wp2
  exact bodyPost_ret (v := .agg #[.int .i64 1, .int .i64 n, .float .f64 0, .string ⟨#[]⟩]) (by simp [results, Tryz.results16, go_sem]) rfl ⟨rfl, below_alloc1 _ _⟩
theorem ofText_any (s : ByteArray) (w : World) :
    Calls Tryz.prog 23 #[.string s] w fun e w' => e = .returned (.agg #[.int .i64 3, .int .i64 0, .float .f64 0, .string s]) ∧ Below w.heap.size w w' := by
  go_enter Tryz.func23, Tryz.ntmps23
  go_wp2
  exact bodyPost_ret (v := .agg #[.int .i64 3, .int .i64 0, .float .f64 0, .string s]) (by simp [results, Tryz.results23, go_sem]) rfl ⟨rfl, below_alloc1 _ _⟩
theorem ofBool_any (b : Bool) (w : World) :
    Calls Tryz.prog 24 #[.bool b] w fun e w' => e = .returned (.agg #[.int .i64 4, .int .i64 (b2i b), .float .f64 0, .string ⟨#[]⟩]) ∧ Below w.heap.size w w' := by
  unfold b2i
  cases b
  all_goals
    go_enter Tryz.func24, Tryz.ntmps24
    go_wp2
    exact bodyPost_ret (by simp [results, Tryz.results24, go_sem]) rfl ⟨rfl, below_alloc2 _ _ _⟩
theorem rBool_any (b : Bool) (w : World) :
    Calls Tryz.prog 25 #[.bool b] w fun e w' => e = .returned (.agg #[.int .i64 4, .int .i64 (b2i b), .float .f64 0, .string ⟨#[]⟩]) ∧ Below w.heap.size w w' := by
  unfold b2i
  cases b
  all_goals
    go_enter Tryz.func25, Tryz.ntmps25
    go_wp2
    exact bodyPost_ret (by simp [results, Tryz.results25, go_sem]) rfl ⟨rfl, below_alloc1 _ _⟩
theorem ofReal_any (f : Nat) (w : World) :
    Calls Tryz.prog 22 #[.float .f64 f] w fun e w' => e = .returned (.agg #[.int .i64 2, .int .i64 0, .float .f64 (freal f), .string ⟨#[]⟩]) ∧ Below w.heap.size w w' := by
  unfold freal
  have z0 : (FloatKind.f64.format.order f 0 == some Ordering.eq) = feq f 0 := rfl
  cases h1 : fnan f <;> cases h2 : feq f 0
  all_goals
    go_enter Tryz.func22, Tryz.ntmps22
    go_wp2_with (first | (go_at_call 46; refine (isNaN_any _ _).mono ?_; rw [h1]; rintro e w' ⟨rfl, rfl⟩) | (go_at_call 58; refine (naN_any _).mono ?_; rintro e w' ⟨rfl, rfl⟩))
    exact bodyPost_ret (by simp [results, Tryz.results22, go_sem]) rfl ⟨rfl, below_alloc1 _ _⟩
end Go.Proofs.YtikpgglbfpdhmaaGreatDoor

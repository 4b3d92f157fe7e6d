/- Printing a float: the small functions on whole numbers, scaling, the scale, rounding. -/
import Derived.Test.YtikpgglbfpdhmaaGreatDoorValA
import Derived.Test.YtikpgglbfpdhmaaGreatDoorVArith
namespace Go.Proofs.YtikpgglbfpdhmaaGreatDoor
open Go.RowKit Go.Joins
attribute [local go_sem ↓] Go.wp_at_zero Go.wp_at_succ

theorem ret_i64 {x y : Int} (h : x = y) : Ending.returned (.int .i64 x) = Ending.returned (.int .i64 y) := by rw [h]
theorem log10Pow2_is (x : Int) (h0 : -5000 ≤ x) (h1 : x ≤ 5000) (w : World) :
    Calls Tryz.prog 114 #[.int .i64 x] w fun e w' => e = .returned (.int .i64 (x * 78913 / 262144)) ∧ w = w' := by
  go_enter Tryz.func114, Tryz.ntmps114
  go_wp2
  go_ret
  exact ⟨ret_i64 (by simp), rfl⟩
theorem log2Pow10_is (x : Int) (h0 : -5000 ≤ x) (h1 : x ≤ 5000) (w : World) :
    Calls Tryz.prog 168 #[.int .i64 x] w fun e w' => e = .returned (.int .i64 (x * 108853 / 32768)) ∧ w = w' := by
  go_enter Tryz.func168, Tryz.ntmps168
  go_wp2
  go_ret
  exact ⟨ret_i64 (by simp), rfl⟩
theorem skewed_is (x : Int) (h0 : -5000 ≤ x) (h1 : x ≤ 5000) (w : World) :
    Calls Tryz.prog 166 #[.int .i64 x] w fun e w' => e = .returned (.int .i64 ((x * 631305 - 261663) / 2097152)) ∧ w = w' := by
  go_enter Tryz.func166, Tryz.ntmps166
  go_wp2
  go_ret
  exact ⟨ret_i64 (by simp), rfl⟩
theorem ret_u64' {x y : Int} (h : x = y) : Ending.returned (.int .u64 x) = Ending.returned (.int .u64 y) := by rw [h]
theorem unfloor_is (x : Int) (h0 : 0 ≤ x) (h1 : x < 18446744073709551616) (w : World) :
    Calls Tryz.prog 172 #[.int .u64 x] w fun e w' => e = .returned (.int .u64 (x / 4)) ∧ w = w' := by
  go_enter Tryz.func172, Tryz.ntmps172
  go_wp2
  go_ret
  exact ⟨ret_u64' (by simp), rfl⟩
theorem unceil_is (x : Int) (h0 : 0 ≤ x) (h1 : x < 18446744073709551613) (w : World) :
    Calls Tryz.prog 171 #[.int .u64 x] w fun e w' => e = .returned (.int .u64 ((x + 3) / 4)) ∧ w = w' := by
  go_enter Tryz.func171, Tryz.ntmps171
  go_wp2
  go_ret
  exact ⟨ret_u64' (by simp), rfl⟩
theorem bool2u_is (b : Bool) (w : World) :
    Calls Tryz.prog 193 #[.bool b] w fun e w' => e = .returned (.int .u64 (if b then 1 else 0)) ∧ w = w' := by
  cases b
  all_goals
    go_enter Tryz.func193, Tryz.ntmps193
    go_wp2
    go_ret
    exact ⟨rfl, rfl⟩
theorem bool2w_is (b : Bool) (w : World) :
    Calls Tryz.prog 150 #[.bool b] w fun e w' => e = .returned (.int .u64 (if b then 1 else 0)) ∧ w = w' := by
  cases b
  all_goals
    go_enter Tryz.func150, Tryz.ntmps150
    go_wp2
    go_ret
    exact ⟨rfl, rfl⟩
end Go.Proofs.YtikpgglbfpdhmaaGreatDoor

namespace Go.Proofs.YtikpgglbfpdhmaaGreatDoor
open Go.RowKit Go.Joins
attribute [local go_sem ↓] Go.wp_at_zero Go.wp_at_succ

def b2n (b : Bool) : Int := if b then 1 else 0
/-- What scaling gives, as the program reckons it. -/
def usc (x hi lo : Int) (s : Nat) : Int :=
  if (IntKind.u64.wrap (x * hi / 18446744073709551616 / 2 ^ s * 2 ^ s) != x * hi / 18446744073709551616) = true then bits BinOp.or IntKind.u64 (x * hi / 18446744073709551616 / 2 ^ s) 1
  else bits BinOp.or IntKind.u64 (IntKind.u64.wrap (x * hi / 18446744073709551616 - b2n (decide (x * hi % 18446744073709551616 < x * lo / 18446744073709551616))) / 2 ^ s) (b2n (decide (1 < IntKind.u64.wrap (x * hi % 18446744073709551616 - x * lo / 18446744073709551616))))
theorem usc_t {x hi lo : Int} {s : Nat} (h : (IntKind.u64.wrap (x * hi / 18446744073709551616 / 2 ^ s * 2 ^ s) != x * hi / 18446744073709551616) = true) : usc x hi lo s = bits BinOp.or IntKind.u64 (x * hi / 18446744073709551616 / 2 ^ s) 1 := if_pos h
theorem usc_f {x hi lo : Int} {s : Nat} (h : (IntKind.u64.wrap (x * hi / 18446744073709551616 / 2 ^ s * 2 ^ s) != x * hi / 18446744073709551616) = false) : usc x hi lo s = bits BinOp.or IntKind.u64 (IntKind.u64.wrap (x * hi / 18446744073709551616 - b2n (decide (x * hi % 18446744073709551616 < x * lo / 18446744073709551616))) / 2 ^ s) (b2n (decide (1 < IntKind.u64.wrap (x * hi % 18446744073709551616 - x * lo / 18446744073709551616)))) := if_neg (by rw [h]; decide)
theorem bool2w_n (b : Bool) (w : World) :
    Calls Tryz.prog 150 #[.bool b] w fun e w' => e = .returned (.int .u64 (b2n b)) ∧ w = w' := bool2w_is b w
theorem bool2u_n (b : Bool) (w : World) :
    Calls Tryz.prog 193 #[.bool b] w fun e w' => e = .returned (.int .u64 (b2n b)) ∧ w = w' := bool2u_is b w
theorem uscale_is (M : Hid (∀ (x y : Nat), x < 18446744073709551616 → y < 18446744073709551616 → ∀ w, Calls Tryz.prog 192 #[.int .u64 x, .int .u64 y] w fun e w' => e = .returned (.tuple #[.int .u64 ((x * y / 18446744073709551616 : Nat) : Int), .int .u64 ((x * y % 18446744073709551616 : Nat) : Int)]) ∧ w' = w))
    (x hi lo s B : Nat) (hx : x < 18446744073709551616) (hhi : hi < 18446744073709551616) (hlo : lo < 18446744073709551616) (hs : s < 64) (hand : bits BinOp.and IntKind.i64 (s : Int) 63 = (s : Int)) (w : World)
    (c0 : w.cell? ⟨B, 0, none⟩ = some (.int .u64 hi)) (c1 : w.cell? ⟨B, 1, none⟩ = some (.int .u64 lo)) (c2 : w.cell? ⟨B, 2, none⟩ = some (.int .i64 s)) :
    Calls Tryz.prog 169 #[.int .u64 x, .pointer (some ⟨B, 0, none⟩)] w fun e w' => e = .returned (.int .u64 (usc x hi lo s)) ∧ Below w.heap.size w w' := by
  go_enter Tryz.func169, Tryz.ntmps169
  go_wp2_with (first
    | (go_at_call 192; first | (with_reducible refine (M.out x hi hx hhi _).mono ?_; rintro e w1 ⟨rfl, rfl⟩) | (with_reducible refine (M.out x lo hx hlo _).mono ?_; rintro e w1 ⟨rfl, rfl⟩))
    | (go_at_call 150; with_reducible refine (bool2w_n _ _).mono ?_; rintro e w1 ⟨rfl, rfl⟩)
    | (go_at_call 193; with_reducible refine (bool2u_n _ _).mono ?_; rintro e w1 ⟨rfl, rfl⟩))
  · go_ret
    exact ⟨by rw [usc_t (by assumption)]; rfl, (by repeat' (first | with_reducible exact Below.refl _ _ | with_reducible refine below_step ?_ (by assumption) | with_reducible apply below_set' | with_reducible apply below_alloc' | with_reducible apply Below.drew | with_reducible apply below_drewN' | (simp; done) | omega | (simp; omega)))⟩
  · go_quiet ((go_at_call 150; exact Calls.quiet_of_same ((bool2w_n _ _).mono fun _ _ h => ⟨h.1, h.2.symm⟩)))
    go_wp2
    go_ret
    exact ⟨by rw [usc_f (by assumption)]; rfl, (by repeat' (first | with_reducible exact Below.refl _ _ | with_reducible refine below_step ?_ (by assumption) | with_reducible apply below_set' | with_reducible apply below_alloc' | with_reducible apply Below.drew | with_reducible apply below_drewN' | (simp; done) | omega | (simp; omega)))⟩
end Go.Proofs.YtikpgglbfpdhmaaGreatDoor

namespace Go.Proofs.YtikpgglbfpdhmaaGreatDoor
open Go.RowKit Go.Joins
attribute [local go_sem ↓] Go.wp_at_zero Go.wp_at_succ

theorem prescale_is (B : Nat) (e p lp : Int) (i hi lo : Nat) (hi9 : i < 696) (hp : p = (i : Int) - 348) (he0 : -5000 ≤ e) (he1 : e ≤ 5000) (hl0 : -5000 ≤ lp) (hl1 : lp ≤ 5000) (w : World)
    (t0 : w.cell? ⟨15, i * 2, none⟩ = some (.int .u64 hi)) (t1 : w.cell? ⟨15, i * 2 + 1, none⟩ = some (.int .u64 lo))
    (c0 : w.cell? ⟨B, 0, none⟩ = some (.int .u64 0)) (c1 : w.cell? ⟨B, 1, none⟩ = some (.int .u64 0)) (c2 : w.cell? ⟨B, 2, none⟩ = some (.int .i64 0)) (fz : ∀ o, w.frozen? ⟨B, o, none⟩ = false) :
    Calls Tryz.prog 167 #[.pointer (some ⟨B, 0, none⟩), .int .i64 e, .int .i64 p, .int .i64 lp] w fun r w' => r = .returned (.tuple #[]) ∧ w' = ((w.setCell ⟨B, 0, none⟩ (.int .u64 hi)).setCell ⟨B, 1, none⟩ (.int .u64 lo)).setCell ⟨B, 2, none⟩ (.int .i64 (-(e + lp + 3))) := by
  subst hp
  have e1 : wrap64 ((i : Int) - 348 - -348) = i := by unfold wrap64; omega
  go_enter Tryz.func167, Tryz.ntmps167
  go_wp2
  exact bodyPost_end (by simp [results, Tryz.results167, go_sem]) rfl ⟨rfl, by simp⟩
end Go.Proofs.YtikpgglbfpdhmaaGreatDoor

namespace Go.Proofs.YtikpgglbfpdhmaaGreatDoor
open Go.RowKit Go.Joins
attribute [local go_sem ↓] Go.wp_at_zero Go.wp_at_succ

theorem nudge_is (x d : Int) (h0 : 1 ≤ x) (h1 : x < 18446744073709551615) (hd0 : -1 ≤ d) (hd1 : d ≤ 1) (w : World) :
    Calls Tryz.prog 170 #[.int .u64 x, .int .i64 d] w fun e w' => e = .returned (.int .u64 (x + d)) ∧ w = w' := by
  rcases (show d = -1 ∨ d = 0 ∨ d = 1 by omega) with rfl | rfl | rfl
  · have e1 : IntKind.u64.wrap (x + 18446744073709551615) = x + -1 := by rw [IntKind.wrap_u64]; omega
    go_enter Tryz.func170, Tryz.ntmps170
    go_wp2
    go_ret
    exact ⟨ret_u64' (by first | rfl | omega | exact e1), rfl⟩
  · go_enter Tryz.func170, Tryz.ntmps170
    go_wp2
    go_ret
    exact ⟨ret_u64' (by first | rfl | omega), rfl⟩
  · go_enter Tryz.func170, Tryz.ntmps170
    go_wp2
    go_ret
    exact ⟨ret_u64' (by first | rfl | omega), rfl⟩
theorem unround_is (x : Int) (h0 : 0 ≤ x) (h1 : x < 18446744073709551610) (hb : bits BinOp.and IntKind.u64 (x / 4) 1 = x / 4 % 2) (w : World) :
    Calls Tryz.prog 173 #[.int .u64 x] w fun e w' => e = .returned (.int .u64 ((x + 1 + x / 4 % 2) / 4)) ∧ w = w' := by
  go_enter Tryz.func173, Tryz.ntmps173
  go_wp2
  go_ret
  exact ⟨ret_u64' (by simp), rfl⟩
end Go.Proofs.YtikpgglbfpdhmaaGreatDoor

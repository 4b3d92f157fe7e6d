/- A float's text, as the program cuts it. -/
import Derived.Test.YtikpgglbfpdhmaaGreatDoorWrT
import Derived.Test.YtikpgglbfpdhmaaGreatDoorWrU
import Derived.Shelf.Strings.SlTrimAscii
namespace Go.Proofs.YtikpgglbfpdhmaaGreatDoor
open Go.RowKit Go.Joins Go.Lib
attribute [local go_sem ↓] Go.wp_at_zero Go.wp_at_succ

@[local go_sem] theorem run_neg_flt {P : Program} (w : World) (k : FloatKind) (b : Nat) : (Op.unary .neg (.float k b)).run P w = .ok (.float k (Op.negFloat k b)) w := rfl
theorem isInf_up (f : Nat) (w : World) : Calls Tryz.prog 72 #[.float .f64 f, .int .i64 1] w fun e w' => e = .returned (.bool (fgt f 9218868437227405311)) ∧ w = w' := by
  go_enter Tryz.func72, Tryz.ntmps72
  go_wp2
  go_ret
  exact ⟨rfl, rfl⟩
theorem isInf_down (f : Nat) (w : World) : Calls Tryz.prog 72 #[.float .f64 f, .int .i64 (-1)] w fun e w' => e = .returned (.bool (flt f 18442240474082181119)) ∧ w = w' := by
  rw [← neg_gt]
  go_enter Tryz.func72, Tryz.ntmps72
  go_wp2
  go_ret
  exact ⟨rfl, rfl⟩
theorem info_set : (Tryz.prog.info? (Tryz.lays160_ren.t 116)).map (fun i => (i.zero, i.size)) = some (some (.agg (Array.replicate 256 (.bool false))), 256) := by kernel_rfl
theorem trim_to (S : List UInt8) (hS : S.length ≤ 100) (w : World) :
    Calls Tryz.prog 73 #[.string ⟨S.toArray⟩, .string ⟨#[45, 48, 49, 50, 51, 52, 53, 54, 55, 56, 57]⟩] w fun e w' => e = .returned (.string ⟨(trimS S cutBytes).toArray⟩) ∧ RowKit.Below w.heap.size w w' :=
  Any.strings_Trim_laid Tryz.lays160 info_set ⟨S.toArray⟩ ⟨#[45, 48, 49, 50, 51, 52, 53, 54, 55, 56, 57]⟩ w (by show S.toArray.size ≤ _; simp; omega) (by decide) (ascii_of_all (by decide))
theorem ba_app (S T : List UInt8) : ((⟨S.toArray⟩ : ByteArray) ++ (⟨T.toArray⟩ : ByteArray)) = ⟨(S ++ T).toArray⟩ := by
  apply ByteArray.ext
  simp
theorem str_ret {x y : ByteArray} (h : x = y) : Ending.returned (.string x) = Ending.returned (.string y) := by rw [h]
/-- A plain float's text: its mark, or one behind it. -/
def dig (S : List UInt8) : ByteArray := if marks S = true then ⟨S.toArray⟩ else ⟨(S ++ [46, 48]).toArray⟩
theorem ne_empty {l : List UInt8} (h : l ≠ []) : l.isEmpty = false := by
  cases l with
  | nil => exact absurd rfl h
  | cons x r => rfl
set_option maxRecDepth 100000 in
set_option maxHeartbeats 1000000 in
theorem digits_unmarked (f : Nat) (S : List UInt8) (hS : S.length ≤ 100) (HS : Hid (∀ w, Tabs w → Calls Tryz.prog 56 #[.float .f64 f, .int .u8 103, .int .i64 (-1), .int .i64 64] w fun e w' => e = .returned (.string ⟨S.toArray⟩) ∧ RowKit.Below w.heap.size w w'))
    (hm : trimS S cutBytes = []) (hn : fnan f = false) (h1 : fgt f 9218868437227405311 = false) (h2 : flt f 18442240474082181119 = false) (w : World) (ht : Hid (Tabs w)) :
    Calls Tryz.prog 53 #[.float .f64 f] w fun e w' => e = .returned (.string ⟨(S ++ [46, 48]).toArray⟩) ∧ RowKit.Below w.heap.size w w' := by
  go_enter Tryz.func53, Tryz.ntmps53
  go_wp2_with (first
    | (go_at_call 46; with_reducible refine (isNaN_any _ _).mono ?_; rintro e w1 ⟨rfl, rfl⟩; rw [hn])
    | (go_at_call 72; first | (with_reducible refine (isInf_up _ _).mono ?_; rintro e w1 ⟨rfl, rfl⟩; rw [h1]) | (with_reducible refine (isInf_down _ _).mono ?_; rintro e w1 ⟨rfl, rfl⟩; rw [h2]))
    | (go_at_call 56; with_reducible refine (HS.out _ ht.out).mono ?_; rintro e w1 ⟨rfl, hb⟩)
    | (go_at_call 73; with_reducible refine (trim_to S hS _).mono ?_; rintro e w2 ⟨rfl, hb2⟩; rw [hm]))
  go_ret
  exact ⟨str_ret (ba_app S [46, 48]), (by repeat' (first | with_reducible exact Below.refl _ _ | with_reducible refine below_step ?_ (by assumption) | with_reducible apply below_set' | with_reducible apply below_alloc' | with_reducible apply Below.drew | with_reducible apply below_drewN' | (simp; done) | omega | (simp; omega)))⟩
set_option maxRecDepth 100000 in
set_option maxHeartbeats 1000000 in
theorem digits_marked (f : Nat) (S : List UInt8) (hS : S.length ≤ 100) (HS : Hid (∀ w, Tabs w → Calls Tryz.prog 56 #[.float .f64 f, .int .u8 103, .int .i64 (-1), .int .i64 64] w fun e w' => e = .returned (.string ⟨S.toArray⟩) ∧ RowKit.Below w.heap.size w w'))
    (hm : trimS S cutBytes ≠ []) (hn : fnan f = false) (h1 : fgt f 9218868437227405311 = false) (h2 : flt f 18442240474082181119 = false) (w : World) (ht : Hid (Tabs w)) :
    Calls Tryz.prog 53 #[.float .f64 f] w fun e w' => e = .returned (.string ⟨S.toArray⟩) ∧ RowKit.Below w.heap.size w w' := by
  go_enter Tryz.func53, Tryz.ntmps53
  go_wp2_with (first
    | (go_at_call 46; with_reducible refine (isNaN_any _ _).mono ?_; rintro e w1 ⟨rfl, rfl⟩; rw [hn])
    | (go_at_call 72; first | (with_reducible refine (isInf_up _ _).mono ?_; rintro e w1 ⟨rfl, rfl⟩; rw [h1]) | (with_reducible refine (isInf_down _ _).mono ?_; rintro e w1 ⟨rfl, rfl⟩; rw [h2]))
    | (go_at_call 56; with_reducible refine (HS.out _ ht.out).mono ?_; rintro e w1 ⟨rfl, hb⟩)
    | (go_at_call 73; with_reducible refine (trim_to S hS _).mono ?_; rintro e w2 ⟨rfl, hb2⟩; have hne := ne_empty hm))
  go_ret
  exact ⟨rfl, (by repeat' (first | with_reducible exact Below.refl _ _ | with_reducible refine below_step ?_ (by assumption) | with_reducible apply below_set' | with_reducible apply below_alloc' | with_reducible apply Below.drew | with_reducible apply below_drewN' | (simp; done) | omega | (simp; omega)))⟩
theorem digits_plain (f : Nat) (S : List UInt8) (hS : Txt S) (HS : ∀ w, Tabs w → Calls Tryz.prog 56 #[.float .f64 f, .int .u8 103, .int .i64 (-1), .int .i64 64] w fun e w' => e = .returned (.string ⟨S.toArray⟩) ∧ RowKit.Below w.heap.size w w')
    (hn : fnan f = false) (h1 : fgt f 9218868437227405311 = false) (h2 : flt f 18442240474082181119 = false) (w : World) (ht : Tabs w) :
    Calls Tryz.prog 53 #[.float .f64 f] w fun e w' => e = .returned (.string (dig S)) ∧ RowKit.Below w.heap.size w w' := by
  unfold dig
  cases hm : marks S with
  | true => exact digits_marked f S hS.few (Lib.hid HS) (fun h => by rw [hS.trim.1 h] at hm; cases hm) hn h1 h2 w (Lib.hid ht)
  | false => exact digits_unmarked f S hS.few (Lib.hid HS) (hS.trim.2 hm) hn h1 h2 w (Lib.hid ht)
set_option maxRecDepth 100000 in
theorem digits_nan (f : Nat) (hn : fnan f = true) (w : World) : Calls Tryz.prog 53 #[.float .f64 f] w fun e w' => e = .returned (.string ⟨#[78, 97, 78]⟩) ∧ RowKit.Below w.heap.size w w' := by
  go_enter Tryz.func53, Tryz.ntmps53
  go_wp2_with (go_at_call 46; with_reducible refine (isNaN_any _ _).mono ?_; rintro e w1 ⟨rfl, rfl⟩; rw [hn])
  go_ret
  exact ⟨rfl, (by repeat' (first | with_reducible exact Below.refl _ _ | with_reducible refine below_step ?_ (by assumption) | with_reducible apply below_set' | with_reducible apply below_alloc' | with_reducible apply Below.drew | with_reducible apply below_drewN' | (simp; done) | omega | (simp; omega)))⟩
set_option maxRecDepth 100000 in
theorem digits_up (f : Nat) (hn : fnan f = false) (h1 : fgt f 9218868437227405311 = true) (w : World) : Calls Tryz.prog 53 #[.float .f64 f] w fun e w' => e = .returned (.string ⟨#[73, 110, 102]⟩) ∧ RowKit.Below w.heap.size w w' := by
  go_enter Tryz.func53, Tryz.ntmps53
  go_wp2_with (first
    | (go_at_call 46; with_reducible refine (isNaN_any _ _).mono ?_; rintro e w1 ⟨rfl, rfl⟩; rw [hn])
    | (go_at_call 72; with_reducible refine (isInf_up _ _).mono ?_; rintro e w1 ⟨rfl, rfl⟩; rw [h1]))
  go_ret
  exact ⟨rfl, (by repeat' (first | with_reducible exact Below.refl _ _ | with_reducible refine below_step ?_ (by assumption) | with_reducible apply below_set' | with_reducible apply below_alloc' | with_reducible apply Below.drew | with_reducible apply below_drewN' | (simp; done) | omega | (simp; omega)))⟩
set_option maxRecDepth 100000 in
theorem digits_down (f : Nat) (hn : fnan f = false) (h1 : fgt f 9218868437227405311 = false) (h2 : flt f 18442240474082181119 = true) (w : World) : Calls Tryz.prog 53 #[.float .f64 f] w fun e w' => e = .returned (.string ⟨#[45, 73, 110, 102]⟩) ∧ RowKit.Below w.heap.size w w' := by
  go_enter Tryz.func53, Tryz.ntmps53
  go_wp2_with (first
    | (go_at_call 46; with_reducible refine (isNaN_any _ _).mono ?_; rintro e w1 ⟨rfl, rfl⟩; rw [hn])
    | (go_at_call 72; first | (with_reducible refine (isInf_up _ _).mono ?_; rintro e w1 ⟨rfl, rfl⟩; rw [h1]) | (with_reducible refine (isInf_down _ _).mono ?_; rintro e w1 ⟨rfl, rfl⟩; rw [h2])))
  go_ret
  exact ⟨rfl, (by repeat' (first | with_reducible exact Below.refl _ _ | with_reducible refine below_step ?_ (by assumption) | with_reducible apply below_set' | with_reducible apply below_alloc' | with_reducible apply Below.drew | with_reducible apply below_drewN' | (simp; done) | omega | (simp; omega)))⟩
end Go.Proofs.YtikpgglbfpdhmaaGreatDoor

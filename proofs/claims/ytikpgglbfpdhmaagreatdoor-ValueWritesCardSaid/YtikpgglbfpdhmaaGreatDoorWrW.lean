/- A value as it is written, by the program. -/
import Derived.Test.YtikpgglbfpdhmaaGreatDoorWrV
import Derived.Test.YtikpgglbfpdhmaaGreatDoorValB
import Derived.Test.YtikpgglbfpdhmaaGreatDoorValC
namespace Go.Proofs.YtikpgglbfpdhmaaGreatDoor
open Go.RowKit Go.Joins Go.Lib
attribute [local go_sem ↓] Go.wp_at_zero Go.wp_at_succ

/-- What the printing asks of memory. -/
def Tabs3 (w : World) : Prop := Tabs w ∧ ∃ m, w.cell? ⟨1, 0, none⟩ = some (.int .i64 m)
theorem Tabs3.one {w : World} (h : Tabs3 w) : Tabs w := h.1
theorem Tabs3.below {w w' : World} (h : Tabs3 w) (hb : RowKit.Below w.heap.size w w') : Tabs3 w' :=
  ⟨h.1.below hb, by obtain ⟨m, e⟩ := h.2; exact ⟨m, (hb.cell (p := ⟨1, 0, none⟩) (World.block_lt_of_cell? _ _ e)).trans e⟩⟩
theorem below_grown (w : World) (k : Nat) (os : Array Obj) : RowKit.Below w.heap.size w (Sort.grow (w.drewN k) os) :=
  ⟨rfl, rfl, rfl, by simp [Sort.grow], fun i hi => by
    show (w.heap ++ os)[i]? = w.heap[i]?
    exact Array.getElem?_append_left hi⟩
theorem fint_to (n : Int) (h0 : -9223372036854775808 ≤ n) (h1 : n ≤ 9223372036854775807) (w : World) (ht : Tabs3 w) :
    Calls Tryz.prog 52 #[.int .i64 n, .int .i64 10] w fun e w' => e = .returned (.string ⟨(itoa n).toArray⟩) ∧ RowKit.Below w.heap.size w w' := by
  refine (Tryz.strconv_FormatInt_10 n h0 h1 w ht.1.2).mono ?_
  rintro e w1 ⟨rfl, k, os, rfl⟩
  exact ⟨rfl, below_grown w k os⟩
theorem repl_to (S : ByteArray) (hS : S.size ≤ 1000) (w : World) (ht : Tabs3 w) :
    Calls Tryz.prog 54 #[.string S, .string ⟨#[39]⟩, .string ⟨#[39, 39]⟩] w fun e w' => e = .returned (.string ⟨(dq S.data.toList).toArray⟩) ∧ RowKit.Below w.heap.size w w' := by
  obtain ⟨m, hm⟩ := ht.2
  have hc : countB S ⟨#[39]⟩ ≤ 1000 := by
    show count S.data.toList [39] ≤ 1000
    rw [count_one]
    refine Nat.le_trans List.count_le_length ?_
    rw [← Lib.size_eq]; exact hS
  have := Tryz.strings_ReplaceAll S ⟨#[39]⟩ ⟨#[39, 39]⟩ m w (by omega) hm (by decide) (by rw [show (⟨#[39, 39]⟩ : ByteArray).size = 2 from rfl]; omega)
  rw [show (⟨#[39]⟩ : ByteArray).data.toList = [39] from rfl, show (⟨#[39, 39]⟩ : ByteArray).data.toList = [39, 39] from rfl, replaceAll_dq] at this
  exact this
set_option maxRecDepth 100000 in
set_option maxHeartbeats 1000000 in
theorem pw_null (k n : Int) (f : Nat) (s : ByteArray)  (C : Hid (∀ w, Calls Tryz.prog 30 #[.agg #[.int .i64 k, .int .i64 n, .float .f64 f, .string s]] w fun e w' => e = .returned (.agg #[.int .i64 0, .int .i64 0, .float .f64 0, .string ⟨#[]⟩]) ∧ RowKit.Below w.heap.size w w')) (w : World) :
    Calls Tryz.prog 18 #[.agg #[.int .i64 k, .int .i64 n, .float .f64 f, .string s]] w fun e w' => e = .returned (.string ⟨#[78, 85, 76, 76]⟩) ∧ RowKit.Below w.heap.size w w' := by
  go_enter Tryz.func18, Tryz.ntmps18
  go_wp2_with (go_at_call 30; with_reducible refine (C.out _).mono ?_; rintro e w1 ⟨rfl, hb⟩; obtain ⟨hc0, hf0, hz0⟩ := newc hb w.heap.size (by first | omega | (simp; done) | (simp; omega)))
  go_ret
  exact ⟨rfl, (by repeat' (first | with_reducible exact Below.refl _ _ | with_reducible refine below_step ?_ (by assumption) | with_reducible apply below_set' | with_reducible apply below_alloc' | with_reducible apply Below.drew | with_reducible apply below_drewN' | (simp; done) | omega | (simp; omega)))⟩
set_option maxRecDepth 100000 in
set_option maxHeartbeats 1000000 in
theorem pw_true (k n : Int) (f : Nat) (s : ByteArray)  (C : Hid (∀ w, Calls Tryz.prog 30 #[.agg #[.int .i64 k, .int .i64 n, .float .f64 f, .string s]] w fun e w' => e = .returned (.agg #[.int .i64 4, .int .i64 1, .float .f64 0, .string ⟨#[]⟩]) ∧ RowKit.Below w.heap.size w w')) (w : World) :
    Calls Tryz.prog 18 #[.agg #[.int .i64 k, .int .i64 n, .float .f64 f, .string s]] w fun e w' => e = .returned (.string ⟨#[84, 82, 85, 69]⟩) ∧ RowKit.Below w.heap.size w w' := by
  go_enter Tryz.func18, Tryz.ntmps18
  go_wp2_with (go_at_call 30; with_reducible refine (C.out _).mono ?_; rintro e w1 ⟨rfl, hb⟩; obtain ⟨hc0, hf0, hz0⟩ := newc hb w.heap.size (by first | omega | (simp; done) | (simp; omega)))
  go_ret
  exact ⟨rfl, (by repeat' (first | with_reducible exact Below.refl _ _ | with_reducible refine below_step ?_ (by assumption) | with_reducible apply below_set' | with_reducible apply below_alloc' | with_reducible apply Below.drew | with_reducible apply below_drewN' | (simp; done) | omega | (simp; omega)))⟩
set_option maxRecDepth 100000 in
set_option maxHeartbeats 1000000 in
theorem pw_false (k n : Int) (f : Nat) (s : ByteArray)  (C : Hid (∀ w, Calls Tryz.prog 30 #[.agg #[.int .i64 k, .int .i64 n, .float .f64 f, .string s]] w fun e w' => e = .returned (.agg #[.int .i64 4, .int .i64 0, .float .f64 0, .string ⟨#[]⟩]) ∧ RowKit.Below w.heap.size w w')) (w : World) :
    Calls Tryz.prog 18 #[.agg #[.int .i64 k, .int .i64 n, .float .f64 f, .string s]] w fun e w' => e = .returned (.string ⟨#[70, 65, 76, 83, 69]⟩) ∧ RowKit.Below w.heap.size w w' := by
  go_enter Tryz.func18, Tryz.ntmps18
  go_wp2_with (go_at_call 30; with_reducible refine (C.out _).mono ?_; rintro e w1 ⟨rfl, hb⟩; obtain ⟨hc0, hf0, hz0⟩ := newc hb w.heap.size (by first | omega | (simp; done) | (simp; omega)))
  go_ret
  exact ⟨rfl, (by repeat' (first | with_reducible exact Below.refl _ _ | with_reducible refine below_step ?_ (by assumption) | with_reducible apply below_set' | with_reducible apply below_alloc' | with_reducible apply Below.drew | with_reducible apply below_drewN' | (simp; done) | omega | (simp; omega)))⟩
set_option maxRecDepth 100000 in
set_option maxHeartbeats 1000000 in
theorem pw_int (k n : Int) (f : Nat) (s : ByteArray) (N : Int) (hN : -9223372036854775808 ≤ N ∧ N ≤ 9223372036854775807) (C : Hid (∀ w, Calls Tryz.prog 30 #[.agg #[.int .i64 k, .int .i64 n, .float .f64 f, .string s]] w fun e w' => e = .returned (.agg #[.int .i64 1, .int .i64 N, .float .f64 0, .string ⟨#[]⟩]) ∧ RowKit.Below w.heap.size w w')) (w : World) (ht : Hid (Tabs3 w)) :
    Calls Tryz.prog 18 #[.agg #[.int .i64 k, .int .i64 n, .float .f64 f, .string s]] w fun e w' => e = .returned (.string ⟨(itoa N).toArray⟩) ∧ RowKit.Below w.heap.size w w' := by
  go_enter Tryz.func18, Tryz.ntmps18
  go_wp2_with (first
    | (go_at_call 30; with_reducible refine (C.out _).mono ?_; rintro e w1 ⟨rfl, hb⟩; obtain ⟨hc0, hf0, hz0⟩ := newc hb w.heap.size (by first | omega | (simp; done) | (simp; omega)))
    | (go_at_call 52; with_reducible refine (fint_to N hN.1 hN.2 _ (ht.out.below ?below)).mono ?_; rotate_right; rintro e w2 ⟨rfl, hb2⟩))
  case below => exact (by repeat' (first | with_reducible exact Below.refl _ _ | with_reducible refine below_step ?_ (by assumption) | with_reducible apply below_set' | with_reducible apply below_alloc' | with_reducible apply Below.drew | with_reducible apply below_drewN' | (simp; done) | omega | (simp; omega)))
  go_ret
  exact ⟨rfl, (by repeat' (first | with_reducible exact Below.refl _ _ | with_reducible refine below_step ?_ (by assumption) | with_reducible apply below_set' | with_reducible apply below_alloc' | with_reducible apply Below.drew | with_reducible apply below_drewN' | (simp; done) | omega | (simp; omega)))⟩
set_option maxRecDepth 100000 in
set_option maxHeartbeats 1000000 in
theorem pw_real (k n : Int) (f : Nat) (s : ByteArray) (N : Int) (F : Nat) (T : ByteArray) (D : Hid (∀ w, Tabs w → Calls Tryz.prog 53 #[.float .f64 F] w fun e w' => e = .returned (.string T) ∧ RowKit.Below w.heap.size w w')) (C : Hid (∀ w, Calls Tryz.prog 30 #[.agg #[.int .i64 k, .int .i64 n, .float .f64 f, .string s]] w fun e w' => e = .returned (.agg #[.int .i64 2, .int .i64 N, .float .f64 F, .string ⟨#[]⟩]) ∧ RowKit.Below w.heap.size w w')) (w : World) (ht : Hid (Tabs3 w)) :
    Calls Tryz.prog 18 #[.agg #[.int .i64 k, .int .i64 n, .float .f64 f, .string s]] w fun e w' => e = .returned (.string T) ∧ RowKit.Below w.heap.size w w' := by
  go_enter Tryz.func18, Tryz.ntmps18
  go_wp2_with (first
    | (go_at_call 30; with_reducible refine (C.out _).mono ?_; rintro e w1 ⟨rfl, hb⟩; obtain ⟨hc0, hf0, hz0⟩ := newc hb w.heap.size (by first | omega | (simp; done) | (simp; omega)))
    | (go_at_call 53; with_reducible refine (D.out _ (ht.out.below ?below).one).mono ?_; rotate_right; rintro e w2 ⟨rfl, hb2⟩))
  case below => exact (by repeat' (first | with_reducible exact Below.refl _ _ | with_reducible refine below_step ?_ (by assumption) | with_reducible apply below_set' | with_reducible apply below_alloc' | with_reducible apply Below.drew | with_reducible apply below_drewN' | (simp; done) | omega | (simp; omega)))
  go_ret
  exact ⟨rfl, (by repeat' (first | with_reducible exact Below.refl _ _ | with_reducible refine below_step ?_ (by assumption) | with_reducible apply below_set' | with_reducible apply below_alloc' | with_reducible apply Below.drew | with_reducible apply below_drewN' | (simp; done) | omega | (simp; omega)))⟩
/-- A text as it is written. -/
def quoted (S : ByteArray) : ByteArray := ⟨(39 :: (dq S.data.toList ++ [39])).toArray⟩
theorem quoted_eq (l : List UInt8) : ((⟨#[39]⟩ : ByteArray) ++ (⟨l.toArray⟩ : ByteArray)) ++ (⟨#[39]⟩ : ByteArray) = ⟨(39 :: (l ++ [39])).toArray⟩ := by
  apply ByteArray.ext
  simp
theorem dq_size (S : ByteArray) (hS : S.size ≤ 1000) : (dq S.data.toList).length ≤ 2000 := by
  have := dq_len S.data.toList
  rw [← Lib.size_eq] at this
  omega
set_option maxRecDepth 100000 in
set_option maxHeartbeats 1000000 in
theorem pw_text (k n : Int) (f : Nat) (s : ByteArray) (N : Int) (F : Nat) (S : ByteArray) (hS : S.size ≤ 1000) (C : Hid (∀ w, Calls Tryz.prog 30 #[.agg #[.int .i64 k, .int .i64 n, .float .f64 f, .string s]] w fun e w' => e = .returned (.agg #[.int .i64 3, .int .i64 N, .float .f64 F, .string S]) ∧ RowKit.Below w.heap.size w w')) (w : World) (ht : Hid (Tabs3 w)) :
    Calls Tryz.prog 18 #[.agg #[.int .i64 k, .int .i64 n, .float .f64 f, .string s]] w fun e w' => e = .returned (.string (quoted S)) ∧ RowKit.Below w.heap.size w w' := by
  go_enter Tryz.func18, Tryz.ntmps18
  go_wp2_with (first
    | (go_at_call 30; with_reducible refine (C.out _).mono ?_; rintro e w1 ⟨rfl, hb⟩; obtain ⟨hc0, hf0, hz0⟩ := newc hb w.heap.size (by first | omega | (simp; done) | (simp; omega)))
    | (go_at_call 54; with_reducible refine (repl_to S hS _ (ht.out.below ?below)).mono ?_; rotate_right; rintro e w2 ⟨rfl, hb2⟩; have hsz := dq_size S hS))
  case below => exact (by repeat' (first | with_reducible exact Below.refl _ _ | with_reducible refine below_step ?_ (by assumption) | with_reducible apply below_set' | with_reducible apply below_alloc' | with_reducible apply Below.drew | with_reducible apply below_drewN' | (simp; done) | omega | (simp; omega)))
  go_ret
  exact ⟨str_ret (quoted_eq _), (by repeat' (first | with_reducible exact Below.refl _ _ | with_reducible refine below_step ?_ (by assumption) | with_reducible apply below_set' | with_reducible apply below_alloc' | with_reducible apply Below.drew | with_reducible apply below_drewN' | (simp; done) | omega | (simp; omega)))⟩
set_option maxRecDepth 100000 in
set_option maxHeartbeats 1000000 in
theorem rw_null (k n : Int) (f : Nat) (s : ByteArray)  (C : Hid (∀ w, Calls Tryz.prog 20 #[.agg #[.int .i64 k, .int .i64 n, .float .f64 f, .string s]] w fun e w' => e = .returned (.agg #[.int .i64 0, .int .i64 0, .float .f64 0, .string ⟨#[]⟩]) ∧ RowKit.Below w.heap.size w w')) (w : World) :
    Calls Tryz.prog 19 #[.agg #[.int .i64 k, .int .i64 n, .float .f64 f, .string s]] w fun e w' => e = .returned (.string ⟨#[78, 85, 76, 76]⟩) ∧ RowKit.Below w.heap.size w w' := by
  go_enter Tryz.func19, Tryz.ntmps19
  go_wp2_with (go_at_call 20; with_reducible refine (C.out _).mono ?_; rintro e w1 ⟨rfl, hb⟩; obtain ⟨hc0, hf0, hz0⟩ := newc hb w.heap.size (by first | omega | (simp; done) | (simp; omega)))
  go_ret
  exact ⟨rfl, (by repeat' (first | with_reducible exact Below.refl _ _ | with_reducible refine below_step ?_ (by assumption) | with_reducible apply below_set' | with_reducible apply below_alloc' | with_reducible apply Below.drew | with_reducible apply below_drewN' | (simp; done) | omega | (simp; omega)))⟩
set_option maxRecDepth 100000 in
set_option maxHeartbeats 1000000 in
theorem rw_true (k n : Int) (f : Nat) (s : ByteArray)  (C : Hid (∀ w, Calls Tryz.prog 20 #[.agg #[.int .i64 k, .int .i64 n, .float .f64 f, .string s]] w fun e w' => e = .returned (.agg #[.int .i64 4, .int .i64 1, .float .f64 0, .string ⟨#[]⟩]) ∧ RowKit.Below w.heap.size w w')) (w : World) :
    Calls Tryz.prog 19 #[.agg #[.int .i64 k, .int .i64 n, .float .f64 f, .string s]] w fun e w' => e = .returned (.string ⟨#[84, 82, 85, 69]⟩) ∧ RowKit.Below w.heap.size w w' := by
  go_enter Tryz.func19, Tryz.ntmps19
  go_wp2_with (go_at_call 20; with_reducible refine (C.out _).mono ?_; rintro e w1 ⟨rfl, hb⟩; obtain ⟨hc0, hf0, hz0⟩ := newc hb w.heap.size (by first | omega | (simp; done) | (simp; omega)))
  go_ret
  exact ⟨rfl, (by repeat' (first | with_reducible exact Below.refl _ _ | with_reducible refine below_step ?_ (by assumption) | with_reducible apply below_set' | with_reducible apply below_alloc' | with_reducible apply Below.drew | with_reducible apply below_drewN' | (simp; done) | omega | (simp; omega)))⟩
set_option maxRecDepth 100000 in
set_option maxHeartbeats 1000000 in
theorem rw_false (k n : Int) (f : Nat) (s : ByteArray)  (C : Hid (∀ w, Calls Tryz.prog 20 #[.agg #[.int .i64 k, .int .i64 n, .float .f64 f, .string s]] w fun e w' => e = .returned (.agg #[.int .i64 4, .int .i64 0, .float .f64 0, .string ⟨#[]⟩]) ∧ RowKit.Below w.heap.size w w')) (w : World) :
    Calls Tryz.prog 19 #[.agg #[.int .i64 k, .int .i64 n, .float .f64 f, .string s]] w fun e w' => e = .returned (.string ⟨#[70, 65, 76, 83, 69]⟩) ∧ RowKit.Below w.heap.size w w' := by
  go_enter Tryz.func19, Tryz.ntmps19
  go_wp2_with (go_at_call 20; with_reducible refine (C.out _).mono ?_; rintro e w1 ⟨rfl, hb⟩; obtain ⟨hc0, hf0, hz0⟩ := newc hb w.heap.size (by first | omega | (simp; done) | (simp; omega)))
  go_ret
  exact ⟨rfl, (by repeat' (first | with_reducible exact Below.refl _ _ | with_reducible refine below_step ?_ (by assumption) | with_reducible apply below_set' | with_reducible apply below_alloc' | with_reducible apply Below.drew | with_reducible apply below_drewN' | (simp; done) | omega | (simp; omega)))⟩
set_option maxRecDepth 100000 in
set_option maxHeartbeats 1000000 in
theorem rw_int (k n : Int) (f : Nat) (s : ByteArray) (N : Int) (hN : -9223372036854775808 ≤ N ∧ N ≤ 9223372036854775807) (C : Hid (∀ w, Calls Tryz.prog 20 #[.agg #[.int .i64 k, .int .i64 n, .float .f64 f, .string s]] w fun e w' => e = .returned (.agg #[.int .i64 1, .int .i64 N, .float .f64 0, .string ⟨#[]⟩]) ∧ RowKit.Below w.heap.size w w')) (w : World) (ht : Hid (Tabs3 w)) :
    Calls Tryz.prog 19 #[.agg #[.int .i64 k, .int .i64 n, .float .f64 f, .string s]] w fun e w' => e = .returned (.string ⟨(itoa N).toArray⟩) ∧ RowKit.Below w.heap.size w w' := by
  go_enter Tryz.func19, Tryz.ntmps19
  go_wp2_with (first
    | (go_at_call 20; with_reducible refine (C.out _).mono ?_; rintro e w1 ⟨rfl, hb⟩; obtain ⟨hc0, hf0, hz0⟩ := newc hb w.heap.size (by first | omega | (simp; done) | (simp; omega)))
    | (go_at_call 52; with_reducible refine (fint_to N hN.1 hN.2 _ (ht.out.below ?below)).mono ?_; rotate_right; rintro e w2 ⟨rfl, hb2⟩))
  case below => exact (by repeat' (first | with_reducible exact Below.refl _ _ | with_reducible refine below_step ?_ (by assumption) | with_reducible apply below_set' | with_reducible apply below_alloc' | with_reducible apply Below.drew | with_reducible apply below_drewN' | (simp; done) | omega | (simp; omega)))
  go_ret
  exact ⟨rfl, (by repeat' (first | with_reducible exact Below.refl _ _ | with_reducible refine below_step ?_ (by assumption) | with_reducible apply below_set' | with_reducible apply below_alloc' | with_reducible apply Below.drew | with_reducible apply below_drewN' | (simp; done) | omega | (simp; omega)))⟩
set_option maxRecDepth 100000 in
set_option maxHeartbeats 1000000 in
theorem rw_nan (k n : Int) (f : Nat) (s : ByteArray) (N : Int) (F : Nat) (hq : feq F F = false) (C : Hid (∀ w, Calls Tryz.prog 20 #[.agg #[.int .i64 k, .int .i64 n, .float .f64 f, .string s]] w fun e w' => e = .returned (.agg #[.int .i64 2, .int .i64 N, .float .f64 F, .string ⟨#[]⟩]) ∧ RowKit.Below w.heap.size w w')) (w : World) :
    Calls Tryz.prog 19 #[.agg #[.int .i64 k, .int .i64 n, .float .f64 f, .string s]] w fun e w' => e = .returned (.string ⟨#[78, 97, 78]⟩) ∧ RowKit.Below w.heap.size w w' := by
  go_enter Tryz.func19, Tryz.ntmps19
  go_wp2_with (first
    | (go_at_call 20; with_reducible refine (C.out _).mono ?_; rintro e w1 ⟨rfl, hb⟩; obtain ⟨hc0, hf0, hz0⟩ := newc hb w.heap.size (by first | omega | (simp; done) | (simp; omega)))
    | (go_at_call 55; with_reducible refine (number_any _ _).mono ?_; rintro e w1 ⟨rfl, rfl⟩; rw [hq]))
  go_ret
  exact ⟨rfl, (by repeat' (first | with_reducible exact Below.refl _ _ | with_reducible refine below_step ?_ (by assumption) | with_reducible apply below_set' | with_reducible apply below_alloc' | with_reducible apply Below.drew | with_reducible apply below_drewN' | (simp; done) | omega | (simp; omega)))⟩
set_option maxRecDepth 100000 in
set_option maxHeartbeats 1000000 in
theorem rw_up (k n : Int) (f : Nat) (s : ByteArray) (N : Int) (F : Nat) (hq : feq F F = true) (h1 : fgt F 9218868437227405311 = true) (C : Hid (∀ w, Calls Tryz.prog 20 #[.agg #[.int .i64 k, .int .i64 n, .float .f64 f, .string s]] w fun e w' => e = .returned (.agg #[.int .i64 2, .int .i64 N, .float .f64 F, .string ⟨#[]⟩]) ∧ RowKit.Below w.heap.size w w')) (w : World) :
    Calls Tryz.prog 19 #[.agg #[.int .i64 k, .int .i64 n, .float .f64 f, .string s]] w fun e w' => e = .returned (.string ⟨#[73, 110, 102]⟩) ∧ RowKit.Below w.heap.size w w' := by
  have g1 : (FloatKind.f64.format.order F 9218868437227405311 == some .gt) = _ := h1
  go_enter Tryz.func19, Tryz.ntmps19
  go_wp2_with (first
    | (go_at_call 20; with_reducible refine (C.out _).mono ?_; rintro e w1 ⟨rfl, hb⟩; obtain ⟨hc0, hf0, hz0⟩ := newc hb w.heap.size (by first | omega | (simp; done) | (simp; omega)))
    | (go_at_call 55; with_reducible refine (number_any _ _).mono ?_; rintro e w1 ⟨rfl, rfl⟩; rw [hq]))
  go_ret
  exact ⟨rfl, (by repeat' (first | with_reducible exact Below.refl _ _ | with_reducible refine below_step ?_ (by assumption) | with_reducible apply below_set' | with_reducible apply below_alloc' | with_reducible apply Below.drew | with_reducible apply below_drewN' | (simp; done) | omega | (simp; omega)))⟩
set_option maxRecDepth 100000 in
set_option maxHeartbeats 1000000 in
theorem rw_down (k n : Int) (f : Nat) (s : ByteArray) (N : Int) (F : Nat) (hq : feq F F = true) (h1 : fgt F 9218868437227405311 = false) (h2 : flt F 18442240474082181119 = true) (C : Hid (∀ w, Calls Tryz.prog 20 #[.agg #[.int .i64 k, .int .i64 n, .float .f64 f, .string s]] w fun e w' => e = .returned (.agg #[.int .i64 2, .int .i64 N, .float .f64 F, .string ⟨#[]⟩]) ∧ RowKit.Below w.heap.size w w')) (w : World) :
    Calls Tryz.prog 19 #[.agg #[.int .i64 k, .int .i64 n, .float .f64 f, .string s]] w fun e w' => e = .returned (.string ⟨#[45, 73, 110, 102]⟩) ∧ RowKit.Below w.heap.size w w' := by
  have g1 : (FloatKind.f64.format.order F 9218868437227405311 == some .gt) = _ := h1
  have g2 : (FloatKind.f64.format.order F 18442240474082181119 == some .lt) = _ := h2
  go_enter Tryz.func19, Tryz.ntmps19
  go_wp2_with (first
    | (go_at_call 20; with_reducible refine (C.out _).mono ?_; rintro e w1 ⟨rfl, hb⟩; obtain ⟨hc0, hf0, hz0⟩ := newc hb w.heap.size (by first | omega | (simp; done) | (simp; omega)))
    | (go_at_call 55; with_reducible refine (number_any _ _).mono ?_; rintro e w1 ⟨rfl, rfl⟩; rw [hq]))
  go_ret
  exact ⟨rfl, (by repeat' (first | with_reducible exact Below.refl _ _ | with_reducible refine below_step ?_ (by assumption) | with_reducible apply below_set' | with_reducible apply below_alloc' | with_reducible apply Below.drew | with_reducible apply below_drewN' | (simp; done) | omega | (simp; omega)))⟩
end Go.Proofs.YtikpgglbfpdhmaaGreatDoor

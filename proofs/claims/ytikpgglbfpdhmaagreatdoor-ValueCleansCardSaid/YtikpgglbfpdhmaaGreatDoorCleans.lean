/- The walk of ValueCleans. -/
import Derived.Test.YtikpgglbfpdhmaaGreatDoorRules
import Derived.Test.YtikpgglbfpdhmaaGreatDoorValE
import Derived.Test.YtikpgglbfpdhmaaGreatDoorValH
import Derived.Test.YtikpgglbfpdhmaaGreatDoorVMore
namespace Go.Proofs.YtikpgglbfpdhmaaGreatDoor
open Go.RowKit Go.Joins
attribute [local go_sem ↓] Go.wp_at_zero Go.wp_at_succ

/-- May a value stand in a column? -/
def fitsB (k : Int) (s : ByteArray) (t : Int) : Bool := decide (cK k = 0) || (decide (cK k = t) && (decide (t = 1) || decide (t = 2) || (decide (t = 3) && decide ((cS k s).size ≤ 16))))
set_option maxHeartbeats 1000000 in
theorem fits_null (k n : Int) (f : Nat) (s : ByteArray) (N : Int) (F : Nat) (S : ByteArray) (t : Int) (H : Cleans k n f s 0 N F S) (w : World) :
    Calls Tryz.prog 31 #[.agg #[.int .i64 k, .int .i64 n, .float .f64 f, .string s], .int .i64 t] w fun e w' => e = .returned (.bool true) ∧ Below w.heap.size w w' := by
  go_enter Tryz.func31, Tryz.ntmps31
  go_wp2_with (go_at_call 30; (with_reducible refine (H.at _).mono ?_); rintro e w1 ⟨rfl, hb⟩; obtain ⟨hc0, hf0, hz0⟩ := newc hb w.heap.size (by first | omega | (simp; done) | (simp; omega)))
  go_ret
  exact ⟨rfl, (by repeat' (first | with_reducible exact Below.refl _ _ | with_reducible refine below_step ?_ (by assumption) | with_reducible apply below_set' | with_reducible apply below_alloc' | with_reducible apply Below.drew | with_reducible apply below_drewN' | (simp; done) | omega | (simp; omega)))⟩
set_option maxHeartbeats 1000000 in
theorem fits_other (k n : Int) (f : Nat) (s : ByteArray) (K N : Int) (F : Nat) (S : ByteArray) (t : Int) (H : Cleans k n f s K N F S) (h0 : (K == 0) = false) (h : (K == t) = false) (w : World) :
    Calls Tryz.prog 31 #[.agg #[.int .i64 k, .int .i64 n, .float .f64 f, .string s], .int .i64 t] w fun e w' => e = .returned (.bool false) ∧ Below w.heap.size w w' := by
  go_enter Tryz.func31, Tryz.ntmps31
  go_wp2_with (go_at_call 30; (with_reducible refine (H.at _).mono ?_); rintro e w1 ⟨rfl, hb⟩; obtain ⟨hc0, hf0, hz0⟩ := newc hb w.heap.size (by first | omega | (simp; done) | (simp; omega)))
  go_ret
  exact ⟨rfl, (by repeat' (first | with_reducible exact Below.refl _ _ | with_reducible refine below_step ?_ (by assumption) | with_reducible apply below_set' | with_reducible apply below_alloc' | with_reducible apply Below.drew | with_reducible apply below_drewN' | (simp; done) | omega | (simp; omega)))⟩
set_option maxHeartbeats 1000000 in
theorem fits_is1 (k n : Int) (f : Nat) (s : ByteArray) (N : Int) (F : Nat) (S : ByteArray) (t : Int) (H : Cleans k n f s 1 N F S) (ht : t = 1) (w : World) :
    Calls Tryz.prog 31 #[.agg #[.int .i64 k, .int .i64 n, .float .f64 f, .string s], .int .i64 t] w fun e w' => e = .returned (.bool true) ∧ Below w.heap.size w w' := by
  subst ht
  go_enter Tryz.func31, Tryz.ntmps31
  go_wp2_with (go_at_call 30; (with_reducible refine (H.at _).mono ?_); rintro e w1 ⟨rfl, hb⟩; obtain ⟨hc0, hf0, hz0⟩ := newc hb w.heap.size (by first | omega | (simp; done) | (simp; omega)))
  go_ret
  exact ⟨rfl, (by repeat' (first | with_reducible exact Below.refl _ _ | with_reducible refine below_step ?_ (by assumption) | with_reducible apply below_set' | with_reducible apply below_alloc' | with_reducible apply Below.drew | with_reducible apply below_drewN' | (simp; done) | omega | (simp; omega)))⟩
set_option maxHeartbeats 1000000 in
theorem fits_is2 (k n : Int) (f : Nat) (s : ByteArray) (N : Int) (F : Nat) (S : ByteArray) (t : Int) (H : Cleans k n f s 2 N F S) (ht : t = 2) (w : World) :
    Calls Tryz.prog 31 #[.agg #[.int .i64 k, .int .i64 n, .float .f64 f, .string s], .int .i64 t] w fun e w' => e = .returned (.bool true) ∧ Below w.heap.size w w' := by
  subst ht
  go_enter Tryz.func31, Tryz.ntmps31
  go_wp2_with (go_at_call 30; (with_reducible refine (H.at _).mono ?_); rintro e w1 ⟨rfl, hb⟩; obtain ⟨hc0, hf0, hz0⟩ := newc hb w.heap.size (by first | omega | (simp; done) | (simp; omega)))
  go_ret
  exact ⟨rfl, (by repeat' (first | with_reducible exact Below.refl _ _ | with_reducible refine below_step ?_ (by assumption) | with_reducible apply below_set' | with_reducible apply below_alloc' | with_reducible apply Below.drew | with_reducible apply below_drewN' | (simp; done) | omega | (simp; omega)))⟩
set_option maxHeartbeats 1000000 in
theorem fits_is3 (k n : Int) (f : Nat) (s : ByteArray) (N : Int) (F : Nat) (S : ByteArray) (t : Int) (H : Cleans k n f s 3 N F S) (ht : t = 3) (w : World) :
    Calls Tryz.prog 31 #[.agg #[.int .i64 k, .int .i64 n, .float .f64 f, .string s], .int .i64 t] w fun e w' => e = .returned (.bool (decide (((S.size : Nat) : Int) ≤ 16))) ∧ Below w.heap.size w w' := by
  subst ht
  go_enter Tryz.func31, Tryz.ntmps31
  go_wp2_with (go_at_call 30; (with_reducible refine (H.at _).mono ?_); rintro e w1 ⟨rfl, hb⟩; obtain ⟨hc0, hf0, hz0⟩ := newc hb w.heap.size (by first | omega | (simp; done) | (simp; omega)))
  go_ret
  exact ⟨rfl, (by repeat' (first | with_reducible exact Below.refl _ _ | with_reducible refine below_step ?_ (by assumption) | with_reducible apply below_set' | with_reducible apply below_alloc' | with_reducible apply Below.drew | with_reducible apply below_drewN' | (simp; done) | omega | (simp; omega)))⟩
set_option maxHeartbeats 1000000 in
theorem fits_is4 (k n : Int) (f : Nat) (s : ByteArray) (N : Int) (F : Nat) (S : ByteArray) (t : Int) (H : Cleans k n f s 4 N F S) (ht : t = 4) (w : World) :
    Calls Tryz.prog 31 #[.agg #[.int .i64 k, .int .i64 n, .float .f64 f, .string s], .int .i64 t] w fun e w' => e = .returned (.bool false) ∧ Below w.heap.size w w' := by
  subst ht
  go_enter Tryz.func31, Tryz.ntmps31
  go_wp2_with (go_at_call 30; (with_reducible refine (H.at _).mono ?_); rintro e w1 ⟨rfl, hb⟩; obtain ⟨hc0, hf0, hz0⟩ := newc hb w.heap.size (by first | omega | (simp; done) | (simp; omega)))
  go_ret
  exact ⟨rfl, (by repeat' (first | with_reducible exact Below.refl _ _ | with_reducible refine below_step ?_ (by assumption) | with_reducible apply below_set' | with_reducible apply below_alloc' | with_reducible apply Below.drew | with_reducible apply below_drewN' | (simp; done) | omega | (simp; omega)))⟩
set_option maxHeartbeats 1000000 in
theorem rfits_null (k n : Int) (f : Nat) (s : ByteArray) (N : Int) (F : Nat) (S : ByteArray) (t : Int) (H : RCleans k n f s 0 N F S) (w : World) :
    Calls Tryz.prog 32 #[.agg #[.int .i64 k, .int .i64 n, .float .f64 f, .string s], .int .i64 t] w fun e w' => e = .returned (.bool true) ∧ Below w.heap.size w w' := by
  go_enter Tryz.func32, Tryz.ntmps32
  go_wp2_with (go_at_call 20; (with_reducible refine (H.at _).mono ?_); rintro e w1 ⟨rfl, hb⟩; obtain ⟨hc0, hf0, hz0⟩ := newc hb w.heap.size (by first | omega | (simp; done) | (simp; omega)))
  go_ret
  exact ⟨rfl, (by repeat' (first | with_reducible exact Below.refl _ _ | with_reducible refine below_step ?_ (by assumption) | with_reducible apply below_set' | with_reducible apply below_alloc' | with_reducible apply Below.drew | with_reducible apply below_drewN' | (simp; done) | omega | (simp; omega)))⟩
set_option maxHeartbeats 1000000 in
theorem rfits_other (k n : Int) (f : Nat) (s : ByteArray) (K N : Int) (F : Nat) (S : ByteArray) (t : Int) (H : RCleans k n f s K N F S) (h0 : (K == 0) = false) (h : (K == t) = false) (w : World) :
    Calls Tryz.prog 32 #[.agg #[.int .i64 k, .int .i64 n, .float .f64 f, .string s], .int .i64 t] w fun e w' => e = .returned (.bool false) ∧ Below w.heap.size w w' := by
  go_enter Tryz.func32, Tryz.ntmps32
  go_wp2_with (go_at_call 20; (with_reducible refine (H.at _).mono ?_); rintro e w1 ⟨rfl, hb⟩; obtain ⟨hc0, hf0, hz0⟩ := newc hb w.heap.size (by first | omega | (simp; done) | (simp; omega)))
  go_ret
  exact ⟨rfl, (by repeat' (first | with_reducible exact Below.refl _ _ | with_reducible refine below_step ?_ (by assumption) | with_reducible apply below_set' | with_reducible apply below_alloc' | with_reducible apply Below.drew | with_reducible apply below_drewN' | (simp; done) | omega | (simp; omega)))⟩
set_option maxHeartbeats 1000000 in
theorem rfits_is1 (k n : Int) (f : Nat) (s : ByteArray) (N : Int) (F : Nat) (S : ByteArray) (t : Int) (H : RCleans k n f s 1 N F S) (ht : t = 1) (w : World) :
    Calls Tryz.prog 32 #[.agg #[.int .i64 k, .int .i64 n, .float .f64 f, .string s], .int .i64 t] w fun e w' => e = .returned (.bool (decide (((S.size : Nat) : Int) ≤ 16))) ∧ Below w.heap.size w w' := by
  subst ht
  go_enter Tryz.func32, Tryz.ntmps32
  go_wp2_with (go_at_call 20; (with_reducible refine (H.at _).mono ?_); rintro e w1 ⟨rfl, hb⟩; obtain ⟨hc0, hf0, hz0⟩ := newc hb w.heap.size (by first | omega | (simp; done) | (simp; omega)))
  go_ret
  exact ⟨rfl, (by repeat' (first | with_reducible exact Below.refl _ _ | with_reducible refine below_step ?_ (by assumption) | with_reducible apply below_set' | with_reducible apply below_alloc' | with_reducible apply Below.drew | with_reducible apply below_drewN' | (simp; done) | omega | (simp; omega)))⟩
set_option maxHeartbeats 1000000 in
theorem rfits_is2 (k n : Int) (f : Nat) (s : ByteArray) (N : Int) (F : Nat) (S : ByteArray) (t : Int) (H : RCleans k n f s 2 N F S) (ht : t = 2) (w : World) :
    Calls Tryz.prog 32 #[.agg #[.int .i64 k, .int .i64 n, .float .f64 f, .string s], .int .i64 t] w fun e w' => e = .returned (.bool (decide (((S.size : Nat) : Int) ≤ 16))) ∧ Below w.heap.size w w' := by
  subst ht
  go_enter Tryz.func32, Tryz.ntmps32
  go_wp2_with (go_at_call 20; (with_reducible refine (H.at _).mono ?_); rintro e w1 ⟨rfl, hb⟩; obtain ⟨hc0, hf0, hz0⟩ := newc hb w.heap.size (by first | omega | (simp; done) | (simp; omega)))
  go_ret
  exact ⟨rfl, (by repeat' (first | with_reducible exact Below.refl _ _ | with_reducible refine below_step ?_ (by assumption) | with_reducible apply below_set' | with_reducible apply below_alloc' | with_reducible apply Below.drew | with_reducible apply below_drewN' | (simp; done) | omega | (simp; omega)))⟩
set_option maxHeartbeats 1000000 in
theorem rfits_is3 (k n : Int) (f : Nat) (s : ByteArray) (N : Int) (F : Nat) (S : ByteArray) (t : Int) (H : RCleans k n f s 3 N F S) (ht : t = 3) (w : World) :
    Calls Tryz.prog 32 #[.agg #[.int .i64 k, .int .i64 n, .float .f64 f, .string s], .int .i64 t] w fun e w' => e = .returned (.bool (decide (((S.size : Nat) : Int) ≤ 16))) ∧ Below w.heap.size w w' := by
  subst ht
  go_enter Tryz.func32, Tryz.ntmps32
  go_wp2_with (go_at_call 20; (with_reducible refine (H.at _).mono ?_); rintro e w1 ⟨rfl, hb⟩; obtain ⟨hc0, hf0, hz0⟩ := newc hb w.heap.size (by first | omega | (simp; done) | (simp; omega)))
  go_ret
  exact ⟨rfl, (by repeat' (first | with_reducible exact Below.refl _ _ | with_reducible refine below_step ?_ (by assumption) | with_reducible apply below_set' | with_reducible apply below_alloc' | with_reducible apply Below.drew | with_reducible apply below_drewN' | (simp; done) | omega | (simp; omega)))⟩
set_option maxHeartbeats 1000000 in
theorem rfits_is4 (k n : Int) (f : Nat) (s : ByteArray) (N : Int) (F : Nat) (S : ByteArray) (t : Int) (H : RCleans k n f s 4 N F S) (ht : t = 4) (w : World) :
    Calls Tryz.prog 32 #[.agg #[.int .i64 k, .int .i64 n, .float .f64 f, .string s], .int .i64 t] w fun e w' => e = .returned (.bool false) ∧ Below w.heap.size w w' := by
  subst ht
  go_enter Tryz.func32, Tryz.ntmps32
  go_wp2_with (go_at_call 20; (with_reducible refine (H.at _).mono ?_); rintro e w1 ⟨rfl, hb⟩; obtain ⟨hc0, hf0, hz0⟩ := newc hb w.heap.size (by first | omega | (simp; done) | (simp; omega)))
  go_ret
  exact ⟨rfl, (by repeat' (first | with_reducible exact Below.refl _ _ | with_reducible refine below_step ?_ (by assumption) | with_reducible apply below_set' | with_reducible apply below_alloc' | with_reducible apply Below.drew | with_reducible apply below_drewN' | (simp; done) | omega | (simp; omega)))⟩
set_option maxRecDepth 100000 in
set_option maxHeartbeats 4000000 in
theorem cleans_long (a : Va) (t : Int) (hs : shortB [a] = false) (w : World) :
    Calls Tryz.prog 8 #[a.val, .int .i64 t] w fun e w' => e = .returned (.bool true) ∧ Below w.heap.size w w' := by
  go_enter Tryz.func8, Tryz.ntmps8
  go_wp2_with fail
  refine (lives_any _).mono ?_
  rintro e w1 ⟨rfl, hb⟩
  obtain ⟨hc0, hf0, hz0⟩ := newc hb w.heap.size (by first | omega | (simp; done) | (simp; omega))
  go_wp2_with fail
  refine (short_is false hs 1 w1.heap.size 0 1 [a] rfl _ (by simp) (row1_at (by simp) (by simp) (by simp) (by simp)) (by decide)).mono ?_
  rintro e w2 ⟨rfl, hb2⟩
  go_wp2_with fail
  refine (lives_any _).mono ?_
  rintro e w3 ⟨rfl, hb3⟩
  go_wp2
  go_ret
  exact ⟨rfl, (by repeat' (first | with_reducible exact Below.refl _ _ | with_reducible refine below_step ?_ (by assumption) | with_reducible apply below_set' | with_reducible apply below_alloc' | with_reducible apply Below.drew | with_reducible apply below_drewN' | (simp; done) | omega | (simp; omega)))⟩
set_option maxRecDepth 100000 in
set_option maxHeartbeats 4000000 in
theorem cleans_short (a : Va) (t : Int) (hs : shortB [a] = true)
    (K M : Int) (F G : Nat) (S : ByteArray) (b : Bool)
    (C1 : Hid (∀ w, Calls Tryz.prog 30 #[.agg #[.int .i64 a.k, .int .i64 a.n, .float .f64 a.f, .string a.s]] w fun e w' => e = .returned (.agg #[.int .i64 K, .int .i64 M, .float .f64 F, .string S]) ∧ Below w.heap.size w w'))
    (C2 : Hid (∀ w, Calls Tryz.prog 20 #[.agg #[.int .i64 a.k, .int .i64 a.n, .float .f64 a.f, .string a.s]] w fun e w' => e = .returned (.agg #[.int .i64 K, .int .i64 M, .float .f64 G, .string S]) ∧ Below w.heap.size w w'))
    (C3 : Hid (∀ w, Calls Tryz.prog 21 #[.agg #[.int .i64 K, .int .i64 M, .float .f64 F, .string S], .agg #[.int .i64 K, .int .i64 M, .float .f64 G, .string S]] w fun e w' => e = .returned (.bool true) ∧ Below w.heap.size w w'))
    (C4 : Hid (∀ w, Calls Tryz.prog 30 #[.agg #[.int .i64 K, .int .i64 M, .float .f64 F, .string S]] w fun e w' => e = .returned (.agg #[.int .i64 K, .int .i64 M, .float .f64 F, .string S]) ∧ Below w.heap.size w w'))
    (C5 : Hid (∀ w, Calls Tryz.prog 21 #[.agg #[.int .i64 K, .int .i64 M, .float .f64 F, .string S], .agg #[.int .i64 K, .int .i64 M, .float .f64 F, .string S]] w fun e w' => e = .returned (.bool true) ∧ Below w.heap.size w w'))
    (C6 : Hid (∀ w, Calls Tryz.prog 31 #[.agg #[.int .i64 a.k, .int .i64 a.n, .float .f64 a.f, .string a.s], .int .i64 t] w fun e w' => e = .returned (.bool b) ∧ Below w.heap.size w w'))
    (C7 : Hid (∀ w, Calls Tryz.prog 32 #[.agg #[.int .i64 a.k, .int .i64 a.n, .float .f64 a.f, .string a.s], .int .i64 t] w fun e w' => e = .returned (.bool b) ∧ Below w.heap.size w w')) (w : World) :
    Calls Tryz.prog 8 #[a.val, .int .i64 t] w fun e w' => e = .returned (.bool true) ∧ Below w.heap.size w w' := by
  go_enter Tryz.func8, Tryz.ntmps8
  go_wp2_with fail
  refine (lives_any _).mono ?_
  rintro e w1 ⟨rfl, hb⟩
  obtain ⟨hc0, hf0, hz0⟩ := newc hb w.heap.size (by first | omega | (simp; done) | (simp; omega))
  go_wp2_with fail
  refine (short_is true hs 1 w1.heap.size 0 1 [a] rfl _ (by simp) (row1_at (by simp) (by simp) (by simp) (by simp)) (by decide)).mono ?_
  rintro e w2 ⟨rfl, hb2⟩
  have hb0 : Below w.heap.size w w2 := (by repeat' (first | with_reducible exact Below.refl _ _ | with_reducible refine below_step ?_ (by assumption) | with_reducible apply below_set' | with_reducible apply below_alloc' | with_reducible apply Below.drew | with_reducible apply below_drewN' | (simp; done) | omega | (simp; omega)))
  obtain ⟨hc0', _, hz0'⟩ := newc hb2 (w.heap.size) (by first | omega | (simp; done) | (simp; omega))
  have p0 : w2.cell? ⟨w.heap.size, 0, none⟩ = some (.int .i64 a.k) := by simp [*, go_sem]
  have p1 : w2.cell? ⟨w.heap.size, 1, none⟩ = some (.int .i64 a.n) := by simp [*, go_sem]
  have p2 : w2.cell? ⟨w.heap.size, 2, none⟩ = some (.float .f64 a.f) := by simp [*, go_sem]
  have p3 : w2.cell? ⟨w.heap.size, 3, none⟩ = some (.string a.s) := by simp [*, go_sem]
  clear hc0 hc0' hf0 hz0 hb hb2
  go_wp2_with fail
  refine (C1.out _).mono ?_
  rintro e w4 ⟨rfl, hb4⟩
  obtain ⟨hc0, _, hz0⟩ := newc hb4 w.heap.size (by first | assumption | omega | (simp; done) | (simp; omega))
  have l1 : w.heap.size < w4.heap.size + 1 := by omega
  have d1 : ¬ w.heap.size = w4.heap.size := by omega
  go_wp2_with fail
  go_region_held3 (fun w' => w'.cell? ⟨w.heap.size, 0, none⟩ = some (.int .i64 a.k) ∧ w'.cell? ⟨w.heap.size, 1, none⟩ = some (.int .i64 a.n) ∧ w'.cell? ⟨w.heap.size, 2, none⟩ = some (.float .f64 a.f) ∧ w'.cell? ⟨w.heap.size, 3, none⟩ = some (.string a.s) ∧ w'.cell? ⟨w4.heap.size, 0, none⟩ = some (.int .i64 K) ∧ w'.cell? ⟨w4.heap.size, 1, none⟩ = some (.int .i64 M) ∧ w'.cell? ⟨w4.heap.size, 2, none⟩ = some (.float .f64 F) ∧ w'.cell? ⟨w4.heap.size, 3, none⟩ = some (.string S)) (((simp [*, World.cell?_alloc_past, go_sem])))
    (first | (go_at_call 20; (with_reducible refine (C2.out _).mono ?_); rintro e w1 ⟨rfl, hb⟩; obtain ⟨hc0, hf0, hz0⟩ := newc hb (w.heap.size) (by first | assumption | omega | (simp; done) | (simp; omega)); obtain ⟨hcw, _, hzw⟩ := newc hb w4.heap.size (by first | assumption | (simp; done) | omega | (simp; omega))) | (go_at_call 21; (with_reducible refine (C3.out _).mono ?_); rintro e w1 ⟨rfl, hb⟩; obtain ⟨hc0, hf0, hz0⟩ := newc hb (w.heap.size) (by first | assumption | omega | (simp; done) | (simp; omega)); obtain ⟨hcw, _, hzw⟩ := newc hb w4.heap.size (by first | assumption | (simp; done) | omega | (simp; omega))) | (go_at_call 30; (with_reducible refine (C4.out _).mono ?_); rintro e w1 ⟨rfl, hb⟩; obtain ⟨hc0, hf0, hz0⟩ := newc hb (w.heap.size) (by first | assumption | omega | (simp; done) | (simp; omega)); obtain ⟨hcw, _, hzw⟩ := newc hb w4.heap.size (by first | assumption | (simp; done) | omega | (simp; omega))) | (go_at_call 21; (with_reducible refine (C5.out _).mono ?_); rintro e w1 ⟨rfl, hb⟩; obtain ⟨hc0, hf0, hz0⟩ := newc hb (w.heap.size) (by first | assumption | omega | (simp; done) | (simp; omega)); obtain ⟨hcw, _, hzw⟩ := newc hb w4.heap.size (by first | assumption | (simp; done) | omega | (simp; omega))) | (go_at_call 31; (with_reducible refine (C6.out _).mono ?_); rintro e w1 ⟨rfl, hb⟩; obtain ⟨hc0, hf0, hz0⟩ := newc hb (w.heap.size) (by first | assumption | omega | (simp; done) | (simp; omega)); obtain ⟨hcw, _, hzw⟩ := newc hb w4.heap.size (by first | assumption | (simp; done) | omega | (simp; omega))) | (go_at_call 32; (with_reducible refine (C7.out _).mono ?_); rintro e w1 ⟨rfl, hb⟩; obtain ⟨hc0, hf0, hz0⟩ := newc hb (w.heap.size) (by first | assumption | omega | (simp; done) | (simp; omega)); obtain ⟨hcw, _, hzw⟩ := newc hb w4.heap.size (by first | assumption | (simp; done) | omega | (simp; omega))))
  go_wp2
  go_ret
  exact ⟨rfl, (by repeat' (first | with_reducible exact Below.refl _ _ | with_reducible refine below_step ?_ (by assumption) | with_reducible apply below_set' | with_reducible apply below_alloc' | with_reducible apply Below.drew | with_reducible apply below_drewN' | (simp; done) | omega | (simp; omega)))⟩
theorem fits_both (a : Va) (t : Int) : ∃ b : Bool, (∀ w, Calls Tryz.prog 31 #[a.val, .int .i64 t] w fun e w' => e = .returned (.bool b) ∧ Below w.heap.size w w') ∧ (∀ w, Calls Tryz.prog 32 #[a.val, .int .i64 t] w fun e w' => e = .returned (.bool b) ∧ Below w.heap.size w w') := by
  have H := cleans a.k a.n a.f a.s
  have R := rcleans a.k a.n a.f a.s
  by_cases h0 : cK a.k = 0
  · rw [h0] at H R
    exact ⟨true, fun w => fits_null _ _ _ _ _ _ _ _ H w, fun w => rfits_null _ _ _ _ _ _ _ _ R w⟩
  · have hr : 0 ≤ cK a.k ∧ cK a.k ≤ 4 := by unfold cK; split <;> omega
    have z0 : (cK a.k == 0) = false := by simp [h0]
    by_cases ht : cK a.k = t
    · have hc : t = 1 ∨ t = 2 ∨ t = 3 ∨ t = 4 := by omega
      have es : t ≠ 3 → cS a.k a.s = ⟨#[]⟩ := fun h => by
        unfold cS; rw [if_neg]; intro e; rw [e] at ht; exact h (ht.symm.trans rfl)
      rw [ht] at H R
      rcases hc with rfl | rfl | rfl | rfl
      · rw [es (by decide)] at H R
        exact ⟨true, fun w => fits_is1 _ _ _ _ _ _ _ _ H rfl w, fun w => rfits_is1 _ _ _ _ _ _ _ _ R rfl w⟩
      · rw [es (by decide)] at H R
        exact ⟨true, fun w => fits_is2 _ _ _ _ _ _ _ _ H rfl w, fun w => rfits_is2 _ _ _ _ _ _ _ _ R rfl w⟩
      · exact ⟨_, fun w => fits_is3 _ _ _ _ _ _ _ _ H rfl w, fun w => rfits_is3 _ _ _ _ _ _ _ _ R rfl w⟩
      · exact ⟨false, fun w => fits_is4 _ _ _ _ _ _ _ _ H rfl w, fun w => rfits_is4 _ _ _ _ _ _ _ _ R rfl w⟩
    · have zt : (cK a.k == t) = false := by simp [ht]
      exact ⟨false, fun w => fits_other _ _ _ _ _ _ _ _ _ H z0 zt w, fun w => rfits_other _ _ _ _ _ _ _ _ _ R z0 zt w⟩
theorem cleans_law (a : Va) (t : Int) (w : World) :
    Calls Tryz.prog 8 #[a.val, .int .i64 t] w fun e w' => e = .returned (.bool true) ∧ Below w.heap.size w w' := by
  cases hs : shortB [a]
  · exact cleans_long a t hs w
  · obtain ⟨b, F1, F2⟩ := fits_both a t
    exact cleans_short a t hs _ _ _ _ _ b (Lib.hid (cleans a.k a.n a.f a.s)) (Lib.hid (rcleans a.k a.n a.f a.s)) (Lib.hid fun w => exact_one _ _ _ _ _ (cF_rF a.k a.f) w) (Lib.hid (cleans_again a.k a.n a.f a.s)) (Lib.hid fun w => exact_one _ _ _ _ _ (FOne.refl _) w) (Lib.hid F1) (Lib.hid F2) w
end Go.Proofs.YtikpgglbfpdhmaaGreatDoor

/- The walk of ValueWrites. -/
import Derived.Test.YtikpgglbfpdhmaaGreatDoorTruths
import Derived.Test.YtikpgglbfpdhmaaGreatDoorWrX
import Derived.Test.YtikpgglbfpdhmaaGreatDoorOpenV
import Derived.Test.YtikpgglbfpdhmaaGreatDoorValE
import Derived.Test.YtikpgglbfpdhmaaGreatDoorValH
import Derived.Test.YtikpgglbfpdhmaaGreatDoorVMore
namespace Go.Proofs.YtikpgglbfpdhmaaGreatDoor
open Go.RowKit Go.Joins
attribute [local go_sem ↓] Go.wp_at_zero Go.wp_at_succ

/-- Both write one text of a real. -/
theorem real_one (f : Nat) (hf : f < 18446744073709551616) (n : Int) (s : ByteArray) : ∃ T : ByteArray,
    (∀ w, Tabs3 w → Calls Tryz.prog 18 #[.agg #[.int .i64 2, .int .i64 n, .float .f64 f, .string s]] w fun e w' => e = .returned (.string T) ∧ Below w.heap.size w w') ∧
    (∀ w, Tabs3 w → Calls Tryz.prog 19 #[.agg #[.int .i64 2, .int .i64 n, .float .f64 f, .string s]] w fun e w' => e = .returned (.string T) ∧ Below w.heap.size w w') := by
  have C := Lib.hid (clean_2 n f s)
  have R := Lib.hid (rclean_2 n f s)
  have hg : freal f < 18446744073709551616 := by unfold freal; split <;> (try split) <;> omega
  rcases freal_rreal f with ⟨h1, h2⟩ | ⟨h1, h2⟩
  · exact ⟨⟨#[78, 97, 78]⟩, fun w ht => pw_real 2 n f s 0 _ _ (Lib.hid fun w _ => digits_nan _ h1 w) C w (Lib.hid ht), fun w ht => rw_nan 2 n f s 0 _ (by rw [feq_self, h2]; rfl) R w⟩
  · rw [← h2] at R
    have hq : feq (freal f) (freal f) = true := by rw [feq_self, h1]; rfl
    generalize freal f = g at *
    cases h3 : fgt g 9218868437227405311 with
    | true => exact ⟨⟨#[73, 110, 102]⟩, fun w ht => pw_real 2 n f s 0 _ _ (Lib.hid fun w _ => digits_up g h1 h3 w) C w (Lib.hid ht), fun w ht => rw_up 2 n f s 0 g hq h3 R w⟩
    | false =>
      cases h4 : flt g 18442240474082181119 with
      | true => exact ⟨⟨#[45, 73, 110, 102]⟩, fun w ht => pw_real 2 n f s 0 _ _ (Lib.hid fun w _ => digits_down g h1 h3 h4 w) C w (Lib.hid ht), fun w ht => rw_down 2 n f s 0 g hq h3 h4 R w⟩
      | false =>
        obtain ⟨S, hS, HS⟩ := fmt_ex g hg h1 h3 h4
        exact ⟨dig S, fun w ht => pw_real 2 n f s 0 g _ (Lib.hid fun w ht => digits_plain g S hS HS h1 h3 h4 w ht) C w (Lib.hid ht), fun w ht => rw_plain 2 n f s 0 g ⟨S.toArray⟩ (by show S.toArray.size ≤ 100; simpa using hS.few) (Lib.hid HS) hq h3 h4 R w (Lib.hid ht)⟩
/-- Both write one text of a value. -/
theorem write_one (a : Va) (ok : a.Ok) (hs : a.s.size ≤ 1000) : ∃ T : ByteArray,
    (∀ w, Tabs3 w → Calls Tryz.prog 18 #[.agg #[.int .i64 a.k, .int .i64 a.n, .float .f64 a.f, .string a.s]] w fun e w' => e = .returned (.string T) ∧ Below w.heap.size w w') ∧
    (∀ w, Tabs3 w → Calls Tryz.prog 19 #[.agg #[.int .i64 a.k, .int .i64 a.n, .float .f64 a.f, .string a.s]] w fun e w' => e = .returned (.string T) ∧ Below w.heap.size w w') := by
  obtain ⟨k, n, f, s⟩ := a
  have okn := ok.n
  have okf := ok.f
  simp only at okn okf hs ⊢
  by_cases h1 : k = 1
  · subst h1
    exact ⟨_, fun w ht => pw_int 1 n f s n okn (Lib.hid (clean_1 n f s)) w (Lib.hid ht), fun w ht => rw_int 1 n f s n okn (Lib.hid (rclean_1 n f s)) w (Lib.hid ht)⟩
  by_cases h2 : k = 2
  · subst h2
    exact real_one f (by omega) n s
  by_cases h3 : k = 3
  · subst h3
    exact ⟨_, fun w ht => pw_text 3 n f s 0 0 s hs (Lib.hid (clean_3 n f s)) w (Lib.hid ht), fun w ht => rw_text 3 n f s 0 0 s hs (Lib.hid (rclean_3 n f s)) w⟩
  by_cases h4 : k = 4
  · subst h4
    by_cases hn : n = 0
    · have c := clean_4 n f s
      have r := rclean_4 n f s
      rw [show b2i (n != 0) = 0 by rw [hn]; rfl] at c
      rw [if_pos hn] at r
      exact ⟨_, fun w _ => pw_false 4 n f s (Lib.hid c) w, fun w _ => rw_false 4 n f s (Lib.hid r) w⟩
    · have c := clean_4 n f s
      have r := rclean_4 n f s
      rw [show b2i (n != 0) = 1 by rw [show (n != 0) = true by simpa using hn]; rfl] at c
      rw [if_neg hn] at r
      exact ⟨_, fun w _ => pw_true 4 n f s (Lib.hid c) w, fun w _ => rw_true 4 n f s (Lib.hid r) w⟩
  · refine ⟨_, fun w _ => pw_null k n f s (Lib.hid fun w => clean_5 k n f s w h1 h2 h3 h4) w, fun w _ => ?_⟩
    by_cases h0 : k = 0
    · subst h0
      exact rw_null 0 n f s (Lib.hid (rclean_0 n f s)) w
    · exact rw_null k n f s (Lib.hid fun w => rclean_5 k n f s w (by omega)) w
set_option maxRecDepth 100000 in
set_option maxHeartbeats 4000000 in
theorem writes_long (a : Va) (hs : shortB [a] = false) (w : World) :
    Calls Tryz.prog 5 #[a.val] w fun e w' => e = .returned (.bool true) ∧ Below w.heap.size w w' := by
  go_enter Tryz.func5, Tryz.ntmps5
  go_wp2_with fail
  refine (lives_any _).mono ?_
  rintro e w1 ⟨rfl, hb⟩
  obtain ⟨hc0, hf0, hz0⟩ := newc hb w.heap.size (by first | omega | (simp; done) | (simp; omega))
  go_wp2_with fail
  refine (short_is false hs 1 w1.heap.size 0 1 [a] rfl _ (by simp) (row1_at (by simp) (by simp) (by simp) (by simp)) (by decide)).mono ?_
  rintro e w2 ⟨rfl, hb2⟩
  go_wp2_with fail
  refine (lives_any _).mono ?_
  rintro e w3 ⟨rfl, hb3⟩
  go_wp2
  go_ret
  exact ⟨rfl, (by repeat' (first | with_reducible exact Below.refl _ _ | with_reducible refine below_step ?_ (by assumption) | with_reducible apply below_set' | with_reducible apply below_alloc' | with_reducible apply Below.drew | with_reducible apply below_drewN' | (simp; done) | omega | (simp; omega)))⟩
set_option maxRecDepth 100000 in
set_option maxHeartbeats 4000000 in
theorem writes_short (a : Va) (hs : shortB [a] = true)
    (T : ByteArray)
    (P1 : Hid (∀ w, Tabs3 w → Calls Tryz.prog 18 #[.agg #[.int .i64 a.k, .int .i64 a.n, .float .f64 a.f, .string a.s]] w fun e w' => e = .returned (.string T) ∧ Below w.heap.size w w'))
    (P2 : Hid (∀ w, Tabs3 w → Calls Tryz.prog 19 #[.agg #[.int .i64 a.k, .int .i64 a.n, .float .f64 a.f, .string a.s]] w fun e w' => e = .returned (.string T) ∧ Below w.heap.size w w')) (w : World) (ht : Hid (Tabs3 w)) :
    Calls Tryz.prog 5 #[a.val] w fun e w' => e = .returned (.bool true) ∧ Below w.heap.size w w' := by
  go_enter Tryz.func5, Tryz.ntmps5
  go_wp2_with fail
  refine (lives_any _).mono ?_
  rintro e w1 ⟨rfl, hb⟩
  obtain ⟨hc0, hf0, hz0⟩ := newc hb w.heap.size (by first | omega | (simp; done) | (simp; omega))
  go_wp2_with fail
  refine (short_is true hs 1 w1.heap.size 0 1 [a] rfl _ (by simp) (row1_at (by simp) (by simp) (by simp) (by simp)) (by decide)).mono ?_
  rintro e w2 ⟨rfl, hb2⟩
  have hb0 : Below w.heap.size w w2 := (by repeat' (first | with_reducible exact Below.refl _ _ | with_reducible refine below_step ?_ (by assumption) | with_reducible apply below_set' | with_reducible apply below_alloc' | with_reducible apply Below.drew | with_reducible apply below_drewN' | (simp; done) | omega | (simp; omega)))
  obtain ⟨hc0', _, hz0'⟩ := newc hb2 (w.heap.size) (by first | omega | (simp; done) | (simp; omega))
  have p0 : w2.cell? ⟨w.heap.size, 0, none⟩ = some (.int .i64 a.k) := by simp [*, go_sem]
  have p1 : w2.cell? ⟨w.heap.size, 1, none⟩ = some (.int .i64 a.n) := by simp [*, go_sem]
  have p2 : w2.cell? ⟨w.heap.size, 2, none⟩ = some (.float .f64 a.f) := by simp [*, go_sem]
  have p3 : w2.cell? ⟨w.heap.size, 3, none⟩ = some (.string a.s) := by simp [*, go_sem]
  clear hc0 hc0' hf0 hz0 hb hb2
  go_wp2_with fail
  go_region_held3 (fun w' => w'.cell? ⟨w.heap.size, 0, none⟩ = some (.int .i64 a.k) ∧ w'.cell? ⟨w.heap.size, 1, none⟩ = some (.int .i64 a.n) ∧ w'.cell? ⟨w.heap.size, 2, none⟩ = some (.float .f64 a.f) ∧ w'.cell? ⟨w.heap.size, 3, none⟩ = some (.string a.s)) ((simp [*, go_sem]))
    (first | (go_at_call 18; (with_reducible refine (P1.out _ (ht.out.below (by repeat' (first | with_reducible exact Below.refl _ _ | with_reducible refine below_step ?_ (by assumption) | with_reducible apply below_set' | with_reducible apply below_alloc' | with_reducible apply Below.drew | with_reducible apply below_drewN' | (simp; done) | omega | (simp; omega))))).mono ?_); rintro e w1 ⟨rfl, hb⟩; obtain ⟨hc0, hf0, hz0⟩ := newc hb (w.heap.size) (by first | assumption | omega | (simp; done) | (simp; omega))) | (go_at_call 19; (with_reducible refine (P2.out _ (ht.out.below (by repeat' (first | with_reducible exact Below.refl _ _ | with_reducible refine below_step ?_ (by assumption) | with_reducible apply below_set' | with_reducible apply below_alloc' | with_reducible apply Below.drew | with_reducible apply below_drewN' | (simp; done) | omega | (simp; omega))))).mono ?_); rintro e w1 ⟨rfl, hb⟩; obtain ⟨hc0, hf0, hz0⟩ := newc hb (w.heap.size) (by first | assumption | omega | (simp; done) | (simp; omega))))
  go_wp2
  go_ret
  exact ⟨rfl, (by repeat' (first | with_reducible exact Below.refl _ _ | with_reducible refine below_step ?_ (by assumption) | with_reducible apply below_set' | with_reducible apply below_alloc' | with_reducible apply Below.drew | with_reducible apply below_drewN' | (simp; done) | omega | (simp; omega)))⟩
theorem writes_any (a : Va) (ok : a.Ok) (w : World) (ht : Tabs3 w) :
    Calls Tryz.prog 5 #[a.val] w fun e w' => e = .returned (.bool true) ∧ Below w.heap.size w w' := by
  cases hs : shortB [a]
  · exact writes_long a hs w
  · obtain ⟨T, h1, h2⟩ := write_one a ok (by unfold shortB at hs; simpa using hs)
    exact writes_short a hs T (Lib.hid h1) (Lib.hid h2) w (Lib.hid ht)
end Go.Proofs.YtikpgglbfpdhmaaGreatDoor

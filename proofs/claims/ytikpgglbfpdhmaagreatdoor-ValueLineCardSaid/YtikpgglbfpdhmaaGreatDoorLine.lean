/- The walk of ValueLine. -/
import Derived.Test.YtikpgglbfpdhmaaGreatDoorLives
import Derived.Test.YtikpgglbfpdhmaaGreatDoorVLine
namespace Go.Proofs.YtikpgglbfpdhmaaGreatDoor
open Go.RowKit Go.Joins
attribute [local go_sem ↓] Go.wp_at_zero Go.wp_at_succ

set_option maxRecDepth 100000 in
set_option maxHeartbeats 2000000 in
theorem line_long (a b c : Va) (hs : shortB [a, b, c] = false) (w : World) :
    Calls Tryz.prog 3 #[.agg #[.int .i64 a.k, .int .i64 a.n, .float .f64 a.f, .string a.s, .int .i64 b.k, .int .i64 b.n, .float .f64 b.f, .string b.s, .int .i64 c.k, .int .i64 c.n, .float .f64 c.f, .string c.s]] w fun e w' => e = .returned (.bool true) ∧ Below w.heap.size w w' := by
  go_enter Tryz.func3, Tryz.ntmps3
  go_wp2_with fail
  refine (lives_any _).mono ?_
  rintro e w1 ⟨rfl, hb⟩
  obtain ⟨hc0, hf0, hz0⟩ := newc hb w.heap.size (by first | omega | (simp; done) | (simp; omega))
  have R : RowAt w1 w.heap.size 0 [a, b, c] := row3_at (row2_at (row1_at (by simp [hc0]) (by simp [hc0]) (by simp [hc0]) (by simp [hc0])) (by simp [hc0]) (by simp [hc0]) (by simp [hc0]) (by simp [hc0])) (by simp [hc0]) (by simp [hc0]) (by simp [hc0]) (by simp [hc0])
  have S0 := short_n 3 w.heap.size 0 3 [a, b, c] rfl w1 hz0 R (by decide)
  rw [hs] at S0
  have S := Lib.hid S0
  clear S0 R hs
  go_wp2_with fail
  refine S.out.mono ?_
  rintro e w2 ⟨rfl, hb2⟩
  go_wp2_with fail
  refine (lives_any _).mono ?_
  rintro e w3 ⟨rfl, hb3⟩
  go_wp2
  go_ret
  exact ⟨rfl, (by repeat' (first | with_reducible exact Below.refl _ _ | with_reducible refine below_step ?_ (by assumption) | with_reducible apply below_set' | with_reducible apply below_alloc' | with_reducible apply Below.drew | with_reducible apply below_drewN' | (simp; done) | omega | (simp; omega)))⟩
set_option maxRecDepth 100000 in
set_option maxHeartbeats 2000000 in
theorem line_short (a b c : Va) (x y z : Int) (hs : shortB [a, b, c] = true)
    (O1 : Hid (∀ w, Calls Tryz.prog 15 #[a.val, b.val] w fun e w' => e = .returned (.int .i64 x) ∧ Below w.heap.size w w'))
    (O2 : Hid (∀ w, Calls Tryz.prog 15 #[b.val, c.val] w fun e w' => e = .returned (.int .i64 y) ∧ Below w.heap.size w w'))
    (O3 : Hid (∀ w, Calls Tryz.prog 15 #[a.val, c.val] w fun e w' => e = .returned (.int .i64 z) ∧ Below w.heap.size w w'))
    (O4 : Hid (∀ w, Calls Tryz.prog 15 #[a.val, a.val] w fun e w' => e = .returned (.int .i64 0) ∧ Below w.heap.size w w'))
    (O5 : Hid (∀ w, Calls Tryz.prog 15 #[b.val, a.val] w fun e w' => e = .returned (.int .i64 (-x)) ∧ Below w.heap.size w w'))
    (hT : Hid (0 < x ∨ (x ≤ 0 ∧ 0 < y) ∨ (x = 0 ∧ y = 0 ∧ z = 0) ∨ (x < 0 ∧ x ≤ 0 ∧ y = 0 ∧ z < 0 ∧ z ≤ 0) ∨ (x = 0 ∧ y < 0 ∧ y ≤ 0 ∧ z < 0 ∧ z ≤ 0) ∨ (x < 0 ∧ x ≤ 0 ∧ y < 0 ∧ y ≤ 0 ∧ z < 0 ∧ z ≤ 0))) (hx0 : -1 ≤ x) (hx1 : x ≤ 1) (w : World) :
    Calls Tryz.prog 3 #[.agg #[.int .i64 a.k, .int .i64 a.n, .float .f64 a.f, .string a.s, .int .i64 b.k, .int .i64 b.n, .float .f64 b.f, .string b.s, .int .i64 c.k, .int .i64 c.n, .float .f64 c.f, .string c.s]] w fun e w' => e = .returned (.bool true) ∧ Below w.heap.size w w' := by
  go_enter Tryz.func3, Tryz.ntmps3
  go_wp2_with fail
  refine (lives_any _).mono ?_
  rintro e w1 ⟨rfl, hb⟩
  obtain ⟨hc0, hf0, hz0⟩ := newc hb w.heap.size (by first | omega | (simp; done) | (simp; omega))
  have R : RowAt w1 w.heap.size 0 [a, b, c] := row3_at (row2_at (row1_at (by simp [hc0]) (by simp [hc0]) (by simp [hc0]) (by simp [hc0])) (by simp [hc0]) (by simp [hc0]) (by simp [hc0]) (by simp [hc0])) (by simp [hc0]) (by simp [hc0]) (by simp [hc0]) (by simp [hc0])
  have S0 := short_n 3 w.heap.size 0 3 [a, b, c] rfl w1 hz0 R (by decide)
  rw [hs] at S0
  have S := Lib.hid S0
  clear S0 R hs
  go_wp2_with fail
  refine S.out.mono ?_
  rintro e w2 ⟨rfl, hb2⟩
  have hb0 : Below w.heap.size w w2 := (by repeat' (first | with_reducible exact Below.refl _ _ | with_reducible refine below_step ?_ (by assumption) | with_reducible apply below_set' | with_reducible apply below_alloc' | with_reducible apply Below.drew | with_reducible apply below_drewN' | (simp; done) | omega | (simp; omega)))
  obtain ⟨hc0', _, hz0'⟩ := newc hb2 w.heap.size hz0
  have p0 : w2.cell? ⟨w.heap.size, 0, none⟩ = some (.int .i64 a.k) := by simp [hc0', hc0]
  have p1 : w2.cell? ⟨w.heap.size, 1, none⟩ = some (.int .i64 a.n) := by simp [hc0', hc0]
  have p2 : w2.cell? ⟨w.heap.size, 2, none⟩ = some (.float .f64 a.f) := by simp [hc0', hc0]
  have p3 : w2.cell? ⟨w.heap.size, 3, none⟩ = some (.string a.s) := by simp [hc0', hc0]
  have p4 : w2.cell? ⟨w.heap.size, 4, none⟩ = some (.int .i64 b.k) := by simp [hc0', hc0]
  have p5 : w2.cell? ⟨w.heap.size, 5, none⟩ = some (.int .i64 b.n) := by simp [hc0', hc0]
  have p6 : w2.cell? ⟨w.heap.size, 6, none⟩ = some (.float .f64 b.f) := by simp [hc0', hc0]
  have p7 : w2.cell? ⟨w.heap.size, 7, none⟩ = some (.string b.s) := by simp [hc0', hc0]
  have p8 : w2.cell? ⟨w.heap.size, 8, none⟩ = some (.int .i64 c.k) := by simp [hc0', hc0]
  have p9 : w2.cell? ⟨w.heap.size, 9, none⟩ = some (.int .i64 c.n) := by simp [hc0', hc0]
  have p10 : w2.cell? ⟨w.heap.size, 10, none⟩ = some (.float .f64 c.f) := by simp [hc0', hc0]
  have p11 : w2.cell? ⟨w.heap.size, 11, none⟩ = some (.string c.s) := by simp [hc0', hc0]
  clear hc0 hc0' hf0 hb hb2 hz0 S
  have l1 : w.heap.size < w2.heap.size + 1 := by omega
  have l2 : w.heap.size < w2.heap.size + 1 + 1 := by omega
  have l3 : w.heap.size < w2.heap.size + 1 + 1 + 1 := by omega
  have d0 : ¬ w.heap.size = w2.heap.size := by omega
  have d1 : ¬ w.heap.size = w2.heap.size + 1 := by omega
  have d2 : ¬ w.heap.size = w2.heap.size + 1 + 1 := by omega
  go_upto_region 3 with fail
  go_cut [3, 4, 5] (fun s3 s4 s5 wx => ∃ A B C : Nat, s3 = .pointer (some ⟨A, 0, none⟩) ∧ s4 = .pointer (some ⟨B, 0, none⟩) ∧ s5 = .pointer (some ⟨C, 0, none⟩) ∧
    (wx.cell? ⟨A, 0, none⟩ = some (.int .i64 a.k) ∧ wx.cell? ⟨A, 1, none⟩ = some (.int .i64 a.n) ∧ wx.cell? ⟨A, 2, none⟩ = some (.float .f64 a.f) ∧ wx.cell? ⟨A, 3, none⟩ = some (.string a.s)) ∧
    (wx.cell? ⟨B, 0, none⟩ = some (.int .i64 b.k) ∧ wx.cell? ⟨B, 1, none⟩ = some (.int .i64 b.n) ∧ wx.cell? ⟨B, 2, none⟩ = some (.float .f64 b.f) ∧ wx.cell? ⟨B, 3, none⟩ = some (.string b.s)) ∧
    (wx.cell? ⟨C, 0, none⟩ = some (.int .i64 c.k) ∧ wx.cell? ⟨C, 1, none⟩ = some (.int .i64 c.n) ∧ wx.cell? ⟨C, 2, none⟩ = some (.float .f64 c.f) ∧ wx.cell? ⟨C, 3, none⟩ = some (.string c.s)) ∧
    A < wx.heap.size ∧ B < wx.heap.size ∧ C < wx.heap.size ∧ Below w.heap.size w wx)
  case first =>
    go_region_held3 (fun w' => w'.cell? ⟨w.heap.size, 0, none⟩ = some (.int .i64 a.k) ∧ w'.cell? ⟨w.heap.size, 1, none⟩ = some (.int .i64 a.n) ∧ w'.cell? ⟨w.heap.size, 2, none⟩ = some (.float .f64 a.f) ∧ w'.cell? ⟨w.heap.size, 3, none⟩ = some (.string a.s) ∧ w'.cell? ⟨w.heap.size, 4, none⟩ = some (.int .i64 b.k) ∧ w'.cell? ⟨w.heap.size, 5, none⟩ = some (.int .i64 b.n) ∧ w'.cell? ⟨w.heap.size, 6, none⟩ = some (.float .f64 b.f) ∧ w'.cell? ⟨w.heap.size, 7, none⟩ = some (.string b.s) ∧ w'.cell? ⟨w.heap.size, 8, none⟩ = some (.int .i64 c.k) ∧ w'.cell? ⟨w.heap.size, 9, none⟩ = some (.int .i64 c.n) ∧ w'.cell? ⟨w.heap.size, 10, none⟩ = some (.float .f64 c.f) ∧ w'.cell? ⟨w.heap.size, 11, none⟩ = some (.string c.s)) (first | (go_keep; done) | (simp [*, World.cell?_alloc_past, go_sem]; done)) (fail)
    all_goals
      go_wp2_with fail
      go_meet
      refine ⟨_, _, _, rfl, rfl, rfl, ⟨?_, ?_, ?_, ?_⟩, ⟨?_, ?_, ?_, ?_⟩, ⟨?_, ?_, ?_, ?_⟩, ?_, ?_, ?_, (by repeat' (first | with_reducible exact Below.refl _ _ | with_reducible refine below_step ?_ (by assumption) | with_reducible apply below_set' | with_reducible apply below_alloc' | with_reducible apply Below.drew | with_reducible apply below_drewN' | (simp; done) | omega | (simp; omega)))⟩
      all_goals first | (simp [*, go_sem]; done) | omega
  case rest =>
    obtain ⟨A, B, C, rfl, rfl, rfl, ⟨a0, a1, a2, a3⟩, ⟨b0, b1, b2, b3⟩, ⟨c0, c1, c2, c3⟩, za, zb, zc, hb1⟩ := hcut
    clear p0 p1 p2 p3 p4 p5 p6 p7 p8 p9 p10 p11 l1 l2 l3 d0 d1 d2 hb0 hz0'
    go_wp2_with fail
    go_region_held3 (fun w' => w'.cell? ⟨A, 0, none⟩ = some (.int .i64 a.k) ∧ w'.cell? ⟨A, 1, none⟩ = some (.int .i64 a.n) ∧ w'.cell? ⟨A, 2, none⟩ = some (.float .f64 a.f) ∧ w'.cell? ⟨A, 3, none⟩ = some (.string a.s) ∧ w'.cell? ⟨B, 0, none⟩ = some (.int .i64 b.k) ∧ w'.cell? ⟨B, 1, none⟩ = some (.int .i64 b.n) ∧ w'.cell? ⟨B, 2, none⟩ = some (.float .f64 b.f) ∧ w'.cell? ⟨B, 3, none⟩ = some (.string b.s) ∧ w'.cell? ⟨C, 0, none⟩ = some (.int .i64 c.k) ∧ w'.cell? ⟨C, 1, none⟩ = some (.int .i64 c.n) ∧ w'.cell? ⟨C, 2, none⟩ = some (.float .f64 c.f) ∧ w'.cell? ⟨C, 3, none⟩ = some (.string c.s)) ((simp [*, go_sem]))
      (first | (go_at_call 15; (with_reducible refine (O1.out _).mono ?_); rintro e w1 ⟨rfl, hb⟩; obtain ⟨ha, _, za⟩ := newc hb A (by assumption); obtain ⟨hb', _, zb⟩ := newc hb B (by assumption); obtain ⟨hc', _, zc⟩ := newc hb C (by assumption)) | (go_at_call 15; (with_reducible refine (O2.out _).mono ?_); rintro e w1 ⟨rfl, hb⟩; obtain ⟨ha, _, za⟩ := newc hb A (by assumption); obtain ⟨hb', _, zb⟩ := newc hb B (by assumption); obtain ⟨hc', _, zc⟩ := newc hb C (by assumption)) | (go_at_call 15; (with_reducible refine (O3.out _).mono ?_); rintro e w1 ⟨rfl, hb⟩; obtain ⟨ha, _, za⟩ := newc hb A (by assumption); obtain ⟨hb', _, zb⟩ := newc hb B (by assumption); obtain ⟨hc', _, zc⟩ := newc hb C (by assumption)))
    go_wp2_with fail
    refine (O4.out _).mono ?_
    rintro e w4 ⟨rfl, hb4⟩
    obtain ⟨ha4, _, za4⟩ := newc hb4 A (by assumption)
    obtain ⟨hb5, _, zb4⟩ := newc hb4 B (by assumption)
    go_wp2_with fail
    refine (O5.out _).mono ?_
    rintro e w5 ⟨rfl, hb6⟩
    rcases hT.out with h1 | ⟨h1, h2⟩ | ⟨h1, h2, h3⟩ | ⟨h1, h1', h2, h3, h3'⟩ | ⟨h1, h2, h2', h3, h3'⟩ | ⟨h1, h1', h2, h2', h3, h3'⟩
    all_goals
      try have ex : (x == 0) = false := beq_eq_false_iff_ne.2 (by omega)
      try have ey : (y == 0) = false := beq_eq_false_iff_ne.2 (by omega)
      try have ez : (z == 0) = false := beq_eq_false_iff_ne.2 (by omega)
      go_wp2
      go_ret
      exact ⟨rfl, (by repeat' (first | with_reducible exact Below.refl _ _ | with_reducible refine below_step ?_ (by assumption) | with_reducible apply below_set' | with_reducible apply below_alloc' | with_reducible apply Below.drew | with_reducible apply below_drewN' | (simp; done) | omega | (simp; omega)))⟩
theorem line_any (a b c : Va) (w : World) :
    Calls Tryz.prog 3 #[.agg #[.int .i64 a.k, .int .i64 a.n, .float .f64 a.f, .string a.s, .int .i64 b.k, .int .i64 b.n, .float .f64 b.f, .string b.s, .int .i64 c.k, .int .i64 c.n, .float .f64 c.f, .string c.s]] w fun e w' => e = .returned (.bool true) ∧ Below w.heap.size w w' := by
  cases hs : shortB [a, b, c]
  · exact line_long a b c hs w
  · have s1 := vord_line.sign a b
    have s2 := vord_line.sign b c
    have s3 := vord_line.sign a c
    have r := vord_line.rise a b c
    have O4 := order_any a a
    rw [vord_line.self] at O4
    have O5 := order_any b a
    rw [vord_line.turn a b] at O5
    unfold Sign at s1 s2 s3
    exact line_short a b c (vord a b) (vord b c) (vord a c) hs (Lib.hid (order_any a b)) (Lib.hid (order_any b c)) (Lib.hid (order_any a c)) (Lib.hid O4) (Lib.hid O5) (Lib.hid (by omega)) (by omega) (by omega) w
end Go.Proofs.YtikpgglbfpdhmaaGreatDoor

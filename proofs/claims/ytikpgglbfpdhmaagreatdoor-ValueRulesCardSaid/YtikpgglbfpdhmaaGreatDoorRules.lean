/- The walk of ValueRules. -/
import Derived.Test.YtikpgglbfpdhmaaGreatDoorTruths
import Derived.Test.YtikpgglbfpdhmaaGreatDoorValE
import Derived.Test.YtikpgglbfpdhmaaGreatDoorValH
import Derived.Test.YtikpgglbfpdhmaaGreatDoorVMore
namespace Go.Proofs.YtikpgglbfpdhmaaGreatDoor
open Go.RowKit Go.Joins
attribute [local go_sem ↓] Go.wp_at_zero Go.wp_at_succ

theorem newest {W w1 : World} {o : Obj} (hb : Below (W.alloc o).heap.size (W.alloc o) w1) : W.heap.size < w1.heap.size := Nat.lt_of_lt_of_le (by simp) hb.size
theorem newest' {W w1 : World} {o : Obj} (hb : Below (W.alloc o).drew.heap.size (W.alloc o).drew w1) : W.heap.size < w1.heap.size := Nat.lt_of_lt_of_le (by simp) hb.size
theorem not_tv {t : Int} (h : Three t) (w : World) : Calls Tryz.prog 38 #[.agg #[.int .i64 (tk t), .int .i64 (tn t), .float .f64 0, .string ⟨#[]⟩]] w fun e w' => e = .returned (.agg #[.int .i64 (tk (not3 t)), .int .i64 (tn (not3 t)), .float .f64 0, .string ⟨#[]⟩]) ∧ Below w.heap.size w w' := by
  have := not_any (tk t) (tn t) 0 ⟨#[]⟩ w
  rw [ptruth_tv h] at this
  exact this
theorem or_tv {t u : Int} (h : Three t) (g : Three u) (w : World) : Calls Tryz.prog 42 #[.agg #[.int .i64 (tk t), .int .i64 (tn t), .float .f64 0, .string ⟨#[]⟩], .agg #[.int .i64 (tk u), .int .i64 (tn u), .float .f64 0, .string ⟨#[]⟩]] w fun e w' => e = .returned (.agg #[.int .i64 (tk (or3 t u)), .int .i64 (tn (or3 t u)), .float .f64 0, .string ⟨#[]⟩]) ∧ Below w.heap.size w w' := by
  have := or_any (tk t) (tn t) 0 ⟨#[]⟩ (tk u) (tn u) 0 ⟨#[]⟩ w
  rw [ptruth_tv h, ptruth_tv g] at this
  exact this
theorem and_tv (k n : Int) (f : Nat) (s : ByteArray) {u : Int} (g : Three u) (w : World) : Calls Tryz.prog 40 #[.agg #[.int .i64 k, .int .i64 n, .float .f64 f, .string s], .agg #[.int .i64 (tk u), .int .i64 (tn u), .float .f64 0, .string ⟨#[]⟩]] w fun e w' => e = .returned (.agg #[.int .i64 (tk (and3 (ptruth k n) u)), .int .i64 (tn (and3 (ptruth k n) u)), .float .f64 0, .string ⟨#[]⟩]) ∧ Below w.heap.size w w' := by
  have := and_any k n f s (tk u) (tn u) 0 ⟨#[]⟩ w
  rw [ptruth_tv g] at this
  exact this
set_option maxRecDepth 100000 in
set_option maxHeartbeats 4000000 in
theorem rules_long (a : Va) (b : Va) (c : Va) (hs : shortB [a, b, c] = false) (w : World) :
    Calls Tryz.prog 11 #[a.val, b.val, c.val] w fun e w' => e = .returned (.bool true) ∧ Below w.heap.size w w' := by
  go_enter Tryz.func11, Tryz.ntmps11
  go_wp2_with fail
  refine (lives_any _).mono ?_
  rintro e w1 ⟨rfl, hb⟩
  obtain ⟨hc0, hf0, hz0⟩ := newc hb w.heap.size (by first | omega | (simp; done) | (simp; omega)); obtain ⟨hc1, hf1, hz1⟩ := newc hb (w.heap.size + 1) (by first | omega | (simp; done) | (simp; omega)); obtain ⟨hc2, hf2, hz2⟩ := newc hb (w.heap.size + 2) (by first | omega | (simp; done) | (simp; omega))
  go_wp2_with fail
  refine (short_is false hs 3 w1.heap.size 0 3 [a, b, c] rfl _ (by simp) (row3_at (row2_at (row1_at (by simp) (by simp) (by simp) (by simp)) (by simp) (by simp) (by simp) (by simp)) (by simp) (by simp) (by simp) (by simp)) (by decide)).mono ?_
  rintro e w2 ⟨rfl, hb2⟩
  go_wp2_with fail
  refine (lives_any _).mono ?_
  rintro e w3 ⟨rfl, hb3⟩
  go_wp2
  go_ret
  exact ⟨rfl, (by repeat' (first | with_reducible exact Below.refl _ _ | with_reducible refine below_step ?_ (by assumption) | with_reducible apply below_set' | with_reducible apply below_alloc' | with_reducible apply Below.drew | with_reducible apply below_drewN' | (simp; done) | omega | (simp; omega)))⟩
set_option maxRecDepth 100000 in
set_option maxHeartbeats 4000000 in
theorem rules_short (a : Va) (b : Va) (c : Va) (hs : shortB [a, b, c] = true)
    (o x u v n na nb : Int)
    (C1 : Hid (∀ w, Calls Tryz.prog 42 #[.agg #[.int .i64 b.k, .int .i64 b.n, .float .f64 b.f, .string b.s], .agg #[.int .i64 c.k, .int .i64 c.n, .float .f64 c.f, .string c.s]] w fun e w' => e = .returned (.agg #[.int .i64 (tk o), .int .i64 (tn o), .float .f64 0, .string ⟨#[]⟩]) ∧ Below w.heap.size w w'))
    (C2 : Hid (∀ w, Calls Tryz.prog 40 #[.agg #[.int .i64 a.k, .int .i64 a.n, .float .f64 a.f, .string a.s], .agg #[.int .i64 (tk o), .int .i64 (tn o), .float .f64 0, .string ⟨#[]⟩]] w fun e w' => e = .returned (.agg #[.int .i64 (tk x), .int .i64 (tn x), .float .f64 0, .string ⟨#[]⟩]) ∧ Below w.heap.size w w'))
    (C3 : Hid (∀ w, Calls Tryz.prog 40 #[.agg #[.int .i64 a.k, .int .i64 a.n, .float .f64 a.f, .string a.s], .agg #[.int .i64 b.k, .int .i64 b.n, .float .f64 b.f, .string b.s]] w fun e w' => e = .returned (.agg #[.int .i64 (tk u), .int .i64 (tn u), .float .f64 0, .string ⟨#[]⟩]) ∧ Below w.heap.size w w'))
    (C4 : Hid (∀ w, Calls Tryz.prog 40 #[.agg #[.int .i64 a.k, .int .i64 a.n, .float .f64 a.f, .string a.s], .agg #[.int .i64 c.k, .int .i64 c.n, .float .f64 c.f, .string c.s]] w fun e w' => e = .returned (.agg #[.int .i64 (tk v), .int .i64 (tn v), .float .f64 0, .string ⟨#[]⟩]) ∧ Below w.heap.size w w'))
    (C5 : Hid (∀ w, Calls Tryz.prog 42 #[.agg #[.int .i64 (tk u), .int .i64 (tn u), .float .f64 0, .string ⟨#[]⟩], .agg #[.int .i64 (tk v), .int .i64 (tn v), .float .f64 0, .string ⟨#[]⟩]] w fun e w' => e = .returned (.agg #[.int .i64 (tk x), .int .i64 (tn x), .float .f64 0, .string ⟨#[]⟩]) ∧ Below w.heap.size w w'))
    (C6 : Hid (∀ w, Calls Tryz.prog 38 #[.agg #[.int .i64 (tk u), .int .i64 (tn u), .float .f64 0, .string ⟨#[]⟩]] w fun e w' => e = .returned (.agg #[.int .i64 (tk n), .int .i64 (tn n), .float .f64 0, .string ⟨#[]⟩]) ∧ Below w.heap.size w w'))
    (C7 : Hid (∀ w, Calls Tryz.prog 38 #[.agg #[.int .i64 a.k, .int .i64 a.n, .float .f64 a.f, .string a.s]] w fun e w' => e = .returned (.agg #[.int .i64 (tk na), .int .i64 (tn na), .float .f64 0, .string ⟨#[]⟩]) ∧ Below w.heap.size w w'))
    (C8 : Hid (∀ w, Calls Tryz.prog 38 #[.agg #[.int .i64 b.k, .int .i64 b.n, .float .f64 b.f, .string b.s]] w fun e w' => e = .returned (.agg #[.int .i64 (tk nb), .int .i64 (tn nb), .float .f64 0, .string ⟨#[]⟩]) ∧ Below w.heap.size w w'))
    (C9 : Hid (∀ w, Calls Tryz.prog 42 #[.agg #[.int .i64 (tk na), .int .i64 (tn na), .float .f64 0, .string ⟨#[]⟩], .agg #[.int .i64 (tk nb), .int .i64 (tn nb), .float .f64 0, .string ⟨#[]⟩]] w fun e w' => e = .returned (.agg #[.int .i64 (tk n), .int .i64 (tn n), .float .f64 0, .string ⟨#[]⟩]) ∧ Below w.heap.size w w'))
    (C10 : Hid (∀ w, Calls Tryz.prog 40 #[.agg #[.int .i64 b.k, .int .i64 b.n, .float .f64 b.f, .string b.s], .agg #[.int .i64 a.k, .int .i64 a.n, .float .f64 a.f, .string a.s]] w fun e w' => e = .returned (.agg #[.int .i64 (tk u), .int .i64 (tn u), .float .f64 0, .string ⟨#[]⟩]) ∧ Below w.heap.size w w')) (w : World) :
    Calls Tryz.prog 11 #[a.val, b.val, c.val] w fun e w' => e = .returned (.bool true) ∧ Below w.heap.size w w' := by
  go_enter Tryz.func11, Tryz.ntmps11
  go_wp2_with fail
  refine (lives_any _).mono ?_
  rintro e w1 ⟨rfl, hb⟩
  obtain ⟨hc0, hf0, hz0⟩ := newc hb w.heap.size (by first | omega | (simp; done) | (simp; omega)); obtain ⟨hc1, hf1, hz1⟩ := newc hb (w.heap.size + 1) (by first | omega | (simp; done) | (simp; omega)); obtain ⟨hc2, hf2, hz2⟩ := newc hb (w.heap.size + 2) (by first | omega | (simp; done) | (simp; omega))
  go_wp2_with fail
  refine (short_is true hs 3 w1.heap.size 0 3 [a, b, c] rfl _ (by simp) (row3_at (row2_at (row1_at (by simp) (by simp) (by simp) (by simp)) (by simp) (by simp) (by simp) (by simp)) (by simp) (by simp) (by simp) (by simp)) (by decide)).mono ?_
  rintro e w2 ⟨rfl, hb2⟩
  have hb0 : Below w.heap.size w w2 := (by repeat' (first | with_reducible exact Below.refl _ _ | with_reducible refine below_step ?_ (by assumption) | with_reducible apply below_set' | with_reducible apply below_alloc' | with_reducible apply Below.drew | with_reducible apply below_drewN' | (simp; done) | omega | (simp; omega)))
  obtain ⟨hc0', _, hz0'⟩ := newc hb2 (w.heap.size) (by first | omega | (simp; done) | (simp; omega))
  obtain ⟨hc1', _, hz1'⟩ := newc hb2 (w.heap.size + 1) (by first | omega | (simp; done) | (simp; omega))
  obtain ⟨hc2', _, hz2'⟩ := newc hb2 (w.heap.size + 1 + 1) (by first | omega | (simp; done) | (simp; omega))
  have p0 : w2.cell? ⟨w.heap.size, 0, none⟩ = some (.int .i64 a.k) := by simp [*, go_sem]
  have p1 : w2.cell? ⟨w.heap.size, 1, none⟩ = some (.int .i64 a.n) := by simp [*, go_sem]
  have p2 : w2.cell? ⟨w.heap.size, 2, none⟩ = some (.float .f64 a.f) := by simp [*, go_sem]
  have p3 : w2.cell? ⟨w.heap.size, 3, none⟩ = some (.string a.s) := by simp [*, go_sem]
  have p4 : w2.cell? ⟨w.heap.size + 1, 0, none⟩ = some (.int .i64 b.k) := by simp [*, go_sem]
  have p5 : w2.cell? ⟨w.heap.size + 1, 1, none⟩ = some (.int .i64 b.n) := by simp [*, go_sem]
  have p6 : w2.cell? ⟨w.heap.size + 1, 2, none⟩ = some (.float .f64 b.f) := by simp [*, go_sem]
  have p7 : w2.cell? ⟨w.heap.size + 1, 3, none⟩ = some (.string b.s) := by simp [*, go_sem]
  have p8 : w2.cell? ⟨w.heap.size + 1 + 1, 0, none⟩ = some (.int .i64 c.k) := by simp [*, go_sem]
  have p9 : w2.cell? ⟨w.heap.size + 1 + 1, 1, none⟩ = some (.int .i64 c.n) := by simp [*, go_sem]
  have p10 : w2.cell? ⟨w.heap.size + 1 + 1, 2, none⟩ = some (.float .f64 c.f) := by simp [*, go_sem]
  have p11 : w2.cell? ⟨w.heap.size + 1 + 1, 3, none⟩ = some (.string c.s) := by simp [*, go_sem]
  clear hc0 hc0' hf0 hz0 hc1 hc1' hf1 hz1 hc2 hc2' hf2 hz2 hb hb2
  go_upto_region 3 with fail
  go_cut [7] (fun s7 wx => ∃ X : Nat, s7 = .pointer (some ⟨X, 0, none⟩) ∧ wx.cell? ⟨X, 0, none⟩ = some (.int .i64 (tk x)) ∧ wx.cell? ⟨X, 1, none⟩ = some (.int .i64 (tn x)) ∧ wx.cell? ⟨X, 2, none⟩ = some (.float .f64 0) ∧ wx.cell? ⟨X, 3, none⟩ = some (.string ⟨#[]⟩) ∧ X < wx.heap.size ∧ wx.cell? ⟨w.heap.size, 0, none⟩ = some (.int .i64 a.k) ∧ wx.cell? ⟨w.heap.size, 1, none⟩ = some (.int .i64 a.n) ∧ wx.cell? ⟨w.heap.size, 2, none⟩ = some (.float .f64 a.f) ∧ wx.cell? ⟨w.heap.size, 3, none⟩ = some (.string a.s) ∧ wx.cell? ⟨w.heap.size + 1, 0, none⟩ = some (.int .i64 b.k) ∧ wx.cell? ⟨w.heap.size + 1, 1, none⟩ = some (.int .i64 b.n) ∧ wx.cell? ⟨w.heap.size + 1, 2, none⟩ = some (.float .f64 b.f) ∧ wx.cell? ⟨w.heap.size + 1, 3, none⟩ = some (.string b.s) ∧ wx.cell? ⟨w.heap.size + 1 + 1, 0, none⟩ = some (.int .i64 c.k) ∧ wx.cell? ⟨w.heap.size + 1 + 1, 1, none⟩ = some (.int .i64 c.n) ∧ wx.cell? ⟨w.heap.size + 1 + 1, 2, none⟩ = some (.float .f64 c.f) ∧ wx.cell? ⟨w.heap.size + 1 + 1, 3, none⟩ = some (.string c.s) ∧ w.heap.size < wx.heap.size ∧ w.heap.size + 1 < wx.heap.size ∧ w.heap.size + 1 + 1 < wx.heap.size ∧ Below w.heap.size w wx)
  case first =>
    go_region_held3 (fun w' => w'.cell? ⟨w.heap.size, 0, none⟩ = some (.int .i64 a.k) ∧ w'.cell? ⟨w.heap.size, 1, none⟩ = some (.int .i64 a.n) ∧ w'.cell? ⟨w.heap.size, 2, none⟩ = some (.float .f64 a.f) ∧ w'.cell? ⟨w.heap.size, 3, none⟩ = some (.string a.s) ∧ w'.cell? ⟨w.heap.size + 1, 0, none⟩ = some (.int .i64 b.k) ∧ w'.cell? ⟨w.heap.size + 1, 1, none⟩ = some (.int .i64 b.n) ∧ w'.cell? ⟨w.heap.size + 1, 2, none⟩ = some (.float .f64 b.f) ∧ w'.cell? ⟨w.heap.size + 1, 3, none⟩ = some (.string b.s) ∧ w'.cell? ⟨w.heap.size + 1 + 1, 0, none⟩ = some (.int .i64 c.k) ∧ w'.cell? ⟨w.heap.size + 1 + 1, 1, none⟩ = some (.int .i64 c.n) ∧ w'.cell? ⟨w.heap.size + 1 + 1, 2, none⟩ = some (.float .f64 c.f) ∧ w'.cell? ⟨w.heap.size + 1 + 1, 3, none⟩ = some (.string c.s)) ((simp [*, go_sem]))
      (first | (go_at_call 42; (with_reducible refine (C1.out _).mono ?_); rintro e w1 ⟨rfl, hb⟩; obtain ⟨hc0, hf0, hz0⟩ := newc hb (w.heap.size) (by first | assumption | omega | (simp; done) | (simp; omega)); obtain ⟨hc1, hf1, hz1⟩ := newc hb (w.heap.size + 1) (by first | assumption | omega | (simp; done) | (simp; omega)); obtain ⟨hc2, hf2, hz2⟩ := newc hb (w.heap.size + 1 + 1) (by first | assumption | omega | (simp; done) | (simp; omega)); obtain ⟨hcg, hfg⟩ := bcell hb; first | (have hx := newest hb) | (have hx := newest' hb) | (have hx := Nat.lt_of_lt_of_le hx hb.size) | skip) | (go_at_call 40; (with_reducible refine (C2.out _).mono ?_); rintro e w1 ⟨rfl, hb⟩; obtain ⟨hc0, hf0, hz0⟩ := newc hb (w.heap.size) (by first | assumption | omega | (simp; done) | (simp; omega)); obtain ⟨hc1, hf1, hz1⟩ := newc hb (w.heap.size + 1) (by first | assumption | omega | (simp; done) | (simp; omega)); obtain ⟨hc2, hf2, hz2⟩ := newc hb (w.heap.size + 1 + 1) (by first | assumption | omega | (simp; done) | (simp; omega)); obtain ⟨hcg, hfg⟩ := bcell hb; first | (have hx := newest hb) | (have hx := newest' hb) | (have hx := Nat.lt_of_lt_of_le hx hb.size) | skip))
    all_goals
      go_wp2_with fail
      go_meet
      refine ⟨_, rfl, ?_⟩
      refine ⟨?_, ?_, ?_, ?_, ?_, ?_, ?_, ?_, ?_, ?_, ?_, ?_, ?_, ?_, ?_, ?_, ?_, ?_, ?_, ?_, ?_⟩
      all_goals first | (simp [*, go_sem]; done) | omega | exact (by repeat' (first | with_reducible exact Below.refl _ _ | with_reducible refine below_step ?_ (by assumption) | with_reducible apply below_set' | with_reducible apply below_alloc' | with_reducible apply Below.drew | with_reducible apply below_drewN' | (simp; done) | omega | (simp; omega)))
  case rest =>
    clear p0 p1 p2 p3 p4 p5 p6 p7 p8 p9 p10 p11 hz0' hz1' hz2' hb0
    obtain ⟨X, rfl, x0, x1, x2, x3, zX, p0, p1, p2, p3, p4, p5, p6, p7, p8, p9, p10, p11, hz0', hz1', hz2', hb0⟩ := hcut
    go_upto_region 4 with fail
    go_cut [8] (fun s8 wx => ∃ Y : Nat, s8 = .pointer (some ⟨Y, 0, none⟩) ∧ wx.cell? ⟨Y, 0, none⟩ = some (.int .i64 (tk x)) ∧ wx.cell? ⟨Y, 1, none⟩ = some (.int .i64 (tn x)) ∧ wx.cell? ⟨Y, 2, none⟩ = some (.float .f64 0) ∧ wx.cell? ⟨Y, 3, none⟩ = some (.string ⟨#[]⟩) ∧ Y < wx.heap.size ∧ wx.cell? ⟨X, 0, none⟩ = some (.int .i64 (tk x)) ∧ wx.cell? ⟨X, 1, none⟩ = some (.int .i64 (tn x)) ∧ wx.cell? ⟨X, 2, none⟩ = some (.float .f64 0) ∧ wx.cell? ⟨X, 3, none⟩ = some (.string ⟨#[]⟩) ∧ X < wx.heap.size ∧ wx.cell? ⟨w.heap.size, 0, none⟩ = some (.int .i64 a.k) ∧ wx.cell? ⟨w.heap.size, 1, none⟩ = some (.int .i64 a.n) ∧ wx.cell? ⟨w.heap.size, 2, none⟩ = some (.float .f64 a.f) ∧ wx.cell? ⟨w.heap.size, 3, none⟩ = some (.string a.s) ∧ wx.cell? ⟨w.heap.size + 1, 0, none⟩ = some (.int .i64 b.k) ∧ wx.cell? ⟨w.heap.size + 1, 1, none⟩ = some (.int .i64 b.n) ∧ wx.cell? ⟨w.heap.size + 1, 2, none⟩ = some (.float .f64 b.f) ∧ wx.cell? ⟨w.heap.size + 1, 3, none⟩ = some (.string b.s) ∧ wx.cell? ⟨w.heap.size + 1 + 1, 0, none⟩ = some (.int .i64 c.k) ∧ wx.cell? ⟨w.heap.size + 1 + 1, 1, none⟩ = some (.int .i64 c.n) ∧ wx.cell? ⟨w.heap.size + 1 + 1, 2, none⟩ = some (.float .f64 c.f) ∧ wx.cell? ⟨w.heap.size + 1 + 1, 3, none⟩ = some (.string c.s) ∧ w.heap.size < wx.heap.size ∧ w.heap.size + 1 < wx.heap.size ∧ w.heap.size + 1 + 1 < wx.heap.size ∧ Below w.heap.size w wx)
    case first =>
      go_region_held3 (fun w' => w'.cell? ⟨w.heap.size, 0, none⟩ = some (.int .i64 a.k) ∧ w'.cell? ⟨w.heap.size, 1, none⟩ = some (.int .i64 a.n) ∧ w'.cell? ⟨w.heap.size, 2, none⟩ = some (.float .f64 a.f) ∧ w'.cell? ⟨w.heap.size, 3, none⟩ = some (.string a.s) ∧ w'.cell? ⟨w.heap.size + 1, 0, none⟩ = some (.int .i64 b.k) ∧ w'.cell? ⟨w.heap.size + 1, 1, none⟩ = some (.int .i64 b.n) ∧ w'.cell? ⟨w.heap.size + 1, 2, none⟩ = some (.float .f64 b.f) ∧ w'.cell? ⟨w.heap.size + 1, 3, none⟩ = some (.string b.s) ∧ w'.cell? ⟨w.heap.size + 1 + 1, 0, none⟩ = some (.int .i64 c.k) ∧ w'.cell? ⟨w.heap.size + 1 + 1, 1, none⟩ = some (.int .i64 c.n) ∧ w'.cell? ⟨w.heap.size + 1 + 1, 2, none⟩ = some (.float .f64 c.f) ∧ w'.cell? ⟨w.heap.size + 1 + 1, 3, none⟩ = some (.string c.s) ∧ w'.cell? ⟨X, 0, none⟩ = some (.int .i64 (tk x)) ∧ w'.cell? ⟨X, 1, none⟩ = some (.int .i64 (tn x)) ∧ w'.cell? ⟨X, 2, none⟩ = some (.float .f64 0) ∧ w'.cell? ⟨X, 3, none⟩ = some (.string ⟨#[]⟩)) ((simp [*, go_sem]))
        (first | (go_at_call 40; (with_reducible refine (C3.out _).mono ?_); rintro e w1 ⟨rfl, hb⟩; obtain ⟨hc0, hf0, hz0⟩ := newc hb (w.heap.size) (by first | assumption | omega | (simp; done) | (simp; omega)); obtain ⟨hc1, hf1, hz1⟩ := newc hb (w.heap.size + 1) (by first | assumption | omega | (simp; done) | (simp; omega)); obtain ⟨hc2, hf2, hz2⟩ := newc hb (w.heap.size + 1 + 1) (by first | assumption | omega | (simp; done) | (simp; omega)); obtain ⟨hcX, _, zX⟩ := newc hb X (by first | assumption | omega | (simp; done) | (simp; omega)); obtain ⟨hcg, hfg⟩ := bcell hb; first | (have hx := newest hb) | (have hx := newest' hb) | (have hx := Nat.lt_of_lt_of_le hx hb.size) | skip) | (go_at_call 40; (with_reducible refine (C4.out _).mono ?_); rintro e w1 ⟨rfl, hb⟩; obtain ⟨hc0, hf0, hz0⟩ := newc hb (w.heap.size) (by first | assumption | omega | (simp; done) | (simp; omega)); obtain ⟨hc1, hf1, hz1⟩ := newc hb (w.heap.size + 1) (by first | assumption | omega | (simp; done) | (simp; omega)); obtain ⟨hc2, hf2, hz2⟩ := newc hb (w.heap.size + 1 + 1) (by first | assumption | omega | (simp; done) | (simp; omega)); obtain ⟨hcX, _, zX⟩ := newc hb X (by first | assumption | omega | (simp; done) | (simp; omega)); obtain ⟨hcg, hfg⟩ := bcell hb; first | (have hx := newest hb) | (have hx := newest' hb) | (have hx := Nat.lt_of_lt_of_le hx hb.size) | skip) | (go_at_call 42; (with_reducible refine (C5.out _).mono ?_); rintro e w1 ⟨rfl, hb⟩; obtain ⟨hc0, hf0, hz0⟩ := newc hb (w.heap.size) (by first | assumption | omega | (simp; done) | (simp; omega)); obtain ⟨hc1, hf1, hz1⟩ := newc hb (w.heap.size + 1) (by first | assumption | omega | (simp; done) | (simp; omega)); obtain ⟨hc2, hf2, hz2⟩ := newc hb (w.heap.size + 1 + 1) (by first | assumption | omega | (simp; done) | (simp; omega)); obtain ⟨hcX, _, zX⟩ := newc hb X (by first | assumption | omega | (simp; done) | (simp; omega)); obtain ⟨hcg, hfg⟩ := bcell hb; first | (have hx := newest hb) | (have hx := newest' hb) | (have hx := Nat.lt_of_lt_of_le hx hb.size) | skip))
      all_goals
        go_wp2_with fail
        go_meet
        refine ⟨_, rfl, ?_⟩
        refine ⟨?_, ?_, ?_, ?_, ?_, ?_, ?_, ?_, ?_, ?_, ?_, ?_, ?_, ?_, ?_, ?_, ?_, ?_, ?_, ?_, ?_, ?_, ?_, ?_, ?_, ?_⟩
        all_goals first | (simp [*, go_sem]; done) | omega | exact (by repeat' (first | with_reducible exact Below.refl _ _ | with_reducible refine below_step ?_ (by assumption) | with_reducible apply below_set' | with_reducible apply below_alloc' | with_reducible apply Below.drew | with_reducible apply below_drewN' | (simp; done) | omega | (simp; omega)))
    case rest =>
      clear x0 x1 x2 x3 zX p0 p1 p2 p3 p4 p5 p6 p7 p8 p9 p10 p11 hz0' hz1' hz2' hb0
      obtain ⟨Y, rfl, y0, y1, y2, y3, zY, x0, x1, x2, x3, zX, p0, p1, p2, p3, p4, p5, p6, p7, p8, p9, p10, p11, hz0', hz1', hz2', hb0⟩ := hcut
      go_wp2_with fail
      go_region_held3 (fun w' => w'.cell? ⟨w.heap.size, 0, none⟩ = some (.int .i64 a.k) ∧ w'.cell? ⟨w.heap.size, 1, none⟩ = some (.int .i64 a.n) ∧ w'.cell? ⟨w.heap.size, 2, none⟩ = some (.float .f64 a.f) ∧ w'.cell? ⟨w.heap.size, 3, none⟩ = some (.string a.s) ∧ w'.cell? ⟨w.heap.size + 1, 0, none⟩ = some (.int .i64 b.k) ∧ w'.cell? ⟨w.heap.size + 1, 1, none⟩ = some (.int .i64 b.n) ∧ w'.cell? ⟨w.heap.size + 1, 2, none⟩ = some (.float .f64 b.f) ∧ w'.cell? ⟨w.heap.size + 1, 3, none⟩ = some (.string b.s) ∧ w'.cell? ⟨w.heap.size + 1 + 1, 0, none⟩ = some (.int .i64 c.k) ∧ w'.cell? ⟨w.heap.size + 1 + 1, 1, none⟩ = some (.int .i64 c.n) ∧ w'.cell? ⟨w.heap.size + 1 + 1, 2, none⟩ = some (.float .f64 c.f) ∧ w'.cell? ⟨w.heap.size + 1 + 1, 3, none⟩ = some (.string c.s) ∧ w'.cell? ⟨X, 0, none⟩ = some (.int .i64 (tk x)) ∧ w'.cell? ⟨X, 1, none⟩ = some (.int .i64 (tn x)) ∧ w'.cell? ⟨X, 2, none⟩ = some (.float .f64 0) ∧ w'.cell? ⟨X, 3, none⟩ = some (.string ⟨#[]⟩) ∧ w'.cell? ⟨Y, 0, none⟩ = some (.int .i64 (tk x)) ∧ w'.cell? ⟨Y, 1, none⟩ = some (.int .i64 (tn x)) ∧ w'.cell? ⟨Y, 2, none⟩ = some (.float .f64 0) ∧ w'.cell? ⟨Y, 3, none⟩ = some (.string ⟨#[]⟩)) ((simp [*, go_sem]))
        (first | (go_at_call 40; (with_reducible refine (C3.out _).mono ?_); rintro e w1 ⟨rfl, hb⟩; obtain ⟨hc0, hf0, hz0⟩ := newc hb (w.heap.size) (by first | assumption | omega | (simp; done) | (simp; omega)); obtain ⟨hc1, hf1, hz1⟩ := newc hb (w.heap.size + 1) (by first | assumption | omega | (simp; done) | (simp; omega)); obtain ⟨hc2, hf2, hz2⟩ := newc hb (w.heap.size + 1 + 1) (by first | assumption | omega | (simp; done) | (simp; omega)); obtain ⟨hcX, _, zX⟩ := newc hb X (by first | assumption | omega | (simp; done) | (simp; omega)); obtain ⟨hcY, _, zY⟩ := newc hb Y (by first | assumption | omega | (simp; done) | (simp; omega)); obtain ⟨hcg, hfg⟩ := bcell hb; first | (have hx := newest hb) | (have hx := newest' hb) | (have hx := Nat.lt_of_lt_of_le hx hb.size) | skip) | (go_at_call 40; (with_reducible refine (C10.out _).mono ?_); rintro e w1 ⟨rfl, hb⟩; obtain ⟨hc0, hf0, hz0⟩ := newc hb (w.heap.size) (by first | assumption | omega | (simp; done) | (simp; omega)); obtain ⟨hc1, hf1, hz1⟩ := newc hb (w.heap.size + 1) (by first | assumption | omega | (simp; done) | (simp; omega)); obtain ⟨hc2, hf2, hz2⟩ := newc hb (w.heap.size + 1 + 1) (by first | assumption | omega | (simp; done) | (simp; omega)); obtain ⟨hcX, _, zX⟩ := newc hb X (by first | assumption | omega | (simp; done) | (simp; omega)); obtain ⟨hcY, _, zY⟩ := newc hb Y (by first | assumption | omega | (simp; done) | (simp; omega)); obtain ⟨hcg, hfg⟩ := bcell hb; first | (have hx := newest hb) | (have hx := newest' hb) | (have hx := Nat.lt_of_lt_of_le hx hb.size) | skip) | (go_at_call 38; (with_reducible refine (C6.out _).mono ?_); rintro e w1 ⟨rfl, hb⟩; obtain ⟨hc0, hf0, hz0⟩ := newc hb (w.heap.size) (by first | assumption | omega | (simp; done) | (simp; omega)); obtain ⟨hc1, hf1, hz1⟩ := newc hb (w.heap.size + 1) (by first | assumption | omega | (simp; done) | (simp; omega)); obtain ⟨hc2, hf2, hz2⟩ := newc hb (w.heap.size + 1 + 1) (by first | assumption | omega | (simp; done) | (simp; omega)); obtain ⟨hcX, _, zX⟩ := newc hb X (by first | assumption | omega | (simp; done) | (simp; omega)); obtain ⟨hcY, _, zY⟩ := newc hb Y (by first | assumption | omega | (simp; done) | (simp; omega)); obtain ⟨hcg, hfg⟩ := bcell hb; first | (have hx := newest hb) | (have hx := newest' hb) | (have hx := Nat.lt_of_lt_of_le hx hb.size) | skip) | (go_at_call 38; (with_reducible refine (C7.out _).mono ?_); rintro e w1 ⟨rfl, hb⟩; obtain ⟨hc0, hf0, hz0⟩ := newc hb (w.heap.size) (by first | assumption | omega | (simp; done) | (simp; omega)); obtain ⟨hc1, hf1, hz1⟩ := newc hb (w.heap.size + 1) (by first | assumption | omega | (simp; done) | (simp; omega)); obtain ⟨hc2, hf2, hz2⟩ := newc hb (w.heap.size + 1 + 1) (by first | assumption | omega | (simp; done) | (simp; omega)); obtain ⟨hcX, _, zX⟩ := newc hb X (by first | assumption | omega | (simp; done) | (simp; omega)); obtain ⟨hcY, _, zY⟩ := newc hb Y (by first | assumption | omega | (simp; done) | (simp; omega)); obtain ⟨hcg, hfg⟩ := bcell hb; first | (have hx := newest hb) | (have hx := newest' hb) | (have hx := Nat.lt_of_lt_of_le hx hb.size) | skip) | (go_at_call 38; (with_reducible refine (C8.out _).mono ?_); rintro e w1 ⟨rfl, hb⟩; obtain ⟨hc0, hf0, hz0⟩ := newc hb (w.heap.size) (by first | assumption | omega | (simp; done) | (simp; omega)); obtain ⟨hc1, hf1, hz1⟩ := newc hb (w.heap.size + 1) (by first | assumption | omega | (simp; done) | (simp; omega)); obtain ⟨hc2, hf2, hz2⟩ := newc hb (w.heap.size + 1 + 1) (by first | assumption | omega | (simp; done) | (simp; omega)); obtain ⟨hcX, _, zX⟩ := newc hb X (by first | assumption | omega | (simp; done) | (simp; omega)); obtain ⟨hcY, _, zY⟩ := newc hb Y (by first | assumption | omega | (simp; done) | (simp; omega)); obtain ⟨hcg, hfg⟩ := bcell hb; first | (have hx := newest hb) | (have hx := newest' hb) | (have hx := Nat.lt_of_lt_of_le hx hb.size) | skip) | (go_at_call 42; (with_reducible refine (C9.out _).mono ?_); rintro e w1 ⟨rfl, hb⟩; obtain ⟨hc0, hf0, hz0⟩ := newc hb (w.heap.size) (by first | assumption | omega | (simp; done) | (simp; omega)); obtain ⟨hc1, hf1, hz1⟩ := newc hb (w.heap.size + 1) (by first | assumption | omega | (simp; done) | (simp; omega)); obtain ⟨hc2, hf2, hz2⟩ := newc hb (w.heap.size + 1 + 1) (by first | assumption | omega | (simp; done) | (simp; omega)); obtain ⟨hcX, _, zX⟩ := newc hb X (by first | assumption | omega | (simp; done) | (simp; omega)); obtain ⟨hcY, _, zY⟩ := newc hb Y (by first | assumption | omega | (simp; done) | (simp; omega)); obtain ⟨hcg, hfg⟩ := bcell hb; first | (have hx := newest hb) | (have hx := newest' hb) | (have hx := Nat.lt_of_lt_of_le hx hb.size) | skip) | (go_at_call 21; (with_reducible refine (exact_same _ _ _).mono ?_); rintro e w1 ⟨rfl, hb⟩; obtain ⟨hc0, hf0, hz0⟩ := newc hb (w.heap.size) (by first | assumption | omega | (simp; done) | (simp; omega)); obtain ⟨hc1, hf1, hz1⟩ := newc hb (w.heap.size + 1) (by first | assumption | omega | (simp; done) | (simp; omega)); obtain ⟨hc2, hf2, hz2⟩ := newc hb (w.heap.size + 1 + 1) (by first | assumption | omega | (simp; done) | (simp; omega)); obtain ⟨hcX, _, zX⟩ := newc hb X (by first | assumption | omega | (simp; done) | (simp; omega)); obtain ⟨hcY, _, zY⟩ := newc hb Y (by first | assumption | omega | (simp; done) | (simp; omega)); obtain ⟨hcg, hfg⟩ := bcell hb; first | (have hx := newest hb) | (have hx := newest' hb) | (have hx := Nat.lt_of_lt_of_le hx hb.size) | skip))
      go_wp2
      go_ret
      exact ⟨rfl, (by repeat' (first | with_reducible exact Below.refl _ _ | with_reducible refine below_step ?_ (by assumption) | with_reducible apply below_set' | with_reducible apply below_alloc' | with_reducible apply Below.drew | with_reducible apply below_drewN' | (simp; done) | omega | (simp; omega)))⟩
theorem and3_comm (t u : Int) : and3 t u = and3 u t := by unfold and3; simp only [Or.comm]
theorem rules_dist {t u v : Int} (h : Three t) (g : Three u) (k : Three v) : or3 (and3 t u) (and3 t v) = and3 t (or3 u v) := by rcases h with rfl | rfl | rfl <;> rcases g with rfl | rfl | rfl <;> rcases k with rfl | rfl | rfl <;> decide
theorem rules_morgan {t u : Int} (h : Three t) (g : Three u) : or3 (not3 t) (not3 u) = not3 (and3 t u) := by rcases h with rfl | rfl | rfl <;> rcases g with rfl | rfl | rfl <;> decide
theorem or3_three {t u : Int} (h : Three t) (g : Three u) : Three (or3 t u) := by unfold or3; exact not3_three (and3_three (not3_three h) (not3_three g))
theorem rules_any (a : Va) (b : Va) (c : Va) (w : World) :
    Calls Tryz.prog 11 #[a.val, b.val, c.val] w fun e w' => e = .returned (.bool true) ∧ Below w.heap.size w w' := by
  cases hs : shortB [a, b, c]
  · exact rules_long a b c hs w
  · have g1 := ptruth_three a.k a.n
    have g2 := ptruth_three b.k b.n
    have g3 := ptruth_three c.k c.n
    have C1 := fun w => or_any b.k b.n b.f b.s c.k c.n c.f c.s w
    have C2 := fun w => and_tv a.k a.n a.f a.s (or3_three g2 g3) w
    have C3 := fun w => and_any a.k a.n a.f a.s b.k b.n b.f b.s w
    have C4 := fun w => and_any a.k a.n a.f a.s c.k c.n c.f c.s w
    have C5 := fun w => or_tv (and3_three g1 g2) (and3_three g1 g3) w
    have C6 := fun w => not_tv (and3_three g1 g2) w
    have C7 := fun w => not_any a.k a.n a.f a.s w
    have C8 := fun w => not_any b.k b.n b.f b.s w
    have C9 := fun w => or_tv (not3_three g1) (not3_three g2) w
    have C10 := fun w => and_any b.k b.n b.f b.s a.k a.n a.f a.s w
    rw [rules_dist g1 g2 g3] at C5
    rw [rules_morgan g1 g2] at C9
    rw [and3_comm (ptruth b.k b.n)] at C10
    exact rules_short a b c hs _ _ _ _ _ _ _ (Lib.hid C1) (Lib.hid C2) (Lib.hid C3) (Lib.hid C4) (Lib.hid C5) (Lib.hid C6) (Lib.hid C7) (Lib.hid C8) (Lib.hid C9) (Lib.hid C10) w
end Go.Proofs.YtikpgglbfpdhmaaGreatDoor

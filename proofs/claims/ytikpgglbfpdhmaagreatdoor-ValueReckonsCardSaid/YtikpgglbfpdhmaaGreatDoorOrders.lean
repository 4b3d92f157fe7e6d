/- The walk of ValueOrders. -/
import Derived.Test.YtikpgglbfpdhmaaGreatDoorTruths
import Derived.Test.YtikpgglbfpdhmaaGreatDoorValE
import Derived.Test.YtikpgglbfpdhmaaGreatDoorValH
import Derived.Test.YtikpgglbfpdhmaaGreatDoorVMore
namespace Go.Proofs.YtikpgglbfpdhmaaGreatDoor
open Go.RowKit Go.Joins
attribute [local go_sem ↓] Go.wp_at_zero Go.wp_at_succ

/-- What stays, round by round: two boxed values, a list of texts. -/
def LoopAt (w : World) (a b : Va) (L : Nat) (ops : List ByteArray) (wr : World) : Prop :=
  Below w.heap.size w wr ∧ wr.cell? ⟨w.heap.size, 0, none⟩ = some (.int .i64 a.k) ∧ wr.cell? ⟨w.heap.size, 1, none⟩ = some (.int .i64 a.n) ∧ wr.cell? ⟨w.heap.size, 2, none⟩ = some (.float .f64 a.f) ∧ wr.cell? ⟨w.heap.size, 3, none⟩ = some (.string a.s) ∧ wr.cell? ⟨w.heap.size + 1, 0, none⟩ = some (.int .i64 b.k) ∧ wr.cell? ⟨w.heap.size + 1, 1, none⟩ = some (.int .i64 b.n) ∧ wr.cell? ⟨w.heap.size + 1, 2, none⟩ = some (.float .f64 b.f) ∧ wr.cell? ⟨w.heap.size + 1, 3, none⟩ = some (.string b.s) ∧ w.heap.size < wr.heap.size ∧ w.heap.size + 1 < wr.heap.size ∧ L < wr.heap.size ∧ ∀ j s, ops[j]? = some s → wr.cell? ⟨L, j, none⟩ = some (.string s)
theorem LoopAt.step {w : World} {a b : Va} {L : Nat} {ops : List ByteArray} {wr w' : World} (h : LoopAt w a b L ops wr) (hb : Below wr.heap.size wr w') : LoopAt w a b L ops w' := by
  obtain ⟨h0, p0, p1, p2, p3, p4, p5, p6, p7, z0, z1, zL, hl⟩ := h
  obtain ⟨c0, _, s0⟩ := newc hb _ z0
  obtain ⟨c1, _, s1⟩ := newc hb _ z1
  obtain ⟨cL, _, sL⟩ := newc hb _ zL
  exact ⟨below_step h0 hb, by rw [c0]; exact p0, by rw [c0]; exact p1, by rw [c0]; exact p2, by rw [c0]; exact p3, by rw [c1]; exact p4, by rw [c1]; exact p5, by rw [c1]; exact p6, by rw [c1]; exact p7, s0, s1, sL, fun j s hj => by rw [cL]; exact hl j s hj⟩
theorem same_any (a b : Va) (w : World) :
    Calls Tryz.prog 29 #[a.val, b.val] w fun e w' => e = .returned (.bool (vord a b == 0)) ∧ Below w.heap.size w w' := by
  go_enter Tryz.func29, Tryz.ntmps29
  go_wp2_with (go_at_call 15; (with_reducible refine (order_any a b _).mono ?_); rintro e w1 ⟨rfl, hb⟩)
  go_ret
  exact ⟨rfl, (by repeat' (first | with_reducible exact Below.refl _ _ | with_reducible refine below_step ?_ (by assumption) | with_reducible apply below_set' | with_reducible apply below_alloc' | with_reducible apply Below.drew | with_reducible apply below_drewN' | (simp; done) | omega | (simp; omega)))⟩
set_option maxRecDepth 100000 in
set_option maxHeartbeats 4000000 in
theorem orders_long (a : Va) (b : Va) (op : ByteArray) (hs : shortB [a, b] = false) (w : World) :
    Calls Tryz.prog 7 #[a.val, b.val, .string op] w fun e w' => e = .returned (.bool true) ∧ Below w.heap.size w w' := by
  go_enter Tryz.func7, Tryz.ntmps7
  go_wp2_with fail
  refine (lives_any _).mono ?_
  rintro e w1 ⟨rfl, hb⟩
  obtain ⟨hc0, hf0, hz0⟩ := newc hb w.heap.size (by first | omega | (simp; done) | (simp; omega)); obtain ⟨hc1, hf1, hz1⟩ := newc hb (w.heap.size + 1) (by first | omega | (simp; done) | (simp; omega))
  go_wp2_with fail
  refine (short_is false hs 2 w1.heap.size 0 2 [a, b] rfl _ (by simp) (row2_at (row1_at (by simp) (by simp) (by simp) (by simp)) (by simp) (by simp) (by simp) (by simp)) (by decide)).mono ?_
  rintro e w2 ⟨rfl, hb2⟩
  go_wp2_with fail
  refine (lives_any _).mono ?_
  rintro e w3 ⟨rfl, hb3⟩
  go_wp2
  go_ret
  exact ⟨rfl, (by repeat' (first | with_reducible exact Below.refl _ _ | with_reducible refine below_step ?_ (by assumption) | with_reducible apply below_set' | with_reducible apply below_alloc' | with_reducible apply Below.drew | with_reducible apply below_drewN' | (simp; done) | omega | (simp; omega)))⟩
set_option maxRecDepth 100000 in
set_option maxHeartbeats 4000000 in
theorem orders_short (a : Va) (b : Va) (op : ByteArray) (hs : shortB [a, b] = true)
    (r : Int)
    (O1 : Hid (∀ w, Calls Tryz.prog 15 #[.agg #[.int .i64 a.k, .int .i64 a.n, .float .f64 a.f, .string a.s], .agg #[.int .i64 b.k, .int .i64 b.n, .float .f64 b.f, .string b.s]] w fun e w' => e = .returned (.int .i64 r) ∧ Below w.heap.size w w'))
    (O2 : Hid (∀ w, Calls Tryz.prog 28 #[.agg #[.int .i64 a.k, .int .i64 a.n, .float .f64 a.f, .string a.s], .agg #[.int .i64 b.k, .int .i64 b.n, .float .f64 b.f, .string b.s]] w fun e w' => e = .returned (.int .i64 r) ∧ Below w.heap.size w w'))
    (O3 : Hid (∀ w, Calls Tryz.prog 29 #[.agg #[.int .i64 a.k, .int .i64 a.n, .float .f64 a.f, .string a.s], .agg #[.int .i64 b.k, .int .i64 b.n, .float .f64 b.f, .string b.s]] w fun e w' => e = .returned (.bool (r == 0)) ∧ Below w.heap.size w w')) (w : World) :
    Calls Tryz.prog 7 #[a.val, b.val, .string op] w fun e w' => e = .returned (.bool true) ∧ Below w.heap.size w w' := by
  go_enter Tryz.func7, Tryz.ntmps7
  go_wp2_with fail
  refine (lives_any _).mono ?_
  rintro e w1 ⟨rfl, hb⟩
  obtain ⟨hc0, hf0, hz0⟩ := newc hb w.heap.size (by first | omega | (simp; done) | (simp; omega)); obtain ⟨hc1, hf1, hz1⟩ := newc hb (w.heap.size + 1) (by first | omega | (simp; done) | (simp; omega))
  go_wp2_with fail
  refine (short_is true hs 2 w1.heap.size 0 2 [a, b] rfl _ (by simp) (row2_at (row1_at (by simp) (by simp) (by simp) (by simp)) (by simp) (by simp) (by simp) (by simp)) (by decide)).mono ?_
  rintro e w2 ⟨rfl, hb2⟩
  have hb0 : Below w.heap.size w w2 := (by repeat' (first | with_reducible exact Below.refl _ _ | with_reducible refine below_step ?_ (by assumption) | with_reducible apply below_set' | with_reducible apply below_alloc' | with_reducible apply Below.drew | with_reducible apply below_drewN' | (simp; done) | omega | (simp; omega)))
  obtain ⟨hc0', _, hz0'⟩ := newc hb2 (w.heap.size) (by first | omega | (simp; done) | (simp; omega))
  obtain ⟨hc1', _, hz1'⟩ := newc hb2 (w.heap.size + 1) (by first | omega | (simp; done) | (simp; omega))
  have p0 : w2.cell? ⟨w.heap.size, 0, none⟩ = some (.int .i64 a.k) := by simp [*, go_sem]
  have p1 : w2.cell? ⟨w.heap.size, 1, none⟩ = some (.int .i64 a.n) := by simp [*, go_sem]
  have p2 : w2.cell? ⟨w.heap.size, 2, none⟩ = some (.float .f64 a.f) := by simp [*, go_sem]
  have p3 : w2.cell? ⟨w.heap.size, 3, none⟩ = some (.string a.s) := by simp [*, go_sem]
  have p4 : w2.cell? ⟨w.heap.size + 1, 0, none⟩ = some (.int .i64 b.k) := by simp [*, go_sem]
  have p5 : w2.cell? ⟨w.heap.size + 1, 1, none⟩ = some (.int .i64 b.n) := by simp [*, go_sem]
  have p6 : w2.cell? ⟨w.heap.size + 1, 2, none⟩ = some (.float .f64 b.f) := by simp [*, go_sem]
  have p7 : w2.cell? ⟨w.heap.size + 1, 3, none⟩ = some (.string b.s) := by simp [*, go_sem]
  clear hc0 hc0' hf0 hz0 hc1 hc1' hf1 hz1 hb hb2
  have l0 : w.heap.size < w2.heap.size + 1 := by omega
  have l1 : w.heap.size + 1 < w2.heap.size + 1 := by omega
  have d0 : ¬ w.heap.size = w2.heap.size := by omega
  have d1 : ¬ w.heap.size + 1 = w2.heap.size := by omega
  go_wp2_with fail
  go_loopw [22] (fun i wr => ∃ k : Nat, k ≤ 7 ∧ i = .int .i64 k ∧ LoopAt w a b w2.heap.size [op, ⟨#[61]⟩, ⟨#[60, 62]⟩, ⟨#[60]⟩, ⟨#[60, 61]⟩, ⟨#[62]⟩, ⟨#[62, 61]⟩] wr) (fun i _ => 7 - (intOf i).toNat)
  case atStart =>
    refine ⟨0, Nat.zero_le _, rfl, (by repeat' (first | with_reducible exact Below.refl _ _ | with_reducible refine below_step ?_ (by assumption) | with_reducible apply below_set' | with_reducible apply below_alloc' | with_reducible apply Below.drew | with_reducible apply below_drewN' | (simp; done) | omega | (simp; omega))), ?_, ?_, ?_, ?_, ?_, ?_, ?_, ?_, ?_, ?_, ?_, ?_⟩
    all_goals first | (simp [*, World.cell?_alloc_past, go_sem]; done) | omega | skip
    intro j s hj
    have hl : j < 7 := by
      rcases Nat.lt_or_ge j 7 with h | h
      · exact h
      · rw [List.getElem?_eq_none (by simpa using h)] at hj; cases hj
    match j, hl, hj with
    | 0, _, hj => cases hj; simp
    | 1, _, hj => cases hj; simp
    | 2, _, hj => cases hj; simp
    | 3, _, hj => cases hj; simp
    | 4, _, hj => cases hj; simp
    | 5, _, hj => cases hj; simp
    | 6, _, hj => cases hj; simp
  case round =>
    obtain ⟨k, hk, rfl, hR⟩ := hrel
    clear p0 p1 p2 p3 p4 p5 p6 p7 hz0' hz1' hb0 l0 l1 d0 d1
    have hR' := hR
    obtain ⟨hb0, p0, p1, p2, p3, p4, p5, p6, p7, z0, z1, zL, hl⟩ := hR'
    by_cases hlt : k < 7
    · have hs0 : ∃ s, [op, ⟨#[61]⟩, ⟨#[60, 62]⟩, ⟨#[60]⟩, ⟨#[60, 61]⟩, ⟨#[62]⟩, ⟨#[62, 61]⟩][k]? = some s := ⟨_, List.getElem?_eq_getElem (by simpa using hlt)⟩
      obtain ⟨s, hs0⟩ := hs0
      have q := hl k s hs0
      clear hl hs0
      obtain ⟨K, M, B1, B2⟩ := compare_both s a b
      have G1 := Lib.hid B1
      have G2 := Lib.hid B2
      clear B1 B2
      go_wp2_with fail
      go_region_held3 (fun w' => w'.cell? ⟨w.heap.size, 0, none⟩ = some (.int .i64 a.k) ∧ w'.cell? ⟨w.heap.size, 1, none⟩ = some (.int .i64 a.n) ∧ w'.cell? ⟨w.heap.size, 2, none⟩ = some (.float .f64 a.f) ∧ w'.cell? ⟨w.heap.size, 3, none⟩ = some (.string a.s) ∧ w'.cell? ⟨w.heap.size + 1, 0, none⟩ = some (.int .i64 b.k) ∧ w'.cell? ⟨w.heap.size + 1, 1, none⟩ = some (.int .i64 b.n) ∧ w'.cell? ⟨w.heap.size + 1, 2, none⟩ = some (.float .f64 b.f) ∧ w'.cell? ⟨w.heap.size + 1, 3, none⟩ = some (.string b.s)) ((simp [*, go_sem]))
        (first | (go_at_call 26; (with_reducible refine (G1.out _).mono ?_); rintro e w1 ⟨rfl, hb⟩; obtain ⟨hc0, hf0, hz0⟩ := newc hb (w.heap.size) (by first | assumption | omega | (simp; done) | (simp; omega)); obtain ⟨hc1, hf1, hz1⟩ := newc hb (w.heap.size + 1) (by first | assumption | omega | (simp; done) | (simp; omega))) | (go_at_call 27; (with_reducible refine (G2.out _).mono ?_); rintro e w1 ⟨rfl, hb⟩; obtain ⟨hc0, hf0, hz0⟩ := newc hb (w.heap.size) (by first | assumption | omega | (simp; done) | (simp; omega)); obtain ⟨hc1, hf1, hz1⟩ := newc hb (w.heap.size + 1) (by first | assumption | omega | (simp; done) | (simp; omega))) | (go_at_call 21; (with_reducible refine (exact_same _ _ _).mono ?_); rintro e w1 ⟨rfl, hb⟩; obtain ⟨hc0, hf0, hz0⟩ := newc hb (w.heap.size) (by first | assumption | omega | (simp; done) | (simp; omega)); obtain ⟨hc1, hf1, hz1⟩ := newc hb (w.heap.size + 1) (by first | assumption | omega | (simp; done) | (simp; omega))))
      go_wp2
      exact ⟨⟨k + 1, by omega, by go_num, hR.step (by repeat' (first | with_reducible exact Below.refl _ _ | with_reducible refine below_step ?_ (by assumption) | with_reducible apply below_set' | with_reducible apply below_alloc' | with_reducible apply Below.drew | with_reducible apply below_drewN' | (simp; done) | omega | (simp; omega)))⟩, by simp [intOf]; omega⟩
    · obtain rfl : k = 7 := by omega
      clear hl hR
      go_wp2_with fail
      go_region_held3 (fun w' => w'.cell? ⟨w.heap.size, 0, none⟩ = some (.int .i64 a.k) ∧ w'.cell? ⟨w.heap.size, 1, none⟩ = some (.int .i64 a.n) ∧ w'.cell? ⟨w.heap.size, 2, none⟩ = some (.float .f64 a.f) ∧ w'.cell? ⟨w.heap.size, 3, none⟩ = some (.string a.s) ∧ w'.cell? ⟨w.heap.size + 1, 0, none⟩ = some (.int .i64 b.k) ∧ w'.cell? ⟨w.heap.size + 1, 1, none⟩ = some (.int .i64 b.n) ∧ w'.cell? ⟨w.heap.size + 1, 2, none⟩ = some (.float .f64 b.f) ∧ w'.cell? ⟨w.heap.size + 1, 3, none⟩ = some (.string b.s)) ((simp [*, go_sem]))
        (first | (go_at_call 15; (with_reducible refine (O1.out _).mono ?_); rintro e w1 ⟨rfl, hb⟩; obtain ⟨hc0, hf0, hz0⟩ := newc hb (w.heap.size) (by first | assumption | omega | (simp; done) | (simp; omega)); obtain ⟨hc1, hf1, hz1⟩ := newc hb (w.heap.size + 1) (by first | assumption | omega | (simp; done) | (simp; omega))) | (go_at_call 28; (with_reducible refine (O2.out _).mono ?_); rintro e w1 ⟨rfl, hb⟩; obtain ⟨hc0, hf0, hz0⟩ := newc hb (w.heap.size) (by first | assumption | omega | (simp; done) | (simp; omega)); obtain ⟨hc1, hf1, hz1⟩ := newc hb (w.heap.size + 1) (by first | assumption | omega | (simp; done) | (simp; omega))) | (go_at_call 29; (with_reducible refine (O3.out _).mono ?_); rintro e w1 ⟨rfl, hb⟩; obtain ⟨hc0, hf0, hz0⟩ := newc hb (w.heap.size) (by first | assumption | omega | (simp; done) | (simp; omega)); obtain ⟨hc1, hf1, hz1⟩ := newc hb (w.heap.size + 1) (by first | assumption | omega | (simp; done) | (simp; omega))))
      go_wp2
      go_ret
      exact ⟨by simp, (by repeat' (first | with_reducible exact Below.refl _ _ | with_reducible refine below_step ?_ (by assumption) | with_reducible apply below_set' | with_reducible apply below_alloc' | with_reducible apply Below.drew | with_reducible apply below_drewN' | (simp; done) | omega | (simp; omega)))⟩
theorem orders_law (a b : Va) (op : ByteArray) (w : World) :
    Calls Tryz.prog 7 #[a.val, b.val, .string op] w fun e w' => e = .returned (.bool true) ∧ Below w.heap.size w w' := by
  cases hs : shortB [a, b]
  · exact orders_long a b op hs w
  · exact orders_short a b op hs (vord a b) (Lib.hid (order_any a b)) (Lib.hid (rorder_any a b)) (Lib.hid (same_any a b)) w
end Go.Proofs.YtikpgglbfpdhmaaGreatDoor

/- The walk of ValueReckons. -/
import Derived.Test.YtikpgglbfpdhmaaGreatDoorOrders
import Derived.Test.YtikpgglbfpdhmaaGreatDoorRecH
import Derived.Test.YtikpgglbfpdhmaaGreatDoorValE
import Derived.Test.YtikpgglbfpdhmaaGreatDoorValH
import Derived.Test.YtikpgglbfpdhmaaGreatDoorVMore
namespace Go.Proofs.YtikpgglbfpdhmaaGreatDoor
open Go.RowKit Go.Joins
attribute [local go_sem ↓] Go.wp_at_zero Go.wp_at_succ

set_option maxRecDepth 100000 in
set_option maxHeartbeats 4000000 in
theorem reckons_long (a : Va) (b : Va) (op : ByteArray) (hs : shortB [a, b] = false) (w : World) :
    Calls Tryz.prog 9 #[a.val, b.val, .string op] w fun e w' => e = .returned (.bool true) ∧ Below w.heap.size w w' := by
  go_enter Tryz.func9, Tryz.ntmps9
  go_wp2_with fail
  refine (lives_any _).mono ?_
  rintro e w1 ⟨rfl, hb⟩
  obtain ⟨hc0, hf0, hz0⟩ := newc hb w.heap.size (by first | omega | (simp; done) | (simp; omega)); obtain ⟨hc1, hf1, hz1⟩ := newc hb (w.heap.size + 1) (by first | omega | (simp; done) | (simp; omega))
  go_wp2_with fail
  refine (short_is false hs 2 w1.heap.size 0 2 [a, b] rfl _ (by simp) (row2_at (row1_at (by simp) (by simp) (by simp) (by simp)) (by simp) (by simp) (by simp) (by simp)) (by decide)).mono ?_
  rintro e w2 ⟨rfl, hb2⟩
  go_wp2_with fail
  refine (lives_any _).mono ?_
  rintro e w3 ⟨rfl, hb3⟩
  go_wp2
  go_ret
  exact ⟨rfl, (by repeat' (first | with_reducible exact Below.refl _ _ | with_reducible refine below_step ?_ (by assumption) | with_reducible apply below_set' | with_reducible apply below_alloc' | with_reducible apply Below.drew | with_reducible apply below_drewN' | (simp; done) | omega | (simp; omega)))⟩
set_option maxRecDepth 100000 in
set_option maxHeartbeats 4000000 in
theorem reckons_short (a : Va) (b : Va) (op : ByteArray) (hs : shortB [a, b] = true) (ha : Fit a.n) (hb' : Fit b.n)
    (K0 M0 : Int) (F0 : Nat)
    (N1 : Hid (∀ w, Calls Tryz.prog 34 #[.agg #[.int .i64 a.k, .int .i64 a.n, .float .f64 a.f, .string a.s]] w fun e w' => e = .returned (.agg #[.int .i64 K0, .int .i64 M0, .float .f64 F0, .string ⟨#[]⟩]) ∧ Below w.heap.size w w'))
    (N2 : Hid (∀ w, Calls Tryz.prog 35 #[.agg #[.int .i64 a.k, .int .i64 a.n, .float .f64 a.f, .string a.s]] w fun e w' => (∃ g, FOne F0 g ∧ e = .returned (.agg #[.int .i64 K0, .int .i64 M0, .float .f64 g, .string ⟨#[]⟩])) ∧ Below w.heap.size w w')) (w : World) :
    Calls Tryz.prog 9 #[a.val, b.val, .string op] w fun e w' => e = .returned (.bool true) ∧ Below w.heap.size w w' := by
  go_enter Tryz.func9, Tryz.ntmps9
  go_wp2_with fail
  refine (lives_any _).mono ?_
  rintro e w1 ⟨rfl, hb⟩
  obtain ⟨hc0, hf0, hz0⟩ := newc hb w.heap.size (by first | omega | (simp; done) | (simp; omega)); obtain ⟨hc1, hf1, hz1⟩ := newc hb (w.heap.size + 1) (by first | omega | (simp; done) | (simp; omega))
  go_wp2_with fail
  refine (short_is true hs 2 w1.heap.size 0 2 [a, b] rfl _ (by simp) (row2_at (row1_at (by simp) (by simp) (by simp) (by simp)) (by simp) (by simp) (by simp) (by simp)) (by decide)).mono ?_
  rintro e w2 ⟨rfl, hb2⟩
  have hb0 : Below w.heap.size w w2 := (by repeat' (first | with_reducible exact Below.refl _ _ | with_reducible refine below_step ?_ (by assumption) | with_reducible apply below_set' | with_reducible apply below_alloc' | with_reducible apply Below.drew | with_reducible apply below_drewN' | (simp; done) | omega | (simp; omega)))
  obtain ⟨hc0', _, hz0'⟩ := newc hb2 (w.heap.size) (by first | omega | (simp; done) | (simp; omega))
  obtain ⟨hc1', _, hz1'⟩ := newc hb2 (w.heap.size + 1) (by first | omega | (simp; done) | (simp; omega))
  have p0 : w2.cell? ⟨w.heap.size, 0, none⟩ = some (.int .i64 a.k) := by simp [*, go_sem]
  have p1 : w2.cell? ⟨w.heap.size, 1, none⟩ = some (.int .i64 a.n) := by simp [*, go_sem]
  have p2 : w2.cell? ⟨w.heap.size, 2, none⟩ = some (.float .f64 a.f) := by simp [*, go_sem]
  have p3 : w2.cell? ⟨w.heap.size, 3, none⟩ = some (.string a.s) := by simp [*, go_sem]
  have p4 : w2.cell? ⟨w.heap.size + 1, 0, none⟩ = some (.int .i64 b.k) := by simp [*, go_sem]
  have p5 : w2.cell? ⟨w.heap.size + 1, 1, none⟩ = some (.int .i64 b.n) := by simp [*, go_sem]
  have p6 : w2.cell? ⟨w.heap.size + 1, 2, none⟩ = some (.float .f64 b.f) := by simp [*, go_sem]
  have p7 : w2.cell? ⟨w.heap.size + 1, 3, none⟩ = some (.string b.s) := by simp [*, go_sem]
  clear hc0 hc0' hf0 hz0 hc1 hc1' hf1 hz1 hb hb2
  have l0 : w.heap.size < w2.heap.size + 1 := by omega
  have l1 : w.heap.size + 1 < w2.heap.size + 1 := by omega
  have d0 : ¬ w.heap.size = w2.heap.size := by omega
  have d1 : ¬ w.heap.size + 1 = w2.heap.size := by omega
  go_wp2_with fail
  go_loopw [22] (fun i wr => ∃ k : Nat, k ≤ 4 ∧ i = .int .i64 k ∧ LoopAt w a b w2.heap.size [op, ⟨#[43]⟩, ⟨#[45]⟩, ⟨#[42]⟩] wr) (fun i _ => 4 - (intOf i).toNat)
  case atStart =>
    refine ⟨0, Nat.zero_le _, rfl, (by repeat' (first | with_reducible exact Below.refl _ _ | with_reducible refine below_step ?_ (by assumption) | with_reducible apply below_set' | with_reducible apply below_alloc' | with_reducible apply Below.drew | with_reducible apply below_drewN' | (simp; done) | omega | (simp; omega))), ?_, ?_, ?_, ?_, ?_, ?_, ?_, ?_, ?_, ?_, ?_, ?_⟩
    all_goals first | (simp [*, World.cell?_alloc_past, go_sem]; done) | omega | skip
    intro j s hj
    have hl : j < 4 := by
      rcases Nat.lt_or_ge j 4 with h | h
      · exact h
      · rw [List.getElem?_eq_none (by simpa using h)] at hj; cases hj
    match j, hl, hj with
    | 0, _, hj => cases hj; simp
    | 1, _, hj => cases hj; simp
    | 2, _, hj => cases hj; simp
    | 3, _, hj => cases hj; simp
  case round =>
    obtain ⟨k, hk, rfl, hR⟩ := hrel
    clear p0 p1 p2 p3 p4 p5 p6 p7 hz0' hz1' hb0 l0 l1 d0 d1
    have hR' := hR
    obtain ⟨hb0, p0, p1, p2, p3, p4, p5, p6, p7, z0, z1, zL, hl⟩ := hR'
    by_cases hlt : k < 4
    · have hs0 : ∃ s, [op, ⟨#[43]⟩, ⟨#[45]⟩, ⟨#[42]⟩][k]? = some s := ⟨_, List.getElem?_eq_getElem (by simpa using hlt)⟩
      obtain ⟨s, hs0⟩ := hs0
      have q := hl k s hs0
      clear hl hs0
      obtain ⟨K, M, F, B1, B2⟩ := arith_give s a b ha hb'
      have G1 := Lib.hid B1
      have G2 := Lib.hid B2
      clear B1 B2
      go_wp2_with fail
      go_region_held3 (fun w' => w'.cell? ⟨w.heap.size, 0, none⟩ = some (.int .i64 a.k) ∧ w'.cell? ⟨w.heap.size, 1, none⟩ = some (.int .i64 a.n) ∧ w'.cell? ⟨w.heap.size, 2, none⟩ = some (.float .f64 a.f) ∧ w'.cell? ⟨w.heap.size, 3, none⟩ = some (.string a.s) ∧ w'.cell? ⟨w.heap.size + 1, 0, none⟩ = some (.int .i64 b.k) ∧ w'.cell? ⟨w.heap.size + 1, 1, none⟩ = some (.int .i64 b.n) ∧ w'.cell? ⟨w.heap.size + 1, 2, none⟩ = some (.float .f64 b.f) ∧ w'.cell? ⟨w.heap.size + 1, 3, none⟩ = some (.string b.s)) ((simp [*, go_sem]))
        (first | (go_at_call 17; (with_reducible refine (G1.out _).mono ?_); rintro e w1 ⟨rfl, hb⟩; obtain ⟨hc0, hf0, hz0⟩ := newc hb (w.heap.size) (by first | assumption | omega | (simp; done) | (simp; omega)); obtain ⟨hc1, hf1, hz1⟩ := newc hb (w.heap.size + 1) (by first | assumption | omega | (simp; done) | (simp; omega))) | (go_at_call 33; (with_reducible refine (G2.out _).mono ?_); rintro e w1 ⟨⟨g, hg, rfl⟩, hb⟩; obtain ⟨hc0, hf0, hz0⟩ := newc hb (w.heap.size) (by first | assumption | omega | (simp; done) | (simp; omega)); obtain ⟨hc1, hf1, hz1⟩ := newc hb (w.heap.size + 1) (by first | assumption | omega | (simp; done) | (simp; omega))) | (go_at_call 21; (with_reducible refine (exact_one _ _ _ _ _ (by assumption) _).mono ?_); rintro e w1 ⟨rfl, hb⟩; obtain ⟨hc0, hf0, hz0⟩ := newc hb (w.heap.size) (by first | assumption | omega | (simp; done) | (simp; omega)); obtain ⟨hc1, hf1, hz1⟩ := newc hb (w.heap.size + 1) (by first | assumption | omega | (simp; done) | (simp; omega))))
      go_wp2
      exact ⟨⟨k + 1, by omega, by go_num, hR.step (by repeat' (first | with_reducible exact Below.refl _ _ | with_reducible refine below_step ?_ (by assumption) | with_reducible apply below_set' | with_reducible apply below_alloc' | with_reducible apply Below.drew | with_reducible apply below_drewN' | (simp; done) | omega | (simp; omega)))⟩, by simp [intOf]; omega⟩
    · obtain rfl : k = 4 := by omega
      clear hl hR
      go_wp2_with fail
      go_region_held3 (fun w' => w'.cell? ⟨w.heap.size, 0, none⟩ = some (.int .i64 a.k) ∧ w'.cell? ⟨w.heap.size, 1, none⟩ = some (.int .i64 a.n) ∧ w'.cell? ⟨w.heap.size, 2, none⟩ = some (.float .f64 a.f) ∧ w'.cell? ⟨w.heap.size, 3, none⟩ = some (.string a.s) ∧ w'.cell? ⟨w.heap.size + 1, 0, none⟩ = some (.int .i64 b.k) ∧ w'.cell? ⟨w.heap.size + 1, 1, none⟩ = some (.int .i64 b.n) ∧ w'.cell? ⟨w.heap.size + 1, 2, none⟩ = some (.float .f64 b.f) ∧ w'.cell? ⟨w.heap.size + 1, 3, none⟩ = some (.string b.s)) ((simp [*, go_sem]))
        (first | (go_at_call 34; (with_reducible refine (N1.out _).mono ?_); rintro e w1 ⟨rfl, hb⟩; obtain ⟨hc0, hf0, hz0⟩ := newc hb (w.heap.size) (by first | assumption | omega | (simp; done) | (simp; omega)); obtain ⟨hc1, hf1, hz1⟩ := newc hb (w.heap.size + 1) (by first | assumption | omega | (simp; done) | (simp; omega))) | (go_at_call 35; (with_reducible refine (N2.out _).mono ?_); rintro e w1 ⟨⟨g, hg, rfl⟩, hb⟩; obtain ⟨hc0, hf0, hz0⟩ := newc hb (w.heap.size) (by first | assumption | omega | (simp; done) | (simp; omega)); obtain ⟨hc1, hf1, hz1⟩ := newc hb (w.heap.size + 1) (by first | assumption | omega | (simp; done) | (simp; omega))) | (go_at_call 21; (with_reducible refine (exact_one _ _ _ _ _ (by assumption) _).mono ?_); rintro e w1 ⟨rfl, hb⟩; obtain ⟨hc0, hf0, hz0⟩ := newc hb (w.heap.size) (by first | assumption | omega | (simp; done) | (simp; omega)); obtain ⟨hc1, hf1, hz1⟩ := newc hb (w.heap.size + 1) (by first | assumption | omega | (simp; done) | (simp; omega))))
      go_wp2
      go_ret
      exact ⟨by simp, (by repeat' (first | with_reducible exact Below.refl _ _ | with_reducible refine below_step ?_ (by assumption) | with_reducible apply below_set' | with_reducible apply below_alloc' | with_reducible apply Below.drew | with_reducible apply below_drewN' | (simp; done) | omega | (simp; omega)))⟩
theorem reckons_law (a b : Va) (op : ByteArray) (ha : Fit a.n) (hb : Fit b.n) (w : World) :
    Calls Tryz.prog 9 #[a.val, b.val, .string op] w fun e w' => e = .returned (.bool true) ∧ Below w.heap.size w w' := by
  cases hs : shortB [a, b]
  · exact reckons_long a b op hs w
  · obtain ⟨K, M, F, N1, N2⟩ := neg_give a ha
    exact reckons_short a b op hs ha hb K M F (Lib.hid N1) (Lib.hid N2) w
end Go.Proofs.YtikpgglbfpdhmaaGreatDoor

/- Printing a float: the shortest digits. -/
import Derived.Test.YtikpgglbfpdhmaaGreatDoorWrE
namespace Go.Proofs.YtikpgglbfpdhmaaGreatDoor
open Go.RowKit Go.Joins
attribute [local go_sem ↓] Go.wp_at_zero Go.wp_at_succ

theorem uscale_to (x hi lo s u B : Nat) (hu : usc x hi lo s = (u : Int)) (hx : x < 18446744073709551616) (hhi : hi < 18446744073709551616) (hlo : lo < 18446744073709551616) (hs : s < 64) (w : World)
    (c0 : w.cell? ⟨B, 0, none⟩ = some (.int .u64 hi)) (c1 : w.cell? ⟨B, 1, none⟩ = some (.int .u64 lo)) (c2 : w.cell? ⟨B, 2, none⟩ = some (.int .i64 s)) :
    Calls Tryz.prog 169 #[.int .u64 x, .pointer (some ⟨B, 0, none⟩)] w fun e w' => e = .returned (.int .u64 u) ∧ Below w.heap.size w w' := by
  rw [← hu]
  exact uscale_is mul64 x hi lo s B hx hhi hlo hs (and63 s hs) w c0 c1 c2
theorem prescale_to (B : Nat) (e p lp : Int) (i hi lo s : Nat) (hs : -(e + lp + 3) = (s : Int)) (hi9 : i < 696) (hp : p = (i : Int) - 348) (he0 : -5000 ≤ e) (he1 : e ≤ 5000) (hl0 : -5000 ≤ lp) (hl1 : lp ≤ 5000) (w : World)
    (t0 : w.cell? ⟨15, i * 2, none⟩ = some (.int .u64 hi)) (t1 : w.cell? ⟨15, i * 2 + 1, none⟩ = some (.int .u64 lo))
    (c0 : w.cell? ⟨B, 0, none⟩ = some (.int .u64 0)) (c1 : w.cell? ⟨B, 1, none⟩ = some (.int .u64 0)) (c2 : w.cell? ⟨B, 2, none⟩ = some (.int .i64 0)) (fz : ∀ o, w.frozen? ⟨B, o, none⟩ = false) :
    Calls Tryz.prog 167 #[.pointer (some ⟨B, 0, none⟩), .int .i64 e, .int .i64 p, .int .i64 lp] w fun r w' => r = .returned (.tuple #[]) ∧ w' = ((w.setCell ⟨B, 0, none⟩ (.int .u64 hi)).setCell ⟨B, 1, none⟩ (.int .u64 lo)).setCell ⟨B, 2, none⟩ (.int .i64 s) := by
  rw [← hs]
  exact prescale_is B e p lp i hi lo hi9 hp he0 he1 hl0 hl1 w t0 t1 c0 c1 c2 fz

theorem and1 (n : Nat) : bits BinOp.and IntKind.u64 (n : Int) 1 = (n : Int) % 2 := by
  show IntKind.u64.wrap (((BitVec.ofInt 64 (n : Int)) &&& (BitVec.ofInt 64 1)).toNat : Int) = _
  rw [BitVec.toNat_and, BitVec.ofInt_natCast, BitVec.toNat_ofNat, show (BitVec.ofInt 64 1).toNat = 1 from rfl, Nat.and_one_is_mod, IntKind.wrap_u64]
  omega
theorem unround_to (u : Nat) (h1 : u < 1152921504606846976) (w : World) :
    Calls Tryz.prog 173 #[.int .u64 u] w fun e w' => e = .returned (.int .u64 (((u + 1 + u / 4 % 2) / 4 : Nat) : Int)) ∧ w = w' := by
  have := unround_is (u : Int) (by omega) (by omega) (by have := and1 (u / 4); rw [show ((u : Int) / 4) = ((u / 4 : Nat) : Int) by omega]; exact this) w
  refine this.mono ?_
  rintro e w1 ⟨rfl, rfl⟩
  exact ⟨ret_u64' (by omega), rfl⟩
theorem ceil_to (u o : Nat) (h1 : u < 1152921504606846976) (ho : o ≤ 1) (w : World) :
    Calls Tryz.prog 171 #[.int .u64 ((u : Int) + o)] w fun e w' => e = .returned (.int .u64 (((u + o + 3) / 4 : Nat) : Int)) ∧ w = w' := by
  refine (unceil_is ((u : Int) + o) (by omega) (by omega) w).mono ?_
  rintro e w1 ⟨rfl, rfl⟩
  exact ⟨ret_u64' (by omega), rfl⟩
theorem floor_to (u o : Nat) (h1 : u < 1152921504606846976) (h2 : 1 ≤ u) (ho : o ≤ 1) (w : World) :
    Calls Tryz.prog 172 #[.int .u64 ((u : Int) + -(o : Int))] w fun e w' => e = .returned (.int .u64 (((u - o) / 4 : Nat) : Int)) ∧ w = w' := by
  refine (unfloor_is ((u : Int) + -(o : Int)) (by omega) (by omega) w).mono ?_
  rintro e w1 ⟨rfl, rfl⟩
  exact ⟨ret_u64' (by omega), rfl⟩
/-- The digits, as the program chooses them. -/
def sfD (a b u3 : Nat) : Nat := if a ≤ b / 10 * 10 then b / 10 else if a < b then (u3 + 1 + u3 / 4 % 2) / 4 else a
def sfQ (a b : Nat) (p : Int) : Int := if a ≤ b / 10 * 10 then -(p - 1) else -p
theorem ret_pair {x y p q : Int} (h : x = y) (g : p = q) : Ending.returned (.tuple #[.int .u64 x, .int .i64 p]) = Ending.returned (.tuple #[.int .u64 y, .int .i64 q]) := by rw [h, g]

set_option maxRecDepth 100000 in
set_option maxHeartbeats 4000000 in
theorem shortFloat_is (m mn mx u1 u2 u3 i hi lo s o : Nat) (e p : Int) (he : -1137 ≤ e ∧ e ≤ 960)
    (hm : 9223372036854775808 ≤ m ∧ m < 18446744073709551616) (hmn : mn < 18446744073709551616) (hmx : mx < 18446744073709551616)
    (hhi : hi < 18446744073709551616) (hlo : lo < 18446744073709551616) (hs4 : s < 64) (hi9 : i < 696) (hp0 : -348 ≤ p ∧ p ≤ 347) (hp : Hid (p = (i : Int) - 348)) (ho : o ≤ 1)
    (hs : Hid (-(e + p * 108853 / 32768 + 3) = (s : Int)))
    (U1 : Hid (usc mn hi lo s = (u1 : Int))) (U2 : Hid (usc mx hi lo s = (u2 : Int))) (U3 : Hid (usc m hi lo s = (u3 : Int)))
    (b1 : 1 ≤ u1 ∧ u1 < 1152921504606846976) (b2 : 1 ≤ u2 ∧ u2 < 1152921504606846976) (b3 : u3 < 1152921504606846976)
    (HC : Hid ((m = 9223372036854775808 → -1085 < e → -(((e + 11) * 631305 - 261663) / 2097152) = p ∧ (9223372036854775296 : Int) = mn ∧ (9223372036854776832 : Int) = mx ∧ bits BinOp.and IntKind.i64 4503599627370496 1 = o) ∧
      (¬ (m = 9223372036854775808 ∧ -1085 < e) → -1085 ≤ e → -((e + 11) * 78913 / 262144) = p ∧ (m : Int) - 1024 = mn ∧ IntKind.u64.wrap ((m : Int) + 1024) = mx ∧ bits BinOp.and IntKind.i64 ((m : Int) / 2048) 1 = o) ∧
      (e < -1085 → -((e + (11 + (-1085 - e))) * 78913 / 262144) = p ∧ IntKind.u64.wrap ((m : Int) - IntKind.u64.wrap (2 ^ ((11 + (-1085 - e)).toNat - 1))) = mn ∧
        IntKind.u64.wrap ((m : Int) + IntKind.u64.wrap (2 ^ ((11 + (-1085 - e)).toNat - 1))) = mx ∧ bits BinOp.and IntKind.i64 (wrap64 ((m : Int) / 2 ^ (11 + (-1085 - e)).toNat)) 1 = o))) (w : World)
    (t0 : w.cell? ⟨15, i * 2, none⟩ = some (.int .u64 hi)) (t1 : w.cell? ⟨15, i * 2 + 1, none⟩ = some (.int .u64 lo)) :
    Calls Tryz.prog 139 #[.int .u64 m, .int .i64 e] w fun r w' => r = .returned (.tuple #[.int .u64 (sfD ((u1 + o + 3) / 4) ((u2 - o) / 4) u3 : Nat), .int .i64 (sfQ ((u1 + o + 3) / 4) ((u2 - o) / 4) p)]) ∧ Below w.heap.size w w' := by
  go_enter Tryz.func139, Tryz.ntmps139
  go_upto_region 12 with fail
  go_cut [0, 28] (fun s0 s28 wx => s0 = .int .u64 m ∧ s28 = .bool (decide (m = 9223372036854775808 ∧ -1085 < e)) ∧ wx = w)
  case first =>
    go_wp2_with fail
    all_goals
      go_meet
      refine ⟨?_, ?_, rfl⟩
      · first | rfl | (congr 1; done) | (congr 1; omega)
      · refine congrArg Value.bool ?_
        first
          | (refine (decide_eq_true ?_).symm; omega)
          | (refine (decide_eq_false ?_).symm; omega)
          | (refine decide_eq_decide.2 ?_; constructor <;> intro h <;> omega)
  case rest =>
    obtain ⟨rfl, rfl, hwc⟩ := hcut
    subst w
    go_upto_if 28 with fail
    go_cut [0, 5, 8, 9, 10] (fun s0 s5 s8 s9 s10 wx => s0 = .int .u64 m ∧ s5 = .int .i64 p ∧ s8 = .int .u64 mn ∧ s9 = .int .u64 mx ∧ s10 = .int .i64 o ∧ wx = wc)
    case first =>
      go_wp2_with (first
        | (go_at_call 166; with_reducible refine (skewed_is _ (by omega) (by omega) _).mono ?_; rintro e w1 ⟨rfl, rfl⟩)
        | (go_at_call 114; with_reducible refine (log10Pow2_is _ (by omega) (by omega) _).mono ?_; rintro e w1 ⟨rfl, rfl⟩))
      all_goals go_meet
      all_goals first
        | (obtain ⟨h1, h2, h3, h4⟩ := HC.out.1 (by omega) (by omega); exact ⟨congrArg _ (by omega), congrArg _ h1, congrArg _ h2, congrArg _ h3, congrArg _ h4, rfl⟩)
        | (obtain ⟨h1, h2, h3, h4⟩ := HC.out.2.1 (by omega) (by omega); exact ⟨rfl, congrArg _ h1, congrArg _ h2, congrArg _ h3, congrArg _ h4, rfl⟩)
        | (obtain ⟨h1, h2, h3, h4⟩ := HC.out.2.2 (by omega); exact ⟨rfl, congrArg _ h1, congrArg _ h2, congrArg _ h3, congrArg _ h4, rfl⟩)
    case rest =>
      rename_i wd
      obtain ⟨rfl, rfl, rfl, rfl, rfl, hwc⟩ := hcut
      subst hwc
      clear HC
      have g0 := World.block_lt_of_cell? _ _ t0
      go_wp2_with (first
        | (go_at_call 168; with_reducible refine (log2Pow10_is _ (by omega) (by omega) _).mono ?_; rintro e w1 ⟨rfl, rfl⟩)
        | (go_at_call 167; (with_reducible refine (prescale_to _ _ _ _ i hi lo s hs.out hi9 hp.out (by omega) (by omega) (by omega) (by omega) _ (by rw [World.cell?_alloc_past _ _ _ g0]; exact t0) (by rw [World.cell?_alloc_past _ _ _ g0]; exact t1) (by simp [go_sem]) (by simp [go_sem]) (by simp [go_sem]) (by intro o; simp [go_sem])).mono ?_; rintro e w1 ⟨rfl, rfl⟩))
        | (go_at_call 169; first | (with_reducible refine (uscale_to mn hi lo s u1 wc.heap.size U1.out hmn hhi hlo hs4 _ (by simp [*, go_sem]) (by simp [*, go_sem]) (by simp [*, go_sem])).mono ?_; rintro e w1 ⟨rfl, hb⟩; obtain ⟨hc, hf, hz⟩ := newc hb wc.heap.size (by first | assumption | (simp; done) | omega | (simp; omega))) | (with_reducible refine (uscale_to mx hi lo s u2 wc.heap.size U2.out hmx hhi hlo hs4 _ (by simp [*, go_sem]) (by simp [*, go_sem]) (by simp [*, go_sem])).mono ?_; rintro e w1 ⟨rfl, hb⟩; obtain ⟨hc, hf, hz⟩ := newc hb wc.heap.size (by first | assumption | (simp; done) | omega | (simp; omega))) | (with_reducible refine (uscale_to m hi lo s u3 wc.heap.size U3.out hm.2 hhi hlo hs4 _ (by simp [*, go_sem]) (by simp [*, go_sem]) (by simp [*, go_sem])).mono ?_; rintro e w1 ⟨rfl, hb⟩; obtain ⟨hc, hf, hz⟩ := newc hb wc.heap.size (by first | assumption | (simp; done) | omega | (simp; omega))))
        | (go_at_call 170; with_reducible refine (nudge_is _ _ (by omega) (by omega) (by omega) (by omega) _).mono ?_; rintro e w1 ⟨rfl, rfl⟩)
        | (go_at_call 171; with_reducible refine (ceil_to u1 o (by omega) (by omega) _).mono ?_; rintro e w1 ⟨rfl, rfl⟩)
        | (go_at_call 172; with_reducible refine (floor_to u2 o (by omega) (by omega) (by omega) _).mono ?_; rintro e w1 ⟨rfl, rfl⟩)
        | (go_at_call 173; with_reducible refine (unround_to u3 (by omega) _).mono ?_; rintro e w1 ⟨rfl, rfl⟩))
      all_goals
        go_ret2
        exact ⟨ret_pair (by unfold sfD; split <;> (try split) <;> omega) (by unfold sfQ; split <;> omega), (by repeat' (first | with_reducible exact Below.refl _ _ | with_reducible refine below_step ?_ (by assumption) | with_reducible apply below_set' | with_reducible apply below_alloc' | with_reducible apply Below.drew | with_reducible apply below_drewN' | (simp; done) | omega | (simp; omega)))⟩
end Go.Proofs.YtikpgglbfpdhmaaGreatDoor

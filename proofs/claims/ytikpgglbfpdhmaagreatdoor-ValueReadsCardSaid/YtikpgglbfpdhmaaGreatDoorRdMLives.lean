/- 'lives' is true; texts that are short. -/
import Derived.Test.YtikpgglbfpdhmaaGreatDoorRdMValP
import Derived.Test.YtikpgglbfpdhmaaGreatDoorRdMValK
import Derived.Test.YtikpgglbfpdhmaaGreatDoorRdMValD
namespace Go.Proofs.YtikpgglbfpdhmaaGreatDoor
open Go.RowKit Go.Joins

/-- Two whole numbers, added: where it fits. -/
theorem arith_ints (op : ByteArray) (a b r : Int) (HW : Hid (∀ w, Calls Tryz.prog 51 #[.string op, .int .i64 a, .int .i64 b] w fun e w' => e = .returned (.tuple #[.int .i64 r, .bool true]) ∧ w = w')) (w : World) :
    Calls Tryz.prog 17 #[.string op, .agg #[.int .i64 1, .int .i64 a, .float .f64 0, .string ⟨#[]⟩], .agg #[.int .i64 1, .int .i64 b, .float .f64 0, .string ⟨#[]⟩]] w fun e w' => e = .returned (.agg #[.int .i64 1, .int .i64 r, .float .f64 0, .string ⟨#[]⟩]) ∧ Below w.heap.size w w' :=
  arith_ok op 1 a 0 ⟨#[]⟩ a 0 ⟨#[]⟩ 1 b 0 ⟨#[]⟩ b 0 ⟨#[]⟩ (cleans 1 a 0 ⟨#[]⟩) (cleans 1 b 0 ⟨#[]⟩) r HW w
theorem one_one (w : World) : Calls Tryz.prog 17 #[.string ⟨#[43]⟩, .agg #[.int .i64 1, .int .i64 1, .float .f64 0, .string ⟨#[]⟩], .agg #[.int .i64 1, .int .i64 1, .float .f64 0, .string ⟨#[]⟩]] w fun e w' => e = .returned (.agg #[.int .i64 1, .int .i64 2, .float .f64 0, .string ⟨#[]⟩]) ∧ Below w.heap.size w w' := by
  refine arith_ints _ _ _ _ (Lib.hid fun w => ?_) w
  have h := whole_add 1 1 w
  have e : wrap64 (1 + 1) = 2 := by unfold wrap64; omega
  rw [e] at h
  exact h
theorem write_two (w : World) : Calls Tryz.prog 18 #[.agg #[.int .i64 1, .int .i64 2, .float .f64 0, .string ⟨#[]⟩]] w fun e w' => e = .returned (.string ⟨#[50]⟩) ∧ Below w.heap.size w w' := by
  go_enter Tryz.func18, Tryz.ntmps18
  go_wp2_with (go_at_call 30; refine (clean_1 _ _ _ _).mono ?_; rintro e w1 ⟨rfl, hb⟩; obtain ⟨hc0, hf0, hz0⟩ := newc hb w.heap.size (by first | omega | (simp; done) | (simp; omega)))
  go_wp2
  go_ret
  exact ⟨rfl, (by repeat' (first | with_reducible exact Below.refl _ _ | with_reducible refine below_step ?_ (by assumption) | with_reducible apply below_set' | with_reducible apply below_alloc' | with_reducible apply Below.drew | with_reducible apply below_drewN' | (simp; done) | omega | (simp; omega)))⟩
theorem true_of (w : World) : Calls Tryz.prog 36 #[.agg #[.int .i64 4, .int .i64 1, .float .f64 0, .string ⟨#[]⟩]] w fun e w' => e = .returned (.bool true) ∧ Below w.heap.size w w' := true_any 4 1 0 ⟨#[]⟩ w
set_option maxHeartbeats 1000000 in
theorem lives_any (w : World) : Calls Tryz.prog 13 #[] w fun e w' => e = .returned (.bool true) ∧ Below w.heap.size w w' := by
  have T := Lib.hid (compare_texts ⟨#[97]⟩ ⟨#[97, 98]⟩ (by decide))
  go_enter Tryz.func13, Tryz.ntmps13
  go_wp2_with (first | (go_at_call 16; with_reducible refine (ofInt_any _ _).mono ?_; rintro e w1 ⟨rfl, hb⟩) | (go_at_call 17; with_reducible refine (one_one _).mono ?_; rintro e w1 ⟨rfl, hb⟩) | (go_at_call 18; with_reducible refine (write_two _).mono ?_; rintro e w1 ⟨rfl, hb⟩) | (go_at_call 23; with_reducible refine (ofText_any _ _).mono ?_; rintro e w1 ⟨rfl, hb⟩) | (go_at_call 26; with_reducible refine (T.out _).mono ?_; rintro e w1 ⟨rfl, hb⟩) | (go_at_call 36; with_reducible refine (true_of _).mono ?_; rintro e w1 ⟨rfl, hb⟩))
  go_ret
  exact ⟨rfl, (by repeat' (first | with_reducible exact Below.refl _ _ | with_reducible refine below_step ?_ (by assumption) | with_reducible apply below_set' | with_reducible apply below_alloc' | with_reducible apply Below.drew | with_reducible apply below_drewN' | (simp; done) | omega | (simp; omega)))⟩

/-- Are the texts short? -/
def shortB (vs : List Va) : Bool := vs.all fun v => decide (v.s.size ≤ 1000)
theorem shortB_long (vs : List Va) (k : Nat) (hk : k < vs.length) (h : (1000 : Int) < (vs[k].s.size : Nat)) : shortB vs = false := by
  unfold shortB
  rw [List.all_eq_false]
  exact ⟨vs[k], List.getElem_mem hk, by simp; omega⟩
theorem shortB_snoc (vs : List Va) (k : Nat) (hk : k < vs.length) (hs : shortB (vs.take k) = true) (h : ((vs[k].s.size : Nat) : Int) ≤ 1000) : shortB (vs.take (k + 1)) = true := by
  unfold shortB at *
  rw [List.take_succ_eq_append_getElem hk, List.all_append, hs]
  simp; omega
/-- The cells of a row of values. -/
def RowAt (w : World) (B off : Nat) (vs : List Va) : Prop :=
  ∀ i v, vs[i]? = some v → w.cell? ⟨B, off + i * 4, none⟩ = some (.int .i64 v.k) ∧ w.cell? ⟨B, off + i * 4 + 1, none⟩ = some (.int .i64 v.n) ∧ w.cell? ⟨B, off + i * 4 + 2, none⟩ = some (.float .f64 v.f) ∧ w.cell? ⟨B, off + i * 4 + 3, none⟩ = some (.string v.s)
set_option maxHeartbeats 1000000 in
theorem short_any (B off c : Nat) (vs : List Va) (w : World) (hB : B < w.heap.size) (hrow : RowAt w B off vs) (hm : vs.length ≤ 1000) :
    Calls Tryz.prog 14 #[.slice (some ⟨B, off, none⟩) vs.length c] w fun e w' => e = .returned (.bool (shortB vs)) ∧ Below w.heap.size w w' := by
  have R := Lib.hid hrow
  clear hrow
  go_enter Tryz.func14, Tryz.ntmps14
  go_wp2
  go_loopw [7] (fun i wr => ∃ k : Nat, k ≤ vs.length ∧ i = .int .i64 k ∧ shortB (vs.take k) = true ∧ Below w.heap.size w wr) (fun i _ => vs.length - (intOf i).toNat)
  case atStart => exact ⟨0, Nat.zero_le _, rfl, rfl, (by repeat' (first | with_reducible exact Below.refl _ _ | with_reducible refine below_step ?_ (by assumption) | with_reducible apply below_set' | with_reducible apply below_alloc' | with_reducible apply Below.drew | with_reducible apply below_drewN' | (simp; done) | omega | (simp; omega)))⟩
  case round =>
    obtain ⟨k, hk, rfl, hs, hb⟩ := hrel
    by_cases hlt : k < vs.length
    · have hv : vs[k]? = some vs[k] := List.getElem?_eq_getElem hlt
      obtain ⟨q0, q1, q2, q3⟩ := R.out k _ hv
      rw [← hb.cell (p := ⟨B, off + k * 4, none⟩) hB] at q0
      rw [← hb.cell (p := ⟨B, off + k * 4 + 1, none⟩) hB] at q1
      rw [← hb.cell (p := ⟨B, off + k * 4 + 2, none⟩) hB] at q2
      rw [← hb.cell (p := ⟨B, off + k * 4 + 3, none⟩) hB] at q3
      clear hv
      go_wp2
      · go_ret
        have hb' := hb
        exact ⟨by rw [shortB_long vs k hlt (by assumption)]; rfl, (by repeat' (first | with_reducible exact Below.refl _ _ | with_reducible refine below_step ?_ (by assumption) | with_reducible apply below_set' | with_reducible apply below_alloc' | with_reducible apply Below.drew | with_reducible apply below_drewN' | (simp; done) | omega | (simp; omega)))⟩
      · have hl : ((vs[k].s.size : Nat) : Int) ≤ 1000 := by assumption
        exact ⟨⟨k + 1, by omega, by go_num, shortB_snoc vs k hlt hs hl, (by repeat' (first | with_reducible exact Below.refl _ _ | with_reducible refine below_step ?_ (by assumption) | with_reducible apply below_set' | with_reducible apply below_alloc' | with_reducible apply Below.drew | with_reducible apply below_drewN' | (simp; done) | omega | (simp; omega)))⟩, by simp [intOf]; omega⟩
    · go_wp2
      go_ret
      have e : shortB vs = true := by rw [List.take_of_length_le (by omega)] at hs; exact hs
      exact ⟨by rw [e]; rfl, (by repeat' (first | with_reducible exact Below.refl _ _ | with_reducible refine below_step ?_ (by assumption) | with_reducible apply below_set' | with_reducible apply below_alloc' | with_reducible apply Below.drew | with_reducible apply below_drewN' | (simp; done) | omega | (simp; omega)))⟩
theorem short_n (n : Nat) (B off c : Nat) (vs : List Va) (hn : vs.length = n) (w : World) (hB : B < w.heap.size) (hrow : RowAt w B off vs) (hm : n ≤ 1000) :
    Calls Tryz.prog 14 #[.slice (some ⟨B, off, none⟩) n c] w fun e w' => e = .returned (.bool (shortB vs)) ∧ Below w.heap.size w w' := by
  subst hn; exact short_any B off c vs w hB hrow hm
theorem row1_at {w : World} {B : Nat} {a : Va} (h0 : w.cell? ⟨B, 0, none⟩ = some (.int .i64 a.k)) (h1 : w.cell? ⟨B, 1, none⟩ = some (.int .i64 a.n)) (h2 : w.cell? ⟨B, 2, none⟩ = some (.float .f64 a.f)) (h3 : w.cell? ⟨B, 3, none⟩ = some (.string a.s)) : RowAt w B 0 [a] := by
  intro i v hv
  match i, hv with
  | 0, hv => cases hv; exact ⟨h0, h1, h2, h3⟩
  | i + 1, hv => simp at hv
theorem row2_at {w : World} {B : Nat} {a b : Va} (ha : RowAt w B 0 [a]) (h0 : w.cell? ⟨B, 4, none⟩ = some (.int .i64 b.k)) (h1 : w.cell? ⟨B, 5, none⟩ = some (.int .i64 b.n)) (h2 : w.cell? ⟨B, 6, none⟩ = some (.float .f64 b.f)) (h3 : w.cell? ⟨B, 7, none⟩ = some (.string b.s)) : RowAt w B 0 [a, b] := by
  intro i v hv
  match i, hv with
  | 0, hv => exact ha 0 v hv
  | 1, hv => cases hv; exact ⟨h0, h1, h2, h3⟩
  | i + 2, hv => simp at hv
theorem row3_at {w : World} {B : Nat} {a b c : Va} (ha : RowAt w B 0 [a, b]) (h0 : w.cell? ⟨B, 8, none⟩ = some (.int .i64 c.k)) (h1 : w.cell? ⟨B, 9, none⟩ = some (.int .i64 c.n)) (h2 : w.cell? ⟨B, 10, none⟩ = some (.float .f64 c.f)) (h3 : w.cell? ⟨B, 11, none⟩ = some (.string c.s)) : RowAt w B 0 [a, b, c] := by
  intro i v hv
  match i, hv with
  | 0, hv => exact ha 0 v hv
  | 1, hv => exact ha 1 v hv
  | 2, hv => cases hv; exact ⟨h0, h1, h2, h3⟩
  | i + 3, hv => simp at hv
end Go.Proofs.YtikpgglbfpdhmaaGreatDoor

/- A value as it is written, by the reference: texts and plain reals. -/
import Derived.Test.YtikpgglbfpdhmaaGreatDoorWrW
namespace Go.Proofs.YtikpgglbfpdhmaaGreatDoor
open Go.RowKit Go.Joins Go.Lib
attribute [local go_sem ↓] Go.wp_at_zero Go.wp_at_succ

theorem ext_one (S : ByteArray) (j : Nat) (hj : j < S.size) : (S.extract j (j + 1)).data.toList = [S[j]] := by
  have h : j < S.data.toList.length := by rw [Array.length_toList]; exact hj
  rw [ByteArray.data_extract, Array.toList_extract, List.extract_eq_drop_take', List.drop_take, show j + 1 - j = 1 by omega, List.drop_eq_getElem_cons h]
  rfl
theorem take_one (S : ByteArray) (j : Nat) (hj : j < S.size) : S.data.toList.take (j + 1) = S.data.toList.take j ++ [S[j]] := by
  have h : j < S.data.toList.length := by rw [Array.length_toList]; exact hj
  rw [List.take_add_one, List.getElem?_eq_getElem h]
  rfl
theorem byte_39 (b : UInt8) : ((b.toNat : Int) == 39) = true ↔ b = 39 := by
  rw [beq_iff_eq]
  constructor
  · intro h
    have : b.toNat = 39 := by omega
    exact UInt8.toNat_inj.1 (by simpa using this)
  · rintro rfl; rfl
theorem step_hit (S T : ByteArray) (j : Nat) (hj : j < S.size) (hT : T.data.toList = 39 :: dq (S.data.toList.take j)) (h : ((S[j].toNat : Int) == 39) = true) :
    (T ++ ⟨#[39]⟩ ++ S.extract j (j + 1)).data.toList = 39 :: dq (S.data.toList.take (j + 1)) := by
  have h1 := (byte_39 _).1 h
  rw [take_one S j hj, dq_append, ByteArray.data_append, ByteArray.data_append, Array.toList_append, Array.toList_append, ext_one S j hj, hT, h1]
  simp [dq]
theorem step_miss (S T : ByteArray) (j : Nat) (hj : j < S.size) (hT : T.data.toList = 39 :: dq (S.data.toList.take j)) (h : ((S[j].toNat : Int) == 39) = false) :
    (T ++ S.extract j (j + 1)).data.toList = 39 :: dq (S.data.toList.take (j + 1)) := by
  have h1 : S[j] ≠ 39 := fun e => by rw [(byte_39 _).2 e] at h; cases h
  rw [take_one S j hj, dq_append, ByteArray.data_append, Array.toList_append, ext_one S j hj, hT]
  simp [dq, h1]
theorem size_le (S T : ByteArray) (j : Nat) (hS : S.size ≤ 1000) (hj : j ≤ S.size) (hT : T.data.toList = 39 :: dq (S.data.toList.take j)) : T.size ≤ 2001 := by
  rw [Lib.size_eq, hT]
  have h1 := dq_len (S.data.toList.take j)
  have h2 : (S.data.toList.take j).length ≤ j := by rw [List.length_take]; omega
  simp only [List.length_cons]
  omega
theorem take_all (S : ByteArray) (j : Nat) (_hj : j ≤ S.size) (h : ¬ j < S.size) : S.data.toList.take j = S.data.toList := List.take_of_length_le (by rw [Array.length_toList]; exact Nat.not_lt.1 h)
theorem text_end (S T : ByteArray) (j : Nat) (hj : j ≤ S.size) (h : ¬ j < S.size) (hT : T.data.toList = 39 :: dq (S.data.toList.take j)) : T ++ ⟨#[39]⟩ = quoted S := by
  rw [take_all S j hj h] at hT
  apply ByteArray.ext
  apply Array.toList_inj.1
  rw [ByteArray.data_append, Array.toList_append, hT]
  rfl
theorem marks_at (S : ByteArray) (j : Nat) (hj : j < S.size) (h : (S[j].toNat : Int) = 46 ∨ (S[j].toNat : Int) = 101) : marks S.data.toList = true := by
  have h1 : S[j] ∈ S.data.toList := by
    have : S.data.toList[j]'(by rw [Array.length_toList]; exact hj) ∈ S.data.toList := List.getElem_mem _
    exact this
  refine List.any_eq_true.2 ⟨S[j], h1, ?_⟩
  rcases h with h | h
  · have : S[j].toNat = 46 := by omega
    rw [show S[j] = 46 from UInt8.toNat_inj.1 (by simpa using this)]; rfl
  · have : S[j].toNat = 101 := by omega
    rw [show S[j] = 101 from UInt8.toNat_inj.1 (by simpa using this)]; rfl
theorem dig_marked (S : ByteArray) (h : marks S.data.toList = true) : S = dig S.data.toList := by
  unfold dig
  rw [if_pos h]
theorem dig_plain (S : ByteArray) (h : marks S.data.toList = false) : S ++ ⟨#[46, 48]⟩ = dig S.data.toList := by
  unfold dig
  rw [if_neg (by rw [h]; decide), ← ba_app]
theorem marks_step (S : ByteArray) (j : Nat) (hj : j < S.size) (hT : marks (S.data.toList.take j) = false) (h : ((S[j].toNat : Int) == 46) = false ∧ ((S[j].toNat : Int) == 101) = false) : marks (S.data.toList.take (j + 1)) = false := by
  have e1 : S[j] ≠ 46 := fun e => by rw [e] at h; exact absurd h.1 (by decide)
  have e2 : S[j] ≠ 101 := fun e => by rw [e] at h; exact absurd h.2 (by decide)
  unfold marks at hT ⊢
  rw [take_one S j hj, List.any_append, hT]
  simp [e1, e2]
set_option maxRecDepth 100000 in
set_option maxHeartbeats 1000000 in
theorem rw_text (k n : Int) (f : Nat) (s : ByteArray) (N : Int) (F : Nat) (S : ByteArray) (hS : S.size ≤ 1000) (C : Hid (∀ w, Calls Tryz.prog 20 #[.agg #[.int .i64 k, .int .i64 n, .float .f64 f, .string s]] w fun e w' => e = .returned (.agg #[.int .i64 3, .int .i64 N, .float .f64 F, .string S]) ∧ RowKit.Below w.heap.size w w')) (w : World) :
    Calls Tryz.prog 19 #[.agg #[.int .i64 k, .int .i64 n, .float .f64 f, .string s]] w fun e w' => e = .returned (.string (quoted S)) ∧ RowKit.Below w.heap.size w w' := by
  go_enter Tryz.func19, Tryz.ntmps19
  go_wp2_with (first
    | (go_at_call 20; with_reducible refine (C.out _).mono ?_; rintro e w1 ⟨rfl, hb⟩; obtain ⟨hc0, hf0, hz0⟩ := newc hb w.heap.size (by first | omega | (simp; done) | (simp; omega)))
    | fail)
  go_loopw [3, 4] (fun v3 v4 wr => ∃ (j : Nat) (T : ByteArray), j ≤ S.size ∧ v3 = .string T ∧ v4 = .int .i64 j ∧ T.size ≤ 2001 ∧ Hid (T.data.toList = 39 :: dq (S.data.toList.take j)) ∧ wr.cell? ⟨w.heap.size, 3, none⟩ = some (.string S) ∧ RowKit.Below w.heap.size w wr) (fun _ v4 _ => S.size - (RowKit.intOf v4).toNat)
  case atStart => exact ⟨0, ⟨#[39]⟩, by omega, rfl, rfl, by decide, Lib.hid rfl, by simp [*, go_sem], (by repeat' (first | with_reducible exact Below.refl _ _ | with_reducible refine below_step ?_ (by assumption) | with_reducible apply below_set' | with_reducible apply below_alloc' | with_reducible apply Below.drew | with_reducible apply below_drewN' | (simp; done) | omega | (simp; omega)))⟩
  case round =>
    obtain ⟨j, T, hj, rfl, rfl, hT9, hT, hc, hbel⟩ := hrel
    go_wp2
    · have hlt : j < S.size := by assumption
      have hT2 := step_hit S T j hlt hT.out (by assumption)
      refine ⟨⟨j + 1, _, hlt, rfl, by go_num, size_le S _ (j + 1) hS hlt hT2, Lib.hid hT2, hc, hbel⟩, ?_⟩
      simp [RowKit.intOf]; omega
    · have hlt : j < S.size := by assumption
      have hT2 := step_miss S T j hlt hT.out (by assumption)
      refine ⟨⟨j + 1, _, hlt, rfl, by go_num, size_le S _ (j + 1) hS hlt hT2, Lib.hid hT2, hc, hbel⟩, ?_⟩
      simp [RowKit.intOf]; omega
    · have hge : ¬ j < S.size := by assumption
      go_ret
      exact ⟨str_ret (text_end S T j hj hge hT.out), hbel⟩
set_option maxRecDepth 100000 in
set_option maxHeartbeats 1000000 in
theorem rw_plain (k n : Int) (f : Nat) (s : ByteArray) (N : Int) (F : Nat) (S : ByteArray) (hS : S.size ≤ 100) (HS : Hid (∀ w, Tabs w → Calls Tryz.prog 56 #[.float .f64 F, .int .u8 103, .int .i64 (-1), .int .i64 64] w fun e w' => e = .returned (.string S) ∧ RowKit.Below w.heap.size w w')) (hq : feq F F = true) (h1 : fgt F 9218868437227405311 = false) (h2 : flt F 18442240474082181119 = false) (C : Hid (∀ w, Calls Tryz.prog 20 #[.agg #[.int .i64 k, .int .i64 n, .float .f64 f, .string s]] w fun e w' => e = .returned (.agg #[.int .i64 2, .int .i64 N, .float .f64 F, .string ⟨#[]⟩]) ∧ RowKit.Below w.heap.size w w')) (w : World) (ht : Hid (Tabs3 w)) :
    Calls Tryz.prog 19 #[.agg #[.int .i64 k, .int .i64 n, .float .f64 f, .string s]] w fun e w' => e = .returned (.string (dig S.data.toList)) ∧ RowKit.Below w.heap.size w w' := by
  have g1 : (FloatKind.f64.format.order F 9218868437227405311 == some .gt) = _ := h1
  have g2 : (FloatKind.f64.format.order F 18442240474082181119 == some .lt) = _ := h2
  go_enter Tryz.func19, Tryz.ntmps19
  go_wp2_with (first
    | (go_at_call 20; with_reducible refine (C.out _).mono ?_; rintro e w1 ⟨rfl, hb⟩; obtain ⟨hc0, hf0, hz0⟩ := newc hb w.heap.size (by first | omega | (simp; done) | (simp; omega)))
    | (go_at_call 55; with_reducible refine (number_any _ _).mono ?_; rintro e w1 ⟨rfl, rfl⟩; rw [hq])
    | (go_at_call 56; with_reducible refine (HS.out _ (ht.out.below ?below).one).mono ?_; rotate_right; rintro e w2 ⟨rfl, hb2⟩))
  case below => exact (by repeat' (first | with_reducible exact Below.refl _ _ | with_reducible refine below_step ?_ (by assumption) | with_reducible apply below_set' | with_reducible apply below_alloc' | with_reducible apply Below.drew | with_reducible apply below_drewN' | (simp; done) | omega | (simp; omega)))
  have hb3 : RowKit.Below w.heap.size w w2 := (by repeat' (first | with_reducible exact Below.refl _ _ | with_reducible refine below_step ?_ (by assumption) | with_reducible apply below_set' | with_reducible apply below_alloc' | with_reducible apply Below.drew | with_reducible apply below_drewN' | (simp; done) | omega | (simp; omega)))
  go_loopw [6] (fun v6 wr => ∃ j : Nat, j ≤ S.size ∧ v6 = .int .i64 j ∧ Hid (marks (S.data.toList.take j) = false) ∧ wr = w2) (fun v6 _ => S.size - (RowKit.intOf v6).toNat)
  case atStart => exact ⟨0, by omega, rfl, Lib.hid rfl, rfl⟩
  case round =>
    obtain ⟨j, hj, rfl, hT, rfl⟩ := hrel
    go_wp2
    · have hlt : j < S.size := by assumption
      go_ret
      exact ⟨str_ret (dig_marked S (marks_at S j hlt (.inl (by assumption)))), hb3⟩
    · have hlt : j < S.size := by assumption
      have hor : ((S[j].toNat : Int) == 46) = true ∨ ((S[j].toNat : Int) == 101) = true := by assumption
      go_ret
      exact ⟨str_ret (dig_marked S (marks_at S j hlt (by simpa using hor))), hb3⟩
    · have hlt : j < S.size := by assumption
      refine ⟨⟨j + 1, hlt, by go_num, Lib.hid (marks_step S j hlt hT.out (by assumption)), trivial⟩, ?_⟩
      simp [RowKit.intOf]; omega
    · have hge : ¬ j < S.size := by assumption
      go_ret
      exact ⟨str_ret (dig_plain S (by have := hT.out; rw [take_all S j hj hge] at this; exact this)), hb3⟩
end Go.Proofs.YtikpgglbfpdhmaaGreatDoor

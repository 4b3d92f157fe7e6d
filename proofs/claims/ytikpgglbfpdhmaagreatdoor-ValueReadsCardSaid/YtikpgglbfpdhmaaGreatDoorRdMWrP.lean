/- Printing a float: the shortest form; and what the digits are. -/
import Derived.Test.YtikpgglbfpdhmaaGreatDoorRdMWrL
import Derived.Test.YtikpgglbfpdhmaaGreatDoorRdMWrM
import Derived.Test.YtikpgglbfpdhmaaGreatDoorRdMWrN
namespace Go.Proofs.YtikpgglbfpdhmaaGreatDoor
open Go.RowKit Go.Joins Go.Sort Go.Lib

theorem gform_is (T : TypeId) (B b nd : Nat) (neg : Bool) (ds : List UInt8) (dp : Int) (v : Value) (l : List UInt8) (hn : nd = ds.length) (hn0 : 1 ≤ nd) (hn9 : nd ≤ 32) (hdq : -900 ≤ dp ∧ dp ≤ 900) (w : World)
    (ht : Tag T w b) (hB : B ≤ w.heap.size) (hb : Buf T w b ds) (hD0 : Dst T B b w w v l) (hl : l.length ≤ 100) :
    Calls Tryz.prog 132 #[v, .bool neg, .slice (some ⟨b, 0, none⟩) 32 32, .int .i64 dp, .int .i64 nd, .int .i64 nd, .int .u8 103, .bool true] w fun e w' => ∃ v', e = .returned v' ∧ Dst T B b w w' v' (l ++ gform neg ds dp) := by
  unfold gform
  by_cases h : dp < -3 ∨ 7 ≤ dp
  · rw [if_pos h]
    exact eform_is T B b nd neg ds dp v l hn hn0 hn9 h hdq w ht hB hb hD0 hl
  · rw [if_neg h]
    by_cases h0 : 0 < dp
    · obtain ⟨q, rfl⟩ : ∃ q : Nat, dp = (q : Int) := ⟨dp.toNat, by omega⟩
      exact fform_pos T B b nd q neg ds v l hn hn0 hn9 (by omega) (by omega) w ht hB hb hD0 hl
    · obtain ⟨k, hk⟩ : ∃ k : Nat, dp = -(k : Int) := ⟨(-dp).toNat, by omega⟩
      exact fform_neg T B b nd k neg ds dp v l hn hn0 hn9 (by omega) hk w ht hB hb hD0 hl
theorem dig_ofNat (n : Nat) (h : n < 10) : isDig (UInt8.ofNat (48 + n)) = true := by
  revert n; decide
theorem dec_dig : ∀ D : Nat, ∀ x ∈ decDigits D, isDig x = true := by
  intro D
  induction D using Nat.strongRecOn with
  | ind D ih =>
    intro x hx
    rw [decDigits] at hx
    split at hx
    · rename_i h
      rw [List.mem_singleton] at hx
      rw [hx]; exact dig_ofNat D h
    · rename_i h
      rcases List.mem_append.1 hx with hx | hx
      · exact ih (D / 10) (by omega) x hx
      · rw [List.mem_singleton] at hx
        rw [hx]; exact dig_ofNat _ (by omega)
theorem ofNat_ne (n : Nat) (h : n < 10) (h1 : 1 ≤ n) : UInt8.ofNat (48 + n) ≠ 48 := by
  revert n; decide
theorem dec_head : ∀ D : Nat, 1 ≤ D → (decDigits D).getD 0 0 ≠ 48 := by
  intro D
  induction D using Nat.strongRecOn with
  | ind D ih =>
    intro h1
    rw [decDigits]
    split
    · rename_i h
      exact ofNat_ne D h h1
    · rename_i h
      have h2 := ih (D / 10) (by omega) (by omega)
      have h3 : 0 < (decDigits (D / 10)).length := by rw [decDigits_length]; exact nDigits_pos _
      rw [List.getD_eq_getElem?_getD, List.getElem?_append_left h3, ← List.getD_eq_getElem?_getD]
      exact h2
theorem nz_pos (l : List UInt8) (h : l.getD 0 0 ≠ 48) : ∀ k, 1 ≤ k → 1 ≤ nzLen l k
  | 0, hk => by omega
  | 1, _ => by rw [nzLen_miss h]; omega
  | j + 2, _ => by
    by_cases h1 : l.getD (j + 1) 0 = 48
    · rw [nzLen_hit h1]; exact nz_pos l h (j + 1) (by omega)
    · rw [nzLen_miss h1]; omega
theorem Buf.take {T : TypeId} {w : World} {b : Nat} {ds : List UInt8} (h : Buf T w b ds) (n : Nat) : Buf T w b (ds.take n) := by
  refine ⟨h.1, fun j x hx => h.2 j x ?_⟩
  rw [List.getElem?_take] at hx
  split at hx
  · exact hx
  · cases hx
/-- The digits that are written: no 0 behind them. -/
def kept (D : Nat) : List UInt8 := (decDigits D).take (nzLen (decDigits D) (nDigits D))
theorem kept_len (D : Nat) : (kept D).length = nzLen (decDigits D) (nDigits D) := by
  unfold kept
  rw [List.length_take, decDigits_length]
  have := nzLen_le (decDigits D) (nDigits D)
  omega
theorem kept_dig (D : Nat) : ∀ x ∈ kept D, isDig x = true := fun x hx => dec_dig D x (List.mem_of_mem_take hx)
theorem kept_pos (D : Nat) (h : 1 ≤ D) : 1 ≤ (kept D).length := by rw [kept_len]; exact nz_pos _ (dec_head D h) _ (nDigits_pos D)
end Go.Proofs.YtikpgglbfpdhmaaGreatDoor

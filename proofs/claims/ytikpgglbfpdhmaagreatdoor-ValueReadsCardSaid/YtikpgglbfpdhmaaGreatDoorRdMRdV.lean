/- Reading a float: what the digits of a text come to. No program in sight. -/
import Derived.Test.YtikpgglbfpdhmaaGreatDoorRdMWrP
import Derived.Test.YtikpgglbfpdhmaaGreatDoorRdMRdM
import Derived.WalkMore
import Derived.WalkSpells
import Derived.Test.YtikpgglbfpdhmaaGreatDoorRdMRdR
namespace Go.Proofs.YtikpgglbfpdhmaaGreatDoor
open Go.Lib

/-- What has been read: the number, its digits, the point's place, whether there was a point and a digit. -/
structure Scan where
  m : Nat
  nd : Nat
  dp : Int
  dot : Bool
  dig : Bool
/-- Digits and one point, read one by one; few enough. -/
def scan : List UInt8 → Scan → Option Scan
  | [], s => some s
  | c :: l, s =>
    if c = 46 then (if s.dot then none else scan l ⟨s.m, s.nd, s.nd, true, s.dig⟩)
    else if isDig c = false then none
    else if c = 48 ∧ s.nd = 0 then (if s.dp ≤ -1000 then none else scan l ⟨s.m, s.nd, s.dp - 1, s.dot, true⟩)
    else if s.nd < 18 ∧ s.m < 100000000000000000 then scan l ⟨s.m * 10 + (c.toNat - 48), s.nd + 1, s.dp, s.dot, true⟩ else none
theorem drop_cons {S : List UInt8} {i : Nat} {c : UInt8} {l : List UInt8} (h : S.drop i = c :: l) : i < S.length ∧ S[i]? = some c ∧ S.drop (i + 1) = l := by
  have h1 : S[i]? = some c := by
    have : (S.drop i)[0]? = some c := by rw [h]; rfl
    rw [List.getElem?_drop] at this
    exact this
  have h2 : i < S.length := by
    rcases Nat.lt_or_ge i S.length with h3 | h3
    · exact h3
    · rw [List.drop_of_length_le h3] at h; cases h
  refine ⟨h2, h1, ?_⟩
  rw [← List.drop_drop, h]
  rfl
theorem drop_nil {S : List UInt8} {i : Nat} (h : S.drop i = []) (hi : i ≤ S.length) : i = S.length := by
  have := congrArg List.length h
  rw [List.length_drop] at this
  simp at this
  omega
/-- The digits of an exponent, read one by one. -/
def expVal : List UInt8 → Nat → Option Nat
  | [], e => some e
  | c :: l, e => if isDig c = false then none else if e < 10000 then expVal l (e * 10 + (c.toNat - 48)) else none
/-- A text's exponent. -/
def ExpText (E : List UInt8) (x : Int) : Prop :=
  E = [] ∧ x = 0 ∨ ∃ (ng : Bool) (D : List UInt8) (e : Nat), E = 101 :: (if ng then 45 else 43) :: D ∧ 1 ≤ D.length ∧ expVal D 0 = some e ∧ e ≤ 100000 ∧ x = if ng then -(e : Int) else e
theorem dig_bounds {c : UInt8} (h : isDig c = true) : 48 ≤ c.toNat ∧ c.toNat ≤ 57 := by
  unfold isDig at h
  simpa using h
theorem exp_dig {c : UInt8} {l : List UInt8} {e v : Nat} (h : expVal (c :: l) e = some v) : isDig c = true := by
  unfold expVal at h
  split at h
  · cases h
  · rename_i h1; simpa using h1
theorem exp_step {c : UInt8} {l : List UInt8} {e v : Nat} (h : expVal (c :: l) e = some v) : e < 10000 ∧ expVal l (e * 10 + (c.toNat - 48)) = some v := by
  unfold expVal at h
  split at h
  · cases h
  · split at h
    · rename_i h1; exact ⟨h1, h⟩
    · cases h
end Go.Proofs.YtikpgglbfpdhmaaGreatDoor

namespace Go.Proofs.YtikpgglbfpdhmaaGreatDoor
open Go.RowKit Go.Joins Go.Sort Go.Lib
attribute [local go_sem ↓] Go.wp_at_zero Go.wp_at_succ

theorem run_at {s : ByteArray} {i : Nat} {c : UInt8} (h : s.data.toList[i]? = some c) (w : World) : (Instr.index 9 (.string s) (.int .i64 (i : Int))).run Tryz.prog w = .ok (.int .u8 (c.toNat : Int)) w := by
  obtain ⟨h1, h2⟩ := List.getElem?_eq_some_iff.1 h
  have h3 : i < s.size := by rw [Lib.size_eq]; exact h1
  rw [run_index_string w 9 s .i64 (i : Int) Tryz.underlying9, dif_pos (by omega)]
  congr 4
set_option maxRecDepth 100000 in
theorem inf_up (w : World) : Calls Tryz.prog 183 #[.int .i64 1] w fun e w' => e = .returned (.float .f64 9218868437227405312) ∧ w = w' := by
  have hf := run_sfloat64frombits 9218868437227405312
  go_enter Tryz.func183, Tryz.ntmps183
  go_wp2
  go_ret
  exact ⟨rfl, rfl⟩
set_option maxRecDepth 100000 in
theorem inf_down (w : World) : Calls Tryz.prog 183 #[.int .i64 (-1)] w fun e w' => e = .returned (.float .f64 18442240474082181120) ∧ w = w' := by
  have hf := run_sfloat64frombits 18442240474082181120
  go_enter Tryz.func183, Tryz.ntmps183
  go_wp2
  go_ret
  exact ⟨rfl, rfl⟩
set_option maxRecDepth 100000 in
theorem nan_is (w : World) : Calls Tryz.prog 184 #[] w fun e w' => e = .returned (.float .f64 9221120237041090561) ∧ w = w' := by
  have hf := run_sfloat64frombits 9221120237041090561
  go_enter Tryz.func184, Tryz.ntmps184
  go_wp2
  go_ret
  exact ⟨rfl, rfl⟩
/-- The first sign is another. -/
theorem prefix_no (s p : ByteArray) (n m k q : Nat) (hn : s.size = n) (hn9 : 1 ≤ n ∧ n ≤ 1000) (hm : p.size = m) (hm9 : 1 ≤ m ∧ m ≤ 1000) (hk : 45 ≤ k ∧ k ≤ 57) (hkq : ((k : Int) != (q : Int)) = true)
    (hx : ∀ w, (Instr.index 9 (.string s) (.int .i64 0)).run Tryz.prog w = .ok (.int .u8 (k : Int)) w) (hy : ∀ w, (Instr.index 9 (.string p) (.int .i64 0)).run Tryz.prog w = .ok (.int .u8 (q : Int)) w) (w : World) :
    Calls Tryz.prog 182 #[.string s, .string p] w fun e w' => e = .returned (.int .i64 0) ∧ w = w' := by
  obtain ⟨r, hr⟩ : ∃ r : Int, min (m : Int) (n : Int) = r := ⟨_, rfl⟩
  have hr1 : 1 ≤ r ∧ r ≤ 1000 := by omega
  go_enter Tryz.func182, Tryz.ntmps182
  go_wp2_with fail
  go_loopw [6] (fun v wr => v = .int .i64 0 ∧ w = wr) (fun _ _ => 0)
  case atStart => exact ⟨rfl, by trivial⟩
  case round =>
    obtain ⟨rfl, hwr⟩ := hrel
    subst wr
    go_wp2_with fail
    go_ret
    exact ⟨rfl, rfl⟩
/-- Three signs that are there. -/
theorem prefix_three (s p : ByteArray) (m : Nat) (a b : Nat → Nat) (hn : s.size = 3) (hm : p.size = m) (hm9 : 3 ≤ m ∧ m ≤ 1000) (hab : ∀ i, i < 3 → 65 ≤ a i ∧ a i ≤ 90 ∧ b i = a i + 32 ∨ 91 ≤ a i ∧ a i ≤ 122 ∧ b i = a i)
    (hx : ∀ i : Nat, i < 3 → ∀ w, (Instr.index 9 (.string s) (.int .i64 (i : Int))).run Tryz.prog w = .ok (.int .u8 (a i : Int)) w) (hy : ∀ i : Nat, i < 3 → ∀ w, (Instr.index 9 (.string p) (.int .i64 (i : Int))).run Tryz.prog w = .ok (.int .u8 (b i : Int)) w) (w : World) :
    Calls Tryz.prog 182 #[.string s, .string p] w fun e w' => e = .returned (.int .i64 3) ∧ w = w' := by
  have hr : min (m : Int) (3 : Int) = 3 := by omega
  have HX := Lib.hid hx
  have HY := Lib.hid hy
  have HAB := Lib.hid hab
  clear hx hy hab
  go_enter Tryz.func182, Tryz.ntmps182
  go_wp2_with fail
  go_loopw [6] (fun v wr => ∃ k : Nat, k ≤ 3 ∧ v = .int .i64 (k : Int) ∧ w = wr) (fun v _ => 3 - (RowKit.intOf v).toNat)
  case atStart => exact ⟨0, by omega, rfl, by trivial⟩
  case round =>
    obtain ⟨k, hk, rfl, hwr⟩ := hrel
    subst wr
    by_cases h3 : k < 3
    · have hx := HX.out k h3
      have hy := HY.out k h3
      have hab := HAB.out k h3
      generalize a k = A at *
      generalize b k = B at *
      rcases hab with ⟨h1, h2, rfl⟩ | ⟨h1, h2, rfl⟩
      all_goals
        go_wp2_with fail
        go_roundw
        case rel => exact ⟨k + 1, by omega, by go_num, by trivial⟩
        case measure => simp [RowKit.intOf]; omega
    · have hk3 : k = 3 := by omega
      subst hk3
      go_wp2_with fail
      go_ret
      exact ⟨rfl, rfl⟩
theorem at_lit (s : ByteArray) (i : Nat) (c : UInt8) (h : s.data.toList[i]? = some c) : ∀ w, (Instr.index 9 (.string s) (.int .i64 (i : Int))).run Tryz.prog w = .ok (.int .u8 (c.toNat : Int)) w := fun w => run_at h w
/-- How long a prefix is. -/
def Prefix (s p : ByteArray) (n : Int) : Prop := ∀ w, Calls Tryz.prog 182 #[.string s, .string p] w fun e w' => e = .returned (.int .i64 n) ∧ w = w'
theorem Prefix.at {s p : ByteArray} {n : Int} (h : Prefix s p n) (w : World) : Calls Tryz.prog 182 #[.string s, .string p] w fun e w' => e = .returned (.int .i64 n) ∧ w = w' := h w
set_option maxRecDepth 100000 in
/-- No special value. -/
theorem special_pos (s : ByteArray) (n k : Nat) (hn : s.size = n) (hn1 : 1 ≤ n ∧ n ≤ 1000) (hk : 46 ≤ k ∧ k ≤ 57) (hx : ∀ w, (Instr.index 9 (.string s) (.int .i64 0)).run Tryz.prog w = .ok (.int .u8 (k : Int)) w) (w : World) :
    Calls Tryz.prog 141 #[.string s] w fun e w' => e = .returned (.tuple #[.float .f64 0, .int .i64 0, .bool false]) ∧ w = w' := by
  go_enter Tryz.func141, Tryz.ntmps141
  go_wp2_with fail
  go_ret3
  exact ⟨rfl, rfl⟩
set_option maxRecDepth 100000 in
theorem special_neg (s : ByteArray) (n : Nat) (hn : s.size = n) (hn1 : 2 ≤ n ∧ n ≤ 1000) (hx : ∀ w, (Instr.index 9 (.string s) (.int .i64 0)).run Tryz.prog w = .ok (.int .u8 45) w)
    (hP : Prefix (s.extract 1 n) ⟨#[105, 110, 102, 105, 110, 105, 116, 121]⟩ 0) (w : World) :
    Calls Tryz.prog 141 #[.string s] w fun e w' => e = .returned (.tuple #[.float .f64 0, .int .i64 0, .bool false]) ∧ w = w' := by
  go_enter Tryz.func141, Tryz.ntmps141
  go_wp2_with (go_at_call 182; with_reducible refine (hP.at _).mono ?_; rintro e w1 ⟨rfl, rfl⟩)
  go_ret3
  exact ⟨rfl, rfl⟩
set_option maxRecDepth 100000 in
theorem special_up (s : ByteArray) (hn : s.size = 3) (hx : ∀ w, (Instr.index 9 (.string s) (.int .i64 0)).run Tryz.prog w = .ok (.int .u8 73) w) (hP : Prefix s ⟨#[105, 110, 102, 105, 110, 105, 116, 121]⟩ 3) (w : World) :
    Calls Tryz.prog 141 #[.string s] w fun e w' => e = .returned (.tuple #[.float .f64 9218868437227405312, .int .i64 3, .bool true]) ∧ w = w' := by
  go_enter Tryz.func141, Tryz.ntmps141
  go_wp2_with (first | (go_at_call 182; with_reducible refine (hP.at _).mono ?_; rintro e w1 ⟨rfl, rfl⟩) | (go_at_call 183; with_reducible refine (inf_up _).mono ?_; rintro e w1 ⟨rfl, rfl⟩))
  go_ret3
  exact ⟨rfl, rfl⟩
set_option maxRecDepth 100000 in
theorem special_down (s : ByteArray) (hn : s.size = 4) (hx : ∀ w, (Instr.index 9 (.string s) (.int .i64 0)).run Tryz.prog w = .ok (.int .u8 45) w) (hP : Prefix (s.extract 1 4) ⟨#[105, 110, 102, 105, 110, 105, 116, 121]⟩ 3) (w : World) :
    Calls Tryz.prog 141 #[.string s] w fun e w' => e = .returned (.tuple #[.float .f64 18442240474082181120, .int .i64 4, .bool true]) ∧ w = w' := by
  go_enter Tryz.func141, Tryz.ntmps141
  go_wp2_with (first | (go_at_call 182; with_reducible refine (hP.at _).mono ?_; rintro e w1 ⟨rfl, rfl⟩) | (go_at_call 183; with_reducible refine (inf_down _).mono ?_; rintro e w1 ⟨rfl, rfl⟩))
  go_ret3
  exact ⟨rfl, rfl⟩
set_option maxRecDepth 100000 in
theorem special_none (s : ByteArray) (hn : s.size = 3) (hx : ∀ w, (Instr.index 9 (.string s) (.int .i64 0)).run Tryz.prog w = .ok (.int .u8 78) w) (hP : Prefix s ⟨#[110, 97, 110]⟩ 3) (w : World) :
    Calls Tryz.prog 141 #[.string s] w fun e w' => e = .returned (.tuple #[.float .f64 9221120237041090561, .int .i64 3, .bool true]) ∧ w = w' := by
  go_enter Tryz.func141, Tryz.ntmps141
  go_wp2_with (first | (go_at_call 182; with_reducible refine (hP.at _).mono ?_; rintro e w1 ⟨rfl, rfl⟩) | (go_at_call 184; with_reducible refine (nan_is _).mono ?_; rintro e w1 ⟨rfl, rfl⟩))
  go_ret3
  exact ⟨rfl, rfl⟩
theorem lit_idx (s : ByteArray) (i : Nat) (c : UInt8) (k : Nat) (h : s.data.toList[i]? = some c) (hk : c.toNat = k) : ∀ w, (Instr.index 9 (.string s) (.int .i64 (i : Int))).run Tryz.prog w = .ok (.int .u8 (k : Int)) w := fun w => by rw [← hk]; exact run_at h w
theorem lit_three (s : ByteArray) (c : List UInt8) (h : ∀ i, i < 3 → s.data.toList[i]? = some (c.getD i 0)) : ∀ i : Nat, i < 3 → ∀ w, (Instr.index 9 (.string s) (.int .i64 (i : Int))).run Tryz.prog w = .ok (.int .u8 (((c.getD i 0).toNat : Nat) : Int)) w := fun i hi w => run_at (h i hi) w
theorem inf_text (w : World) : Calls Tryz.prog 141 #[.string ⟨#[73, 110, 102]⟩] w fun e w' => e = .returned (.tuple #[.float .f64 9218868437227405312, .int .i64 3, .bool true]) ∧ w = w' :=
  special_up _ rfl (lit_idx _ 0 73 73 rfl rfl) (prefix_three _ _ 8 (fun i => (([73, 110, 102] : List UInt8).getD i 0).toNat) (fun i => (([105, 110, 102] : List UInt8).getD i 0).toNat) rfl rfl (by omega) (by decide) (lit_three _ [73, 110, 102] (by decide)) (lit_three _ [105, 110, 102] (by decide))) w
theorem down_text (w : World) : Calls Tryz.prog 141 #[.string ⟨#[45, 73, 110, 102]⟩] w fun e w' => e = .returned (.tuple #[.float .f64 18442240474082181120, .int .i64 4, .bool true]) ∧ w = w' :=
  special_down _ rfl (lit_idx _ 0 45 45 rfl rfl) (prefix_three _ _ 8 (fun i => (([73, 110, 102] : List UInt8).getD i 0).toNat) (fun i => (([105, 110, 102] : List UInt8).getD i 0).toNat) rfl rfl (by omega) (by decide) (lit_three _ [73, 110, 102] (by decide)) (lit_three _ [105, 110, 102] (by decide))) w
theorem nan_text (w : World) : Calls Tryz.prog 141 #[.string ⟨#[78, 97, 78]⟩] w fun e w' => e = .returned (.tuple #[.float .f64 9221120237041090561, .int .i64 3, .bool true]) ∧ w = w' :=
  special_none _ rfl (lit_idx _ 0 78 78 rfl rfl) (prefix_three _ _ 3 (fun i => (([78, 97, 78] : List UInt8).getD i 0).toNat) (fun i => (([110, 97, 110] : List UInt8).getD i 0).toNat) rfl rfl (by omega) (by decide) (lit_three _ [78, 97, 78] (by decide)) (lit_three _ [110, 97, 110] (by decide))) w
/-- A text that begins as a number is no special value. -/
theorem special_no (neg : Bool) (s : ByteArray) (n : Nat) (c : UInt8) (l : List UInt8) (hS : s.data.toList = sgn neg ++ c :: l) (hn : s.size = n) (hn9 : n ≤ 1000) (h : isDig c = true ∨ c = 46) (w : World) :
    Calls Tryz.prog 141 #[.string s] w fun e w' => e = .returned (.tuple #[.float .f64 0, .int .i64 0, .bool false]) ∧ w = w' := by
  have hcn : 46 ≤ c.toNat ∧ c.toNat ≤ 57 := by
    rcases h with h | h
    · have := dig_bounds h; omega
    · rw [h]; decide
  have hl : n = (sgn neg ++ c :: l).length := by rw [← hn, Lib.size_eq, hS]
  cases neg
  · refine special_pos s n c.toNat hn ⟨by rw [hl]; simp; omega, hn9⟩ hcn (fun w => run_at (i := 0) (by rw [hS]; rfl) w) w
  · have hl2 : 2 ≤ n := by rw [hl, show sgn true = [45] from rfl]; simp
    have hx : (s.extract 1 n).data.toList = c :: l := by
      rw [ByteArray.data_extract, Array.toList_extract, List.extract_eq_drop_take', hS, List.take_of_length_le (by rw [← hl]; omega)]
      rfl
    have hz : (s.extract 1 n).size = n - 1 := by
      rw [Lib.size_eq, hx]
      rw [show sgn true = [45] from rfl] at hl
      simp at hl ⊢
      omega
    refine special_neg s n hn ⟨hl2, hn9⟩ (fun w => run_at (i := 0) (c := 45) (by rw [hS]; rfl) w) (fun w => prefix_no _ _ (n - 1) 8 c.toNat 105 hz ⟨by omega, by omega⟩ rfl ⟨by omega, by omega⟩ ⟨by omega, by omega⟩ (by rw [bne_iff_ne]; omega) (fun w => run_at (i := 0) (by rw [hx]; rfl) w) (lit_idx _ 0 105 105 rfl rfl) w) w
end Go.Proofs.YtikpgglbfpdhmaaGreatDoor

namespace Go.Proofs.YtikpgglbfpdhmaaGreatDoor
open Go.RowKit Go.Joins Go.Sort Go.Lib
attribute [local go_sem ↓] Go.wp_at_zero Go.wp_at_succ

/-- What reading asks of memory. -/
def RTabs (w : World) : Prop := TenAt w ∧ w.cell? ⟨5, 0, none⟩ = some (.bool true) ∧ w.cell? ⟨7, 0, none⟩ = some (.int .u64 52) ∧ ∃ N o c, PowAt N o c w
/-- What readFloat gives. -/
def ReadTo (s : ByteArray) (d : Nat) (p : Int) (neg : Bool) (n : Nat) : Prop := ∀ w, Calls Tryz.prog 142 #[.string s] w fun e w' => e = .returned (.tuple #[.int .u64 d, .int .i64 p, .bool neg, .bool false, .bool false, .int .i64 n, .bool true]) ∧ w = w'
theorem ReadTo.at {s : ByteArray} {d : Nat} {p : Int} {neg : Bool} {n : Nat} (h : ReadTo s d p neg n) (w : World) : Calls Tryz.prog 142 #[.string s] w fun e w' => e = .returned (.tuple #[.int .u64 d, .int .i64 p, .bool neg, .bool false, .bool false, .int .i64 n, .bool true]) ∧ w = w' := h w
/-- What special gives. -/
def SpecTo (s : ByteArray) (f : Nat) (n : Nat) (ok : Bool) : Prop := ∀ w, Calls Tryz.prog 141 #[.string s] w fun e w' => e = .returned (.tuple #[.float .f64 f, .int .i64 n, .bool ok]) ∧ w = w'
theorem SpecTo.at {s : ByteArray} {f n : Nat} {ok : Bool} (h : SpecTo s f n ok) (w : World) : Calls Tryz.prog 141 #[.string s] w fun e w' => e = .returned (.tuple #[.float .f64 f, .int .i64 n, .bool ok]) ∧ w = w' := h w
set_option maxRecDepth 100000 in
theorem bool2u_no (w : World) : Calls Tryz.prog 150 #[.bool false] w fun e w' => e = .returned (.int .u64 0) ∧ w = w' := by
  go_enter Tryz.func150, Tryz.ntmps150
  go_wp2
  go_ret
  exact ⟨rfl, rfl⟩
set_option maxRecDepth 100000 in
theorem bool2u_yes (w : World) : Calls Tryz.prog 150 #[.bool true] w fun e w' => e = .returned (.int .u64 1) ∧ w = w' := by
  go_enter Tryz.func150, Tryz.ntmps150
  go_wp2
  go_ret
  exact ⟨rfl, rfl⟩
set_option maxRecDepth 100000 in
set_option maxHeartbeats 1000000 in
theorem atof_special (s : ByteArray) (f n : Nat) (hs : SpecTo s f n true) (w : World) :
    Calls Tryz.prog 113 #[.string s] w fun e w' => e = .returned (.tuple #[.float .f64 f, .int .i64 n, .nilIface]) ∧ w = w' := by
  go_enter Tryz.func113, Tryz.ntmps113
  go_wp2_with (go_at_call 141; with_reducible refine (hs.at _).mono ?_; rintro e w1 ⟨rfl, rfl⟩)
  go_ret3
  exact ⟨rfl, rfl⟩
set_option maxRecDepth 100000 in
set_option maxHeartbeats 1000000 in
theorem atof_zero (s : ByteArray) (p : Int) (n : Nat) (hs : SpecTo s 0 0 false) (hr : ReadTo s 0 p false n) (w : World) (ho : w.cell? ⟨5, 0, none⟩ = some (.bool true)) :
    Calls Tryz.prog 113 #[.string s] w fun e w' => e = .returned (.tuple #[.float .f64 0, .int .i64 n, .nilIface]) ∧ w = w' := by
  have hf := run_sfloat64frombits 0
  have h0 : bits BinOp.or IntKind.u64 0 0 = 0 := rfl
  go_enter Tryz.func113, Tryz.ntmps113
  go_wp2_with (first
    | (go_at_call 141; with_reducible refine (hs.at _).mono ?_; rintro e w1 ⟨rfl, rfl⟩)
    | (go_at_call 142; with_reducible refine (hr.at _).mono ?_; rintro e w1 ⟨rfl, rfl⟩)
    | (go_at_call 150; with_reducible refine (bool2u_no _).mono ?_; rintro e w1 ⟨rfl, rfl⟩))
  go_ret3
  exact ⟨rfl, rfl⟩
set_option maxRecDepth 100000 in
set_option maxHeartbeats 1000000 in
theorem atof_number (s : ByteArray) (neg : Bool) (mt : Nat) (x : Int) (hcan : Canon mt x) (h1 : 1 ≤ mt) (hx : x ≤ 971) (d : Nat) (hd1 : 1 ≤ d) (hd : d < 1152921504606846976) (p : Int) (hp : -345 ≤ p ∧ p ≤ 310) (hnear : Hid (Near mt x ((d : Rat) * b10 p))) (n : Nat)
    (hs : SpecTo s 0 0 false) (hr : ReadTo s d p neg n) (w : World) (ht : TenAt w) (ho : w.cell? ⟨5, 0, none⟩ = some (.bool true)) (hi : w.cell? ⟨7, 0, none⟩ = some (.int .u64 52)) (N o c : Nat) (hN : PowAt N o c w) :
    Calls Tryz.prog 113 #[.string s] w fun e w' => e = .returned (.tuple #[.float .f64 (fw neg mt x), .int .i64 n, .nilIface]) ∧ Below w.heap.size w w' := by
  have HT := Lib.hid ht
  have HI := Lib.hid hi
  have HN := Lib.hid hN
  clear ht hi hN
  go_enter Tryz.func113, Tryz.ntmps113
  go_upto_region 11 with (first
    | (go_at_call 141; with_reducible refine (hs.at _).mono ?_; rintro e w1 ⟨rfl, rfl⟩)
    | (go_at_call 142; with_reducible refine (hr.at _).mono ?_; rintro e w1 ⟨rfl, rfl⟩))
  go_cut [16] (fun s16 wx => s16 = .int .u64 (sgb neg) ∧ w = wx)
  case first =>
    cases neg
    · go_wp2_with (go_at_call 150; with_reducible refine (bool2u_no _).mono ?_; rintro e w1 ⟨rfl, rfl⟩)
      go_meet
      exact ⟨rfl, rfl⟩
    · go_wp2_with (go_at_call 150; with_reducible refine (bool2u_yes _).mono ?_; rintro e w1 ⟨rfl, rfl⟩)
      go_meet
      exact ⟨rfl, rfl⟩
  case rest =>
    obtain ⟨rfl, hwc⟩ := hcut
    subst wc
    go_wp2_with fail
    refine (exact_all neg mt x hcan d hd1 p hnear.out N o c w HI.out HN.out).mono ?_
    rintro e w1 ⟨Fx, ok, rfl, hF, rfl⟩
    cases ok
    · go_wp2_with (go_at_call 153; with_reducible refine (parse_is neg mt x hcan h1 hx d hd p hp hnear.out _ HT.out).mono ?_; rintro e w1 ⟨rfl, hb⟩)
      go_ret3
      exact ⟨rfl, hb⟩
    · obtain rfl := hF rfl
      clear hF
      go_wp2_with fail
      go_ret3
      exact ⟨rfl, Below.refl _ _⟩
/-- What atof64 gives. -/
def AtofTo (s : ByteArray) (f : Nat) (n : Nat) : Prop := ∀ w, RTabs w → Calls Tryz.prog 113 #[.string s] w fun e w' => e = .returned (.tuple #[.float .f64 f, .int .i64 n, .nilIface]) ∧ Below w.heap.size w w'
theorem AtofTo.at {s : ByteArray} {f : Nat} {n : Nat} (h : AtofTo s f n) (w : World) (ht : RTabs w) : Calls Tryz.prog 113 #[.string s] w fun e w' => e = .returned (.tuple #[.float .f64 f, .int .i64 n, .nilIface]) ∧ Below w.heap.size w w' := h w ht
set_option maxRecDepth 100000 in
theorem prefix_to (s : ByteArray) (f n : Nat) (h : AtofTo s f n) (w : World) (ht : Hid (RTabs w)) :
    Calls Tryz.prog 85 #[.string s, .int .i64 64] w fun e w' => e = .returned (.tuple #[.float .f64 f, .int .i64 n, .nilIface]) ∧ Below w.heap.size w w' := by
  go_enter Tryz.func85, Tryz.ntmps85
  go_wp2_with (go_at_call 113; with_reducible refine (h.at _ ht.out).mono ?_; rintro e w1 ⟨rfl, hb⟩)
  go_ret3
  exact ⟨rfl, hb⟩
set_option maxRecDepth 100000 in
theorem parse_inner (s : ByteArray) (f n : Nat) (hn : s.size = n) (h : AtofTo s f n) (w : World) (ht : Hid (RTabs w)) :
    Calls Tryz.prog 66 #[.string s, .int .i64 64] w fun e w' => e = .returned (.tuple #[.float .f64 f, .nilIface]) ∧ Below w.heap.size w w' := by
  go_enter Tryz.func66, Tryz.ntmps66
  go_wp2_with (go_at_call 85; with_reducible refine (prefix_to s f n h _ ht).mono ?_; rintro e w1 ⟨rfl, hb⟩)
  go_ret2
  exact ⟨rfl, hb⟩
set_option maxRecDepth 100000 in
/-- ParseFloat gives the float. -/
theorem parse_float (s : ByteArray) (f n : Nat) (hn : s.size = n) (h : AtofTo s f n) (w : World) (ht : Hid (RTabs w)) :
    Calls Tryz.prog 45 #[.string s, .int .i64 64] w fun e w' => e = .returned (.tuple #[.float .f64 f, .nilIface]) ∧ Below w.heap.size w w' := by
  go_enter Tryz.func45, Tryz.ntmps45
  go_wp2_with (go_at_call 66; with_reducible refine (parse_inner s f n hn h _ ht).mono ?_; rintro e w1 ⟨rfl, hb⟩)
  go_ret2
  exact ⟨rfl, hb⟩
end Go.Proofs.YtikpgglbfpdhmaaGreatDoor

/- Printing a float: the two forms, as bytes; which bits are special. No program in sight. -/
import Derived.Lib.SlTrimSet
import Derived.Test.YtikpgglbfpdhmaaGreatDoorVDef
namespace Go.Proofs.YtikpgglbfpdhmaaGreatDoor
open Go.Lib

/-- One digit. -/
def dg (n : Nat) : UInt8 := (n + 48).toUInt8
def expoN (a : Nat) : List UInt8 := if a < 10 then [48, dg a] else if a < 100 then [dg (a / 10), dg (a % 10)] else [dg (a / 100), dg (a / 10 % 10), dg (a % 10)]
def expo (x : Int) : List UInt8 := (if x < 0 then 45 else 43) :: expoN x.natAbs
def sgn (neg : Bool) : List UInt8 := if neg then [45] else []
/-- .. with an exponent. -/
def eform (neg : Bool) (ds : List UInt8) (dp : Int) : List UInt8 := sgn neg ++ (ds.take 1 ++ ((if 1 < ds.length then 46 :: ds.drop 1 else []) ++ (101 :: expo (dp - 1))))
/-- .. without one. -/
def fform (neg : Bool) (ds : List UInt8) (dp : Int) : List UInt8 :=
  sgn neg ++ ((if 0 < dp then ds.take dp.toNat ++ List.replicate (dp.toNat - ds.length) 48 else [48]) ++
    (if dp < ds.length then 46 :: (List.replicate (-dp).toNat 48 ++ ds.drop dp.toNat) else []))
/-- The shortest form. -/
def gform (neg : Bool) (ds : List UInt8) (dp : Int) : List UInt8 := if dp < -3 ∨ 7 ≤ dp then eform neg ds dp else fform neg ds dp
/-- What the program trims, and what is left where no point and no e is there. -/
def cutBytes : List UInt8 := [45, 48, 49, 50, 51, 52, 53, 54, 55, 56, 57]
def isDig (b : UInt8) : Bool := decide (48 ≤ b.toNat) && decide (b.toNat ≤ 57)
def marks (l : List UInt8) : Bool := l.any fun b => b == 46 || b == 101
theorem mem_dropWhile {p : UInt8 → Bool} : ∀ {l : List UInt8} {x : UInt8}, x ∈ l → p x = false → x ∈ l.dropWhile p
  | y :: l, x, h, hp => by
    rw [List.dropWhile_cons]
    split
    · rename_i hy
      rcases List.mem_cons.1 h with rfl | h
      · rw [hp] at hy; cases hy
      · exact mem_dropWhile h hp
    · exact h
theorem dropWhile_all {p : UInt8 → Bool} : ∀ {l : List UInt8}, (∀ x ∈ l, p x = true) → l.dropWhile p = []
  | [], _ => rfl
  | y :: l, h => by
    rw [List.dropWhile_cons, if_pos (h y (by simp))]
    exact dropWhile_all fun x hx => h x (by simp [hx])
theorem trim_nil (l cs : List UInt8) (h : ∀ x ∈ l, cs.contains x = true) : trimS l cs = [] := by
  unfold trimS trimRightS
  rw [dropWhile_all (fun x hx => h x (by simpa using hx))]
  rfl
theorem trim_some (l cs : List UInt8) {x : UInt8} (hx : x ∈ l) (hc : cs.contains x = false) : trimS l cs ≠ [] := by
  intro h
  have h1 : x ∈ trimRightS l cs := by
    unfold trimRightS
    rw [List.mem_reverse]
    exact mem_dropWhile (by simpa using hx) hc
  have h2 : x ∈ trimS l cs := by unfold trimS trimLeftS; exact mem_dropWhile h1 hc
  rw [h] at h2
  cases h2
theorem byte_cases {P : UInt8 → Prop} (h : ∀ n : Fin 256, P (n.val.toUInt8)) (b : UInt8) : P b := by
  have := h ⟨b.toNat, b.toNat_lt⟩
  simpa using this
theorem cut_dig : ∀ b : UInt8, isDig b = true → cutBytes.contains b = true := by
  intro b
  revert b
  apply byte_cases
  decide +kernel
/-- Text of digits, signs and marks, '+' only behind an 'e': it is trimmed to nothing if there is no mark. -/
theorem trim_marks (l : List UInt8) (h : ∀ b ∈ l, isDig b = true ∨ b = 45 ∨ b = 46 ∨ b = 101 ∨ b = 43) (hp : 43 ∈ l → 101 ∈ l) : trimS l cutBytes = [] ↔ marks l = false := by
  cases hm : marks l with
  | true =>
    constructor
    · intro e
      obtain ⟨b, hb, hb2⟩ := List.any_eq_true.1 hm
      rcases (show b = 46 ∨ b = 101 by simpa using hb2) with rfl | rfl
      · exact absurd e (trim_some _ _ hb (by decide))
      · exact absurd e (trim_some _ _ hb (by decide))
    · intro e; cases e
  | false =>
    refine ⟨fun _ => rfl, fun _ => ?_⟩
    have hn : ∀ b ∈ l, b ≠ 46 ∧ b ≠ 101 := by
      intro b hb
      have := List.any_eq_false.1 hm b hb
      simpa using this
    refine trim_nil _ _ fun x hx => ?_
    rcases h x hx with h1 | rfl | rfl | rfl | rfl
    · exact cut_dig x h1
    · decide
    · exact absurd rfl (hn _ hx).1
    · exact absurd rfl (hn _ hx).2
    · exact absurd rfl (hn _ (hp hx)).2
theorem dg_dig (n : Nat) (h : n < 10) : isDig (dg n) = true := by
  revert n; decide
def Alpha (b : UInt8) : Prop := isDig b = true ∨ b = 45 ∨ b = 46 ∨ b = 101 ∨ b = 43
theorem expoN_alpha (a : Nat) (h : a < 1000) : ∀ b ∈ expoN a, isDig b = true := by
  unfold expoN
  split
  · intro b hb
    simp only [List.mem_cons, List.mem_nil_iff, or_false] at hb
    rcases hb with rfl | rfl
    · decide
    · exact dg_dig _ (by omega)
  · split
    · intro b hb
      simp only [List.mem_cons, List.mem_nil_iff, or_false] at hb
      rcases hb with rfl | rfl <;> exact dg_dig _ (by omega)
    · intro b hb
      simp only [List.mem_cons, List.mem_nil_iff, or_false] at hb
      rcases hb with rfl | rfl | rfl <;> exact dg_dig _ (by omega)
theorem sgn_alpha (neg : Bool) : ∀ b ∈ sgn neg, Alpha b := by
  cases neg
  · intro b hb; cases hb
  · intro b hb
    rw [show sgn true = [45] from rfl, List.mem_singleton] at hb
    subst hb; exact .inr (.inl rfl)
theorem eform_alpha (neg : Bool) (ds : List UInt8) (dp : Int) (hd : ∀ b ∈ ds, isDig b = true) (h0 : -999 < dp) (h1 : dp < 1000) : ∀ b ∈ eform neg ds dp, Alpha b := by
  intro b hb
  unfold eform at hb
  simp only [List.mem_append, List.mem_cons] at hb
  rcases hb with hb | hb | hb | rfl | hb
  · exact sgn_alpha neg b hb
  · exact .inl (hd b (List.mem_of_mem_take hb))
  · split at hb
    · rcases List.mem_cons.1 hb with rfl | hb
      · exact .inr (.inr (.inl rfl))
      · exact .inl (hd b (List.mem_of_mem_drop hb))
    · cases hb
  · exact .inr (.inr (.inr (.inl rfl)))
  · unfold expo at hb
    rcases List.mem_cons.1 hb with rfl | hb
    · split
      · exact .inr (.inl rfl)
      · exact .inr (.inr (.inr (.inr rfl)))
    · exact .inl (expoN_alpha _ (by omega) b hb)
theorem eform_e (neg : Bool) (ds : List UInt8) (dp : Int) : 101 ∈ eform neg ds dp := by
  unfold eform
  simp
theorem fform_alpha (neg : Bool) (ds : List UInt8) (dp : Int) (hd : ∀ b ∈ ds, isDig b = true) : ∀ b ∈ fform neg ds dp, isDig b = true ∨ b = 45 ∨ b = 46 := by
  intro b hb
  unfold fform at hb
  simp only [List.mem_append] at hb
  rcases hb with hb | hb | hb
  · cases neg
    · cases hb
    · rw [show sgn true = [45] from rfl, List.mem_singleton] at hb
      exact .inr (.inl hb)
  · split at hb
    · rcases List.mem_append.1 hb with hb | hb
      · exact .inl (hd b (List.mem_of_mem_take hb))
      · rw [(List.mem_replicate.1 hb).2]; exact .inl rfl
    · rw [List.mem_singleton] at hb
      rw [hb]; exact .inl rfl
  · split at hb
    · rcases List.mem_cons.1 hb with rfl | hb
      · exact .inr (.inr rfl)
      · rcases List.mem_append.1 hb with hb | hb
        · rw [(List.mem_replicate.1 hb).2]; exact .inl rfl
        · exact .inl (hd b (List.mem_of_mem_drop hb))
    · cases hb
/-- The shortest form of a number is trimmed to nothing if it has no mark. -/
theorem gform_trim (neg : Bool) (ds : List UInt8) (dp : Int) (hd : ∀ b ∈ ds, isDig b = true) (h0 : -999 < dp) (h1 : dp < 1000) : trimS (gform neg ds dp) cutBytes = [] ↔ marks (gform neg ds dp) = false := by
  unfold gform
  split
  · exact trim_marks _ (eform_alpha neg ds dp hd h0 h1) (fun _ => eform_e neg ds dp)
  · refine trim_marks _ (fun b hb => ?_) (fun h => ?_)
    · rcases fform_alpha neg ds dp hd b hb with h | h | h
      · exact .inl h
      · exact .inr (.inl h)
      · exact .inr (.inr (.inl h))
    · rcases fform_alpha neg ds dp hd _ h with h | h | h <;> exact absurd h (by decide)
end Go.Proofs.YtikpgglbfpdhmaaGreatDoor

namespace Go.Proofs.YtikpgglbfpdhmaaGreatDoor
open Go.Lib

theorem read_max : ∃ m i, FloatKind.f64.format.read 9218868437227405311 = .number false m i := by
  exact ⟨9007199254740991, 971, by decide +kernel⟩
theorem read_min : ∃ m i, FloatKind.f64.format.read 18442240474082181119 = .number true m i := by
  exact ⟨9007199254740991, 971, by decide +kernel⟩
theorem read_special (f : Nat) (hE : f / 4503599627370496 % 2048 = 2047) : (∃ s, FloatKind.f64.format.read f = .infinity s) ∨ ∃ s k, FloatKind.f64.format.read f = .nan s k := by
  have c1 : FloatKind.f64.format.signWeight = 9223372036854775808 := by decide +kernel
  have c2 : FloatKind.f64.format.binade = 4503599627370496 := by decide +kernel
  have c3 : FloatKind.f64.format.infRung = 9218868437227405312 := by decide +kernel
  have r1 : 9218868437227405312 ≤ f % 9223372036854775808 := by omega
  unfold Ieee.Format.read
  rw [c1, c2, c3]
  simp only
  rw [if_neg (by omega), if_neg (by omega)]
  by_cases h : f % 9223372036854775808 = 9218868437227405312
  · rw [if_pos h]; exact .inl ⟨_, rfl⟩
  · rw [if_neg h]; exact .inr ⟨_, _, rfl⟩
theorem plain_bits (f : Nat) (hn : fnan f = false) (h1 : fgt f 9218868437227405311 = false) (h2 : flt f 18442240474082181119 = false) : f / 4503599627370496 % 2048 ≠ 2047 := by
  intro hE
  obtain ⟨m, i, e1⟩ := read_max
  obtain ⟨m', i', e2⟩ := read_min
  unfold fnan at hn
  unfold fgt at h1
  unfold flt at h2
  unfold Ieee.Format.order at hn h1 h2
  rw [e1] at h1
  rw [e2] at h2
  rcases read_special f hE with ⟨s, e⟩ | ⟨s, k, e⟩
  · rw [e] at h1 h2
    cases s
    · simp [Ieee.Datum.order] at h1
    · simp [Ieee.Datum.order] at h2
  · rw [e] at hn
    simp [Ieee.Datum.order] at hn
theorem sgn_len (neg : Bool) : (sgn neg).length ≤ 1 := by cases neg <;> decide
theorem expoN_len (a : Nat) : (expoN a).length ≤ 3 := by
  unfold expoN
  split
  · simp
  · split <;> simp
theorem gform_len (neg : Bool) (ds : List UInt8) (dp : Int) (h : ds.length ≤ 32) : (gform neg ds dp).length ≤ 100 := by
  have h1 := sgn_len neg
  unfold gform
  split
  · have h2 := expoN_len (dp - 1).natAbs
    unfold eform expo
    split <;> simp <;> omega
  · rename_i hd
    unfold fform
    split <;> split <;> simp <;> omega
theorem gform_pos (neg : Bool) (ds : List UInt8) (dp : Int) (h : 1 ≤ ds.length ∨ dp ≤ 0 ∧ -3 ≤ dp) : 1 ≤ (gform neg ds dp).length := by
  unfold gform
  split
  · unfold eform; simp; omega
  · unfold fform
    split
    · rename_i h0
      rcases h with h | h
      · simp; omega
      · omega
    · simp; omega
end Go.Proofs.YtikpgglbfpdhmaaGreatDoor

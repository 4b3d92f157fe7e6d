/- Printing a float: zero. -/
import Derived.Test.YtikpgglbfpdhmaaGreatDoorWrO
import Derived.Test.YtikpgglbfpdhmaaGreatDoorWrK
namespace Go.Proofs.YtikpgglbfpdhmaaGreatDoor
open Go.RowKit Go.Joins Go.Sort Go.Lib
attribute [local go_sem ↓] Go.wp_at_zero Go.wp_at_succ

/-- A slice of bytes that was made behind block B holds l. -/
structure Own0 (B : Nat) (w0 w : World) (v : Value) (l : List UInt8) : Prop where
  own : w.ownsRow B 5 1 v l.length (byteCells l)
  below : Below B w0 w
  size : B ≤ w.heap.size
theorem app_0 {ops : Array Oper} {rest : List Oper} {o : Oper} {a : Act} {Q : Exit → Act → World → Prop} (s x : Operand) (hgd : o.guard = none)
    (ho : o.op = .call { callee := .builtin .append, args := #[s, x], argTypes := #[94, 94] })
    {B : Nat} {w0 wr : World} {v : Value} {l : List UInt8} (hD : Own0 B w0 wr v l) (hs : a.eval s = v)
    (cs : Array Value) (m c : Nat) (hx : a.eval x = .slice (some ⟨wr.heap.size, 0, none⟩) m c) (news : List UInt8) (hcs : cs.toList = byteCells news) (hm : news.length = m) (hl : l.length + news.length ≤ 2000)
    (h : ∀ v' w', Own0 B w0 w' v' (l ++ news) → wpList Tryz.prog ops Q rest (a.put o.dst v') w') : wpList Tryz.prog ops Q (o :: rest) a (wr.alloc (.cells cs 5)) := by
  obtain ⟨i0, hi, hz0, hz1, hz2⟩ := info_parts info5
  refine wpList_append_own _ hgd s x 94 ho B 5 i0 (.int .u8 0) 1 1 Tryz.underlying94 hi hz0 hz1 hz2 rfl (by decide) v l.length (byteCells l) hs (hD.own.alloc _) ⟨wr.heap.size, 0, none⟩ m c (byteCells news) hx (by rw [byteCells_length]; omega) ?_ (bytes_one news) (by unfold maxLen; omega) (by omega) (by have := hD.size; simp; omega) ?_
  · intro j u hu
    rw [add_zero, World.cell?_alloc_new, ← Array.getElem?_toList, hcs]
    exact hu
  · intro v' w' hown hgrow _
    refine h v' w' ⟨?_, (hD.below.alloc hD.size _).grown hgrow (by have := hD.size; simp; omega) (fun k hk => (hD.own.lt k hk).1), Nat.le_trans hD.size (Nat.le_trans (by simp) hgrow.size)⟩
    rw [List.length_append, byteCells_append, hm]; exact hown
set_option maxRecDepth 100000 in
set_option maxHeartbeats 4000000 in
theorem zero_is (B : Nat) (neg : Bool) (v : Value) (l : List UInt8) (w : World) (hD0 : Own0 B w w v l) (hl : l.length ≤ 100) :
    Calls Tryz.prog 132 #[v, .bool neg, .slice none 0 0, .int .i64 0, .int .i64 0, .int .i64 (-1), .int .u8 103, .bool true] w fun e w' => ∃ v', e = .returned v' ∧ Own0 B w w' v' (l ++ fform neg [] 0) := by
  have HD := Lib.hid hD0
  have hsg : (sgn neg).length ≤ 1 := by cases neg <;> decide
  clear hD0
  go_enter Tryz.func132, Tryz.ntmps132
  go_upto_if 178 with fail
  go_cut [0, 1] (fun s0 s1 wx => s1 = .bool neg ∧ Hid (Own0 B w wx s0 (l ++ sgn neg)))
  case first => as_aux_lemma =>
    go_wp2_with (at_builtin; refine app_0 _ _ rfl rfl HD.out rfl _ _ _ rfl [45] rfl rfl (by simp; omega) ?_; intro v1 w1 hD1)
    all_goals go_meet
    · have hneg : neg = true := by assumption
      exact ⟨congrArg Value.bool hneg.symm, Lib.hid (by rw [hneg]; exact hD1)⟩
    · have hneg : neg = false := by assumption
      exact ⟨rfl, Lib.hid (by rw [hneg, show sgn false = [] from rfl, List.append_nil]; exact HD.out)⟩
  case rest => as_aux_lemma =>
    obtain ⟨rfl, HD1⟩ := hcut
    clear HD
    go_wp2_with (at_builtin; refine app_0 (.tmp 209) (.tmp 210) rfl rfl HD1.out rfl _ _ _ rfl [48] rfl rfl (by simp; omega) ?_; intro v2 w2 hD2)
    go_ret
    refine ⟨_, rfl, ?_⟩
    have e : l ++ fform neg [] 0 = l ++ sgn neg ++ [48] := by
      rw [List.append_assoc]
      rfl
    rw [e]
    exact hD2
end Go.Proofs.YtikpgglbfpdhmaaGreatDoor

namespace Go.Proofs.YtikpgglbfpdhmaaGreatDoor
open Go.RowKit Go.Joins Go.Sort Go.Lib
attribute [local go_sem ↓] Go.wp_at_zero Go.wp_at_succ

set_option maxRecDepth 100000 in
set_option maxHeartbeats 4000000 in
theorem ftoa_zero (f : Nat) (neg : Bool) (B : Nat) (v : Value) (hf : f < 18446744073709551616)
    (h1 : ((f : Int) / 9223372036854775808 != 0) = neg) (h2 : bits BinOp.and IntKind.i64 ((f : Int) / 4503599627370496) 2047 = 0) (h3 : bits BinOp.and IntKind.u64 (f : Int) 4503599627370495 = 0) (w : World)
    (hB : B ≤ w.heap.size) (hown : w.ownsRow B 5 1 v 0 []) :
    Calls Tryz.prog 106 #[v, .float .f64 f, .int .u8 103, .int .i64 (-1)] w fun e w' => ∃ v', e = .returned v' ∧ w'.ownsRow B 5 1 v' (gform neg [] 0).length (byteCells (gform neg [] 0)) ∧ RowKit.Below B w w' := by
  have HO := Lib.hid hown
  have hfb := run_sfloat64bits f
  have hG := Lib.hid (zero_is B neg v [] w.drew ⟨hown, Below.refl _ _, hB⟩ (by simp))
  clear hown
  go_enter Tryz.func106, Tryz.ntmps106
  go_upto_region 14 with fail
  go_region
  go_wp2_with (go_at_call 132; with_reducible refine (hG.out).mono ?_; rintro e w3 ⟨v', rfl, hD3⟩)
  go_ret
  exact ⟨v', rfl, hD3.own, (Below.refl _ _).drew.trans hD3.below⟩
end Go.Proofs.YtikpgglbfpdhmaaGreatDoor

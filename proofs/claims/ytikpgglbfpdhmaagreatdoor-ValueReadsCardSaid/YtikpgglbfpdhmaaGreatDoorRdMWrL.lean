/- Printing a float: the form with an exponent. -/
import Derived.Test.YtikpgglbfpdhmaaGreatDoorRdMWrJ
namespace Go.Proofs.YtikpgglbfpdhmaaGreatDoor
open Go.RowKit Go.Joins Go.Sort Go.Lib
attribute [local go_sem ↓] Go.wp_at_zero Go.wp_at_succ

theorem getD_some {l : List UInt8} {j : Nat} (h : j < l.length) : l[j]? = some (l.getD j 0) := by
  rw [List.getD_eq_getElem?_getD, List.getElem?_eq_getElem h]
  rfl
def esg (x : Int) : UInt8 := if x < 0 then 45 else 43
theorem esg_cell (x : Int) : ((esg x).toNat : Int) = if x < 0 then 45 else 43 := by unfold esg; split <;> rfl
theorem tail1 (ds : List UInt8) (h : 1 ≤ ds.length) : ds.take 1 = [ds.getD 0 0] := by
  cases ds with
  | nil => simp at h
  | cons x l => rfl
theorem eform_eq (l : List UInt8) (neg : Bool) (ds : List UInt8) (dp : Int) (h : 1 ≤ ds.length) :
    l ++ eform neg ds dp = (l ++ sgn neg ++ [ds.getD 0 0] ++ (if 1 < ds.length then 46 :: ds.drop 1 else [])) ++ [101] ++ [esg (dp - 1)] ++ expoN (dp - 1).natAbs := by
  unfold eform expo esg
  rw [tail1 ds h]
  simp only [List.append_assoc, List.cons_append, List.nil_append]
theorem expo1 {a : Nat} (h : a < 10) : expoN a = [48, dg a] := by unfold expoN; rw [if_pos h]
theorem expo2 {a : Nat} (h : ¬ a < 10) (g : a < 100) : expoN a = [dg (a / 10), dg (a % 10)] := by unfold expoN; rw [if_neg h, if_pos g]
theorem expo3 {a : Nat} (g : ¬ a < 100) : expoN a = [dg (a / 100), dg (a / 10 % 10), dg (a % 10)] := by unfold expoN; rw [if_neg (by omega), if_neg g]
set_option maxRecDepth 100000 in
set_option maxHeartbeats 4000000 in
theorem eform_is (T : TypeId) (B b nd : Nat) (neg : Bool) (ds : List UInt8) (dp : Int) (v : Value) (l : List UInt8) (hn : nd = ds.length) (hn0 : 1 ≤ nd) (hn9 : nd ≤ 32) (hdp : dp < -3 ∨ 7 ≤ dp) (hdq : -900 ≤ dp ∧ dp ≤ 900) (w : World)
    (ht : Tag T w b) (hB : B ≤ w.heap.size) (hb : Buf T w b ds) (hD0 : Dst T B b w w v l) (hl : l.length ≤ 100) :
    Calls Tryz.prog 132 #[v, .bool neg, .slice (some ⟨b, 0, none⟩) 32 32, .int .i64 dp, .int .i64 nd, .int .i64 nd, .int .u8 103, .bool true] w fun e w' => ∃ v', e = .returned v' ∧ Dst T B b w w' v' (l ++ eform neg ds dp) := by
  have HT := Lib.hid ht
  have HB := Lib.hid hb
  have HD := Lib.hid hD0
  have HN := Lib.hid hn
  have hsg : (sgn neg).length ≤ 1 := by cases neg <;> decide
  clear ht hb hD0 hn
  go_enter Tryz.func132, Tryz.ntmps132
  go_upto_region 8 with fail
  go_cut [56] (fun s56 wx => s56 = .bool true ∧ w = wx)
  case first => as_aux_lemma =>
    go_wp2_with fail
    all_goals
      go_meet
      refine ⟨congrArg Value.bool ?_, rfl⟩
      simp
      try omega
  case rest => as_aux_lemma =>
    obtain ⟨rfl, hwc⟩ := hcut
    subst wc
    go_upto_if 78 with fail
    go_cut [0, 1] (fun s0 s1 wx => s1 = .bool neg ∧ Hid (Dst T B b w wx s0 (l ++ sgn neg)))
    case first => as_aux_lemma =>
      go_wp2_with (at_builtin; refine app_new _ _ rfl rfl HT.out hB HD.out rfl _ _ _ rfl [45] rfl rfl (by simp; omega) ?_; intro v1 w1 hD1)
      all_goals go_meet
      · have hneg : neg = true := by assumption
        exact ⟨congrArg Value.bool hneg.symm, Lib.hid (by rw [hneg]; exact hD1)⟩
      · have hneg : neg = false := by assumption
        exact ⟨rfl, Lib.hid (by rw [hneg, show sgn false = [] from rfl, List.append_nil]; exact HD.out)⟩
    case rest => as_aux_lemma =>
      obtain ⟨rfl, HD1⟩ := hcut
      rename World => w1
      have hc0 := HD1.out.buf HB.out (getD_some (l := ds) (j := 0) (by have := HN.out; omega))
      clear HD
      go_upto_if 92 with (at_builtin; refine app_new _ _ rfl rfl HT.out hB HD1.out rfl _ _ _ rfl [ds.getD 0 0] (one_byte _ rfl) rfl (by simp; omega) ?_; intro v2 w2 hD2)
      go_cut [0] (fun s0 wx => Hid (Dst T B b w wx s0 (l ++ sgn neg ++ [ds.getD 0 0] ++ (if 1 < ds.length then 46 :: ds.drop 1 else []))))
      case first => as_aux_lemma =>
        go_wp2_with (first
          | (at_builtin; refine app_new (.tmp 93) (.tmp 94) rfl rfl HT.out hB hD2 rfl _ _ _ rfl [46] rfl rfl (by simp; omega) ?_; intro v3 w3 hD3)
          | (at_builtin; refine app_at (.tmp 103) (.tmp 107) rfl rfl HT.out hB hD3 rfl ⟨b, 1, none⟩ (nd - 1) _ rfl (ds.drop 1) (by simp; have := HN.out; omega) (fun j y hy => by rw [add_plain]; exact hD3.buf HB.out (by rw [← hy, List.getElem?_drop])) (by simp; have := HN.out; omega) ?_; intro v4 w4 hD4))
        · refine wp_loop_rounds 1 ?_
          rw [rounds_succ]
          go_wp2
          go_meet
          have h1 : 1 < ds.length := by have := HN.out; omega
          exact Lib.hid (by rw [if_pos h1]; simpa using hD4)
        · go_meet
          have h1 : ¬ 1 < ds.length := by have := HN.out; omega
          exact Lib.hid (by rw [if_neg h1, List.append_nil]; exact hD2)
      case rest => as_aux_lemma =>
        have HD2 := hcut
        rename World => w3
        clear hcut hD2 HD1 hc0
        obtain ⟨M, hM⟩ : ∃ M, M = l ++ sgn neg ++ [ds.getD 0 0] ++ (if 1 < ds.length then 46 :: ds.drop 1 else []) := ⟨_, rfl⟩
        rw [← hM] at HD2
        have hMl : M.length ≤ 200 := by
          have := HN.out
          rw [hM]
          split <;> simp <;> omega
        have HM := Lib.hid hM
        clear hM
        obtain ⟨a, ha⟩ : ∃ a, a = (dp - 1).natAbs := ⟨_, rfl⟩
        have ha9 : a ≤ 901 := by omega
        go_upto_if 129 with (at_builtin; refine app_new _ _ rfl rfl HT.out hB HD2.out rfl _ _ _ rfl [101] rfl rfl (by simp; omega) ?_; intro v3 w4 hD3)
        have HD3 := Lib.hid hD3
        clear hD3
        go_cut [19, 22] (fun s19 s22 wx => s19 = .int .u8 ((esg (dp - 1)).toNat : Int) ∧ s22 = .int .i64 (a : Int) ∧ w4 = wx)
        case first => as_aux_lemma =>
          go_wp2_with fail
          all_goals
            go_meet
            refine ⟨congrArg _ (by rw [esg_cell]; split <;> omega), congrArg _ (by omega), rfl⟩
        case rest => as_aux_lemma =>
          obtain ⟨rfl, rfl, hwc⟩ := hcut
          subst wc
          have HA := Lib.hid ha
          clear ha
          generalize hsb : esg (dp - 1) = sb
          have HS := Lib.hid hsb
          clear hsb hdp hdq
          go_wp2_with (first
            | (at_builtin; refine app_new (.tmp 132) (.tmp 134) rfl rfl HT.out hB HD3.out rfl _ _ _ rfl [sb] (one_byte _ rfl) rfl (by simp; omega) ?_; intro v4 w5 hD4)
            | (at_builtin; refine app_new (.tmp 155) (.tmp 159) rfl rfl HT.out hB hD4 rfl _ _ _ rfl [48, dg a] (two_bytes _ _ rfl (by have := dg_cell (n := a) (by omega); omega)) rfl (by simp; omega) ?_; intro v5 w6 hD5)
            | (at_builtin; refine app_new (.tmp 164) (.tmp 173) rfl rfl HT.out hB hD4 rfl _ _ _ rfl [dg (a / 10), dg (a % 10)] (two_bytes _ _ (by have := dg_cell (n := a / 10) (by omega); omega) (by have := dg_cell (n := a % 10) (by omega); omega)) rfl (by simp; omega) ?_; intro v5 w6 hD5)
            | (at_builtin; refine app_new (.tmp 136) (.tmp 150) rfl rfl HT.out hB hD4 rfl _ _ _ rfl [dg (a / 100), dg (a / 10 % 10), dg (a % 10)] (three_bytes _ _ _ (by have := dg_cell (n := a / 100) (by omega); omega) (by have := dg_cell (n := a / 10 % 10) (by omega); omega) (by have := dg_cell (n := a % 10) (by omega); omega)) rfl (by simp; omega) ?_; intro v5 w6 hD5))
          all_goals
            go_ret
            refine ⟨_, rfl, ?_⟩
            rw [eform_eq l neg ds dp (by have := HN.out; omega), ← HM.out, ← HA.out, HS.out]
            first
              | (rw [expo1 (by omega)]; exact hD5)
              | (rw [expo2 (by omega) (by omega)]; exact hD5)
              | (rw [expo3 (by omega)]; exact hD5)
end Go.Proofs.YtikpgglbfpdhmaaGreatDoor

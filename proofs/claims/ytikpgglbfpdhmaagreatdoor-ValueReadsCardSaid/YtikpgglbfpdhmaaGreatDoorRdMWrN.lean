/- Printing a float: the form without an exponent, a number less than 1. -/
import Derived.Test.YtikpgglbfpdhmaaGreatDoorRdMWrJ
namespace Go.Proofs.YtikpgglbfpdhmaaGreatDoor
open Go.RowKit Go.Joins Go.Sort Go.Lib
attribute [local go_sem ↓] Go.wp_at_zero Go.wp_at_succ

theorem getD_sm {l : List UInt8} {j : Nat} (h : j < l.length) : l[j]? = some (l.getD j 0) := by
  rw [List.getD_eq_getElem?_getD, List.getElem?_eq_getElem h]
  rfl
set_option maxRecDepth 100000 in
set_option maxHeartbeats 4000000 in
theorem fform_neg (T : TypeId) (B b nd k : Nat) (neg : Bool) (ds : List UInt8) (dp : Int) (v : Value) (l : List UInt8) (hn : nd = ds.length) (hn0 : 1 ≤ nd) (hn9 : nd ≤ 32) (hk3 : k ≤ 3) (hk : dp = -(k : Int)) (w : World)
    (ht : Tag T w b) (hB : B ≤ w.heap.size) (hb : Buf T w b ds) (hD0 : Dst T B b w w v l) (hl : l.length ≤ 100) :
    Calls Tryz.prog 132 #[v, .bool neg, .slice (some ⟨b, 0, none⟩) 32 32, .int .i64 dp, .int .i64 nd, .int .i64 nd, .int .u8 103, .bool true] w fun e w' => ∃ v', e = .returned v' ∧ Dst T B b w w' v' (l ++ fform neg ds dp) := by
  have HT := Lib.hid ht
  have HB := Lib.hid hb
  have HD := Lib.hid hD0
  have HN := Lib.hid hn
  have hsg : (sgn neg).length ≤ 1 := by cases neg <;> decide
  obtain ⟨r, hr⟩ : ∃ r : Nat, r = nd + k := ⟨_, rfl⟩
  have hr9 : 1 ≤ r ∧ r ≤ 40 := by omega
  have hdp : -3 ≤ dp ∧ dp ≤ 0 := by omega
  have m2 : max ((nd : Int) - dp) 0 = (r : Int) := by omega
  have m3 : max (0 : Int) (-dp) = (k : Int) := by omega
  have m4 : min (r : Int) (k : Int) = (k : Int) := by omega
  have m5 : dp + (k : Int) = 0 := by omega
  have m6 : (r : Int) - (k : Int) = (nd : Int) := by omega
  have m7 : max (0 : Int) (nd : Int) = (nd : Int) := by omega
  have HK := Lib.hid hk
  clear ht hb hD0 hn hr hk
  go_enter Tryz.func132, Tryz.ntmps132
  go_upto_if 68 with fail
  go_cut [5] (fun s5 wx => s5 = .int .i64 (nd : Int) ∧ w = wx)
  case first => as_aux_lemma =>
    go_wp2_with fail
    all_goals
      go_meet
      exact ⟨rfl, rfl⟩
  case rest => as_aux_lemma =>
  obtain ⟨rfl, hwc⟩ := hcut
  subst wc
  go_upto_if 178 with fail
  go_cut [0, 1] (fun s0 s1 wx => s1 = .bool neg ∧ Hid (Dst T B b w wx s0 (l ++ sgn neg)))
  case first => as_aux_lemma =>
    go_wp2_with (at_builtin; refine app_new _ _ rfl rfl HT.out hB HD.out rfl _ _ _ rfl [45] rfl rfl (by simp; omega) ?_; intro v1 w1 hD1)
    all_goals go_meet
    · have hneg : neg = true := by assumption
      exact ⟨congrArg Value.bool hneg.symm, Lib.hid (by rw [hneg]; exact hD1)⟩
    · have hneg : neg = false := by assumption
      exact ⟨rfl, Lib.hid (by rw [hneg, show sgn false = [] from rfl, List.append_nil]; exact HD.out)⟩
  case rest => as_aux_lemma =>
    obtain ⟨rfl, HD1⟩ := hcut
    rename World => w1
    clear HD
    go_upto_if 183 with fail
    go_cut [0] (fun s0 wx => Hid (Dst T B b w wx s0 (l ++ sgn neg ++ [48])))
    case first => as_aux_lemma =>
      go_wp2_with (at_builtin; refine app_new (.tmp 209) (.tmp 210) rfl rfl HT.out hB HD1.out rfl _ _ _ rfl [48] rfl rfl (by simp; omega) ?_; intro v2 w2 hD2)
      go_meet
      exact Lib.hid hD2
    case rest => as_aux_lemma =>
      have HD2 := hcut
      rename World => w2
      clear hcut HD1
      obtain ⟨M, hM⟩ : ∃ M, M = l ++ sgn neg ++ [48] := ⟨_, rfl⟩
      rw [← hM] at HD2
      have hMl : M.length ≤ 200 := by
        rw [hM]
        simp
        omega
      have HM := Lib.hid hM
      clear hM
      go_upto_region 67 with fail
      go_cut [213] (fun s wx => s = .bool true ∧ w2 = wx)
      case first => as_aux_lemma =>
        go_wp2_with fail
        go_meet
        exact ⟨congrArg Value.bool (by simp; omega), rfl⟩
      case rest => as_aux_lemma =>
      obtain ⟨rfl, hwc⟩ := hcut
      subst wc
      go_upto_if 213 with fail
      go_cut [0] (fun s0 wx => Hid (Dst T B b w wx s0 (M ++ [46] ++ List.replicate k 48 ++ ds)))
      case first => as_aux_lemma =>
        go_upto_block 8 with (at_builtin; refine app_new (.tmp 214) (.tmp 215) rfl rfl HT.out hB HD2.out rfl _ _ _ rfl [46] rfl rfl (by simp; omega) ?_; intro v3 w3 hD3)
        have HD3 := Lib.hid hD3
        clear hD3
        go_cut [0] (fun s0 wx => Hid (Dst T B b w wx s0 (M ++ [46] ++ List.replicate k 48)))
        case first => as_aux_lemma =>
          go_wp2_with fail
          go_loopw [0, 240] (fun v0 vi wx => ∃ i : Nat, i ≤ k ∧ vi = .int .i64 i ∧ Hid (Dst T B b w wx v0 (M ++ [46] ++ List.replicate i 48))) (fun _ vi _ => k - (RowKit.intOf vi).toNat)
          case atStart => exact ⟨0, by omega, rfl, Lib.hid (by rw [List.replicate_zero, List.append_nil]; exact HD3.out)⟩
          case round =>
            obtain ⟨i, hi, rfl, HDi⟩ := hrel
            go_wp2_with (at_builtin; refine app_new (.tmp 242) (.tmp 243) rfl rfl HT.out hB HDi.out rfl _ _ _ rfl [48] rfl rfl (by simp; omega) ?_; intro v2 w2 hD2)
            · have hD3 : Dst T B b w w2 v2 (M ++ [46] ++ List.replicate (i + 1) 48) := by
                rw [List.replicate_succ', ← List.append_assoc]; exact hD2
              go_wp2
              go_roundw
              case rel => exact ⟨i + 1, by omega, by go_num, Lib.hid hD3⟩
              case measure => simp [RowKit.intOf]; omega
            · have hiq : i = k := by omega
              go_meet
              exact Lib.hid (by rw [← hiq]; exact HDi.out)
        case rest => as_aux_lemma =>
          have HD4 := hcut
          clear hcut HD3
          go_wp2_with fail
          go_loopw [0, 247] (fun v0 vi wr => ∃ j : Nat, j ≤ nd ∧ vi = .int .i64 j ∧ Hid (Dst T B b w wr v0 (M ++ [46] ++ List.replicate k 48 ++ ds.take j))) (fun _ vi _ => nd - (RowKit.intOf vi).toNat)
          case atStart => exact ⟨0, by omega, rfl, Lib.hid (by rw [List.take_zero, List.append_nil]; exact HD4.out)⟩
          case round =>
            obtain ⟨j, hj, rfl, HDj⟩ := hrel
            have hcj : j < nd → wr.cell? ⟨b, j, none⟩ = some (.int .u8 ((ds.getD j 0).toNat : Int)) := fun h => HDj.out.buf HB.out (getD_sm (by have := HN.out; omega))
            go_wp2_with (at_builtin; refine app_new (.tmp 250) (.tmp 257) rfl rfl HT.out hB HDj.out rfl _ _ _ rfl [ds.getD j 0] (one_byte _ rfl) rfl (by simp; omega) ?_; intro v2 w2 hD2)
            · have hD3 : Dst T B b w w2 v2 (M ++ [46] ++ List.replicate k 48 ++ ds.take (j + 1)) := by
                have e : ds.take (j + 1) = ds.take j ++ [ds.getD j 0] := by
                  rw [List.take_add_one, getD_sm (by have := HN.out; omega)]; rfl
                rw [e, ← List.append_assoc]; exact hD2
              go_wp2
              go_roundw
              case rel => exact ⟨j + 1, by omega, by go_num, Lib.hid hD3⟩
              case measure => simp [RowKit.intOf]; omega
            · have hjr : j = nd := by omega
              refine wp_loop_rounds 1 ?_
              rw [rounds_succ]
              go_wp2_with fail
              go_meet
              exact Lib.hid (by have := HDj.out; rw [List.take_of_length_le (by have := HN.out; omega)] at this; exact this)
      case rest => as_aux_lemma =>
        have HD3 := hcut
        clear hcut HD2
        go_wp2
        go_ret
        refine ⟨_, rfl, ?_⟩
        have h3 := HD3.out
        rw [HM.out] at h3
        have e : l ++ fform neg ds dp = l ++ sgn neg ++ [48] ++ [46] ++ List.replicate k 48 ++ ds := by
          unfold fform
          have h1 : ¬ (0 : Int) < dp := by omega
          have h2 : dp.toNat = 0 := by omega
          have h4 : (-dp).toNat = k := by omega
          have h5 : dp < (ds.length : Int) := by have := HN.out; omega
          rw [if_neg h1, if_pos h5, h2, h4, List.drop_zero]
          simp only [List.append_assoc, List.cons_append, List.nil_append]
        rw [e]
        exact h3
end Go.Proofs.YtikpgglbfpdhmaaGreatDoor

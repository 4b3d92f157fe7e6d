/- Printing a float: the form without an exponent, a number not less than 1. -/
import Derived.Test.YtikpgglbfpdhmaaGreatDoorRdMWrJ
namespace Go.Proofs.YtikpgglbfpdhmaaGreatDoor
open Go.RowKit Go.Joins Go.Sort Go.Lib
attribute [local go_sem ↓] Go.wp_at_zero Go.wp_at_succ

theorem getD_some {l : List UInt8} {j : Nat} (h : j < l.length) : l[j]? = some (l.getD j 0) := by
  rw [List.getD_eq_getElem?_getD, List.getElem?_eq_getElem h]
  rfl
set_option maxRecDepth 100000 in
set_option maxHeartbeats 4000000 in
theorem fform_pos (T : TypeId) (B b nd q : Nat) (neg : Bool) (ds : List UInt8) (v : Value) (l : List UInt8) (hn : nd = ds.length) (hn0 : 1 ≤ nd) (hn9 : nd ≤ 32) (hq : 1 ≤ q) (hq6 : q ≤ 6) (w : World)
    (ht : Tag T w b) (hB : B ≤ w.heap.size) (hb : Buf T w b ds) (hD0 : Dst T B b w w v l) (hl : l.length ≤ 100) :
    Calls Tryz.prog 132 #[v, .bool neg, .slice (some ⟨b, 0, none⟩) 32 32, .int .i64 q, .int .i64 nd, .int .i64 nd, .int .u8 103, .bool true] w fun e w' => ∃ v', e = .returned v' ∧ Dst T B b w w' v' (l ++ fform neg ds q) := by
  have HT := Lib.hid ht
  have HB := Lib.hid hb
  have HD := Lib.hid hD0
  have HN := Lib.hid hn
  have hsg : (sgn neg).length ≤ 1 := by cases neg <;> decide
  clear ht hb hD0 hn
  obtain ⟨c, hc⟩ : ∃ c : Nat, c = min nd q := ⟨_, rfl⟩
  obtain ⟨r, hr⟩ : ∃ r : Nat, r = nd - q := ⟨_, rfl⟩
  have hc9 : c ≤ nd ∧ c ≤ q := by omega
  have hr9 : r ≤ nd := by omega
  have m1 : min (nd : Int) (q : Int) = (c : Int) := by omega
  have m2 : max ((nd : Int) - (q : Int)) 0 = (r : Int) := by omega
  have HC := Lib.hid hc
  have HR := Lib.hid hr
  clear hc hr
  go_enter Tryz.func132, Tryz.ntmps132
  go_upto_if 68 with fail
  go_cut [5] (fun s5 wx => s5 = .int .i64 (nd : Int) ∧ w = wx)
  case first => as_aux_lemma =>
    go_wp2_with fail
    all_goals
      go_meet
      exact ⟨rfl, rfl⟩
  case rest => as_aux_lemma =>
  obtain ⟨rfl, hwc⟩ := hcut
  subst wc
  go_upto_if 178 with fail
  go_cut [0, 1] (fun s0 s1 wx => s1 = .bool neg ∧ Hid (Dst T B b w wx s0 (l ++ sgn neg)))
  case first => as_aux_lemma =>
    go_wp2_with (at_builtin; refine app_new _ _ rfl rfl HT.out hB HD.out rfl _ _ _ rfl [45] rfl rfl (by simp; omega) ?_; intro v1 w1 hD1)
    all_goals go_meet
    · have hneg : neg = true := by assumption
      exact ⟨congrArg Value.bool hneg.symm, Lib.hid (by rw [hneg]; exact hD1)⟩
    · have hneg : neg = false := by assumption
      exact ⟨rfl, Lib.hid (by rw [hneg, show sgn false = [] from rfl, List.append_nil]; exact HD.out)⟩
  case rest => as_aux_lemma =>
    obtain ⟨rfl, HD1⟩ := hcut
    rename World => w1
    clear HD
    go_upto_region 55 with fail
    go_cut [183] (fun s wx => s = .bool true ∧ w1 = wx)
    case first => as_aux_lemma =>
      go_wp2_with fail
      go_meet
      exact ⟨congrArg Value.bool (by simp; omega), rfl⟩
    case rest => as_aux_lemma =>
    obtain ⟨rfl, hwc⟩ := hcut
    subst wc
    go_upto_if 183 with fail
    go_cut [0] (fun s0 wx => Hid (Dst T B b w wx s0 (l ++ sgn neg ++ ds.take c ++ List.replicate (q - c) 48)))
    case first => as_aux_lemma =>
      go_upto_block 4 with fail
      go_cut [0] (fun s0 wx => Hid (Dst T B b w wx s0 (l ++ sgn neg ++ ds.take c)))
      case first => as_aux_lemma =>
        go_wp2_with fail
        go_loopw [0, 191] (fun v0 vi wr => ∃ j : Nat, j ≤ c ∧ vi = .int .i64 j ∧ Hid (Dst T B b w wr v0 (l ++ sgn neg ++ ds.take j))) (fun _ vi _ => c - (RowKit.intOf vi).toNat)
        case atStart => exact ⟨0, by omega, rfl, Lib.hid (by rw [List.take_zero, List.append_nil]; exact HD1.out)⟩
        case round =>
          obtain ⟨j, hj, rfl, HDj⟩ := hrel
          have hcj : j < c → wr.cell? ⟨b, j, none⟩ = some (.int .u8 ((ds.getD j 0).toNat : Int)) := fun h => HDj.out.buf HB.out (getD_some (by have := HN.out; omega))
          go_wp2_with (at_builtin; refine app_new (.tmp 195) (.tmp 197) rfl rfl HT.out hB HDj.out rfl _ _ _ rfl [ds.getD j 0] (one_byte _ rfl) rfl (by simp; omega) ?_; intro v2 w2 hD2)
          · have hD3 : Dst T B b w w2 v2 (l ++ sgn neg ++ ds.take (j + 1)) := by
              have e : ds.take (j + 1) = ds.take j ++ [ds.getD j 0] := by
                rw [List.take_add_one, getD_some (by have := HN.out; omega)]; rfl
              rw [e, ← List.append_assoc]; exact hD2
            go_wp2
            go_roundw
            case rel => exact ⟨j + 1, by omega, by go_num, Lib.hid hD3⟩
            case measure => simp [RowKit.intOf]; omega
          · have hjc : j = c := by omega
            go_meet
            exact Lib.hid (by rw [← hjc]; exact HDj.out)
      case rest => as_aux_lemma =>
        have HDc := hcut
        clear hcut HD1
        go_wp2_with fail
        go_loopw [0, 203] (fun v0 vi wx => ∃ i : Nat, i ≤ q - c ∧ vi = .int .i64 i ∧ Hid (Dst T B b w wx v0 (l ++ sgn neg ++ ds.take c ++ List.replicate i 48))) (fun _ vi _ => q - c - (RowKit.intOf vi).toNat)
        case atStart => exact ⟨0, by omega, rfl, Lib.hid (by rw [List.replicate_zero, List.append_nil]; exact HDc.out)⟩
        case round =>
          obtain ⟨i, hi, rfl, HDi⟩ := hrel
          go_wp2_with (at_builtin; refine app_new (.tmp 205) (.tmp 206) rfl rfl HT.out hB HDi.out rfl _ _ _ rfl [48] rfl rfl (by simp; omega) ?_; intro v2 w2 hD2)
          · have hD3 : Dst T B b w w2 v2 (l ++ sgn neg ++ ds.take c ++ List.replicate (i + 1) 48) := by
              rw [List.replicate_succ', ← List.append_assoc]; exact hD2
            go_wp2
            go_roundw
            case rel => exact ⟨i + 1, by omega, by go_num, Lib.hid hD3⟩
            case measure => simp [RowKit.intOf]; omega
          · have hiq : i = q - c := by omega
            go_meet
            exact Lib.hid (by rw [← hiq]; exact HDi.out)
    case rest => as_aux_lemma =>
      have HD2 := hcut
      rename World => w2
      clear hcut HD1
      obtain ⟨M, hM⟩ : ∃ M, M = l ++ sgn neg ++ ds.take c ++ List.replicate (q - c) 48 := ⟨_, rfl⟩
      rw [← hM] at HD2
      have hMl : M.length ≤ 200 := by
        rw [hM]
        simp
        omega
      have HM := Lib.hid hM
      clear hM
      have hrq : r ≠ 0 → q + r = nd := fun h => by have := HR.out; omega
      have m3 : max (0 : Int) (-(q : Int)) = 0 := by omega
      have m4 : min (r : Int) 0 = 0 := by omega
      have m5 : max (0 : Int) ((nd : Int) - (q : Int)) = (r : Int) := by have := HR.out; omega
      go_upto_region 67 with fail
      go_cut [213] (fun s wx => s = .bool (decide (q < ds.length)) ∧ w2 = wx)
      case first => as_aux_lemma =>
        go_wp2_with fail
        go_meet
        exact ⟨congrArg Value.bool (by have := HN.out; have := HR.out; by_cases h : q < ds.length <;> simp [h] <;> omega), rfl⟩
      case rest => as_aux_lemma =>
      obtain ⟨rfl, hwc⟩ := hcut
      subst wc
      go_upto_if 213 with fail
      go_cut [0] (fun s0 wx => Hid (Dst T B b w wx s0 (M ++ (if q < ds.length then 46 :: ds.drop q else []))))
      case first => as_aux_lemma =>
        go_upto_block 8 with (at_builtin; refine app_new (.tmp 214) (.tmp 215) rfl rfl HT.out hB HD2.out rfl _ _ _ rfl [46] rfl rfl (by simp; omega) ?_; intro v3 w3 hD3)
        · have hqd : q < ds.length := by assumption
          have HD3 := Lib.hid hD3
          clear hD3
          go_wp2_with fail
          refine wp_loop_rounds 1 ?_
          rw [rounds_succ]
          go_wp2_with fail
          go_loopw [0, 247] (fun v0 vi wr => ∃ j : Nat, j ≤ r ∧ vi = .int .i64 j ∧ Hid (Dst T B b w wr v0 (M ++ [46] ++ (ds.drop q).take j))) (fun _ vi _ => r - (RowKit.intOf vi).toNat)
          case atStart => exact ⟨0, by omega, rfl, Lib.hid (by rw [List.take_zero, List.append_nil]; exact HD3.out)⟩
          case round =>
            obtain ⟨j, hj, rfl, HDj⟩ := hrel
            have hcj : j < r → wr.cell? ⟨b, q + j, none⟩ = some (.int .u8 ((ds.getD (q + j) 0).toNat : Int)) := fun h => HDj.out.buf HB.out (getD_some (by have := HN.out; have := HR.out; omega))
            go_wp2_with (at_builtin; refine app_new (.tmp 250) (.tmp 257) rfl rfl HT.out hB HDj.out rfl _ _ _ rfl [ds.getD (q + j) 0] (one_byte _ rfl) rfl (by simp; omega) ?_; intro v2 w2 hD2)
            · have hD3 : Dst T B b w w2 v2 (M ++ [46] ++ (ds.drop q).take (j + 1)) := by
                have e : (ds.drop q).take (j + 1) = (ds.drop q).take j ++ [ds.getD (q + j) 0] := by
                  rw [List.take_add_one, List.getElem?_drop, getD_some (by have := HN.out; have := HR.out; omega)]; rfl
                rw [e, ← List.append_assoc]; exact hD2
              go_wp2
              go_roundw
              case rel => exact ⟨j + 1, by omega, by go_num, Lib.hid hD3⟩
              case measure => simp [RowKit.intOf]; omega
            · have hjr : j = r := by omega
              refine wp_loop_rounds 1 ?_
              rw [rounds_succ]
              go_wp2_with fail
              go_meet
              exact Lib.hid (by rw [if_pos hqd]; have := HDj.out; rw [List.take_of_length_le (by simp; have := HN.out; have := HR.out; omega)] at this; simpa using this)
        · have hqd : ¬ q < ds.length := by assumption
          go_meet
          exact Lib.hid (by rw [if_neg hqd, List.append_nil]; exact HD2.out)
      case rest => as_aux_lemma =>
        have HD3 := hcut
        clear hcut HD2
        go_wp2
        go_ret
        refine ⟨_, rfl, ?_⟩
        have h3 := HD3.out
        rw [HM.out] at h3
        have e : l ++ fform neg ds q = l ++ sgn neg ++ ds.take c ++ List.replicate (q - c) 48 ++ (if q < ds.length then 46 :: ds.drop q else []) := by
          unfold fform
          have h1 : (0 : Int) < (q : Int) := by omega
          have h2 : ds.take ((q : Int)).toNat = ds.take c := by rw [HC.out, HN.out, Int.toNat_natCast, Nat.min_comm, List.take_eq_take_min]
          have h3 : (q : Int).toNat - ds.length = q - c := by have := HC.out; have := HN.out; omega
          have h4 : (-(q : Int)).toNat = 0 := by omega
          rw [if_pos h1, h2, h3, h4, Int.toNat_natCast]
          simp only [List.append_assoc, List.replicate_zero, List.nil_append, Int.ofNat_lt]
        rw [e]
        exact h3
end Go.Proofs.YtikpgglbfpdhmaaGreatDoor

/- Reading a float: readFloat, of a text of digits with a point and an exponent. -/
import Derived.Test.YtikpgglbfpdhmaaGreatDoorRdMRdV
import Derived.Test.YtikpgglbfpdhmaaGreatDoorRdMRdM
import Derived.WalkMore
namespace Go.Proofs.YtikpgglbfpdhmaaGreatDoor
open Go.RowKit Go.Joins Go.Sort Go.Lib
attribute [local go_sem ↓] Go.wp_at_zero Go.wp_at_succ

theorem run_idx {s : ByteArray} {i : Nat} {c : UInt8} (h : s.data.toList[i]? = some c) (w : World) : (Instr.index 9 (.string s) (.int .i64 (i : Int))).run Tryz.prog w = .ok (.int .u8 (c.toNat : Int)) w := by
  obtain ⟨h1, h2⟩ := List.getElem?_eq_some_iff.1 h
  have h3 : i < s.size := by rw [Lib.size_eq]; exact h1
  rw [run_index_string w 9 s .i64 (i : Int) Tryz.underlying9, dif_pos (by omega)]
  congr 4
theorem lower_to (k : Nat) (r : Int) (hr : bits BinOp.or IntKind.u8 (k : Int) 32 = r) (w : World) : Calls Tryz.prog 107 #[.int .u8 (k : Int)] w fun e w' => e = .returned (.int .u8 r) ∧ w = w' := by
  go_enter Tryz.func107, Tryz.ntmps107
  go_wp2
  go_ret
  exact ⟨rfl, rfl⟩
theorem lower_dig {c : UInt8} (h : isDig c = true ∨ c = 46 ∨ c = 101) : bits BinOp.or IntKind.u8 (c.toNat : Int) 32 = (c.toNat : Int) := by
  have : ∀ n : Fin 256, (isDig n.val.toUInt8 = true ∨ n.val.toUInt8 = 46 ∨ n.val.toUInt8 = 101) → bits BinOp.or IntKind.u8 (n.val.toUInt8.toNat : Int) 32 = (n.val.toUInt8.toNat : Int) := by decide +kernel
  revert h
  exact byte_cases (P := fun c => (isDig c = true ∨ c = 46 ∨ c = 101) → bits BinOp.or IntKind.u8 (c.toNat : Int) 32 = (c.toNat : Int)) this c
theorem scan_head {c : UInt8} {l : List UInt8} {s F : Scan} (h : scan (c :: l) s = some F) : isDig c = true ∨ c = 46 := by
  unfold scan at h
  split at h
  · rename_i h1; exact .inr h1
  · split at h
    · cases h
    · rename_i h1; left; simpa using h1
theorem scan_tail {c : UInt8} {l : List UInt8} {s F : Scan} (h : scan (c :: l) s = some F) : ∃ s', scan l s' = some F := by
  unfold scan at h
  repeat' split at h
  all_goals first | (cases h; done) | exact ⟨_, h⟩
theorem exp_head {E : List UInt8} {x : Int} (h : ExpText E x) : E = [] ∨ ∃ l, E = 101 :: l := by
  rcases h with ⟨h, _⟩ | ⟨ng, D, e, h, _⟩
  · exact .inl h
  · exact .inr ⟨_, h⟩
/-- What stands behind the first digit is no x. -/
theorem second {P' E : List UInt8} {s F : Scan} {x : Int} (h : scan P' s = some F) (hE : ExpText E x) {c : UInt8} {l : List UInt8} (hc : P' ++ E = c :: l) : bits BinOp.or IntKind.u8 (c.toNat : Int) 32 = (c.toNat : Int) ∧ c.toNat ≠ 120 := by
  cases P' with
  | nil =>
    rcases exp_head hE with h1 | ⟨l', h1⟩
    · rw [h1] at hc; cases hc
    · rw [h1] at hc; cases hc
      exact ⟨lower_dig (.inr (.inr rfl)), by decide⟩
  | cons c' l' =>
    cases hc
    rcases scan_head h with h1 | h1
    · have := dig_bounds h1
      exact ⟨lower_dig (.inl h1), by omega⟩
    · rw [h1]; exact ⟨lower_dig (.inr (.inl rfl)), by decide⟩
set_option maxRecDepth 100000 in
set_option maxHeartbeats 4000000 in
theorem readFloat_is (neg : Bool) (s : ByteArray) (n : Nat) (P E : List UInt8) (hS : s.data.toList = sgn neg ++ (P ++ E)) (hn : s.size = n) (hlen : n ≤ 1000) (F : Scan) (hF : scan P ⟨0, 0, 0, false, false⟩ = some F) (hdig : F.dig = true) (x : Int) (hE : ExpText E x) (w : World) :
    Calls Tryz.prog 142 #[.string s] w fun e w' => e = .returned (.tuple #[.int .u64 F.m, .int .i64 (if F.m = 0 then 0 else (if F.dot then F.dp else F.nd) + x - F.nd), .bool neg, .bool false, .bool false, .int .i64 n, .bool true]) ∧ w = w' := by
  have HS := Lib.hid hS
  have HF := Lib.hid hF
  have HE := Lib.hid hE
  obtain ⟨c, P', rfl⟩ : ∃ c P', P = c :: P' := by
    cases P with
    | nil => cases hF; cases hdig
    | cons c P' => exact ⟨c, P', rfl⟩
  have hc := scan_head hF
  have hi0 : s.data.toList[(sgn neg).length]? = some c := by rw [hS, List.getElem?_append_right (Nat.le_refl _)]; simp
  have hx0 := run_idx hi0
  obtain ⟨o, ho⟩ : ∃ o, (sgn neg).length = o := ⟨_, rfl⟩
  rw [ho] at hx0
  have hn1 : o < n := by
    have := (List.getElem?_eq_some_iff.1 hi0).1
    rw [← hn, Lib.size_eq, ← ho]; exact this
  obtain ⟨k1, hx1, hk1⟩ : ∃ k1 : Nat, (∀ w, (Instr.index 9 (.string s) (.int .i64 0)).run Tryz.prog w = .ok (.int .u8 (k1 : Int)) w) ∧ ((neg = true ∧ k1 = 45) ∨ (neg = false ∧ k1 = c.toNat)) := by
    cases neg
    · exact ⟨c.toNat, fun w => by rw [← ho] at hx0; exact hx0 w, .inr ⟨rfl, rfl⟩⟩
    · exact ⟨45, fun w => run_idx (s := s) (i := 0) (c := 45) (by rw [hS]; rfl) w, .inl ⟨rfl, rfl⟩⟩
  have hcn : (48 ≤ c.toNat ∧ c.toNat ≤ 57) ∨ c.toNat = 46 := by
    rcases hc with h | h
    · exact .inl (dig_bounds h)
    · exact .inr (by rw [h]; rfl)
  have ho2 : o = if neg then 1 else 0 := by rw [← ho]; cases neg <;> rfl
  obtain ⟨k, hk⟩ : ∃ k, c.toNat = k := ⟨_, rfl⟩
  rw [hk] at hx0 hcn hk1
  have hsec : o + 2 < n → ∃ k2 : Nat, (∀ w, (Instr.index 9 (.string s) (.int .i64 ((o : Int) + 1))).run Tryz.prog w = .ok (.int .u8 (k2 : Int)) w) ∧ bits BinOp.or IntKind.u8 (k2 : Int) 32 = (k2 : Int) ∧ k2 ≠ 120 := by
    intro h2
    obtain ⟨s', hs'⟩ := scan_tail hF
    have hd : s.data.toList.drop (o + 1) = P' ++ E := by
      rw [hS, ← ho, ← List.drop_drop, List.drop_left]; rfl
    cases hP : P' ++ E with
    | nil =>
      exfalso
      have h3 := congrArg List.length hd
      rw [hP, List.length_drop, ← Lib.size_eq, hn] at h3
      simp at h3
      omega
    | cons c2 l =>
      rw [hP] at hd
      have h4 := second hs' hE hP
      exact ⟨c2.toNat, fun w => run_idx (drop_cons hd).2.1 w, h4⟩
  clear hS hF hE hi0 hc
  go_enter Tryz.func142, Tryz.ntmps142
  go_wp2_with fail
  go_step3
  go_hide hQ
  go_upto_block 0 with fail
  go_cut [4, 7] (fun s4 s7 wx => s4 = .bool neg ∧ s7 = .int .i64 (o : Int) ∧ w = wx)
  case first => as_aux_lemma =>
    rcases hk1 with ⟨hneg, hk1⟩ | ⟨hneg, hk1⟩
    · go_wp2_with fail
      go_meet
      exact ⟨congrArg Value.bool hneg.symm, congrArg (Value.int .i64) (by rw [ho2, if_pos hneg]; rfl), rfl⟩
    · rcases hcn with hcn | hcn
      all_goals
        go_wp2_with fail
        go_meet
        exact ⟨congrArg Value.bool hneg.symm, congrArg (Value.int .i64) (by rw [ho2, hneg]; rfl), rfl⟩
  case rest => as_aux_lemma =>
    obtain ⟨rfl, rfl, hwc⟩ := hcut
    subst wc
    have HO := Lib.hid ho
    clear ho ho2 hk1 hx1 hk
    go_upto_region 12 with fail
    go_cut [54] (fun s wx => s = .bool false ∧ w = wx)
    case first => as_aux_lemma =>
      by_cases h2 : o + 2 < n
      · obtain ⟨k2, hx2, hl2, hk2⟩ := hsec h2
        by_cases h48 : k = 48
        · go_wp2_with (go_at_call 107; with_reducible refine (lower_to k2 _ hl2 _).mono ?_; rintro e w1 ⟨rfl, rfl⟩)
          go_meet
          exact ⟨congrArg Value.bool (by rw [beq_eq_false_iff_ne]; omega), rfl⟩
        · go_wp2_with fail
          go_meet
          exact ⟨rfl, rfl⟩
      · go_wp2_with fail
        go_meet
        exact ⟨rfl, rfl⟩
    case rest => as_aux_lemma =>
      obtain ⟨rfl, hwc⟩ := hcut
      subst wc
      go_wp2_with fail
      go_step3
      go_upto_block 1 with fail
      go_cut [2, 5, 7, 9, 13, 14, 15, 16, 17] (fun s2 s5 s7 s9 s13 s14 s15 s16 s17 wx => s2 = .int .u64 F.m ∧ s5 = .bool false ∧ s7 = .int .i64 ((n - E.length : Nat) : Int) ∧ s9 = .bool false ∧ s13 = .bool F.dot ∧ s14 = .bool true ∧ s15 = .int .i64 F.nd ∧ s16 = .int .i64 F.nd ∧ s17 = .int .i64 F.dp ∧ F.nd ≤ 18 ∧ E.length ≤ n ∧ -1000 ≤ F.dp ∧ F.dp ≤ 18 ∧ s.data.toList.drop (n - E.length) = E ∧ w = wx)
      case first => as_aux_lemma =>
        go_wp2_with fail
        go_loopw [2, 5, 7, 9, 13, 14, 15, 16, 17] (fun s2 s5 s7 s9 s13 s14 s15 s16 s17 wr => ∃ (m i nd : Nat) (dot dig : Bool) (dp : Int) (R : List UInt8), s2 = .int .u64 m ∧ s5 = .bool false ∧ s7 = .int .i64 i ∧ s9 = .bool false ∧ s13 = .bool dot ∧ s14 = .bool dig ∧ s15 = .int .i64 nd ∧ s16 = .int .i64 nd ∧ s17 = .int .i64 dp ∧ w = wr ∧ i ≤ n ∧ s.data.toList.drop i = R ++ E ∧ -1000 ≤ dp ∧ dp ≤ 18 ∧ nd ≤ 18 ∧ scan R ⟨m, nd, dp, dot, dig⟩ = some F) (fun _ _ vi _ _ _ _ _ _ _ => n - (RowKit.intOf vi).toNat)
        case atStart =>
          exact ⟨0, o, 0, false, false, 0, _, rfl, rfl, rfl, rfl, rfl, rfl, rfl, rfl, rfl, rfl, by omega, by rw [HS.out, ← HO.out, List.drop_left], by omega, by omega, by omega, HF.out⟩
        case round =>
          obtain ⟨m, i, nd, dot, dig, dp, R, rfl, rfl, rfl, rfl, rfl, rfl, rfl, rfl, rfl, hwr, hi, hR, hp1, hp2, hnd, hsc⟩ := hrel
          subst wr
          cases R with
          | nil =>
            obtain rfl := Option.some.inj hsc
            have hiE : i = n - E.length ∧ E.length ≤ n := by
              have h3 := congrArg List.length hR
              rw [List.length_drop, ← Lib.size_eq, hn, List.nil_append] at h3
              omega
            have hdr : s.data.toList.drop (n - E.length) = E := by rw [← hiE.1]; exact hR
            rcases exp_head HE.out with hE0 | ⟨l, hE0⟩
            · have hin : i = n := by rw [hE0] at hiE; simp at hiE; exact hiE
              have HiE := Lib.hid hiE
              clear hiE hR
              go_wp2_with fail
              go_meet
              have hiE := HiE.out
              exact ⟨rfl, rfl, congrArg (Value.int .i64) (by omega), rfl, rfl, by first | rfl | exact congrArg Value.bool hdig, rfl, rfl, rfl, hnd, hiE.2, hp1, hp2, hdr, by trivial⟩
            · have hx := run_idx (drop_cons (hR.trans hE0)).2.1
              rw [show (101 : UInt8).toNat = 101 from rfl] at hx
              have hin := (drop_cons (hR.trans hE0)).1
              rw [← Lib.size_eq, hn] at hin
              have HiE := Lib.hid hiE
              clear hiE hE0 hR
              go_wp2_with fail
              go_meet
              have hiE := HiE.out
              exact ⟨rfl, rfl, congrArg (Value.int .i64) (by omega), rfl, rfl, by first | rfl | exact congrArg Value.bool hdig, rfl, rfl, rfl, hnd, hiE.2, hp1, hp2, hdr, by trivial⟩
          | cons c R' =>
            obtain ⟨hin, hxc, hR'⟩ := drop_cons hR
            rw [← Lib.size_eq, hn] at hin
            have hx := run_idx hxc
            unfold scan at hsc
            split at hsc
            · rename_i hc
              subst hc
              rw [show (46 : UInt8).toNat = 46 from rfl] at hx
              cases dot with
              | true => cases hsc
              | false =>
                have hsc' : scan R' ⟨m, nd, nd, true, dig⟩ = some F := hsc
                go_wp2_with fail
                go_roundw
                case rel => exact ⟨m, i + 1, nd, true, dig, nd, R', rfl, rfl, by go_num, rfl, rfl, rfl, rfl, rfl, rfl, by trivial, by omega, hR', by omega, by omega, hnd, hsc'⟩
                case measure => simp [RowKit.intOf]; omega
            · rename_i hc46
              split at hsc
              · cases hsc
              · rename_i hdg
                have hkb := dig_bounds (c := c) (by simpa using hdg)
                have hk48 : c = 48 ↔ c.toNat = 48 := ⟨fun h => by rw [h]; rfl, fun h => UInt8.toNat_inj.1 h⟩
                obtain ⟨k, hk⟩ : ∃ k, c.toNat = k := ⟨_, rfl⟩
                rw [hk] at hx hkb hk48
                clear hdg hxc
                split at hsc
                · rename_i h0
                  split at hsc
                  · cases hsc
                  · rename_i hdp
                    have hsc' : scan R' ⟨m, nd, dp - 1, dot, true⟩ = some F := hsc
                    have h0a := hk48.1 h0.1
                    have h0c : nd = 0 := h0.2
                    clear hk48 hk h0
                    subst h0a
                    have hdp' : ¬ dp ≤ -1000 := hdp
                    subst h0c
                    go_wp2_with fail
                    go_roundw
                    case rel => exact ⟨m, i + 1, 0, dot, true, dp - 1, R', rfl, rfl, by go_num, rfl, rfl, rfl, rfl, rfl, rfl, by trivial, by omega, hR', by omega, by omega, by omega, hsc'⟩
                    case measure => simp [RowKit.intOf]; omega
                · rename_i h0
                  have h0c : ¬ (k = 48 ∧ nd = 0) := fun h => h0 ⟨hk48.2 h.1, h.2⟩
                  split at hsc
                  · rename_i hb
                    have hb' : nd < 18 ∧ m < 100000000000000000 := hb
                    have hsc' : scan R' ⟨m * 10 + (k - 48), nd + 1, dp, dot, true⟩ = some F := by rw [← hk]; exact hsc
                    clear hk48 h0 hk hsc hb
                    obtain ⟨hb1, hb2⟩ := hb'
                    by_cases h48 : k = 48
                    · have hnd0 : nd ≠ 0 := fun h => h0c ⟨h48, h⟩
                      subst h48
                      go_wp2_with fail
                      go_roundw
                      case rel => exact ⟨m * 10 + (48 - 48), i + 1, nd + 1, dot, true, dp, R', by go_num, rfl, by go_num, rfl, rfl, rfl, by go_num, by go_num, rfl, by trivial, by omega, hR', by omega, by omega, by omega, hsc'⟩
                      case measure => simp [RowKit.intOf]; omega
                    · go_wp2_with fail
                      go_roundw
                      case rel => exact ⟨m * 10 + (k - 48), i + 1, nd + 1, dot, true, dp, R', by go_num, rfl, by go_num, rfl, rfl, rfl, by go_num, by go_num, rfl, by trivial, by omega, hR', by omega, by omega, by omega, hsc'⟩
                      case measure => simp [RowKit.intOf]; omega
                  · cases hsc
      case rest => as_aux_lemma =>
        obtain ⟨rfl, rfl, rfl, rfl, rfl, rfl, rfl, rfl, rfl, hnd, hEn, hp1, hp2, hdr, hwc⟩ := hcut
        subst wc
        obtain ⟨m, hm⟩ : ∃ m, F.m = m := ⟨_, rfl⟩
        obtain ⟨nd, hndd⟩ : ∃ nd, F.nd = nd := ⟨_, rfl⟩
        obtain ⟨dot, hdot⟩ : ∃ dot, F.dot = dot := ⟨_, rfl⟩
        obtain ⟨dp, hdp⟩ : ∃ dp, F.dp = dp := ⟨_, rfl⟩
        obtain ⟨i0, hi0⟩ : ∃ i0, n - E.length = i0 := ⟨_, rfl⟩
        rw [hndd] at hnd
        rw [hdp] at hp1 hp2
        rw [hi0] at hdr
        rw [hm, hndd, hdot, hdp, hi0]
        have HM := Lib.hid hm
        have HV : Hid ((if F.dot then F.dp else (F.nd : Int)) = if dot then dp else (nd : Int)) := Lib.hid (by rw [hndd, hdot, hdp])
        have HN := Lib.hid hndd
        clear HS HF hdig hsec hx0 HO hm hndd hdot hdp
        go_upto_if 142 with fail
        go_cut [17] (fun s17 wx => s17 = .int .i64 (if dot then dp else (nd : Int)) ∧ w = wx)
        case first => as_aux_lemma =>
          cases dot
          all_goals
            go_wp2_with fail
            go_meet
            exact ⟨rfl, rfl⟩
        case rest => as_aux_lemma =>
          obtain ⟨rfl, hwc⟩ := hcut
          subst wc
          obtain ⟨D0, hD0⟩ : ∃ D0 : Int, (if dot then dp else (nd : Int)) = D0 := ⟨_, rfl⟩
          have hD9 : -1000 ≤ D0 ∧ D0 ≤ 18 := by rw [← hD0]; split <;> omega
          rw [hD0]
          have HD := Lib.hid hD0
          clear hD0
          obtain ⟨bE, hbE⟩ : ∃ b : Bool, (b = true ↔ E ≠ []) := ⟨decide (E ≠ []), decide_eq_true_iff⟩
          go_upto_region 57 with fail
          go_cut [161] (fun s161 wx => s161 = .bool bE ∧ w = wx)
          case first => as_aux_lemma =>
            rcases exp_head HE.out with hE0 | ⟨l, hE0⟩
            · have hin : i0 = n := by rw [← hi0, hE0]; simp
              have hb : bE = false := by
                cases bE with
                | false => rfl
                | true => exact absurd hE0 (hbE.1 rfl)
              clear hi0 hbE
              go_wp2_with fail
              go_meet
              exact ⟨congrArg Value.bool hb.symm, rfl⟩
            · have hx := run_idx (drop_cons (hdr.trans hE0)).2.1
              rw [show (101 : UInt8).toNat = 101 from rfl] at hx
              have hin := (drop_cons (hdr.trans hE0)).1
              rw [← Lib.size_eq, hn] at hin
              have hb : bE = true := hbE.2 (by rw [hE0]; simp)
              have hlw : ∀ w, Calls Tryz.prog 107 #[.int .u8 101] w fun e w' => e = .returned (.int .u8 101) ∧ w = w' := fun w => lower_to 101 101 (lower_dig (c := 101) (.inr (.inr rfl))) w
              clear hi0 hbE hE0
              go_wp2_with (go_at_call 107; with_reducible refine (hlw _).mono ?_; rintro e w1 ⟨rfl, rfl⟩)
              go_meet
              exact ⟨congrArg Value.bool hb.symm, rfl⟩
          case rest => as_aux_lemma =>
            obtain ⟨rfl, hwc⟩ := hcut
            subst wc
            go_upto_if 161 with fail
            go_cut [7, 9, 17] (fun s7 s9 s17 wx => s7 = .int .i64 (n : Int) ∧ s9 = .bool false ∧ s17 = .int .i64 (D0 + x) ∧ -101000 ≤ x ∧ x ≤ 101000 ∧ w = wx)
            case first => as_aux_lemma =>
              rcases HE.out with ⟨hE0, hx0⟩ | ⟨ng, D, ev, hE0, hD1, hev, hev9, hx0⟩
              · have hin : i0 = n := by rw [← hi0, hE0]; simp
                have hb : bE = false := by
                  cases bE with
                  | false => rfl
                  | true => exact absurd hE0 (hbE.1 rfl)
                clear hi0 hbE
                subst hb
                go_wp2_with fail
                go_meet
                exact ⟨congrArg (Value.int .i64) (by omega), rfl, congrArg (Value.int .i64) (by omega), by omega, by omega, rfl⟩
              · obtain ⟨c1, D', rfl⟩ : ∃ c1 D', D = c1 :: D' := by
                  cases D with
                  | nil => simp at hD1
                  | cons c l => exact ⟨c, l, rfl⟩
                have hE1 := hdr.trans hE0
                obtain ⟨ha, _, hdr1⟩ := drop_cons hE1
                obtain ⟨hb, hxs, hdr2⟩ := drop_cons hdr1
                obtain ⟨hc, hxd, hdr3⟩ := drop_cons hdr2
                rw [← Lib.size_eq, hn] at ha hb hc
                have hkb := dig_bounds (exp_dig hev)
                have hb1 : bE = true := hbE.2 (by rw [hE0]; simp)
                have hxdw : ∀ w, (Instr.index 9 (.string s) (.int .i64 ((i0 : Int) + 1 + 1))).run Tryz.prog w = .ok (.int .u8 (c1.toNat : Int)) w := fun w => run_idx hxd w
                have hxsw : ∀ w, (Instr.index 9 (.string s) (.int .i64 ((i0 : Int) + 1))).run Tryz.prog w = .ok (.int .u8 ((if ng then 45 else 43 : UInt8).toNat : Int)) w := fun w => run_idx hxs w
                obtain ⟨k1, hk1⟩ : ∃ k1, c1.toNat = k1 := ⟨_, rfl⟩
                rw [hk1] at hxdw hkb
                subst hb1
                have HEV := Lib.hid hev
                have HDR := Lib.hid hdr2
                have HX0 := Lib.hid hx0
                clear hi0 hbE hE0 hE1 hdr hdr1 hdr2 hdr3 hxs hxd hev hk1 hx0
                cases ng
                all_goals
                  simp only [Bool.false_eq_true, if_false, if_true, show (43 : UInt8).toNat = 43 from rfl, show (45 : UInt8).toNat = 45 from rfl] at hxsw
                  go_wp2_with fail
                  go_loopw [7, 9, 20] (fun s7 s9 s20 wr => ∃ (j e : Nat) (R : List UInt8), s7 = .int .i64 j ∧ s9 = .bool false ∧ s20 = .int .i64 e ∧ w = wr ∧ j ≤ n ∧ e ≤ 100000 ∧ s.data.toList.drop j = R ∧ expVal R e = some ev) (fun vi _ _ _ => n - (RowKit.intOf vi).toNat)
                  case atStart => exact ⟨i0 + 1 + 1, 0, _, rfl, rfl, rfl, by trivial, by omega, by omega, HDR.out, HEV.out⟩
                  case round =>
                    obtain ⟨j, e, R, rfl, rfl, rfl, hwr, hj, he, hR, hev⟩ := hrel
                    subst wr
                    cases R with
                    | nil =>
                      have hjn := drop_nil hR (by rw [← Lib.size_eq, hn]; exact hj)
                      rw [← Lib.size_eq, hn] at hjn
                      have hee : e = ev := Option.some.inj hev
                      subst hjn
                      subst hee
                      clear hR hev
                      go_wp2_with fail
                      go_meet
                      have hx0 := HX0.out
                      simp only [Bool.false_eq_true, if_false, if_true] at hx0
                      exact ⟨rfl, rfl, congrArg (Value.int .i64) (by omega), by omega, by omega, rfl⟩
                    | cons c R' =>
                      obtain ⟨hin, hxc, hR'⟩ := drop_cons hR
                      rw [← Lib.size_eq, hn] at hin
                      have hx := run_idx hxc
                      have hcb := dig_bounds (exp_dig hev)
                      have hst := exp_step hev
                      obtain ⟨k, hk⟩ : ∃ k, c.toNat = k := ⟨_, rfl⟩
                      rw [hk] at hx hcb hst
                      obtain ⟨he4, hev'⟩ := hst
                      clear hR hev hk hxc hxsw hxdw hkb
                      go_wp2_with fail
                      go_roundw
                      case rel => exact ⟨j + 1, e * 10 + (k - 48), R', by go_num, rfl, by go_num, by trivial, by omega, by omega, hR', hev'⟩
                      case measure => simp [RowKit.intOf]; omega
            case rest => as_aux_lemma =>
              obtain ⟨rfl, rfl, rfl, hx1, hx2, hwc⟩ := hcut
              subst wc
              by_cases hm0 : m = 0
              · subst hm0
                go_wp2_with fail
                rw [← hQ, Exit.noGoto_ret]
                exact bodyPost_ret (v := .tuple #[.int .u64 0, .int .i64 0, .bool neg, .bool false, .bool false, .int .i64 n, .bool true]) (by simp [results, Tryz.results142, go_sem]) rfl ⟨by rw [HM.out]; rfl, rfl⟩
              · go_wp2_with fail
                rw [← hQ, Exit.noGoto_ret]
                exact bodyPost_ret (v := .tuple #[.int .u64 m, .int .i64 (D0 + x - nd), .bool neg, .bool false, .bool false, .int .i64 n, .bool true]) (by simp [results, Tryz.results142, go_sem]) rfl ⟨by rw [HM.out, if_neg hm0, HV.out, HD.out, HN.out], rfl⟩
end Go.Proofs.YtikpgglbfpdhmaaGreatDoor

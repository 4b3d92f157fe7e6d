/- What reading asks of memory, out of what a row's condition says. -/
import Derived.Test.YtikpgglbfpdhmaaGreatDoorRdMReads
import Derived.Test.YtikpgglbfpdhmaaGreatDoorRdMWrY
import Derived.Test.YtikpgglbfpdhmaaGreatDoorRdMOpenV
namespace Go.Proofs.YtikpgglbfpdhmaaGreatDoor
open Go.RowKit Go.Joins Go.Lib
set_option maxRecDepth 100000

theorem trod_bool1 {H : Type} {enc : TypeId × Value → H} {w : World} {base : Nat} {spare : Nat → Bool} {held : Bool} {fuel : Nat} {cs : List Value} {b : Bool} {p : List MemPlace} (h : DataW.trod enc Tryz.prog w base spare held fuel 4 cs = some (.lit (.bool b), p)) : cs = [.bool b] := by
  cases fuel with
  | zero => simp [DataW.trod] at h
  | succ n =>
    unfold DataW.trod at h
    rw [Tryz.underlying4] at h
    match cs, h with
    | [.bool x], h => simp at h; rw [h.1]
theorem opt_of {W : World} (h : VarReads Tryz.prog W "internal/strconv.optimize" Rows.laid_internal_strconv_optimize) : W.cell? ⟨5, 0, none⟩ = some (.bool true) := by
  obtain ⟨g, t, cs, fuel, p, hg, hty, hv, hd⟩ := h
  obtain rfl : g = 5 := Option.some.inj (hg.symm.trans (by kernel_rfl))
  obtain rfl : t = 4 := Option.some.inj (hty.symm.trans (by kernel_rfl))
  have h1 := trod_bool1 hd
  exact (World.var?_cell hg hv 0).trans (by rw [← Array.getElem?_toList, h1]; rfl)
theorem info_of {W : World} (h : VarReads Tryz.prog W "internal/strconv.float64info" Rows.laid_internal_strconv_float64info) : W.cell? ⟨7, 0, none⟩ = some (.int .u64 52) := by
  obtain ⟨g, t, cs, fuel, p, hg, hty, hv, hd⟩ := h
  obtain rfl : g = 7 := Option.some.inj (hg.symm.trans (by kernel_rfl))
  obtain rfl : t = 162 := Option.some.inj (hty.symm.trans (by kernel_rfl))
  obtain ⟨xs, n, rfl, hx, hl, hlen, hall⟩ := DataW.trod_struct Tryz.underlying162 hd
  have h0 := hall 0 _ rfl
  have hxs : xs.map (·.1) = [.lit (.int .u64 52), .lit (.int .u64 11), .lit (.int .i64 (-1023))] := by
    have := congrArg Prod.fst hx
    simpa [Rows.laid_internal_strconv_float64info] using this.symm
  obtain ⟨x, hxi⟩ : ∃ x, xs[0]? = some x := by
    cases xs with
    | nil => simp at hxs
    | cons x r => exact ⟨x, rfl⟩
  have h2 : x.1 = .lit (.int .u64 52) := by
    have := congrArg (·[0]?) hxs
    rw [List.getElem?_map, hxi] at this
    simpa using this
  rw [hxi] at h0
  obtain ⟨z, hz, hbz, _⟩ := DataW.trod_int Tryz.underlying84 h0
  rw [hbz] at h2
  have hz2 : z = 52 := by simpa using h2
  rw [hz2] at hz
  have h3 : cs.toList[0]? = some (.int .u64 52) := by
    have e := congrArg (·[0]?) hz
    simp only [List.getElem?_take] at e
    rw [if_pos (by decide +kernel)] at e
    simpa using e
  exact (World.var?_cell hg hv 0).trans (by rw [← Array.getElem?_toList]; exact h3)
theorem pow64_data : (Rows.laid_internal_strconv_float64pow10 : DataW Unit) = .slice (pw10.map fun x => .lit (.float .f64 x)) [] := by kernel_rfl
theorem pow64_of {W : World} (h : VarReads Tryz.prog W "internal/strconv.float64pow10" Rows.laid_internal_strconv_float64pow10) : ∃ N o c, PowAt N o c W := by
  obtain ⟨g, t, cs, fuel, p, hg, hty, hv, hd⟩ := h
  obtain rfl : g = 12 := Option.some.inj (hg.symm.trans (by kernel_rfl))
  obtain rfl : t = 202 := Option.some.inj (hty.symm.trans (by kernel_rfl))
  rw [pow64_data] at hd
  rcases DataW.trod_slice Tryz.underlying202 hd with ⟨_, hx⟩ | ⟨a, len, cap, el, rs, m, rfl, hcs, hx, _, hlc, _, hel, helem, hsp, _⟩
  · cases hx
  have e0 := congrArg Prod.fst hx
  simp only [DataW.slice.injEq] at e0
  obtain ⟨eE, eR⟩ := e0
  have hl23 : pw10.length = 23 := by decide
  have hlen : len = 23 := by
    have := congrArg List.length eE
    simp at this
    omega
  have hcell : ∀ i, i < 23 → W.cell? (a.add i) = some (.float .f64 (pw10.getD i 0)) := by
    intro i hi
    have h1 := helem i (by omega)
    rw [cellsF] at h1
    obtain ⟨b, hb⟩ : ∃ b, el[i]? = some b := ⟨el[i]'(by omega), List.getElem?_eq_getElem (by omega)⟩
    rw [hb] at h1
    obtain ⟨ce, hce, hte⟩ := Option.bind_eq_some_iff.1 h1
    obtain ⟨z, hz, hbz, _⟩ := trod_float64 hte
    have hb1 : b.1 = .lit (.float .f64 (pw10.getD i 0)) := by
      have := congrArg (·[i]?) eE
      simp [hb, hl23, hi] at this
      have e2 : pw10.getD i 0 = pw10[i]'(by omega) := by simp [List.getD, List.getElem?_eq_getElem (show i < pw10.length by omega)]
      rw [e2, this]
    rw [hbz] at hb1
    have hz2 : z = pw10.getD i 0 := by simpa using hb1
    rw [hz, hz2] at hce
    obtain ⟨_, _, hcc⟩ := World.cells?_some hce
    have h5 := hcc 0 (by omega)
    simp only [Nat.mul_one] at h5
    rw [show (a.add i).add 0 = a.add i by simp [Addr.add]] at h5
    rw [h5]
    rfl
  obtain ⟨N, o, sp⟩ := a
  have hsp0 : sp = none := by
    have h00 := hcell 0 (by omega)
    rw [show (Addr.add ⟨N, o, sp⟩ 0) = ⟨N, o, sp⟩ by simp [Addr.add]] at h00
    exact cell_spot h00
  subst hsp0
  refine ⟨N, o, cap, ?_, fun k hk => ?_⟩
  · refine (World.var?_cell hg hv 0).trans ?_
    rw [← Array.getElem?_toList, hcs, hlen]
    rfl
  · have := hcell k (by omega)
    rw [show (Addr.add ⟨N, o, none⟩ k) = ⟨N, o + k, none⟩ by unfold Addr.add; split <;> simp_all] at this
    exact this
theorem rtabs_of (W : World) (hl : laidMetH Tryz.prog Rows.valueReadsRow.laid W) (hs : W.ShapedOpen Tryz.prog) : Tabs4 W := by
  have h : laidMet Tryz.prog Rows.valueReadsRow.laid W := hl
  have ht := ten_of (laidMet.reads h (List.mem_of_getElem? (i := 13) rfl))
  exact ⟨⟨⟨ht, pow_of (laidMet.reads h (List.mem_of_getElem? (i := 8) rfl))⟩, Tryz.laysM155.s1_3 W hs⟩, ht, opt_of (laidMet.reads h (List.mem_of_getElem? (i := 4) rfl)), info_of (laidMet.reads h (List.mem_of_getElem? (i := 3) rfl)), pow64_of (laidMet.reads h (List.mem_of_getElem? (i := 6) rfl))⟩
theorem reads_walk (n : Int) (f : Nat) (hn : -9223372036854775808 ≤ n ∧ n ≤ 9223372036854775807) (hf : (Lit.float .f64 f).wf = true) (w : World) (ht : Tabs4 w) :
    Calls Tryz.prog 12 #[.int .i64 n, .float .f64 f] w fun e w' => e = .returned (.bool true) ∧ Below w.heap.size w w' :=
  reads_any n hn.1 hn.2 f (by have : f < 2 ^ 64 := by simpa [Lit.wf] using hf
                              omega) w ht
end Go.Proofs.YtikpgglbfpdhmaaGreatDoor

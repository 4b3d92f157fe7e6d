/- What the printing asks of memory, out of what a row's condition says. -/
import Derived.Test.YtikpgglbfpdhmaaGreatDoorRdMWrT
import Derived.Test.YtikpgglbfpdhmaaGreatDoorRdMFrameB
import Derived.Lib.LaidU8
namespace Go.Proofs.YtikpgglbfpdhmaaGreatDoor
open Go.RowKit Go.Joins Go.Lib
set_option maxRecDepth 100000

theorem cellsPm : Tryz.prog.cellsOf 209 = 2 := by kernel_rfl
theorem rows_at (i : Nat) (h : i < 696) : Pinned.pow10Rows[i]? = some (phi i, plo i) := by
  have h2 := rows_len
  unfold phi plo
  generalize Pinned.pow10Rows = l at *
  rw [List.getD_eq_getElem?_getD, List.getElem?_eq_getElem (by omega)]
  rfl
theorem ten_of {W : World} (h : VarReads Tryz.prog W "internal/strconv.pow10Tab" Pinned.pow10Tab) : TenAt W := by
  obtain ⟨g, t, cs, fuel, p, hg, hty, hv, hd⟩ := h
  obtain rfl : g = 15 := Option.some.inj (hg.symm.trans (by kernel_rfl))
  obtain rfl : t = 210 := Option.some.inj (hty.symm.trans (by kernel_rfl))
  obtain ⟨xs, m, _, hx, _, hlen, hall⟩ := DataW.trod_array Tryz.underlying210 hd
  have hxs : xs.map (·.1) = Pinned.pow10Rows.map fun x => DataW.agg [.lit (.int .u64 x.1), .lit (.int .u64 x.2)] := by
    have := congrArg Prod.fst hx
    unfold Pinned.pow10Tab at this
    simpa using this.symm
  intro i hi
  have h1 := hall i hi
  rw [cellsPm] at h1
  obtain ⟨x, hxi⟩ : ∃ x, xs[i]? = some x := ⟨xs[i]'(by omega), List.getElem?_eq_getElem (by omega)⟩
  have h2 : (xs.map (·.1))[i]? = some x.1 := by rw [List.getElem?_map, hxi]; rfl
  rw [hxs, List.getElem?_map, rows_at i hi] at h2
  have h3 : x.1 = .agg (([((phi i : Nat) : Int), ((plo i : Nat) : Int)]).map fun z => .lit (.int .u64 z)) := (Option.some.inj h2).symm
  rw [hxi] at h1
  have h4 := ints_of_struct (k := .u64) (zs := [((phi i : Nat) : Int), ((plo i : Nat) : Int)]) (p := x.2) Tryz.underlying209 (by
    intro j f hf
    match j, hf with
    | 0, hf => cases hf; exact ⟨by kernel_rfl, by kernel_rfl, by kernel_rfl⟩
    | 1, hf => cases hf; exact ⟨by kernel_rfl, by kernel_rfl, by kernel_rfl⟩) (by kernel_rfl) (by rw [h1, ← h3])
  have c0 : cs.toList[i * 2]? = some (.int .u64 (phi i)) := by
    have := congrArg (·[0]?) h4
    simpa [List.getElem?_take, List.getElem?_drop] using this
  have c1 : cs.toList[i * 2 + 1]? = some (.int .u64 (plo i)) := by
    have := congrArg (·[1]?) h4
    simpa [List.getElem?_take, List.getElem?_drop] using this
  exact ⟨(World.var?_cell hg hv (i * 2)).trans (by rw [← Array.getElem?_toList]; exact c0), (World.var?_cell hg hv (i * 2 + 1)).trans (by rw [← Array.getElem?_toList]; exact c1)⟩
theorem pow_data : (Rows.laid_internal_strconv_uint64pow10 : DataW Unit) = tabData .u64 Lib.pow10Tab := by kernel_rfl
theorem pow_of {W : World} (h : VarReads Tryz.prog W "internal/strconv.uint64pow10" Rows.laid_internal_strconv_uint64pow10) : TabIs Tryz.prog W "internal/strconv.uint64pow10" .u64 Lib.pow10Tab := by
  obtain ⟨g, t, cs, fuel, p, hg, hty, hv, hd⟩ := h
  obtain rfl : g = 4 := Option.some.inj (hg.symm.trans (by kernel_rfl))
  obtain rfl : t = 128 := Option.some.inj (hty.symm.trans (by kernel_rfl))
  rw [pow_data] at hd
  unfold TabIs
  rw [hv, ← cells_of_tab Tryz.underlying128 Tryz.underlying76 (by kernel_rfl) (by kernel_rfl) hd]
theorem tabs_of (W : World) (hl : laidMetH Tryz.prog Rows.valueWritesRow.laid W) (hs : W.ShapedOpen Tryz.prog) : Tabs3 W := by
  have h : laidMet Tryz.prog Rows.valueWritesRow.laid W := hl
  exact ⟨⟨ten_of (laidMet.reads h (List.mem_of_getElem? (i := 6) rfl)), pow_of (laidMet.reads h (List.mem_of_getElem? (i := 3) rfl))⟩, Tryz.laysM155.s1_3 W hs⟩
end Go.Proofs.YtikpgglbfpdhmaaGreatDoor

/- A world in which the tables that reading lists are laid: the witness of the row. -/
import Derived.Test.YtikpgglbfpdhmaaGreatDoorRdMFrameB
import Derived.Lib.LaidU8
namespace Go.Proofs.YtikpgglbfpdhmaaGreatDoor.valueReads
open Go.ChangeShapes Go.WideShapes Go.ChangeAt Go.RowKit
set_option maxRecDepth 100000

def tabPt : List Int := [1, 3, 6, 9, 13, 16, 19, 23, 26]
def tab64f : List Nat := [4607182418800017408, 4621819117588971520, 4636737291354636288, 4652007308841189376, 4666723172467343360, 4681608360884174848, 4696837146684686336, 4711630319722168320, 4726483295884279808, 4741671816366391296, 4756540486875873280, 4771362005757984768, 4786511204640096256, 4801453603149578240, 4816244402031689728, 4831355200913801216, 4846369599423283200, 4861130398305394688, 4876203697187506176, 4891288408196988160, 4906019910204099648, 4921056587992461136, 4936209963552724370]
def tab32f : List Nat := [1065353216, 1092616192, 1120403456, 1148846080, 1176256512, 1203982336, 1232348160, 1259902592, 1287568416, 1315859240, 1343554297]
noncomputable def laidWorld (os : Os) : World :=
  let N := (World.settled Tryz.prog os).heap.size
  let w0 := World.holding Tryz.prog os ⟨#[.cells tabCheat.toArray 215, .cells (tabPt.map (Value.int .i64)).toArray 3, .cells (tab64f.map (Value.float .f64)).toArray 22, .cells (tab32f.map (Value.float .f32)).toArray 115, .cells #[.string ⟨#[118, 97, 108, 117, 101, 32, 111, 117, 116, 32, 111, 102, 32, 114, 97, 110, 103, 101]⟩] 154, .cells #[.string ⟨#[105, 110, 118, 97, 108, 105, 100, 32, 115, 121, 110, 116, 97, 120]⟩] 154], #[], []⟩
  let put (h : Array Obj) (g : Nat) (cs : Array Value) : Array Obj := h.modify g fun
    | .cells _ t frozen => .cells cs t frozen
    | o => o
  let h1 := put w0.heap 13 (tab32.map (Value.int .u8)).toArray
  let h2 := put h1 14 (tab64.map (Value.int .u8)).toArray
  let h3 := put h2 5 #[.bool true]
  let h4 := put h3 4 (tabPow.map (Value.int .u64)).toArray
  let h5 := put h4 9 (tabAcc.map (Value.int .u8)).toArray
  let h6 := put h5 16 #[.slice (some ⟨N, 0, none⟩) Pinned.cheatRows.length Pinned.cheatRows.length]
  let h7 := put h6 15 tabTen.toArray
  let h8 := put h7 8 (Pinned.utf8FirstZ.map fun (z : Nat) => Value.int .u8 (z : Int)).toArray
  let h9 := put h8 11 #[.slice (some ⟨N + 1, 0, none⟩) 9 9]
  let h10 := put h9 12 #[.slice (some ⟨N + 2, 0, none⟩) 23 23]
  let h11 := put h10 10 #[.slice (some ⟨N + 3, 0, none⟩) 11 11]
  let h12 := put h11 3 #[.iface 152 (.pointer (some ⟨N + 4, 0, none⟩))]
  let h13 := put h12 2 #[.iface 152 (.pointer (some ⟨N + 5, 0, none⟩))]
  let h14 := put h13 6 #[.int .u64 23, .int .u64 8, .int .i64 (-127)]
  let h15 := put h14 7 #[.int .u64 52, .int .u64 11, .int .i64 (-1023)]
  { w0 with heap := h15 }
noncomputable abbrev N0 : Nat := (World.settled Tryz.prog default).heap.size
noncomputable abbrev mem (os : Os) (args : Array Value) : World := ((laidWorld os).forCall (fun _ _ => 0) ⟨#[], args, []⟩).memory
theorem piece1 (os : Os) (args : Array Value) : LaidIn Tryz.prog (mem os args) [("math/bits.deBruijn32tab", Rows.laid_math_bits_deBruijn32tab), ("math/bits.deBruijn64tab", Rows.laid_math_bits_deBruijn64tab), ("internal/strconv.float32info", Rows.laid_internal_strconv_float32info), ("internal/strconv.float64info", Rows.laid_internal_strconv_float64info), ("internal/strconv.optimize", Rows.laid_internal_strconv_optimize), ("internal/strconv.powtab", Rows.laid_internal_strconv_powtab), ("internal/strconv.float64pow10", Rows.laid_internal_strconv_float64pow10), ("internal/strconv.float32pow10", Rows.laid_internal_strconv_float32pow10), ("internal/strconv.uint64pow10", Rows.laid_internal_strconv_uint64pow10), ("unicode/utf8.acceptRanges", Rows.laid_unicode_utf8_acceptRanges), ("strconv.ErrRange", Rows.laid_strconv_ErrRange), ("strconv.ErrSyntax", Rows.laid_strconv_ErrSyntax), ("internal/strconv.leftcheats", Rows.laid_internal_strconv_leftcheats)]
    [13, 14, 6, 7, 5, 11, 12, 10, 4, 9, 3, 2, 16, N0, N0 + 1, N0 + 2, N0 + 3, N0 + 4, N0 + 5] :=
  LaidIn.of_run _ 8 (by kernel_rfl) (by kernel_rfl) (by kernel_rfl) (by kernel_rfl)
theorem heapTen (os : Os) (args : Array Value) : (mem os args).heap[15]? = some (.cells tabTen.toArray 210 (0, 0)) := by kernel_rfl
attribute [local irreducible] tabTen
set_option maxRecDepth 100000 in
theorem piece2 (os : Os) (args : Array Value) : LaidIn Tryz.prog (mem os args) [("internal/strconv.pow10Tab", Rows.laid_internal_strconv_pow10Tab)] [15] := by
  refine LaidIn.one [15] (g := 15) (t := 210) (cs := tabTen.toArray) (fuel := 4) (p := []) (by kernel_rfl) (by kernel_rfl) (by kernel_rfl) (by kernel_rfl) ?_ ?_ ?_
  · rw [List.append_nil]; exact rowP_nodup _ _
  · intro b off hp
    rw [List.append_nil] at hp
    obtain ⟨i, _, e⟩ := MemPlace.mem_row.1 hp
    simp only [MemPlace.cell.injEq] at e
    obtain ⟨rfl, rfl⟩ := e
    refine ⟨⟨_, _, heapTen os args⟩, fun u v hc => ?_⟩
    exact absurd hc (num_no_iface tabTen tabTen_num (heapTen os args) _ u v)
  · intro x hx
    rw [List.append_nil] at hx
    obtain ⟨i, _, rfl⟩ := MemPlace.mem_row.1 hx
    simp [MemPlace.block]
theorem piece3 (os : Os) (args : Array Value) : LaidIn Tryz.prog (mem os args) [("unicode/utf8.first", Rows.laid_unicode_utf8_first)] [8] :=
  LaidIn.of_run _ 8 (by kernel_rfl) (by kernel_rfl) (by kernel_rfl) (by kernel_rfl)
/-- The tables of the row. -/
theorem laid_met (os : Os) (args : Array Value) : laidMet Tryz.prog Rows.valueReadsRow.laid (mem os args) :=
  ((((piece1 os args).append (piece2 os args) (by kernel_rfl)).append (piece3 os args) (by kernel_rfl))).met
noncomputable abbrev at0 (os : Os) (args : Array Value) : World := (laidWorld os).forCall (fun _ _ => 0) ⟨#[], args, []⟩
theorem okTen (os : Os) (args : Array Value) : (tabTen.all fun v => Cell.okRefB Tryz.checked.prog (at0 os args) 76 v) = true := by kernel_rfl
theorem rowTen (os : Os) (args : Array Value) : Row.okRefB Tryz.checked.prog (at0 os args) 210 tabTen.toArray = true := by
  have h1 := typesTen
  have h2 := lenTen
  have h3 := okTen os args
  generalize tabTen = l at *
  unfold Row.okRefB
  rw [h1]
  simp only [List.length_replicate, List.size_toArray, h2, Bool.and_eq_true, beq_iff_eq, List.all_eq_true, List.mem_range]
  refine ⟨by decide, fun i hi => ?_⟩
  have hi' : i < l.length := by rw [h2]; exact hi
  simp only [List.getElem?_toArray, List.getElem?_eq_getElem hi', List.getElem?_replicate]
  rw [if_pos (Nat.mod_lt _ (by decide))]
  exact List.all_eq_true.1 h3 _ (List.getElem_mem hi')
theorem fits_rest (os : Os) (args : Array Value) : ((List.range Tryz.checked.prog.globals.size).all fun g => g == 15 || fits Tryz.checked.prog (at0 os args) g) = true := by kernel_rfl
theorem zeroTen : ((((begin Tryz.checked.prog (fun _ _ => 0) default).world).heap[15]?).bind Obj.row?).map (fun x => (x.1.size, x.2)) = some (1392, 210) := by kernel_rfl
theorem heapTen0 (os : Os) (args : Array Value) : (at0 os args).heap[15]? = some (.cells tabTen.toArray 210 (0, 0)) := by kernel_rfl
theorem fits_ten (os : Os) (args : Array Value) : fits Tryz.checked.prog (at0 os args) 15 = true := by
  obtain ⟨⟨zero, t⟩, hz, he⟩ := Option.map_eq_some_iff.1 zeroTen
  simp only [Prod.mk.injEq] at he
  obtain ⟨h1, rfl⟩ := he
  have h2 := lenTen
  have h3 := rowTen os args
  have h4 := heapTen0 os args
  generalize tabTen = l at *
  unfold fits
  rw [hz]
  simp only
  rw [h4]
  simp only
  rw [h3]
  simp [h1, h2]
theorem vars_fit (os : Os) (args : Array Value) : (at0 os args).variablesRefB Tryz.checked.prog = true :=
  vars_of_fits (fits_all (fits_rest os args) (fits_ten os args))
end Go.Proofs.YtikpgglbfpdhmaaGreatDoor.valueReads

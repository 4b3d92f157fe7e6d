/- A world in which the listed tables are laid: the witness of every row of this seat. -/
import Derived.Test.YtikpgglbfpdhmaaGreatDoorCards
import Derived.Test.YtikpgglbfpdhmaaGreatDoorTie
import Derived.Test.YtikpgglbfpdhmaaGreatDoorRdMKit
import Derived.ProofKit
import Derived.OpenShut
import Derived.Deep.DeepHandedRow
import Derived.Deep.DeepWitnessRowRef
import Derived.Lib.LaidTab
import Derived.Lib.LaidIn
import Derived.Lib.LaidSlice
namespace Go.Proofs.YtikpgglbfpdhmaaGreatDoor
open Go.ChangeShapes Go.WideShapes Go.ChangeAt Go.RowKit

theorem own : ownKnob Tryz.prog.godebug = none := by kernel_rfl

def tab32 : List Int := [0, 1, 28, 2, 29, 14, 24, 3, 30, 22, 20, 15, 25, 17, 4, 8, 31, 27, 13, 23, 21, 19, 16, 7, 26, 12, 18, 6, 11, 5, 10, 9]
def tab64 : List Int := [0, 1, 56, 2, 57, 49, 28, 3, 61, 58, 42, 50, 38, 29, 17, 4, 62, 47, 59, 36, 45, 43, 51, 22, 53, 39, 33, 30, 24, 18, 12, 5, 63, 55, 48, 27, 60, 41, 37, 16, 46, 35, 44, 21, 52, 32, 23, 11, 54, 26, 40, 15, 34, 20, 31, 10, 25, 14, 19, 9, 13, 8, 7, 6]
def tabPow : List Int := [1, 10, 100, 1000, 10000, 100000, 1000000, 10000000, 100000000, 1000000000, 10000000000, 100000000000, 1000000000000, 10000000000000, 100000000000000, 1000000000000000, 10000000000000000, 100000000000000000, 1000000000000000000, 10000000000000000000]
def tabAcc : List Int := [128, 191, 160, 191, 128, 159, 144, 191, 128, 143, 0, 0, 0, 0, 0, 0, 0, 0, 0, 0, 0, 0, 0, 0, 0, 0, 0, 0, 0, 0, 0, 0]
def tabTen : List Value := Pinned.pow10Rows.flatMap fun x => [Value.int .u64 (x.1 : Int), Value.int .u64 (x.2 : Int)]
def tabCheat : List Value := Pinned.cheatRows.flatMap fun x => [Value.int .i64 (x.1 : Int), Value.string ⟨x.2.toArray⟩]

noncomputable def laidWorld (os : Os) : World :=
  let N := (World.settled Tryz.prog os).heap.size
  let w0 := World.holding Tryz.prog os ⟨#[.cells tabCheat.toArray 215], #[], []⟩
  let put (h : Array Obj) (g : Nat) (cs : Array Value) : Array Obj := h.modify g fun
    | .cells _ t frozen => .cells cs t frozen
    | o => o
  let h1 := put w0.heap 13 (tab32.map (Value.int .u8)).toArray
  let h2 := put h1 14 (tab64.map (Value.int .u8)).toArray
  let h3 := put h2 5 #[.bool true]
  let h4 := put h3 4 (tabPow.map (Value.int .u64)).toArray
  let h5 := put h4 9 (tabAcc.map (Value.int .u8)).toArray
  let h6 := put h5 16 #[.slice (some ⟨N, 0, none⟩) Pinned.cheatRows.length Pinned.cheatRows.length]
  let h7 := put h6 15 tabTen.toArray
  let h8 := put h7 8 (Pinned.utf8FirstZ.map fun (z : Nat) => Value.int .u8 (z : Int)).toArray
  { w0 with heap := h8 }
noncomputable abbrev N0 : Nat := (World.settled Tryz.prog default).heap.size

noncomputable abbrev mem (os : Os) (args : Array Value) : World := ((laidWorld os).forCall (fun _ _ => 0) ⟨#[], args, []⟩).memory
theorem piece1 (os : Os) (args : Array Value) : LaidIn Tryz.prog (mem os args) [("math/bits.deBruijn32tab", Rows.laid_math_bits_deBruijn32tab), ("math/bits.deBruijn64tab", Rows.laid_math_bits_deBruijn64tab), ("internal/strconv.optimize", Rows.laid_internal_strconv_optimize), ("internal/strconv.uint64pow10", Rows.laid_internal_strconv_uint64pow10), ("unicode/utf8.acceptRanges", Rows.laid_unicode_utf8_acceptRanges), ("internal/strconv.leftcheats", Rows.laid_internal_strconv_leftcheats)]
    [13, 14, 5, 4, 9, 16, N0] :=
  LaidIn.of_run _ 8 (by kernel_rfl) (by kernel_rfl) (by kernel_rfl) (by kernel_rfl)
def isNum : Value → Bool
  | .int _ _ => true
  | _ => false
theorem num_no_iface (l : List Value) (hl : l.all isNum = true) {w : World} {g : Nat} {t : TypeId} (h : w.heap[g]? = some (.cells l.toArray t (0, 0))) (off : Nat) (u : TypeId) (v : Value) : ¬ w.cell? ⟨g, off, none⟩ = some (.iface u v) := by
  intro hc
  unfold World.cell? at hc
  rw [h] at hc
  simp only [Option.isSome_none, Bool.false_eq_true, if_false, List.getElem?_toArray] at hc
  have h1 := List.all_eq_true.1 hl _ (List.mem_of_getElem? hc)
  cases h1
theorem tabTen_num : tabTen.all isNum = true := by kernel_rfl
theorem heapTen (os : Os) (args : Array Value) : (mem os args).heap[15]? = some (.cells tabTen.toArray 210 (0, 0)) := by kernel_rfl
attribute [local irreducible] tabTen
set_option maxRecDepth 100000 in
theorem piece2 (os : Os) (args : Array Value) : LaidIn Tryz.prog (mem os args) [("internal/strconv.pow10Tab", Rows.laid_internal_strconv_pow10Tab)] [15] := by
  refine LaidIn.one [15] (g := 15) (t := 210) (cs := tabTen.toArray) (fuel := 4) (p := []) (by kernel_rfl) (by kernel_rfl) (by kernel_rfl) (by kernel_rfl) ?_ ?_ ?_
  · rw [List.append_nil]; exact rowP_nodup _ _
  · intro b off hp
    rw [List.append_nil] at hp
    obtain ⟨i, _, e⟩ := MemPlace.mem_row.1 hp
    simp only [MemPlace.cell.injEq] at e
    obtain ⟨rfl, rfl⟩ := e
    refine ⟨⟨_, _, heapTen os args⟩, fun u v hc => ?_⟩
    exact absurd hc (num_no_iface tabTen tabTen_num (heapTen os args) _ u v)
  · intro x hx
    rw [List.append_nil] at hx
    obtain ⟨i, _, rfl⟩ := MemPlace.mem_row.1 hx
    simp [MemPlace.block]
theorem piece3 (os : Os) (args : Array Value) : LaidIn Tryz.prog (mem os args) [("unicode/utf8.first", Rows.laid_unicode_utf8_first)] [8] :=
  LaidIn.of_run _ 8 (by kernel_rfl) (by kernel_rfl) (by kernel_rfl) (by kernel_rfl)
/-- The tables of this seat's rows, all but the reading's. -/
theorem laid_met (os : Os) (args : Array Value) : laidMet Tryz.prog Rows.valueLineRow.laid (mem os args) :=
  ((((piece1 os args).append (piece2 os args) (by kernel_rfl)).append (piece3 os args) (by kernel_rfl))).met
end Go.Proofs.YtikpgglbfpdhmaaGreatDoor

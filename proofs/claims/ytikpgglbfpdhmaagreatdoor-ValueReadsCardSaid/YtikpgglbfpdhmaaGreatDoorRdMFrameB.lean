/- The witness world has the shape that a start gives it. -/
import Derived.Test.YtikpgglbfpdhmaaGreatDoorRdMFrame
namespace Go.Proofs.YtikpgglbfpdhmaaGreatDoor
set_option maxRecDepth 100000
noncomputable abbrev at0 (os : Os) (args : Array Value) : World := (laidWorld os).forCall (fun _ _ => 0) ⟨#[], args, []⟩
theorem typesTen : Tryz.checked.prog.cellTypes Tryz.checked.prog.depth 210 = some (List.replicate 1392 76) := by kernel_rfl
theorem lenTen : tabTen.length = 1392 := by kernel_rfl
theorem okTen (os : Os) (args : Array Value) : (tabTen.all fun v => Cell.okRefB Tryz.checked.prog (at0 os args) 76 v) = true := by kernel_rfl
theorem rowTen (os : Os) (args : Array Value) : Row.okRefB Tryz.checked.prog (at0 os args) 210 tabTen.toArray = true := by
  have h1 := typesTen
  have h2 := lenTen
  have h3 := okTen os args
  generalize tabTen = l at *
  unfold Row.okRefB
  rw [h1]
  simp only [List.length_replicate, List.size_toArray, h2, Bool.and_eq_true, beq_iff_eq, List.all_eq_true, List.mem_range]
  refine ⟨by decide, fun i hi => ?_⟩
  have hi' : i < l.length := by rw [h2]; exact hi
  simp only [List.getElem?_toArray, List.getElem?_eq_getElem hi', List.getElem?_replicate]
  rw [if_pos (Nat.mod_lt _ (by decide))]
  exact List.all_eq_true.1 h3 _ (List.getElem_mem hi')
/-- One variable's fit. -/
noncomputable def fits (P : Program) (w : World) (g : Nat) : Bool :=
  match (((begin P (fun _ _ => 0) default).world).heap[g]?).bind Obj.row? with
  | none => true
  | some (zero, t) =>
    match w.heap[g]? with
    | some (.cells cs t' frozen) => decide (t' = t) && decide (frozen = (0, 0)) && cs.size == zero.size && (!P.buildable t || Row.okRefB P w t cs)
    | _ => false
theorem fits_rest (os : Os) (args : Array Value) : ((List.range Tryz.checked.prog.globals.size).all fun g => g == 15 || fits Tryz.checked.prog (at0 os args) g) = true := by kernel_rfl
theorem zeroTen : ((((begin Tryz.checked.prog (fun _ _ => 0) default).world).heap[15]?).bind Obj.row?).map (fun x => (x.1.size, x.2)) = some (1392, 210) := by kernel_rfl
theorem heapTen0 (os : Os) (args : Array Value) : (at0 os args).heap[15]? = some (.cells tabTen.toArray 210 (0, 0)) := by kernel_rfl
theorem fits_ten (os : Os) (args : Array Value) : fits Tryz.checked.prog (at0 os args) 15 = true := by
  obtain ⟨⟨zero, t⟩, hz, he⟩ := Option.map_eq_some_iff.1 zeroTen
  simp only [Prod.mk.injEq] at he
  obtain ⟨h1, rfl⟩ := he
  have h2 := lenTen
  have h3 := rowTen os args
  have h4 := heapTen0 os args
  generalize tabTen = l at *
  unfold fits
  rw [hz]
  simp only
  rw [h4]
  simp only
  rw [h3]
  simp [h1, h2]
theorem vars_of_fits {P : Program} {w : World} (h : ∀ g, g < P.globals.size → fits P w g = true) : w.variablesRefB P = true := by
  unfold fits at h
  unfold World.variablesRefB
  simp only [List.all_eq_true, List.mem_range]
  exact h
theorem fits_all {P : Program} {w : World} {k : Nat} (h : ((List.range P.globals.size).all fun g => g == k || fits P w g) = true) (hk : fits P w k = true) : ∀ g, g < P.globals.size → fits P w g = true := by
  intro g hg
  have h1 := List.all_eq_true.1 h g (List.mem_range.2 hg)
  by_cases e : g = k
  · rw [e]; exact hk
  · have e' : (g == k) = false := by simp [e]
    rw [e', Bool.false_or] at h1
    exact h1
theorem vars_fit (os : Os) (args : Array Value) : (at0 os args).variablesRefB Tryz.checked.prog = true :=
  vars_of_fits (fits_all (fits_rest os args) (fits_ten os args))
end Go.Proofs.YtikpgglbfpdhmaaGreatDoor

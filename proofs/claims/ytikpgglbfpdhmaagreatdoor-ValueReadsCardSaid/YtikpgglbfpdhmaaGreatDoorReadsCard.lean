/-
  ValueReads: the law answers true for every input, each argument reading afterwards as before: the walk of the law (ValueReadsAny), framed.
  Conditions: none beside the card's own (the listed tables of the library as the program's text lays them).
-/
import Derived.Test.YtikpgglbfpdhmaaGreatDoorRdMReadY
import Derived.Test.YtikpgglbfpdhmaaGreatDoorRdMFrameR
import Derived.Test.YtikpgglbfpdhmaaGreatDoorRdMOpenV
namespace Go.Proofs.YtikpgglbfpdhmaaGreatDoor.valueReads
open Go.ChangeShapes Go.WideShapes Go.ChangeAt Go.RowKit Go.Joins
open Go.ChangeMaps (open_string)
set_option maxRecDepth 100000

theorem contract (H : Type) (enc : TypeId × Value → H) (W : World) (base : Nat) (args : Array Value) (ds gs : List (DataW H)) (before : List MemPlace)
    (hval : ∀ (j : Nat) t v, Tryz.f12.params[j]? = some t → args[j]? = some v → Value.okWide Tryz.prog W .any base t v)
    (hW : DataW.Whole enc Tryz.prog Tryz.f12.params.toList Rows.valueReadsSpec.vars false W args.toList ds gs before)
    (hT : Tabs4 W) :
    Calls Tryz.prog 12 args W fun e W' => ∃ v, e = .returned v ∧ Rows.valueReadsSpec.post enc Tryz.prog Tryz.f12 false true false false W args v W' := by
  have hW' := hW
  obtain ⟨p, q, hA0, hV, rfl, hfz, hnd⟩ := hW
  have hA : DataW.TrodAll enc Tryz.prog W 0 (fun _ => true) true Tryz.f12.params.toList args.toList ds p := hA0
  rw [Tryz.params12] at hA hval
  obtain ⟨v0, vs0, d0, ds0, p0, q0, hargs, rfl, rfl, h0, r0⟩ := trodAll_cons hA
  obtain ⟨v1, vs1, d1, ds1, p1, q1, rfl, rfl, rfl, h1, r1⟩ := trodAll_cons r0
  obtain ⟨rfl, rfl, rfl⟩ := trodAll_nil r1
  obtain rfl : args = #[v0, v1] := by cases args; simp_all
  obtain ⟨rfl, rfl⟩ := trodVars_none hV
  have g0 := h0
  have g1 := h1
  obtain ⟨x0, rfl, e0, rfl, wf0⟩ := open_int Tryz.underlying2 (hval 0 2 v0 rfl rfl) h0
  have bd0 := bounds_i64 wf0
  obtain ⟨x1, rfl, e1, rfl, wf1⟩ := open_float Tryz.underlying22 (hval 1 22 v1 rfl rfl) h1
  clear hA0
  simp only [List.append_nil] at hW'
  refine (reads_walk x0 x1 bd0 wf1 W hT).mono fun e W' ⟨he, hb⟩ => ?_
  subst he
  refine ⟨_, rfl, _, _, _, [], [], [], hW', trodAll_cons_mk (shut_bool Tryz.underlying4 _) trodAll_mk0, ?_, ?_, hb.frame _, fun h => by cases h⟩
  · exact (trodAll_cons_mk (Below.trod (by kernel_rfl) (by kernel_rfl) (of_decide_eq_true (by kernel_rfl)) g0 hb (fun _ hx => by cases hx)) (trodAll_cons_mk (Below.trod (by kernel_rfl) (by kernel_rfl) (of_decide_eq_true (by kernel_rfl)) g1 hb (fun _ hx => by cases hx)) trodAll_mk0))
  · exact rfl

theorem reads (os : Os) {H : Type} (enc : TypeId × Value → H) : ∃ places, DataW.whole enc Tryz.prog (mem os #[.int .i64 0, .float .f64 0]) Tryz.f12.params.toList Rows.valueReadsSpec.vars false (#[.int .i64 0, .float .f64 0] : Array Value).toList 8 = some ([.lit (.int .i64 0), .lit (.float .f64 0)], [], places) :=
  ⟨[], by kernel_rfl⟩

theorem start (os : Os) {H : Type} (enc : TypeId × Value → H) : (OpenSpec.ofChange Rows.valueReadsSpec).preRow enc Tryz.prog Tryz.f12 Rows.valueReadsRow.domain false Rows.valueReadsRow.laid (mem os #[.int .i64 0, .float .f64 0]) #[.int .i64 0, .float .f64 0] := by
  obtain ⟨places, hx⟩ := reads os enc
  exact OpenSpec.preRow_of_cond 8 hx (by kernel_rfl) (fun k hk => by cases hk) (by kernel_rfl) (laid_met os _)
theorem rest_fit (os : Os) : (((laidWorld os).forCall (fun _ _ => 0) ⟨#[], #[.int .i64 0, .float .f64 0], []⟩).heap.toList.drop Tryz.checked.prog.globals.size).take ((begin Tryz.checked.prog (fun _ _ => 0) default).world.heap.size - Tryz.checked.prog.globals.size) =
    (begin Tryz.checked.prog (fun _ _ => 0) default).world.heap.toList.drop Tryz.checked.prog.globals.size := by kernel_rfl
theorem args_fit (os : Os) : Input.okWideB Tryz.checked.prog ((laidWorld os).forCall (fun _ _ => 0) ⟨#[], #[.int .i64 0, .float .f64 0], []⟩) 12 ⟨#[], #[.int .i64 0, .float .f64 0], []⟩ = true := by kernel_rfl

theorem lifted (os : Os) (started : os.Started) (H : Type) (enc : TypeId × Value → H) (F : Stop.Interp) :
    ReturnsInHanded {} Tryz.checked os 12 .any ((OpenSpec.ofChange Rows.valueReadsSpec).preRow enc Tryz.prog Tryz.f12 Rows.valueReadsRow.domain false Rows.valueReadsRow.laid) (((OpenSpec.ofChange Rows.valueReadsSpec).at F).post enc Tryz.prog Tryz.f12 false true false false) := by
  refine returnsInHanded_of_row (C := Tryz.checked) (s := OpenSpec.ofChange Rows.valueReadsSpec) own started (by kernel_rfl) Tryz.func12
    (witness_row_atRef (enc := enc) (C := Tryz.checked) false (laidWorld os) #[.int .i64 0, .float .f64 0] rfl (vars_fit os _) (rest_fit os) (args_fit os) (start os enc)) ?_
  intro W base args ds gs before hval hW _ _ _ hlaid hshape _
  exact contract H enc W base args ds gs before hval hW (rtabs_of W hlaid hshape)

theorem said : Rows.ValueReadsSaid :=
  OpenClaim.holds_of_cond 12 Tryz.f12 rfl rfl rfl rfl rfl rfl rfl ⟨rfl, rfl, rfl, rfl, rfl⟩ rfl rfl rfl rfl rfl (by kernel_rfl) Tryz.func12 (by kernel_rfl)
    (of_decide_eq_true (by kernel_rfl)) (by unfold Func.isWrapper; rw [if_neg (of_decide_eq_false (by kernel_rfl))]; exact ⟨rfl, rfl⟩)
    (fun os started H enc _ F => by rw [OpenClaim.pre_eq_preRow]; exact lifted os started H enc F)

theorem plain (f : FuncId) (fn : Func) (hf : Tryz.pinned.checked.prog.funcNamed "dowser/dowserlaw07.ValueReads" = some f) (hfn : Tryz.pinned.checked.prog.funcs[f]? = some fn) :
    true = Tryz.pinned.checked.prog.looks [] ∧ ∀ (j : Nat) t, fn.params[j]? = some t → Tryz.pinned.checked.prog.wantsStandIn t = false := by
  obtain rfl : f = 12 := Option.some.inj ((show Tryz.prog.funcNamed "dowser/dowserlaw07.ValueReads" = some 12 by kernel_rfl).symm.trans hf) |>.symm
  obtain rfl : fn = Tryz.f12 := (Option.some.inj (Tryz.func12.symm.trans hfn)).symm
  refine ⟨by kernel_rfl, fun j t ht => ?_⟩
  rw [Tryz.params12] at ht
  have hm := Array.mem_of_getElem? ht
  simp only [List.mem_toArray, List.mem_cons, List.mem_nil_iff, or_false] at hm
  rcases hm with rfl | rfl
  · exact (show Tryz.prog.wantsStandIn 2 = false by kernel_rfl)
  · exact (show Tryz.prog.wantsStandIn 22 = false by kernel_rfl)
/-- The card. -/
theorem card : Rows.ValueReadsCardSaid :=
  Claim7.holds_tied_plain_at .later [] _ _ _ _ said (fun _ h => by cases h) (by kernel_rfl) (fun _ h => by cases h) valueReads_row_tie rfl ⟨rfl, rfl⟩ (by kernel_rfl) rfl plain (by kernel_rfl)
#print axioms card
end Go.Proofs.YtikpgglbfpdhmaaGreatDoor.valueReads

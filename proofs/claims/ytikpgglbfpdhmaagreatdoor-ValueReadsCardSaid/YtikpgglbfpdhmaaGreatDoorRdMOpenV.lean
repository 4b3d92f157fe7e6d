/- How a value and three values are opened, where they come in as arguments. -/
import Derived.Test.YtikpgglbfpdhmaaGreatDoorRdMFrameB
import Derived.Test.YtikpgglbfpdhmaaGreatDoorRdMVOrd
import Derived.Laws.Cover2
namespace Go.Proofs.YtikpgglbfpdhmaaGreatDoor
open Go.ChangeShapes Go.WideShapes Go.ChangeAt Go.RowKit Go.Joins
set_option maxRecDepth 100000

theorem cellsV : Tryz.prog.cellsOf 24 = 4 := by kernel_rfl
theorem cellsA : Tryz.prog.cellsOf 25 = 12 := by kernel_rfl
theorem cellsI : Tryz.prog.cellsOf 3 = 1 := by kernel_rfl
theorem cellsN : Tryz.prog.cellsOf 2 = 1 := by kernel_rfl
theorem cellsF : Tryz.prog.cellsOf 22 = 1 := by kernel_rfl
theorem cellsS : Tryz.prog.cellsOf 9 = 1 := by kernel_rfl
theorem bounds64 {n : Int} (h : (Lit.int .i64 n).wf = true) : -9223372036854775808 ≤ n ∧ n ≤ 9223372036854775807 := bounds_i64 h
section
variable {H : Type} {enc : TypeId × Value → H} {w : World} {base : Nat} {spare : Nat → Bool} {held : Bool}
theorem trod_float64 {fuel : Nat} {cs : List Value} {x : DataW H × List MemPlace} (h : DataW.trod enc Tryz.prog w base spare held fuel 22 cs = some x) : ∃ b : Nat, cs = [.float .f64 b] ∧ x = (.lit (.float .f64 b), []) ∧ b < 2 ^ 64 := by
  cases fuel with
  | zero => simp [DataW.trod] at h
  | succ n =>
    unfold DataW.trod at h
    rw [Tryz.underlying22] at h
    match cs, h with
    | [.float k b], h =>
      simp only at h
      split at h
      · rename_i hk
        obtain ⟨rfl, hw⟩ : k = .f64 ∧ (Lit.float .f64 b).wf = true := by simpa using hk
        cases h
        exact ⟨b, rfl, rfl, by simpa [Lit.wf] using hw⟩
      · cases h
/-- The bounds of a value's parts. -/
structure Va.Ok (a : Va) : Prop where
  k : -9223372036854775808 ≤ a.k ∧ a.k ≤ 9223372036854775807
  n : -9223372036854775808 ≤ a.n ∧ a.n ≤ 9223372036854775807
  f : a.f < 2 ^ 64
  s : a.s.size ≤ maxLen
theorem open_cellsV {fuel : Nat} {c0 c1 c2 c3 : Value} {x : DataW H × List MemPlace} (h : DataW.trod enc Tryz.prog w base spare held fuel 24 [c0, c1, c2, c3] = some x) :
    ∃ a : Va, a.Ok ∧ c0 = .int .i64 a.k ∧ c1 = .int .i64 a.n ∧ c2 = .float .f64 a.f ∧ c3 = .string a.s ∧ x.2 = [] := by
  obtain ⟨y0, y1, y2, y3, n, rfl, _, h0, h1, h2, h3⟩ := trod_struct4 Tryz.underlying24 h
  simp only [cellsI, cellsN, cellsF, cellsS] at h0 h1 h2 h3
  obtain ⟨k, e0, rfl, wk⟩ := DataW.trod_int Tryz.underlying3 h0
  obtain ⟨m, e1, rfl, wm⟩ := DataW.trod_int Tryz.underlying2 h1
  obtain ⟨f, e2, rfl, wf⟩ := trod_float64 h2
  obtain ⟨s, e3, rfl, ws⟩ := DataW.trod_string Tryz.underlying9 h3
  simp at e0 e1 e2 e3
  subst e0 e1 e2 e3
  refine ⟨⟨k, m, f, s⟩, ⟨bounds64 wk, bounds64 wm, wf, ws⟩, rfl, rfl, rfl, rfl, rfl⟩
theorem open_V {r : Reach} {b0 : Nat} {v : Value} {d : DataW H} {p : List MemPlace} (hv : Value.okWide Tryz.prog w r b0 24 v) (h : DataW.Trod enc Tryz.prog w base spare held 24 v d p) :
    ∃ a : Va, a.Ok ∧ v = a.val ∧ p = [] := by
  obtain ⟨cs, rfl, hsz⟩ := okWide_struct Tryz.underlying24 hv
  obtain ⟨c0, c1, c2, c3, rfl⟩ := array4 (hsz.trans cellsV)
  obtain ⟨fuel, hf⟩ := h
  obtain ⟨a, ha, rfl, rfl, rfl, rfl, hp⟩ := open_cellsV (x := (d, p)) hf
  exact ⟨a, ha, rfl, hp⟩
theorem open_A {r : Reach} {b0 : Nat} {v : Value} {d : DataW H} {p : List MemPlace} (hv : Value.okWide Tryz.prog w r b0 25 v) (h : DataW.Trod enc Tryz.prog w base spare held 25 v d p) :
    ∃ a b c : Va, a.Ok ∧ b.Ok ∧ c.Ok ∧ v = .agg #[.int .i64 a.k, .int .i64 a.n, .float .f64 a.f, .string a.s, .int .i64 b.k, .int .i64 b.n, .float .f64 b.f, .string b.s, .int .i64 c.k, .int .i64 c.n, .float .f64 c.f, .string c.s] ∧ p = [] := by
  unfold Value.okWide at hv
  rw [Tryz.underlying25] at hv
  obtain ⟨cs, rfl, hsz, _⟩ := hv
  rw [cellsA] at hsz
  obtain ⟨fuel, hf⟩ := h
  obtain ⟨xs, m, _, hx, _, hlen, hall⟩ := DataW.trod_array Tryz.underlying25 hf
  obtain ⟨l⟩ := cs
  match l, hsz with
  | [c0, c1, c2, c3, d0, d1, d2, d3, e0, e1, e2, e3], _ =>
    match xs, hlen with
    | [x0, x1, x2], _ =>
      have h0 := hall 0 (by decide)
      have h1 := hall 1 (by decide)
      have h2 := hall 2 (by decide)
      simp only [cellsV, Value.cells] at h0 h1 h2
      obtain ⟨a, ha, rfl, rfl, rfl, rfl, p0⟩ := open_cellsV (x := x0) h0
      obtain ⟨b, hb, rfl, rfl, rfl, rfl, p1⟩ := open_cellsV (x := x1) h1
      obtain ⟨c, hc, rfl, rfl, rfl, rfl, p2⟩ := open_cellsV (x := x2) h2
      simp only [Prod.mk.injEq] at hx
      exact ⟨a, b, c, ha, hb, hc, rfl, by rw [hx.2]; simp [p0, p1, p2]⟩
end
end Go.Proofs.YtikpgglbfpdhmaaGreatDoor

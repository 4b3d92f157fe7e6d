/- What two values come to, in the program and in the reference: one. -/
import Derived.Test.YtikpgglbfpdhmaaGreatDoorValP
import Derived.Test.YtikpgglbfpdhmaaGreatDoorInts
import Derived.Test.YtikpgglbfpdhmaaGreatDoorRecD
import Derived.Test.YtikpgglbfpdhmaaGreatDoorRecE
import Derived.Test.YtikpgglbfpdhmaaGreatDoorRecF
import Derived.Test.YtikpgglbfpdhmaaGreatDoorRecG
namespace Go.Proofs.YtikpgglbfpdhmaaGreatDoor
open Go.RowKit Go.Joins

/-- Two functions give one value, but for the bits of what is no number. -/
def GiveOne (P : Program) (fa fb : FuncId) (args : Array Value) : Prop :=
  ∃ (K M : Int) (F : Nat), (∀ w, Calls P fa args w fun e w' => e = .returned (.agg #[.int .i64 K, .int .i64 M, .float .f64 F, .string ⟨#[]⟩]) ∧ Below w.heap.size w w') ∧
    (∀ w, Calls P fb args w fun e w' => (∃ g, FOne F g ∧ e = .returned (.agg #[.int .i64 K, .int .i64 M, .float .f64 g, .string ⟨#[]⟩])) ∧ Below w.heap.size w w')
theorem giveF {P : Program} {fa fb : FuncId} {args : Array Value} {K M : Int} {F G : Nat} (h : FOne F G) (A : ∀ w, Calls P fa args w fun e w' => e = .returned (.agg #[.int .i64 K, .int .i64 M, .float .f64 F, .string ⟨#[]⟩]) ∧ Below w.heap.size w w')
    (B : ∀ w, Calls P fb args w fun e w' => e = .returned (.agg #[.int .i64 K, .int .i64 M, .float .f64 G, .string ⟨#[]⟩]) ∧ Below w.heap.size w w') : GiveOne P fa fb args :=
  ⟨K, M, F, A, fun w => (B w).mono fun _ _ ⟨he, hb⟩ => ⟨⟨G, h, he⟩, hb⟩⟩
theorem giveI {P : Program} {fa fb : FuncId} {args : Array Value} {K M : Int} (A : ∀ w, Calls P fa args w fun e w' => e = .returned (.agg #[.int .i64 K, .int .i64 M, .float .f64 0, .string ⟨#[]⟩]) ∧ Below w.heap.size w w')
    (B : ∀ w, Calls P fb args w fun e w' => e = .returned (.agg #[.int .i64 K, .int .i64 M, .float .f64 0, .string ⟨#[]⟩]) ∧ Below w.heap.size w w') : GiveOne P fa fb args := giveF (FOne.refl 0) A B

theorem sum_nan1 {x y : Ieee.Datum} (h : x.isNaN = true) : x.sum y = none := by cases x <;> cases y <;> simp_all [Ieee.Datum.isNaN, Ieee.Datum.sum]
theorem sum_nan2 {x y : Ieee.Datum} (h : y.isNaN = true) : x.sum y = none := by cases x <;> cases y <;> simp_all [Ieee.Datum.isNaN, Ieee.Datum.sum]
theorem product_nan1 {x y : Ieee.Datum} (h : x.isNaN = true) : x.product y = none := by cases x <;> cases y <;> simp_all [Ieee.Datum.isNaN, Ieee.Datum.product]
theorem product_nan2 {x y : Ieee.Datum} (h : y.isNaN = true) : x.product y = none := by cases x <;> cases y <;> simp_all [Ieee.Datum.isNaN, Ieee.Datum.product]
theorem opposite_nan {y : Ieee.Datum} (h : y.isNaN = true) : y.opposite.isNaN = true := by cases y <;> simp_all [Ieee.Datum.isNaN, Ieee.Datum.opposite]
theorem bits_nan1 {x : Nat} (y : Nat) (h : fnan x = true) : floatBits .add .f64 x y = none ∧ floatBits .sub .f64 x y = none ∧ floatBits .mul .f64 x y = none := by
  rw [fnan_iff] at h
  have h' : (FloatKind.f64.format.read x).isNaN = true := h
  unfold floatBits Ieee.Format.add Ieee.Format.sub Ieee.Format.mul
  simp only
  rw [sum_nan1 h', sum_nan1 h', product_nan1 h']
  exact ⟨rfl, rfl, rfl⟩
theorem bits_nan2 (x : Nat) {y : Nat} (h : fnan y = true) : floatBits .add .f64 x y = none ∧ floatBits .sub .f64 x y = none ∧ floatBits .mul .f64 x y = none := by
  rw [fnan_iff] at h
  have h' : (FloatKind.f64.format.read y).isNaN = true := h
  unfold floatBits Ieee.Format.add Ieee.Format.sub Ieee.Format.mul
  simp only
  rw [sum_nan2 h', sum_nan2 (opposite_nan h'), product_nan2 h']
  exact ⟨rfl, rfl, rfl⟩
theorem bits_one {F G F' G' : Nat} (h : FOne F G) (h' : FOne F' G') : floatBits .add .f64 F F' = floatBits .add .f64 G G' ∧ floatBits .sub .f64 F F' = floatBits .sub .f64 G G' ∧ floatBits .mul .f64 F F' = floatBits .mul .f64 G G' := by
  rcases h with ⟨h1, h2⟩ | ⟨_, rfl⟩
  · obtain ⟨a1, a2, a3⟩ := bits_nan1 F' h1
    obtain ⟨b1, b2, b3⟩ := bits_nan1 G' h2
    exact ⟨a1.trans b1.symm, a2.trans b2.symm, a3.trans b3.symm⟩
  · rcases h' with ⟨h1, h2⟩ | ⟨_, rfl⟩
    · obtain ⟨a1, a2, a3⟩ := bits_nan2 F h1
      obtain ⟨b1, b2, b3⟩ := bits_nan2 F h2
      exact ⟨a1.trans b1.symm, a2.trans b2.symm, a3.trans b3.symm⟩
    · exact ⟨rfl, rfl, rfl⟩

theorem arith_give_of (op : ByteArray) {k n : Int} {f : Nat} {s : ByteArray} {K N : Int} {F G : Nat} {S : ByteArray} {k' n' : Int} {f' : Nat} {s' : ByteArray} {K' N' : Int} {F' G' : Nat} {S' : ByteArray}
    (H : Cleans k n f s K N F S) (R : RCleans k n f s K N G S) (hF : FOne F G) (hN : K = 1 → Fit N)
    (H' : Cleans k' n' f' s' K' N' F' S') (R' : RCleans k' n' f' s' K' N' G' S') (hF' : FOne F' G') (hN' : K' = 1 → Fit N') :
    GiveOne Tryz.prog 17 33 #[.string op, .agg #[.int .i64 k, .int .i64 n, .float .f64 f, .string s], .agg #[.int .i64 k', .int .i64 n', .float .f64 f', .string s']] := by
  by_cases k1 : K = 1
  · subst k1
    by_cases k2 : K' = 1
    · subst k2
      have g := hN rfl
      have g' := hN' rfl
      by_cases e1 : (op.toList == [43]) = true
      · obtain rfl : op = ⟨#[43]⟩ := ba_eq (by rw [ByteArray.toList_eq ⟨#[43]⟩]; exact e1)
        by_cases q : Fit (N + N')
        · exact giveI (aadd_yes H H' q) (rarith_add_yes _ _ _ _ _ _ _ _ _ _ _ _ _ _ R R' _ (Lib.hid (radd_yes g g' q)))
        · exact giveI (aadd_no H H' g g' q) (rarith_add_no _ _ _ _ _ _ _ _ _ _ _ _ _ _ R R' (Lib.hid (radd_no g g' q)))
      by_cases e2 : (op.toList == [45]) = true
      · obtain rfl : op = ⟨#[45]⟩ := ba_eq (by rw [ByteArray.toList_eq ⟨#[45]⟩]; exact e2)
        have u := g
        have u' := g'
        unfold Fit at u u'
        by_cases m : N' = -9223372036854775808
        · by_cases z : N < 0
          · have q : Fit (N - N') := by unfold Fit; omega
            have A := asub_yes H H' q
            rw [show N - N' = N + 9223372036854775807 + 1 by omega] at A
            exact giveI A (rarith_sub_min1 _ _ _ _ _ _ _ _ _ _ _ _ _ _ R R' m _ _ (Lib.hid (radd_yes g (by unfold Fit; omega) (by unfold Fit; omega))) (Lib.hid (radd_yes (by unfold Fit; omega) (by unfold Fit; omega) (by unfold Fit; omega))))
          · have q : ¬ Fit (N - N') := by unfold Fit; omega
            by_cases z0 : N = 0
            · exact giveI (asub_no H H' g g' q) (rarith_sub_min2 _ _ _ _ _ _ _ _ _ _ _ _ _ _ R R' m _ (Lib.hid (radd_yes g (by unfold Fit; omega) (by unfold Fit; omega))) (Lib.hid (radd_no (by unfold Fit; omega) (by unfold Fit; omega) (by unfold Fit; omega))))
            · exact giveI (asub_no H H' g g' q) (rarith_sub_min3 _ _ _ _ _ _ _ _ _ _ _ _ _ _ R R' m (by omega) (Lib.hid (radd_no g (by unfold Fit; omega) (by unfold Fit; omega))))
        · by_cases q : Fit (N - N')
          · have A := asub_yes H H' q
            rw [show N - N' = N + -N' by omega] at A q
            exact giveI A (rarith_sub_yes _ _ _ _ _ _ _ _ _ _ _ _ _ _ R R' (by omega) (by omega) _ (Lib.hid (radd_yes g (by unfold Fit; omega) q)))
          · have A := asub_no H H' g g' q
            rw [show N - N' = N + -N' by omega] at q
            exact giveI A (rarith_sub_no _ _ _ _ _ _ _ _ _ _ _ _ _ _ R R' (by omega) (by omega) (Lib.hid (radd_no g (by unfold Fit; omega) q)))
      by_cases e3 : (op.toList == [42]) = true
      · obtain rfl : op = ⟨#[42]⟩ := ba_eq (by rw [ByteArray.toList_eq ⟨#[42]⟩]; exact e3)
        by_cases q : Fit (N * N')
        · exact giveI (amul_yes H H' g q) (rarith_mul_yes _ _ _ _ _ _ _ _ _ _ _ _ _ _ R R' _ (Lib.hid (rmul_yes g g' q)))
        · exact giveI (amul_no H H' g g' q) (rarith_mul_no _ _ _ _ _ _ _ _ _ _ _ _ _ _ R R' (Lib.hid (rmul_no g g' q)))
      rw [Bool.not_eq_true] at e1 e2 e3
      exact giveI (arith_no _ _ _ _ _ _ _ _ _ _ _ _ _ _ _ H H' _ (Lib.hid fun w => whole_other op N N' e1 e2 e3 w)) (rarith_other _ _ _ _ _ _ _ _ _ _ _ _ _ _ _ R R' e1 e2 e3)
    · have c : (K' == 1) = false := by simp [k2]
      exact giveI (arith_mixed1 _ _ _ _ _ _ _ _ _ _ _ _ _ _ _ _ H H' c) (rarith_mixed1 _ _ _ _ _ _ _ _ _ _ _ _ _ _ _ _ R R' c)
  · by_cases k2 : K = 2
    · subst k2
      by_cases k3 : K' = 2
      · subst k3
        obtain ⟨b1, b2, b3⟩ := bits_one hF hF'
        by_cases e1 : (op.toList == [43]) = true
        · obtain rfl : op = ⟨#[43]⟩ := ba_eq (by rw [ByteArray.toList_eq ⟨#[43]⟩]; exact e1)
          cases hr : floatBits .add .f64 F F' with
          | none => exact ⟨_, _, _, arith_radd_none _ _ _ _ _ _ _ _ _ _ _ _ _ _ H H' hr, rarith_radd_none _ _ _ _ _ _ _ _ _ _ _ _ _ _ R R' (b1 ▸ hr)⟩
          | some r => exact giveF (freal_rreal r) (arith_radd_some _ _ _ _ _ _ _ _ _ _ _ _ _ _ H H' r hr) (rarith_radd_some _ _ _ _ _ _ _ _ _ _ _ _ _ _ R R' r (b1 ▸ hr))
        by_cases e2 : (op.toList == [45]) = true
        · obtain rfl : op = ⟨#[45]⟩ := ba_eq (by rw [ByteArray.toList_eq ⟨#[45]⟩]; exact e2)
          cases hr : floatBits .sub .f64 F F' with
          | none => exact ⟨_, _, _, arith_rsub_none _ _ _ _ _ _ _ _ _ _ _ _ _ _ H H' hr, rarith_rsub_none _ _ _ _ _ _ _ _ _ _ _ _ _ _ R R' (b2 ▸ hr)⟩
          | some r => exact giveF (freal_rreal r) (arith_rsub_some _ _ _ _ _ _ _ _ _ _ _ _ _ _ H H' r hr) (rarith_rsub_some _ _ _ _ _ _ _ _ _ _ _ _ _ _ R R' r (b2 ▸ hr))
        by_cases e3 : (op.toList == [42]) = true
        · obtain rfl : op = ⟨#[42]⟩ := ba_eq (by rw [ByteArray.toList_eq ⟨#[42]⟩]; exact e3)
          cases hr : floatBits .mul .f64 F F' with
          | none => exact ⟨_, _, _, arith_rmul_none _ _ _ _ _ _ _ _ _ _ _ _ _ _ H H' hr, rarith_rmul_none _ _ _ _ _ _ _ _ _ _ _ _ _ _ R R' (b3 ▸ hr)⟩
          | some r => exact giveF (freal_rreal r) (arith_rmul_some _ _ _ _ _ _ _ _ _ _ _ _ _ _ H H' r hr) (rarith_rmul_some _ _ _ _ _ _ _ _ _ _ _ _ _ _ R R' r (b3 ▸ hr))
        rw [Bool.not_eq_true] at e1 e2 e3
        exact giveI (arith_rother _ _ _ _ _ _ _ _ _ _ _ _ _ _ _ H H' e1 e2 e3) (rarith_rother _ _ _ _ _ _ _ _ _ _ _ _ _ _ _ R R' e1 e2 e3)
      · have c : (K' == 2) = false := by simp [k3]
        exact giveI (arith_mixed2 _ _ _ _ _ _ _ _ _ _ _ _ _ _ _ _ H H' c) (rarith_mixed2 _ _ _ _ _ _ _ _ _ _ _ _ _ _ _ _ R R' c)
    · have c1 : (K == 1) = false := by simp [k1]
      have c2 : (K == 2) = false := by simp [k2]
      exact giveI (arith_mixed3 _ _ _ _ _ _ _ _ _ _ _ _ _ _ _ _ _ H H' c1 c2) (rarith_mixed3 _ _ _ _ _ _ _ _ _ _ _ _ _ _ _ _ _ R R' c1 c2)
theorem fit_cN {k n : Int} (h : Fit n) : cK k = 1 → Fit (cN k n) := by
  intro hk
  obtain ⟨rfl, _⟩ := (cK_eq (by decide)).1 hk
  unfold cN; rw [if_pos rfl]; exact h
theorem arith_give (op : ByteArray) (a b : Va) (ha : Fit a.n) (hb : Fit b.n) : GiveOne Tryz.prog 17 33 #[.string op, a.val, b.val] :=
  arith_give_of op (cleans a.k a.n a.f a.s) (rcleans a.k a.n a.f a.s) (cF_rF a.k a.f) (fit_cN ha) (cleans b.k b.n b.f b.s) (rcleans b.k b.n b.f b.s) (cF_rF b.k b.f) (fit_cN hb)
theorem neg_give_of {k n : Int} {f : Nat} {s : ByteArray} {K N : Int} {F G : Nat} {S : ByteArray}
    (H : Cleans k n f s K N F S) (R : RCleans k n f s K N G S) (A : Cleans K N F S K N F S) (hF : FOne F G) (hN : K = 1 → Fit N) :
    GiveOne Tryz.prog 34 35 #[.agg #[.int .i64 k, .int .i64 n, .float .f64 f, .string s]] := by
  by_cases k2 : K = 2
  · subst k2
    exact giveF (fneg_one hF) (neg_real _ _ _ _ _ _ _ H) (rneg_real _ _ _ _ _ _ _ R)
  · have c2 : (K == 2) = false := by simp [k2]
    by_cases k1 : K = 1
    · subst k1
      have g := hN rfl
      have u := g
      unfold Fit at u
      by_cases m : N = -9223372036854775808
      · exact giveI (neg_other _ _ _ _ _ _ _ _ H c2 0 0 (Lib.hid (asub_no (cleansI 0) A (by unfold Fit; omega) g (by unfold Fit; omega)))) (rneg_min _ _ _ _ _ _ _ R m)
      · have B := asub_yes (cleansI 0) A (by unfold Fit; omega)
        rw [show 0 - N = -N by omega] at B
        exact giveI (neg_other _ _ _ _ _ _ _ _ H c2 1 (-N) (Lib.hid B)) (rneg_int _ _ _ _ _ _ _ R (by omega) (by omega))
    · have c1 : (K == 1) = false := by simp [k1]
      exact giveI (neg_other _ _ _ _ _ _ _ _ H c2 0 0 (Lib.hid (arith_mixed1 _ _ _ _ _ _ _ _ _ _ _ _ _ _ _ _ (cleansI 0) A c1))) (rneg_none _ _ _ _ _ _ _ _ R c1 c2)
theorem neg_give (a : Va) (ha : Fit a.n) : GiveOne Tryz.prog 34 35 #[a.val] :=
  neg_give_of (cleans a.k a.n a.f a.s) (rcleans a.k a.n a.f a.s) (cleans_again a.k a.n a.f a.s) (cF_rF a.k a.f) (fit_cN ha)
end Go.Proofs.YtikpgglbfpdhmaaGreatDoor

/- Printing a float: the digits are laid into their array. -/
import Derived.Test.YtikpgglbfpdhmaaGreatDoorRdMWrI
import Derived.Test.YtikpgglbfpdhmaaGreatDoorRdMRdF
import Derived.OwnWalk
namespace Go.Proofs.YtikpgglbfpdhmaaGreatDoor
open Go.RowKit Go.Joins Go.Sort Go.Lib
attribute [local go_sem ↓] Go.wp_at_zero Go.wp_at_succ

def zeros32 : Array Value := Array.replicate 32 (.int .u8 0)
/-- A block (of whatever element type) that begins with these bytes. -/
def Buf (T : TypeId) (w : World) (b : Nat) (ds : List UInt8) : Prop := (∃ cs fr, w.heap[b]? = some (.cells cs T fr)) ∧ ∀ j x, ds[j]? = some x → w.cell? ⟨b, j, none⟩ = some (.int .u8 (x.toNat : Int))
/-- What is left behind the last digits that are 0. -/
def nzLen (l : List UInt8) : Nat → Nat
  | 0 => 0
  | j + 1 => if l.getD j 0 = 48 then nzLen l j else j + 1
theorem nzLen_le (l : List UInt8) : ∀ k, nzLen l k ≤ k
  | 0 => Nat.le_refl _
  | j + 1 => by
    unfold nzLen
    split
    · exact Nat.le_trans (nzLen_le l j) (Nat.le_succ _)
    · exact Nat.le_refl _
theorem nzLen_hit {l : List UInt8} {j : Nat} (h : l.getD j 0 = 48) : nzLen l (j + 1) = nzLen l j := by rw [nzLen, if_pos h]
theorem nzLen_miss {l : List UInt8} {j : Nat} (h : l.getD j 0 ≠ 48) : nzLen l (j + 1) = j + 1 := by rw [nzLen, if_neg h]
theorem type_putRow {α : Type} [Inhabited α] (enc : α → Value) {w : World} {b off : Nat} {d : Array α} {cs : Array Value} {T : TypeId} {fr : Nat × Nat} (h : w.heap[b]? = some (.cells cs T fr)) : ∃ cs', (putRow enc w b off d).heap[b]? = some (.cells cs' T fr) := by
  refine ⟨putCells enc off d cs, ?_⟩
  unfold putRow mapBlock
  simp [Array.getElem?_modify, h, onCells]
theorem holds_new {w : World} {b k : Nat} {T : TypeId} (h : w.heap[b]? = some (.cells zeros32 T (0, 0))) (hk : k ≤ 32) : Holds (fun (b : UInt8) => Value.int .u8 (b.toNat : Int)) w b 0 (Array.replicate k (0 : UInt8)) := by
  intro j hj
  have hj' : j < k := by simpa using hj
  constructor
  · rw [cell_of_row w b (0 + j) zeros32 T (0, 0) h, zeros32, Array.getElem?_replicate, if_pos (by omega), getElem!_pos _ j hj]
    simp
  · simp [World.frozen?, h]
theorem below_row {α : Type} [Inhabited α] (enc : α → Value) {w : World} {b off n : Nat} {d : Array α} : Below b w ((putRow enc w b off d).drewN n) := by
  have h : Below b w (putRow enc w b off d) := by
    refine ⟨rfl, rfl, rfl, by simp, fun k hk => ?_⟩
    unfold putRow mapBlock
    simp [Array.getElem?_modify, Nat.ne_of_gt hk]
  exact h.trans (below_draws _ _ _)
theorem format_to (b k D : Nat) (T : TypeId) (hk : k = nDigits D) (hk9 : k ≤ 32) (hD : D < 18446744073709551616) (w : World) (h : w.heap[b]? = some (.cells zeros32 T (0, 0))) :
    Calls Tryz.prog 89 #[.slice (some ⟨b, 0, none⟩) k 32, .int .u64 D] w fun e w' => e = .returned (.tuple #[]) ∧ Below b w w' ∧ Buf T w' b (decDigits D) := by
  have hH := holds_new (T := T) h hk9
  have hs : (Array.replicate k (0 : UInt8)).size = k := by simp
  have := Tryz.internal_strconv_formatBase10 b 0 32 D (Array.replicate k (0 : UInt8)) w hH (by rw [hs, hk]; exact lt_pow_nDigits D) hD (by rw [hs]; omega)
  rw [hs] at this
  refine this.mono ?_
  rintro e w1 ⟨rfl, n, v', dk, rfl, hI⟩
  refine ⟨rfl, below_row _, ?_, fun j x hx => ?_⟩
  · obtain ⟨cs', h'⟩ := type_putRow (fun (b : UInt8) => Value.int .u8 (b.toNat : Int)) (off := 0) (d := dk) h
    exact ⟨cs', (0, 0), h'⟩
  · obtain ⟨hj, rfl⟩ := List.getElem?_eq_some_iff.1 hx
    have hj' : j < k := by rw [hk, ← decDigits_length]; exact hj
    rw [hk] at hI
    rw [row_is_numeral hI j hj]
    have hsz : dk.size = (Array.replicate k (0 : UInt8)).size := by rw [hs, hI.size, hk]
    have := (holds_putRow (fun (b : UInt8) => Value.int .u8 (b.toNat : Int)) w b 0 _ dk hH hsz) j (by rw [hsz, hs]; exact hj')
    simpa using this.1
theorem Buf.at {T : TypeId} {w : World} {b : Nat} {ds : List UInt8} (h : Buf T w b ds) {j : Nat} (hj : j < ds.length) : w.cell? ⟨b, j, none⟩ = some (.int .u8 ((ds.getD j 0).toNat : Int)) := by
  refine h.2 j _ ?_
  rw [List.getD_eq_getElem?_getD, List.getElem?_eq_getElem hj]
  rfl
theorem byte_eq (x : UInt8) : (((x.toNat : Int) == 48) = true) = (x = 48) := by
  simp only [beq_iff_eq, eq_iff_iff]
  constructor
  · intro h
    have : x.toNat = 48 := by omega
    exact UInt8.toNat_inj.1 (by simpa using this)
  · rintro rfl; rfl
set_option maxHeartbeats 1000000 in
theorem setDigits_is (b k D : Nat) (T : TypeId) (p : Int) (hp : -400 ≤ p ∧ p ≤ 400) (hk : Hid (k = nDigits D)) (hk9 : k ≤ 19) (hD : D < 18446744073709551616) (w : World) (h : Hid (w.heap[b]? = some (.cells zeros32 T (0, 0)))) :
    Calls Tryz.prog 134 #[.slice (some ⟨b, 0, none⟩) 32 32, .int .u64 D, .int .i64 p, .int .i64 k] w fun e w' => e = .returned (.tuple #[.int .i64 (k + p), .int .i64 (nzLen (decDigits D) k)]) ∧ Below b w w' ∧ Buf T w' b (decDigits D) := by
  go_enter Tryz.func134, Tryz.ntmps134
  go_wp2_with (go_at_call 89; with_reducible refine (format_to b k D T hk.out (by omega) hD _ h.out).mono ?_; rintro e w1 ⟨rfl, hb, hB⟩; have HB := Lib.hid hB; clear hB)
  go_loopw [3] (fun v wr => ∃ j : Nat, j ≤ k ∧ v = .int .i64 j ∧ wr = w1 ∧ Hid (nzLen (decDigits D) j = nzLen (decDigits D) k)) (fun v _ => (RowKit.intOf v).toNat)
  case atStart => exact ⟨k, Nat.le_refl _, rfl, rfl, Lib.hid rfl⟩
  case round =>
    obtain ⟨j, hj, rfl, rfl, hz⟩ := hrel
    cases j with
    | zero =>
      go_wp2
      go_ret2
      exact ⟨by rw [← hz.out]; rfl, hb, HB.out⟩
    | succ q =>
      have hl : q < (decDigits D).length := by rw [decDigits_length, ← hk.out]; omega
      have hc := HB.out.at hl
      have hby := byte_eq ((decDigits D).getD q 0)
      by_cases h48 : (decDigits D).getD q 0 = 48
      · have h1 := nzLen_hit h48
        rw [h48] at hc
        rw [hz.out] at h1
        have hz1 := Lib.hid h1.symm
        clear hz h1 hby h48
        go_wp2
        go_roundw
        case rel => exact ⟨q, by omega, by go_num, by first | rfl | trivial, hz1⟩
        case measure => simp [RowKit.intOf]; (try omega)
      · have h1 := nzLen_miss h48
        rw [hz.out] at h1
        have hz1 := Lib.hid h1
        have hne : ((((decDigits D).getD q 0).toNat : Int) == 48) = false := by
          cases hh : ((((decDigits D).getD q 0).toNat : Int) == 48)
          · rfl
          · rw [hby] at hh; exact absurd hh h48
        generalize (((decDigits D).getD q 0).toNat : Int) = x at *
        clear hz h1 hby
        go_wp2
        go_ret2
        exact ⟨by rw [hz1.out]; rfl, hb, HB.out⟩
end Go.Proofs.YtikpgglbfpdhmaaGreatDoor

namespace Go.Proofs.YtikpgglbfpdhmaaGreatDoor
open Go.RowKit Go.Joins Go.Sort Go.Lib

/-- A slice of bytes that was made behind block B holds l; block b, of another element type, is as it was. -/
structure Dst (T : TypeId) (B b : Nat) (w0 w : World) (v : Value) (l : List UInt8) : Prop where
  own : w.ownsRow B 5 1 v l.length (byteCells l)
  below : Below B w0 w
  keep : w.heap[b]? = w0.heap[b]?
  size : w0.heap.size ≤ w.heap.size
/-- .. where block b has another element type. -/
def Tag (T : TypeId) (w0 : World) (b : Nat) : Prop := T ≠ 5 ∧ b < w0.heap.size ∧ ∃ cs fr, w0.heap[b]? = some (.cells cs T fr)
theorem Buf.tag {T : TypeId} {w : World} {b : Nat} {ds : List UInt8} (h : Buf T w b ds) (hT : T ≠ 5) : Tag T w b :=
  ⟨hT, by obtain ⟨cs, fr, e⟩ := h.1; exact (Array.getElem?_eq_some_iff.1 e).1, h.1⟩
theorem own_apart {T : TypeId} {B b n : Nat} {w0 w : World} {v : Value} {xs : List Value} (ht : Tag T w0 b) (h : w.ownsRow B 5 1 v n xs) (hk : w.heap[b]? = w0.heap[b]?) : some b ≠ v.ownBlock := by
  intro e
  obtain ⟨hT, _, cs, fr, hb⟩ := ht
  rcases h.2 with ⟨rfl, _⟩ | ⟨g, cap, cur, rfl, _, hg, _⟩
  · simp [Value.ownBlock] at e
  · simp [Value.ownBlock] at e
    subst e
    rw [hk, hb] at hg
    simp at hg
    exact hT hg.2.1
theorem info5 : (Tryz.prog.info? 5).map (fun i => (i.zero, i.size, i.bytes)) = some (some (.int .u8 0), 1, 1) := by kernel_rfl
theorem bytes_one (l : List UInt8) : ∀ u ∈ byteCells l, u.oneCell' = true := by
  intro u hu
  obtain ⟨b, _, rfl⟩ := List.mem_map.1 hu
  rfl
/-- Bytes out of any cells. -/
theorem app_at {ops : Array Oper} {rest : List Oper} {o : Oper} {a : Act} {Q : Exit → Act → World → Prop} (s x : Operand) (hgd : o.guard = none)
    (ho : o.op = .call { callee := .builtin .append, args := #[s, x], argTypes := #[94, 94] })
    {T : TypeId} {B b : Nat} {w0 W : World} {v : Value} {l : List UInt8} (ht : Tag T w0 b) (hB : B ≤ w0.heap.size) (hD : Dst T B b w0 W v l) (hs : a.eval s = v)
    (ad : Addr) (m c : Nat) (hx : a.eval x = .slice (some ad) m c) (news : List UInt8) (hm : news.length = m) (hn : ∀ j y, news[j]? = some y → W.cell? (ad.add j) = some (.int .u8 (y.toNat : Int))) (hl : l.length + news.length ≤ 2000)
    (h : ∀ v' w', Dst T B b w0 w' v' (l ++ news) → wpList Tryz.prog ops Q rest (a.put o.dst v') w') : wpList Tryz.prog ops Q (o :: rest) a W := by
  obtain ⟨i0, hi, hz0, hz1, hz2⟩ := info_parts info5
  refine wpList_append_own W hgd s x 94 ho B 5 i0 (.int .u8 0) 1 1 Tryz.underlying94 hi hz0 hz1 hz2 rfl (by decide) v l.length (byteCells l) hs hD.own ad m c (byteCells news) hx (by rw [byteCells_length]; omega) ?_ (bytes_one news) (by unfold maxLen; omega) (by omega) (Nat.le_trans hB hD.size) ?_
  · intro j u hu
    unfold byteCells at hu
    rw [List.getElem?_map] at hu
    obtain ⟨y, hy, rfl⟩ := Option.map_eq_some_iff.1 hu
    exact hn j y hy
  · intro v' w' hown hgrow _
    have hap := own_apart ht hD.own hD.keep
    refine h v' w' ⟨?_, hD.below.grown hgrow (Nat.le_trans hB hD.size) (fun k hk => (hD.own.lt k hk).1), ?_, Nat.le_trans hD.size hgrow.size⟩
    · rw [List.length_append, byteCells_append, hm]; exact hown
    · rw [hgrow.block b (Nat.lt_of_lt_of_le ht.2.1 hD.size) hap]; exact hD.keep
theorem Dst.alloc {T : TypeId} {B b : Nat} {w0 w : World} {v : Value} {l : List UInt8} (ht : Tag T w0 b) (hB : B ≤ w0.heap.size) (h : Dst T B b w0 w v l) (o : Obj) : Dst T B b w0 (w.alloc o) v l :=
  ⟨h.own.alloc o, h.below.alloc (Nat.le_trans hB h.size) o, by rw [heap_alloc_old w o (Nat.lt_of_lt_of_le ht.2.1 h.size)]; exact h.keep, by simp; have := h.size; omega⟩
theorem Dst.drew {T : TypeId} {B b : Nat} {w0 w : World} {v : Value} {l : List UInt8} (h : Dst T B b w0 w v l) : Dst T B b w0 w.drew v l := ⟨h.own, h.below.drew, h.keep, h.size⟩
theorem add_zero (b j : Nat) : (⟨b, 0, none⟩ : Addr).add j = ⟨b, j, none⟩ := by
  unfold Addr.add
  split <;> simp_all
/-- Bytes that lie in a block of their own, laid for this. -/
theorem app_new {ops : Array Oper} {rest : List Oper} {o : Oper} {a : Act} {Q : Exit → Act → World → Prop} (s x : Operand) (hgd : o.guard = none)
    (ho : o.op = .call { callee := .builtin .append, args := #[s, x], argTypes := #[94, 94] })
    {T : TypeId} {B b : Nat} {w0 wr : World} {v : Value} {l : List UInt8} (ht : Tag T w0 b) (hB : B ≤ w0.heap.size) (hD : Dst T B b w0 wr v l) (hs : a.eval s = v)
    (cs : Array Value) (m c : Nat) (hx : a.eval x = .slice (some ⟨wr.heap.size, 0, none⟩) m c) (news : List UInt8) (hcs : cs.toList = byteCells news) (hm : news.length = m) (hl : l.length + news.length ≤ 2000)
    (h : ∀ v' w', Dst T B b w0 w' v' (l ++ news) → wpList Tryz.prog ops Q rest (a.put o.dst v') w') : wpList Tryz.prog ops Q (o :: rest) a (wr.alloc (.cells cs 5)) := by
  refine app_at s x hgd ho ht hB (hD.alloc ht hB _) hs ⟨wr.heap.size, 0, none⟩ m c hx news hm (fun j y hy => ?_) hl h
  rw [add_zero, World.cell?_alloc_new, ← Array.getElem?_toList, hcs]
  unfold byteCells
  rw [List.getElem?_map, hy]
  rfl
theorem Dst.buf {T : TypeId} {B b : Nat} {w0 w : World} {v : Value} {l ds : List UInt8} (h : Dst T B b w0 w v l) (hb : Buf T w0 b ds) {j : Nat} {x : UInt8} (hx : ds[j]? = some x) : w.cell? ⟨b, j, none⟩ = some (.int .u8 (x.toNat : Int)) := by
  have h1 := hb.2 j x hx
  rw [← h1]
  exact World.cell?_of_block (a := ⟨b, j, none⟩) h.keep
theorem dg_cell {n : Nat} (h : n < 10) : ((dg n).toNat : Int) = n + 48 := by
  revert n; decide
theorem one_byte (x : UInt8) {n : Int} (h : n = (x.toNat : Int)) : (#[Value.int .u8 n] : Array Value).toList = byteCells [x] := by rw [h]; rfl
theorem two_bytes (x y : UInt8) {n m : Int} (h : n = (x.toNat : Int)) (g : m = (y.toNat : Int)) : (#[Value.int .u8 n, Value.int .u8 m] : Array Value).toList = byteCells [x, y] := by rw [h, g]; rfl
theorem three_bytes (x y z : UInt8) {n m k : Int} (h : n = (x.toNat : Int)) (g : m = (y.toNat : Int)) (f : k = (z.toNat : Int)) : (#[Value.int .u8 n, Value.int .u8 m, Value.int .u8 k] : Array Value).toList = byteCells [x, y, z] := by rw [h, g, f]; rfl
end Go.Proofs.YtikpgglbfpdhmaaGreatDoor

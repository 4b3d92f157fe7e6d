/- Printing a float: bytes behind bytes in a slice that the call made. -/
import Derived.Test.YtikpgglbfpdhmaaGreatDoorWrJ
import Derived.OwnWalk
namespace Go.Proofs.YtikpgglbfpdhmaaGreatDoor
open Go.RowKit Go.Joins Go.Sort Go.Lib

/-- A slice of bytes that was made behind block B holds l; block b, of another element type, is as it was. -/
structure Dst (T : TypeId) (B b : Nat) (w0 w : World) (v : Value) (l : List UInt8) : Prop where
  own : w.ownsRow B 5 1 v l.length (byteCells l)
  below : Below B w0 w
  keep : w.heap[b]? = w0.heap[b]?
  size : w0.heap.size ≤ w.heap.size
/-- .. where block b has another element type. -/
def Tag (T : TypeId) (w0 : World) (b : Nat) : Prop := T ≠ 5 ∧ b < w0.heap.size ∧ ∃ cs fr, w0.heap[b]? = some (.cells cs T fr)
theorem Buf.tag {T : TypeId} {w : World} {b : Nat} {ds : List UInt8} (h : Buf T w b ds) (hT : T ≠ 5) : Tag T w b :=
  ⟨hT, by obtain ⟨cs, fr, e⟩ := h.1; exact (Array.getElem?_eq_some_iff.1 e).1, h.1⟩
theorem own_apart {T : TypeId} {B b n : Nat} {w0 w : World} {v : Value} {xs : List Value} (ht : Tag T w0 b) (h : w.ownsRow B 5 1 v n xs) (hk : w.heap[b]? = w0.heap[b]?) : some b ≠ v.ownBlock := by
  intro e
  obtain ⟨hT, _, cs, fr, hb⟩ := ht
  rcases h.2 with ⟨rfl, _⟩ | ⟨g, cap, cur, rfl, _, hg, _⟩
  · simp [Value.ownBlock] at e
  · simp [Value.ownBlock] at e
    subst e
    rw [hk, hb] at hg
    simp at hg
    exact hT hg.2.1
theorem info5 : (Tryz.prog.info? 5).map (fun i => (i.zero, i.size, i.bytes)) = some (some (.int .u8 0), 1, 1) := by kernel_rfl
theorem bytes_one (l : List UInt8) : ∀ u ∈ byteCells l, u.oneCell' = true := by
  intro u hu
  obtain ⟨b, _, rfl⟩ := List.mem_map.1 hu
  rfl
/-- Bytes out of any cells. -/
theorem app_at {ops : Array Oper} {rest : List Oper} {o : Oper} {a : Act} {Q : Exit → Act → World → Prop} (s x : Operand) (hgd : o.guard = none)
    (ho : o.op = .call { callee := .builtin .append, args := #[s, x], argTypes := #[94, 94] })
    {T : TypeId} {B b : Nat} {w0 W : World} {v : Value} {l : List UInt8} (ht : Tag T w0 b) (hB : B ≤ w0.heap.size) (hD : Dst T B b w0 W v l) (hs : a.eval s = v)
    (ad : Addr) (m c : Nat) (hx : a.eval x = .slice (some ad) m c) (news : List UInt8) (hm : news.length = m) (hn : ∀ j y, news[j]? = some y → W.cell? (ad.add j) = some (.int .u8 (y.toNat : Int))) (hl : l.length + news.length ≤ 2000)
    (h : ∀ v' w', Dst T B b w0 w' v' (l ++ news) → wpList Tryz.prog ops Q rest (a.put o.dst v') w') : wpList Tryz.prog ops Q (o :: rest) a W := by
  obtain ⟨i0, hi, hz0, hz1, hz2⟩ := info_parts info5
  refine wpList_append_own W hgd s x 94 ho B 5 i0 (.int .u8 0) 1 1 Tryz.underlying94 hi hz0 hz1 hz2 rfl (by decide) v l.length (byteCells l) hs hD.own ad m c (byteCells news) hx (by rw [byteCells_length]; omega) ?_ (bytes_one news) (by unfold maxLen; omega) (by omega) (Nat.le_trans hB hD.size) ?_
  · intro j u hu
    unfold byteCells at hu
    rw [List.getElem?_map] at hu
    obtain ⟨y, hy, rfl⟩ := Option.map_eq_some_iff.1 hu
    exact hn j y hy
  · intro v' w' hown hgrow _
    have hap := own_apart ht hD.own hD.keep
    refine h v' w' ⟨?_, hD.below.grown hgrow (Nat.le_trans hB hD.size) (fun k hk => (hD.own.lt k hk).1), ?_, Nat.le_trans hD.size hgrow.size⟩
    · rw [List.length_append, byteCells_append, hm]; exact hown
    · rw [hgrow.block b (Nat.lt_of_lt_of_le ht.2.1 hD.size) hap]; exact hD.keep
theorem Dst.alloc {T : TypeId} {B b : Nat} {w0 w : World} {v : Value} {l : List UInt8} (ht : Tag T w0 b) (hB : B ≤ w0.heap.size) (h : Dst T B b w0 w v l) (o : Obj) : Dst T B b w0 (w.alloc o) v l :=
  ⟨h.own.alloc o, h.below.alloc (Nat.le_trans hB h.size) o, by rw [heap_alloc_old w o (Nat.lt_of_lt_of_le ht.2.1 h.size)]; exact h.keep, by simp; have := h.size; omega⟩
theorem Dst.drew {T : TypeId} {B b : Nat} {w0 w : World} {v : Value} {l : List UInt8} (h : Dst T B b w0 w v l) : Dst T B b w0 w.drew v l := ⟨h.own, h.below.drew, h.keep, h.size⟩
theorem add_zero (b j : Nat) : (⟨b, 0, none⟩ : Addr).add j = ⟨b, j, none⟩ := by
  unfold Addr.add
  split <;> simp_all
/-- Bytes that lie in a block of their own, laid for this. -/
theorem app_new {ops : Array Oper} {rest : List Oper} {o : Oper} {a : Act} {Q : Exit → Act → World → Prop} (s x : Operand) (hgd : o.guard = none)
    (ho : o.op = .call { callee := .builtin .append, args := #[s, x], argTypes := #[94, 94] })
    {T : TypeId} {B b : Nat} {w0 wr : World} {v : Value} {l : List UInt8} (ht : Tag T w0 b) (hB : B ≤ w0.heap.size) (hD : Dst T B b w0 wr v l) (hs : a.eval s = v)
    (cs : Array Value) (m c : Nat) (hx : a.eval x = .slice (some ⟨wr.heap.size, 0, none⟩) m c) (news : List UInt8) (hcs : cs.toList = byteCells news) (hm : news.length = m) (hl : l.length + news.length ≤ 2000)
    (h : ∀ v' w', Dst T B b w0 w' v' (l ++ news) → wpList Tryz.prog ops Q rest (a.put o.dst v') w') : wpList Tryz.prog ops Q (o :: rest) a (wr.alloc (.cells cs 5)) := by
  refine app_at s x hgd ho ht hB (hD.alloc ht hB _) hs ⟨wr.heap.size, 0, none⟩ m c hx news hm (fun j y hy => ?_) hl h
  rw [add_zero, World.cell?_alloc_new, ← Array.getElem?_toList, hcs]
  unfold byteCells
  rw [List.getElem?_map, hy]
  rfl
theorem Dst.buf {T : TypeId} {B b : Nat} {w0 w : World} {v : Value} {l ds : List UInt8} (h : Dst T B b w0 w v l) (hb : Buf T w0 b ds) {j : Nat} {x : UInt8} (hx : ds[j]? = some x) : w.cell? ⟨b, j, none⟩ = some (.int .u8 (x.toNat : Int)) := by
  have h1 := hb.2 j x hx
  rw [← h1]
  exact World.cell?_of_block (a := ⟨b, j, none⟩) h.keep
theorem dg_cell {n : Nat} (h : n < 10) : ((dg n).toNat : Int) = n + 48 := by
  revert n; decide
theorem one_byte (x : UInt8) {n : Int} (h : n = (x.toNat : Int)) : (#[Value.int .u8 n] : Array Value).toList = byteCells [x] := by rw [h]; rfl
theorem two_bytes (x y : UInt8) {n m : Int} (h : n = (x.toNat : Int)) (g : m = (y.toNat : Int)) : (#[Value.int .u8 n, Value.int .u8 m] : Array Value).toList = byteCells [x, y] := by rw [h, g]; rfl
theorem three_bytes (x y z : UInt8) {n m k : Int} (h : n = (x.toNat : Int)) (g : m = (y.toNat : Int)) (f : k = (z.toNat : Int)) : (#[Value.int .u8 n, Value.int .u8 m, Value.int .u8 k] : Array Value).toList = byteCells [x, y, z] := by rw [h, g, f]; rfl
end Go.Proofs.YtikpgglbfpdhmaaGreatDoor

/- Values that are built of parts, one behind the other: a tree's nodes, a chain's versions. -/
import Derived.Test.YtjdccgmoldmlmaaDoorBits
import Derived.Test.YtjdccgmoldmlmaaDoorChain
namespace Go.Proofs.YtjdccgmoldmlmaaDoor
set_option maxRecDepth 100000
open Go.RowKit

theorem fold_any (c vs : Array Value) (o : Nat) (h : o + vs.size ≤ c.size) : vs.zipIdx.foldl (fun cs (x : Value × Nat) => cs.setIfInBounds (o + x.2) x.1) c = spliceA c o vs := by
  have := fold_splice' vs.toList o c 0 (by simpa using h)
  rw [Array.toArray_toList, Nat.add_zero] at this
  rw [← this, ← Array.foldl_toList]
  simp
theorem splice_mid (pre suf vs : Array Value) (h : vs.size ≤ suf.size) : spliceA (pre ++ suf) pre.size vs = (pre ++ vs) ++ suf.extract vs.size suf.size := by
  apply Array.ext_getElem?
  intro j
  rw [spliceA_get (by simp; omega)]
  simp only [Array.getElem?_append, Array.size_append, Array.getElem?_extract]
  by_cases h1 : j < pre.size
  · rw [if_neg (by omega), if_pos h1, if_pos (by omega), if_pos h1]
  · by_cases h2 : j < pre.size + vs.size
    · rw [if_pos (by omega), if_pos h2, if_neg h1]
    · rw [if_neg (by omega), if_neg h1, if_neg h2]
      by_cases h3 : j - pre.size < suf.size
      · rw [if_pos (by omega)]; congr 1; omega
      · rw [if_neg (by omega), Array.getElem?_eq_none (by omega)]
theorem fill_one {place : Nat → Option (Nat × Nat)} {pre suf : Array Value} {i off size : Nat} {v : Value} {rest : List (Nat × Value)} (hp : place i = some (off, size)) (ho : off = pre.size) (hs : v.cells.size = size) (hl : size ≤ suf.size) :
    Instr.fill place (pre ++ suf) ((i, v) :: rest) = Instr.fill place ((pre ++ v.cells) ++ suf.extract size suf.size) rest := by
  subst ho hs
  conv => lhs; unfold Instr.fill
  rw [hp]
  simp only
  rw [if_neg (by simp; omega)]
  have := fold_any (pre ++ suf) v.cells pre.size (by simp; omega)
  rw [splice_mid _ _ _ hl] at this
  rw [← this]
section
variable {P : Program} {t : TypeId} {fields : Array Field} {zero : Value} {w : World}
theorem build_of {places : Array (Nat × Nat)} {parts : Array (Nat × Value)} {cells : Array Value} (hz : ∀ w, (zeroValue t).run P w = .ok zero w) (hu : P.underlying t = some (.struct fields))
    (hp : ∀ w, (fields.mapM fun f => do pure (f.offset, ← sizeOf f.type) : Sem (Array (Nat × Nat))).run P w = .ok places w) (hf : Instr.fill (places[·]?) zero.cells parts.toList = some cells) :
    (Instr.build t parts).run P w = .ok (.agg cells) w := by
  unfold Instr.build
  simp only [Sem.run_bind, hz, Result.andThen, run_underlying hu, hp, hf]
  rfl
theorem fill_none (place : Nat → Option (Nat × Nat)) (cells : Array Value) : Instr.fill place cells [] = some cells := rfl
theorem build_two {n m : Nat} {a b : Value} (hz : ∀ w, (zeroValue t).run P w = .ok zero w) (hu : P.underlying t = some (.struct fields))
    (hp : ∀ w, (fields.mapM fun f => do pure (f.offset, ← sizeOf f.type) : Sem (Array (Nat × Nat))).run P w = .ok #[(0, n), (n, m)] w) (ha : a.cells.size = n) (hb : b.cells.size = m) (hs : zero.cells.size = n + m) :
    (Instr.build t #[(0, a), (1, b)]).run P w = .ok (.agg (a.cells ++ b.cells)) w := by
  refine build_of hz hu hp ?_
  have e0 : zero.cells = #[] ++ zero.cells := by simp
  rw [e0, fill_one (off := 0) (size := n) rfl rfl ha (by omega), fill_one (off := n) (size := m) rfl (by simp [ha]) hb (by simp; omega), fill_none]
  congr 1
  rw [Array.extract_eq_empty_of_le (by simp; omega)]
  simp
theorem build_three {n m k : Nat} {a b c : Value} (hz : ∀ w, (zeroValue t).run P w = .ok zero w) (hu : P.underlying t = some (.struct fields))
    (hp : ∀ w, (fields.mapM fun f => do pure (f.offset, ← sizeOf f.type) : Sem (Array (Nat × Nat))).run P w = .ok #[(0, n), (n, m), (n + m, k)] w) (ha : a.cells.size = n) (hb : b.cells.size = m) (hc : c.cells.size = k) (hs : zero.cells.size = n + m + k) :
    (Instr.build t #[(0, a), (1, b), (2, c)]).run P w = .ok (.agg (a.cells ++ b.cells ++ c.cells)) w := by
  refine build_of hz hu hp ?_
  have e0 : zero.cells = #[] ++ zero.cells := by simp
  rw [e0, fill_one (off := 0) (size := n) rfl rfl ha (by omega), fill_one (off := n) (size := m) rfl (by simp [ha]) hb (by simp; omega), fill_one (off := n + m) (size := k) rfl (by simp [ha, hb]) hc (by simp; omega), fill_none]
  congr 1
  rw [Array.extract_eq_empty_of_le (by simp; omega)]
  simp
end
def nodeZ : Array Value := nodeC false (zeros 25) (zeros 25) (.pointer none) 0 (.pointer none) (.pointer none)
theorem nodeC_parts {k b : List UInt8} (th : Value) : (((#[.bool true] ++ row8 k) ++ row8 b) ++ #[th]) ++ #[.int .i64 0, .pointer none, .pointer none] = nodeC true k b th 0 (.pointer none) (.pointer none) := by
  apply Array.ext'; simp [row8, nodeC]
def nodePl : Array (Nat × Nat) := #[(0, 1), (1, 25), (26, 25), (51, 1), (52, 1), (53, 2)]
theorem build_node {k b : List UInt8} (hk : k.length = 25) (hb : b.length = 25) (c : Nat) (w : World) :
    (Instr.build 81 #[(0, .bool true), (1, .agg (row8 k)), (2, .agg (row8 b)), (3, .pointer (some ⟨c, 0, none⟩))]).run Tryd.prog w = .ok (.agg (nodeC true k b (pt c) 0 (.pointer none) (.pointer none))) w := by
  refine build_of (zero := .agg nodeZ) (places := nodePl) (by intro w; exact (Tryd.zeroValue81 w).trans rfl) Tryd.underlying81 (by intro w; kernel_rfl) ?_
  have e0 : (Value.agg nodeZ).cells = #[] ++ nodeZ := by simp [Value.cells]
  have hz : nodeZ.size = 55 := rfl
  rw [e0, fill_one (off := 0) (size := 1) rfl rfl rfl (by omega)]
  rw [fill_one (off := 1) (size := 25) rfl (by simp [Value.cells]) (by simp [Value.cells, hk]) (by simp; omega)]
  rw [fill_one (off := 26) (size := 25) rfl (by simp [Value.cells, hk]) (by simp [Value.cells, hb]) (by simp; omega)]
  rw [fill_one (off := 51) (size := 1) rfl (by simp [Value.cells, hk, hb]) rfl (by simp; omega)]
  rw [fill_none, ← nodeC_parts]
  congr 1
def bld4 (t : TypeId) (p q r u : Nat × Value) : Sem Value := Instr.build t #[p, q, r, u]
def bld1 (t : TypeId) (p : Nat × Value) : Sem Value := Instr.build t #[p]
@[go_sem ↓ high] theorem bNode_eq (f : Nat × Operand → Nat × Value) (p q r u : Nat × Operand) : Instr.build 81 (Array.map f #[p, q, r, u]) = bld4 81 (f p) (f q) (f r) (f u) := by simp [bld4]
@[go_sem] theorem bNode_run (k b : List UInt8) (hk : k.length = 25) (hb : b.length = 25) (c : Nat) (w : World) : (bld4 81 (0, .bool true) (1, .agg (row8 k)) (2, .agg (row8 b)) (3, .pointer (some ⟨c, 0, none⟩))).run Tryd.prog w = .ok (.agg (nodeC true k b (pt c) 0 (.pointer none) (.pointer none))) w := build_node hk hb c w
@[go_sem ↓ high] theorem bFork_eq (f : Nat × Operand → Nat × Value) (p : Nat × Operand) : Instr.build 81 (Array.map f #[p]) = bld1 81 (f p) := by simp [bld1]
theorem set_list (l m : List Value) (v u : Value) (n : Nat) (h : l.length = n) : (l ++ v :: m).toArray.setIfInBounds n u = (l ++ u :: m).toArray := by
  apply Array.ext'
  simp [← h]
@[go_sem] theorem bFork_run (bit : Int) (w : World) : (bld1 81 (4, .int .i64 bit)).run Tryd.prog w = .ok (.agg (nodeC false (zeros 25) (zeros 25) (.pointer none) bit (.pointer none) (.pointer none))) w := by
  unfold bld1
  refine build_of (zero := .agg nodeZ) (places := nodePl) (by intro w; exact (Tryd.zeroValue81 w).trans rfl) Tryd.underlying81 (by intro w; kernel_rfl) ?_
  rfl
end Go.Proofs.YtjdccgmoldmlmaaDoor

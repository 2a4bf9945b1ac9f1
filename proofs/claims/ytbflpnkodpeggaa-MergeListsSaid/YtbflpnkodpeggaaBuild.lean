/- Values that are built of parts, one behind the other. -/
import Derived.Test.YtbflpnkodpeggaaEntOps
namespace Go.Proofs.Ytbflpnkodpeggaa
set_option maxRecDepth 100000
open Go.RowKit

theorem fold_any (c vs : Array Value) (o : Nat) (h : o + vs.size ≤ c.size) : vs.zipIdx.foldl (fun cs (x : Value × Nat) => cs.setIfInBounds (o + x.2) x.1) c = spliceA c o vs := by
  have := fold_splice' vs.toList o c 0 (by simpa using h)
  rw [Array.toArray_toList, Nat.add_zero] at this
  rw [← this, ← Array.foldl_toList]
  simp
theorem splice_mid (pre suf vs : Array Value) (h : vs.size ≤ suf.size) : spliceA (pre ++ suf) pre.size vs = (pre ++ vs) ++ suf.extract vs.size suf.size := by
  apply Array.ext_getElem?
  intro j
  rw [spliceA_get (by simp; omega)]
  simp only [Array.getElem?_append, Array.size_append, Array.getElem?_extract]
  by_cases h1 : j < pre.size
  · rw [if_neg (by omega), if_pos h1, if_pos (by omega), if_pos h1]
  · by_cases h2 : j < pre.size + vs.size
    · rw [if_pos (by omega), if_pos h2, if_neg h1]
    · rw [if_neg (by omega), if_neg h1, if_neg h2]
      by_cases h3 : j - pre.size < suf.size
      · rw [if_pos (by omega)]; congr 1; omega
      · rw [if_neg (by omega), Array.getElem?_eq_none (by omega)]
theorem fill_one {place : Nat → Option (Nat × Nat)} {pre suf : Array Value} {i off size : Nat} {v : Value} {rest : List (Nat × Value)} (hp : place i = some (off, size)) (ho : off = pre.size) (hs : v.cells.size = size) (hl : size ≤ suf.size) :
    Instr.fill place (pre ++ suf) ((i, v) :: rest) = Instr.fill place ((pre ++ v.cells) ++ suf.extract size suf.size) rest := by
  subst ho hs
  conv => lhs; unfold Instr.fill
  rw [hp]
  simp only
  rw [if_neg (by simp; omega)]
  have := fold_any (pre ++ suf) v.cells pre.size (by simp; omega)
  rw [splice_mid _ _ _ hl] at this
  rw [← this]
section
variable {P : Program} {t : TypeId} {fields : Array Field} {zero : Value} {w : World}
theorem build_of {places : Array (Nat × Nat)} {parts : Array (Nat × Value)} {cells : Array Value} (hz : ∀ w, (zeroValue t).run P w = .ok zero w) (hu : P.underlying t = some (.struct fields))
    (hp : ∀ w, (fields.mapM fun f => do pure (f.offset, ← sizeOf f.type) : Sem (Array (Nat × Nat))).run P w = .ok places w) (hf : Instr.fill (places[·]?) zero.cells parts.toList = some cells) :
    (Instr.build t parts).run P w = .ok (.agg cells) w := by
  unfold Instr.build
  simp only [Sem.run_bind, hz, Result.andThen, run_underlying hu, hp, hf]
  rfl
theorem fill_none (place : Nat → Option (Nat × Nat)) (cells : Array Value) : Instr.fill place cells [] = some cells := rfl
theorem build_two {n m : Nat} {a b : Value} (hz : ∀ w, (zeroValue t).run P w = .ok zero w) (hu : P.underlying t = some (.struct fields))
    (hp : ∀ w, (fields.mapM fun f => do pure (f.offset, ← sizeOf f.type) : Sem (Array (Nat × Nat))).run P w = .ok #[(0, n), (n, m)] w) (ha : a.cells.size = n) (hb : b.cells.size = m) (hs : zero.cells.size = n + m) :
    (Instr.build t #[(0, a), (1, b)]).run P w = .ok (.agg (a.cells ++ b.cells)) w := by
  refine build_of hz hu hp ?_
  have e0 : zero.cells = #[] ++ zero.cells := by simp
  rw [e0, fill_one (off := 0) (size := n) rfl rfl ha (by omega), fill_one (off := n) (size := m) rfl (by simp [ha]) hb (by simp; omega), fill_none]
  congr 1
  rw [Array.extract_eq_empty_of_le (by simp; omega)]
  simp
theorem build_three {n m k : Nat} {a b c : Value} (hz : ∀ w, (zeroValue t).run P w = .ok zero w) (hu : P.underlying t = some (.struct fields))
    (hp : ∀ w, (fields.mapM fun f => do pure (f.offset, ← sizeOf f.type) : Sem (Array (Nat × Nat))).run P w = .ok #[(0, n), (n, m), (n + m, k)] w) (ha : a.cells.size = n) (hb : b.cells.size = m) (hc : c.cells.size = k) (hs : zero.cells.size = n + m + k) :
    (Instr.build t #[(0, a), (1, b), (2, c)]).run P w = .ok (.agg (a.cells ++ b.cells ++ c.cells)) w := by
  refine build_of hz hu hp ?_
  have e0 : zero.cells = #[] ++ zero.cells := by simp
  rw [e0, fill_one (off := 0) (size := n) rfl rfl ha (by omega), fill_one (off := n) (size := m) rfl (by simp [ha]) hb (by simp; omega), fill_one (off := n + m) (size := k) rfl (by simp [ha, hb]) hc (by simp; omega), fill_none]
  congr 1
  rw [Array.extract_eq_empty_of_le (by simp; omega)]
  simp
end
theorem entA_parts (e : Ent) : row8 e.k.val ++ recA e.r = entA e := by apply Array.ext'; simp [row8, recA, entA, keyL]
theorem cellA_parts (c : Cell) : #[.bool c.is_] ++ recA c.r = cellA c := by apply Array.ext'; simp [recA, cellA]
theorem wrtA_parts (x : Wr) : row8 x.k.val ++ #[.bool x.dead] ++ recA x.r = wrtA x := by apply Array.ext'; simp [row8, recA, wrtA, keyL]
theorem entD_parts (e : Ent) : rkey e.k.val ++ recD e.r = entD e := by rw [rkey_list]; apply Array.ext'; simp [recD, entD]
theorem wrtD_parts (x : Wr) : rkey x.k.val ++ #[.bool x.dead] ++ recD x.r = wrtD x := by rw [rkey_list]; apply Array.ext'; simp [recD, wrtD]
theorem cellD_parts (c : Cell) : #[.bool c.is_] ++ recD c.r = cellD c := by apply Array.ext'; simp [recD, cellD]
/-- building of two parts, of three, in one step -/
def bld2 (t : TypeId) (p q : Nat × Value) : Sem Value := Instr.build t #[p, q]
def bld3 (t : TypeId) (p q r : Nat × Value) : Sem Value := Instr.build t #[p, q, r]
@[go_sem ↓ high] theorem bEnt_eq (f : Nat × Operand → Nat × Value) (p q : Nat × Operand) : Instr.build 43 (Array.map f #[p, q]) = bld2 43 (f p) (f q) := by simp [bld2]
@[go_sem] theorem bEnt_run (k : K25) (r : Rec) (w : World) : (bld2 43 (0, .agg (row8 k.val)) (1, .agg (recA r))).run Try.prog w = .ok (.agg (entA ⟨k, r⟩)) w := by
  unfold bld2
  have := build_two (P := Try.prog) (w := w) (n := 25) (m := 9) (a := .agg (row8 k.val)) (b := .agg (recA r)) Try.zeroValue43 Try.underlying43 (by intro w; kernel_rfl) (by simp [Value.cells]) (by simp [Value.cells]) (by rfl)
  rw [this]
  exact congrArg (fun c => Result.ok (Value.agg c) w) (entA_parts ⟨k, r⟩)
@[go_sem ↓ high] theorem bCell_eq (f : Nat × Operand → Nat × Value) (p q : Nat × Operand) : Instr.build 45 (Array.map f #[p, q]) = bld2 45 (f p) (f q) := by simp [bld2]
@[go_sem] theorem bCell_run (b : Bool) (r : Rec) (w : World) : (bld2 45 (0, .bool b) (1, .agg (recA r))).run Try.prog w = .ok (.agg (cellA ⟨b, r⟩)) w := by
  unfold bld2
  have := build_two (P := Try.prog) (w := w) (n := 1) (m := 9) (a := .bool b) (b := .agg (recA r)) Try.zeroValue45 Try.underlying45 (by intro w; kernel_rfl) (by simp [Value.cells]) (by simp [Value.cells]) (by rfl)
  rw [this]
  exact congrArg (fun c => Result.ok (Value.agg c) w) (cellA_parts ⟨b, r⟩)
@[go_sem ↓ high] theorem bWrt_eq (f : Nat × Operand → Nat × Value) (p q r' : Nat × Operand) : Instr.build 67 (Array.map f #[p, q, r']) = bld3 67 (f p) (f q) (f r') := by simp [bld3]
@[go_sem] theorem bWrt_run (k : K25) (b : Bool) (r : Rec) (w : World) : (bld3 67 (0, .agg (row8 k.val)) (1, .bool b) (2, .agg (recA r))).run Try.prog w = .ok (.agg (wrtA ⟨k, b, r⟩)) w := by
  unfold bld3
  have := build_three (P := Try.prog) (w := w) (n := 25) (m := 1) (k := 9) (a := .agg (row8 k.val)) (b := .bool b) (c := .agg (recA r)) Try.zeroValue67 Try.underlying67 (by intro w; kernel_rfl) (by simp [Value.cells]) (by simp [Value.cells]) (by simp [Value.cells]) (by rfl)
  rw [this]
  exact congrArg (fun c => Result.ok (Value.agg c) w) (wrtA_parts ⟨k, b, r⟩)
@[go_sem ↓ high] theorem bEntD_eq (f : Nat × Operand → Nat × Value) (p q : Nat × Operand) : Instr.build 81 (Array.map f #[p, q]) = bld2 81 (f p) (f q) := by simp [bld2]
@[go_sem] theorem bEntD_run (k : K25) (r : Rec) (w : World) : (bld2 81 (0, .agg (rkey k.val)) (1, .agg (recD r))).run Try.prog w = .ok (.agg (entD ⟨k, r⟩)) w := by
  unfold bld2
  have := build_two (P := Try.prog) (w := w) (n := 25) (m := 9) (a := .agg (rkey k.val)) (b := .agg (recD r)) Try.zeroValue81 Try.underlying81 (by intro w; kernel_rfl) (by rw [rkey_list]; simp [Value.cells, keyDL_len]) (by simp [Value.cells]) (by rfl)
  rw [this]
  exact congrArg (fun c => Result.ok (Value.agg c) w) (entD_parts ⟨k, r⟩)
@[go_sem ↓ high] theorem bWrtD_eq (f : Nat × Operand → Nat × Value) (p q r' : Nat × Operand) : Instr.build 64 (Array.map f #[p, q, r']) = bld3 64 (f p) (f q) (f r') := by simp [bld3]
@[go_sem] theorem bWrtD_run (k : K25) (b : Bool) (r : Rec) (w : World) : (bld3 64 (0, .agg (rkey k.val)) (1, .bool b) (2, .agg (recD r))).run Try.prog w = .ok (.agg (wrtD ⟨k, b, r⟩)) w := by
  unfold bld3
  have := build_three (P := Try.prog) (w := w) (n := 25) (m := 1) (k := 9) (a := .agg (rkey k.val)) (b := .bool b) (c := .agg (recD r)) Try.zeroValue64 Try.underlying64 (by intro w; kernel_rfl) (by rw [rkey_list]; simp [Value.cells, keyDL_len]) (by simp [Value.cells]) (by simp [Value.cells]) (by rfl)
  rw [this]
  exact congrArg (fun c => Result.ok (Value.agg c) w) (wrtD_parts ⟨k, b, r⟩)
@[go_sem ↓ high] theorem bCellD_eq (f : Nat × Operand → Nat × Value) (p q : Nat × Operand) : Instr.build 85 (Array.map f #[p, q]) = bld2 85 (f p) (f q) := by simp [bld2]
@[go_sem] theorem bCellD_run (b : Bool) (r : Rec) (w : World) : (bld2 85 (0, .bool b) (1, .agg (recD r))).run Try.prog w = .ok (.agg (cellD ⟨b, r⟩)) w := by
  unfold bld2
  have := build_two (P := Try.prog) (w := w) (n := 1) (m := 9) (a := .bool b) (b := .agg (recD r)) Try.zeroValue85 Try.underlying85 (by intro w; kernel_rfl) (by simp [Value.cells]) (by simp [Value.cells]) (by rfl)
  rw [this]
  exact congrArg (fun c => Result.ok (Value.agg c) w) (cellD_parts ⟨b, r⟩)
/-- a row in a new block that holds zeros -/
@[go_sem] theorem fold_from0 (c vs : Array Value) (n : Nat) (hn : n = vs.size) (h : vs.size = c.size) : Array.foldl (fun cs x => cs.setIfInBounds (0 + x.snd) x.fst) c vs.zipIdx 0 n = vs := by
  simp only [Nat.zero_add]
  exact fold_full c vs n hn h
end Go.Proofs.Ytbflpnkodpeggaa

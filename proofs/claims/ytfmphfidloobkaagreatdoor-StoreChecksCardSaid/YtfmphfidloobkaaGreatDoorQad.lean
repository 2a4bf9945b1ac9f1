/- Values that are built of parts, one behind the other: a tree's nodes, a chain's versions. -/
import Derived.Test.YtfmphfidloobkaaGreatDoorQac
import Derived.BigRegion
import Derived.Deep.CutBlock
import Derived.Handy
namespace Go.Proofs.YtfmphfidloobkaaGreatDoor
set_option maxRecDepth 100000
open Go.RowKit

theorem fold_any (c vs : Array Value) (o : Nat) (h : o + vs.size ≤ c.size) : vs.zipIdx.foldl (fun cs (x : Value × Nat) => cs.setIfInBounds (o + x.2) x.1) c = spliceA c o vs := by
  have := fold_splice' vs.toList o c 0 (by simpa using h)
  rw [Array.toArray_toList, Nat.add_zero] at this
  rw [← this, ← Array.foldl_toList]
  simp
theorem splice_mid (pre suf vs : Array Value) (h : vs.size ≤ suf.size) : spliceA (pre ++ suf) pre.size vs = (pre ++ vs) ++ suf.extract vs.size suf.size := by
  apply Array.ext_getElem?
  intro j
  rw [spliceA_get (by simp; omega)]
  simp only [Array.getElem?_append, Array.size_append, Array.getElem?_extract]
  by_cases h1 : j < pre.size
  · rw [if_neg (by omega), if_pos h1, if_pos (by omega), if_pos h1]
  · by_cases h2 : j < pre.size + vs.size
    · rw [if_pos (by omega), if_pos h2, if_neg h1]
    · rw [if_neg (by omega), if_neg h1, if_neg h2]
      by_cases h3 : j - pre.size < suf.size
      · rw [if_pos (by omega)]; congr 1; omega
      · rw [if_neg (by omega), Array.getElem?_eq_none (by omega)]
theorem fill_one {place : Nat → Option (Nat × Nat)} {pre suf : Array Value} {i off size : Nat} {v : Value} {rest : List (Nat × Value)} (hp : place i = some (off, size)) (ho : off = pre.size) (hs : v.cells.size = size) (hl : size ≤ suf.size) :
    Instr.fill place (pre ++ suf) ((i, v) :: rest) = Instr.fill place ((pre ++ v.cells) ++ suf.extract size suf.size) rest := by
  subst ho hs
  conv => lhs; unfold Instr.fill
  rw [hp]
  simp only
  rw [if_neg (by simp; omega)]
  have := fold_any (pre ++ suf) v.cells pre.size (by simp; omega)
  rw [splice_mid _ _ _ hl] at this
  rw [← this]
section
variable {P : Program} {t : TypeId} {fields : Array Field} {zero : Value} {w : World}
theorem build_of {places : Array (Nat × Nat)} {parts : Array (Nat × Value)} {cells : Array Value} (hz : ∀ w, (zeroValue t).run P w = .ok zero w) (hu : P.underlying t = some (.struct fields))
    (hp : ∀ w, (fields.mapM fun f => do pure (f.offset, ← sizeOf f.type) : Sem (Array (Nat × Nat))).run P w = .ok places w) (hf : Instr.fill (places[·]?) zero.cells parts.toList = some cells) :
    (Instr.build t parts).run P w = .ok (.agg cells) w := by
  unfold Instr.build
  simp only [Sem.run_bind, hz, Result.andThen, run_underlying hu, hp, hf]
  rfl
theorem fill_none (place : Nat → Option (Nat × Nat)) (cells : Array Value) : Instr.fill place cells [] = some cells := rfl
theorem build_two {n m : Nat} {a b : Value} (hz : ∀ w, (zeroValue t).run P w = .ok zero w) (hu : P.underlying t = some (.struct fields))
    (hp : ∀ w, (fields.mapM fun f => do pure (f.offset, ← sizeOf f.type) : Sem (Array (Nat × Nat))).run P w = .ok #[(0, n), (n, m)] w) (ha : a.cells.size = n) (hb : b.cells.size = m) (hs : zero.cells.size = n + m) :
    (Instr.build t #[(0, a), (1, b)]).run P w = .ok (.agg (a.cells ++ b.cells)) w := by
  refine build_of hz hu hp ?_
  have e0 : zero.cells = #[] ++ zero.cells := by simp
  rw [e0, fill_one (off := 0) (size := n) rfl rfl ha (by omega), fill_one (off := n) (size := m) rfl (by simp [ha]) hb (by simp; omega), fill_none]
  congr 1
  rw [Array.extract_eq_empty_of_le (by simp; omega)]
  simp
theorem build_three {n m k : Nat} {a b c : Value} (hz : ∀ w, (zeroValue t).run P w = .ok zero w) (hu : P.underlying t = some (.struct fields))
    (hp : ∀ w, (fields.mapM fun f => do pure (f.offset, ← sizeOf f.type) : Sem (Array (Nat × Nat))).run P w = .ok #[(0, n), (n, m), (n + m, k)] w) (ha : a.cells.size = n) (hb : b.cells.size = m) (hc : c.cells.size = k) (hs : zero.cells.size = n + m + k) :
    (Instr.build t #[(0, a), (1, b), (2, c)]).run P w = .ok (.agg (a.cells ++ b.cells ++ c.cells)) w := by
  refine build_of hz hu hp ?_
  have e0 : zero.cells = #[] ++ zero.cells := by simp
  rw [e0, fill_one (off := 0) (size := n) rfl rfl ha (by omega), fill_one (off := n) (size := m) rfl (by simp [ha]) hb (by simp; omega), fill_one (off := n + m) (size := k) rfl (by simp [ha, hb]) hc (by simp; omega), fill_none]
  congr 1
  rw [Array.extract_eq_empty_of_le (by simp; omega)]
  simp
end
def nodeZ : Array Value := nodeC false (zeros 25) (zeros 25) (.pointer none) 0 (.pointer none) (.pointer none)
theorem nodeC_parts {k b : List UInt8} (th : Value) : (((#[.bool true] ++ row8 k) ++ row8 b) ++ #[th]) ++ #[.int .i64 0, .pointer none, .pointer none] = nodeC true k b th 0 (.pointer none) (.pointer none) := by
  apply Array.ext'; simp [row8, nodeC]
def nodePl : Array (Nat × Nat) := #[(0, 1), (1, 25), (26, 25), (51, 1), (52, 1), (53, 2)]
theorem build_node {k b : List UInt8} (hk : k.length = 25) (hb : b.length = 25) (c : Nat) (w : World) :
    (Instr.build 243 #[(0, .bool true), (1, .agg (row8 k)), (2, .agg (row8 b)), (3, .pointer (some ⟨c, 0, none⟩))]).run Tryz.prog w = .ok (.agg (nodeC true k b (pt c) 0 (.pointer none) (.pointer none))) w := by
  refine build_of (zero := .agg nodeZ) (places := nodePl) (by intro w; exact (Tryz.zeroValue243 w).trans rfl) Tryz.underlying243 (by intro w; kernel_rfl) ?_
  have e0 : (Value.agg nodeZ).cells = #[] ++ nodeZ := by simp [Value.cells]
  have hz : nodeZ.size = 55 := rfl
  rw [e0, fill_one (off := 0) (size := 1) rfl rfl rfl (by omega)]
  rw [fill_one (off := 1) (size := 25) rfl (by simp [Value.cells]) (by simp [Value.cells, hk]) (by simp; omega)]
  rw [fill_one (off := 26) (size := 25) rfl (by simp [Value.cells, hk]) (by simp [Value.cells, hb]) (by simp; omega)]
  rw [fill_one (off := 51) (size := 1) rfl (by simp [Value.cells, hk, hb]) rfl (by simp; omega)]
  rw [fill_none, ← nodeC_parts]
  congr 1
def bld4 (t : TypeId) (p q r u : Nat × Value) : Sem Value := Instr.build t #[p, q, r, u]
def bld1 (t : TypeId) (p : Nat × Value) : Sem Value := Instr.build t #[p]
@[go_sem ↓ high] theorem bNode_eq (f : Nat × Operand → Nat × Value) (p q r u : Nat × Operand) : Instr.build 243 (Array.map f #[p, q, r, u]) = bld4 243 (f p) (f q) (f r) (f u) := by simp [bld4]
@[go_sem] theorem bNode_run (k b : List UInt8) (hk : k.length = 25) (hb : b.length = 25) (c : Nat) (w : World) : (bld4 243 (0, .bool true) (1, .agg (row8 k)) (2, .agg (row8 b)) (3, .pointer (some ⟨c, 0, none⟩))).run Tryz.prog w = .ok (.agg (nodeC true k b (pt c) 0 (.pointer none) (.pointer none))) w := build_node hk hb c w
@[go_sem ↓ high] theorem bFork_eq (f : Nat × Operand → Nat × Value) (p : Nat × Operand) : Instr.build 243 (Array.map f #[p]) = bld1 243 (f p) := by simp [bld1]
theorem set_list (l m : List Value) (v u : Value) (n : Nat) (h : l.length = n) : (l ++ v :: m).toArray.setIfInBounds n u = (l ++ u :: m).toArray := by
  apply Array.ext'
  simp [← h]
@[go_sem] theorem bFork_run (bit : Int) (w : World) : (bld1 243 (4, .int .i64 bit)).run Tryz.prog w = .ok (.agg (nodeC false (zeros 25) (zeros 25) (.pointer none) bit (.pointer none) (.pointer none))) w := by
  unfold bld1
  refine build_of (zero := .agg nodeZ) (places := nodePl) (by intro w; exact (Tryz.zeroValue243 w).trans rfl) Tryz.underlying243 (by intro w; kernel_rfl) ?_
  rfl
end Go.Proofs.YtfmphfidloobkaaGreatDoor
namespace Go.Proofs.YtfmphfidloobkaaGreatDoor
set_option maxRecDepth 100000
open Go.RowKit

/-- all that lay lies as it lay, but for some blocks -/
structure But (bad : List Nat) (w w' : World) : Prop where
  os : w'.os = w.os
  tape : w'.tape = w.tape
  output : w'.output = w.output
  size : w.heap.size ≤ w'.heap.size
  same : ∀ b, b < w.heap.size → b ∉ bad → w'.heap[b]? = w.heap[b]?
theorem But.refl (bad : List Nat) (w : World) : But bad w w := ⟨rfl, rfl, rfl, Nat.le_refl _, fun _ _ _ => rfl⟩
theorem But.trans {bad : List Nat} {w w' w'' : World} (h : But bad w w') (h' : But bad w' w'') : But bad w w'' :=
  ⟨h'.os.trans h.os, h'.tape.trans h.tape, h'.output.trans h.output, Nat.le_trans h.size h'.size, fun b hb hn => (h'.same b (Nat.lt_of_lt_of_le hb h.size) hn).trans (h.same b hb hn)⟩
theorem But.more {bad bad' : List Nat} {w w' : World} (h : But bad w w') (hb : ∀ b ∈ bad, b < w.heap.size → b ∈ bad') : But bad' w w' :=
  ⟨h.os, h.tape, h.output, h.size, fun b hlt hn => h.same b hlt (fun hm => hn (hb b hm hlt))⟩
theorem But.of_below {w w' : World} (h : Below w.heap.size w w') (bad : List Nat) : But bad w w' := ⟨h.os, h.tape, h.output, h.size, fun b hb _ => h.block b hb⟩
theorem But.below {bad : List Nat} {w w' : World} (h : But bad w w') {B : Nat} (hB : ∀ b ∈ bad, B ≤ b) (hle : B ≤ w.heap.size) : Below B w w' :=
  ⟨h.os, h.tape, h.output, h.size, fun b hb => h.same b (by omega) (fun hm => by have := hB b hm; omega)⟩
theorem But.setCell (w : World) (q o : Nat) (v : Value) : But [q] w (w.setCell ⟨q, o, none⟩ v) := by
  have hb := (Below.refl q w).setCell (p := ⟨q, o, none⟩) (Nat.le_refl _) v
  exact ⟨hb.os, hb.tape, hb.output, hb.size, fun b _ hn => Below.heap_setCell w ⟨q, o, none⟩ v b (by simpa using hn)⟩

theorem cell_of_heap {w w' : World} {b : Nat} (h : w'.heap[b]? = w.heap[b]?) (o : Nat) : w'.cell? ⟨b, o, none⟩ = w.cell? ⟨b, o, none⟩ := by
  unfold World.cell?; rw [h]
theorem frozen_of_heap {w w' : World} {b : Nat} (h : w'.heap[b]? = w.heap[b]?) (o : Nat) : w'.frozen? ⟨b, o, none⟩ = w.frozen? ⟨b, o, none⟩ := by
  unfold World.frozen?; rw [h]
/-- the way from the root to a place: side, block, bit, the other tree; the last step first -/
abbrev Way := List (Bool × Nat × Nat × CT K25)
def stepT (s : Bool) (a bit : Nat) (o X : CT K25) : CT K25 := if s then .fork a bit o X else .fork a bit X o
def plug : Way → CT K25 → CT K25
  | [], X => X
  | (s, a, bit, o) :: ps, X => plug ps (stepT s a bit o X)
/-- where the pointer to the place lies -/
def holder (t : Nat) : Way → Nat × Nat
  | [] => (t, 0)
  | (s, a, _, _) :: _ => (a, if s then 54 else 53)
theorem stepT_at {s : Bool} {a bit : Nat} {o X : CT K25} {w : World} : (stepT s a bit o X).At w ↔
    NodeAt w a false (zeros 25) (zeros 25) (.pointer none) bit (pt (if s then o.at_ else X.at_)) (pt (if s then X.at_ else o.at_)) ∧ o.At w ∧ X.At w := by
  cases s
  · simp only [stepT, Bool.false_eq_true, if_false, CT.At]
    exact ⟨fun ⟨h1, h2, h3⟩ => ⟨h1, h3, h2⟩, fun ⟨h1, h2, h3⟩ => ⟨h1, h3, h2⟩⟩
  · simp only [stepT, if_true, CT.At]
theorem stepT_foot (s : Bool) (a bit : Nat) (o X : CT K25) : (stepT s a bit o X).foot.Perm (a :: (o.foot ++ X.foot)) := by
  cases s
  · simp only [stepT, Bool.false_eq_true, if_false, CT.foot]; exact List.perm_append_comm.cons a
  · simp only [stepT, if_true, CT.foot]; exact List.Perm.refl _
theorem stepT_ok {s : Bool} {a bit N : Nat} {o X : CT K25} (h : (stepT s a bit o X).Ok keyBytes N) : bit < N ∧ X.Ok keyBytes N := by
  cases s
  · simp only [stepT, Bool.false_eq_true, if_false, CT.Ok] at h; exact ⟨h.1, h.2.1⟩
  · simp only [stepT, if_true, CT.Ok] at h; exact ⟨h.1, h.2.2.1⟩
theorem plug_at {w : World} : ∀ {ps : Way} {X : CT K25}, (plug ps X).At w → X.At w
  | [], _, h => h
  | (_, _, _, _) :: ps, _, h => (stepT_at.1 (plug_at (ps := ps) h)).2.2
theorem plug_ok {N : Nat} : ∀ {ps : Way} {X : CT K25}, (plug ps X).Ok keyBytes N → X.Ok keyBytes N
  | [], _, h => h
  | (_, _, _, _) :: ps, _, h => (stepT_ok (plug_ok (ps := ps) h)).2
theorem plug_foot : ∀ {ps : Way} {X : CT K25} {b : Nat}, b ∈ X.foot → b ∈ (plug ps X).foot
  | [], _, _, h => h
  | (s, a, bit, o) :: ps, X, b, h => plug_foot (ps := ps) ((stepT_foot s a bit o X).mem_iff.2 (by simp [h]))
theorem plug_nodup : ∀ {ps : Way} {X : CT K25}, (plug ps X).foot.Nodup → X.foot.Nodup
  | [], _, h => h
  | (s, a, bit, o) :: ps, X, h => by
    have h2 := (stepT_foot s a bit o X).nodup_iff.1 (plug_nodup (ps := ps) h)
    rw [List.nodup_cons, List.nodup_append] at h2
    exact h2.2.2.1
/-- the pointer to the place -/
theorem plug_cell {w : World} {s : Bool} {a bit : Nat} {o X : CT K25} {ps : Way} (h : (plug ((s, a, bit, o) :: ps) X).At w) : w.cell? ⟨a, if s then 54 else 53, none⟩ = some (pt X.at_) := by
  obtain ⟨_, _, _, h3, h4⟩ := NodeAt.cells (stepT_at.1 (plug_at (ps := ps) h)).1 (by simp [zeros]) (by simp [zeros])
  cases s
  · simpa using h3
  · simpa using h4
/-- another tree of the same first block -/
theorem plug_same {w w' : World} : ∀ {ps : Way} {Z Z' : CT K25}, (plug ps Z).At w → (plug ps Z).foot.Nodup → Z'.At w' → Z'.at_ = Z.at_ →
    (∀ b ∈ (plug ps Z).foot, b ∉ Z.foot → w'.heap[b]? = w.heap[b]?) → (plug ps Z').At w'
  | [], _, _, _, _, h', _, _ => h'
  | (s, a, bit, o) :: ps, Z, Z', h, hn, h', he, hk => by
    have h1 := stepT_at.1 (plug_at (ps := ps) h)
    have hp := stepT_foot s a bit o Z
    have h2 := hp.nodup_iff.1 (plug_nodup (ps := ps) hn)
    rw [List.nodup_cons, List.nodup_append] at h2
    obtain ⟨ha, _, _, hd⟩ := h2
    have up : ∀ b, b ∈ (stepT s a bit o Z).foot → b ∈ (plug ((s, a, bit, o) :: ps) Z).foot := fun b hb => plug_foot (ps := ps) hb
    refine plug_same (ps := ps) (Z := stepT s a bit o Z) h hn (stepT_at.2 ⟨?_, ?_, h'⟩) (by cases s <;> rfl) (fun b hb hb2 => hk b hb (fun hz => hb2 (hp.mem_iff.2 (by simp [hz]))))
    · rw [he]
      exact (hk a (up a (hp.mem_iff.2 (by simp))) (fun hz => ha (List.mem_append_right _ hz))).trans h1.1
    · exact h1.2.1.keep fun b hb => hk b (up b (hp.mem_iff.2 (by simp [hb]))) (fun hz => hd b hb b hz rfl)
theorem nodeC_set (leaf : Bool) {k b : List UInt8} (hk : k.length = 25) (hb : b.length = 25) (th : Value) (bit : Int) (p q v : Value) :
    (nodeC leaf k b th bit p q).setIfInBounds 53 v = nodeC leaf k b th bit v q ∧ (nodeC leaf k b th bit p q).setIfInBounds 54 v = nodeC leaf k b th bit p v := by
  unfold nodeC
  simp only [List.setIfInBounds_toArray, List.set_cons_succ]
  constructor
  · congr 2
    rw [List.set_append_right _ _ (by simp [hk]), List.set_append_right _ _ (by simp [hk, hb])]
    simp [hk, hb]
  · congr 2
    rw [List.set_append_right _ _ (by simp [hk]), List.set_append_right _ _ (by simp [hk, hb])]
    simp [hk, hb]
theorem setCell_kid0 {w : World} {a : Nat} {leaf : Bool} {k b : List UInt8} {th p q : Value} {bit : Int} (h : NodeAt w a leaf k b th bit p q) (v : Value) (hk : k.length = 25 := by simp [zeros]) (hb : b.length = 25 := by simp [zeros]) :
    NodeAt (w.setCell ⟨a, 53, none⟩ v) a leaf k b th bit v q := by
  unfold NodeAt at h ⊢
  simp only [World.setCell, Array.getElem?_modify, h, if_true, Option.map_some]
  simp [(nodeC_set leaf hk hb th bit p q v).1]
theorem setCell_kid1 {w : World} {a : Nat} {leaf : Bool} {k b : List UInt8} {th p q : Value} {bit : Int} (h : NodeAt w a leaf k b th bit p q) (v : Value) (hk : k.length = 25 := by simp [zeros]) (hb : b.length = 25 := by simp [zeros]) :
    NodeAt (w.setCell ⟨a, 54, none⟩ v) a leaf k b th bit p v := by
  unfold NodeAt at h ⊢
  simp only [World.setCell, Array.getElem?_modify, h, if_true, Option.map_some]
  simp [(nodeC_set leaf hk hb th bit p q v).2]
/-- another tree at the place: the pointer to it has been turned -/
theorem plug_new {w w' : World} {s : Bool} {a bit : Nat} {o X Y : CT K25} {ps : Way} (h : (plug ((s, a, bit, o) :: ps) X).At w) (hn : (plug ((s, a, bit, o) :: ps) X).foot.Nodup) (hY : Y.At w')
    (ha : w'.heap[a]? = (w.setCell ⟨a, if s then 54 else 53, none⟩ (pt Y.at_)).heap[a]?)
    (hk : ∀ b ∈ (plug ((s, a, bit, o) :: ps) X).foot, b ≠ a → b ∉ X.foot → w'.heap[b]? = w.heap[b]?) : (plug ((s, a, bit, o) :: ps) Y).At w' := by
  have h1 := stepT_at.1 (plug_at (ps := ps) h)
  have hp := stepT_foot s a bit o X
  have h2 := hp.nodup_iff.1 (plug_nodup (ps := ps) hn)
  rw [List.nodup_cons, List.nodup_append] at h2
  obtain ⟨han, _, _, hd⟩ := h2
  have up : ∀ b, b ∈ (stepT s a bit o X).foot → b ∈ (plug ((s, a, bit, o) :: ps) X).foot := fun b hb => plug_foot (ps := ps) hb
  refine plug_same (ps := ps) (Z := stepT s a bit o X) h hn (stepT_at.2 ⟨?_, ?_, hY⟩) (by cases s <;> rfl) (fun b hb hb2 => hk b hb (fun e => hb2 (hp.mem_iff.2 (by simp [e]))) (fun hz => hb2 (hp.mem_iff.2 (by simp [hz]))))
  · unfold NodeAt
    rw [ha]
    cases s
    · exact setCell_kid0 h1.1 _
    · exact setCell_kid1 h1.1 _
  · exact h1.2.1.keep fun b hb => hk b (up b (hp.mem_iff.2 (by simp [hb]))) (fun e => han (e ▸ List.mem_append_left _ hb)) (fun hz => hd b hb b hz rfl)
theorem setRoot {w : World} {t : Nat} {p : Value} {n : Int} (h : w.heap[t]? = some (.cells #[p, .int .i64 n] 246)) (q : Value) :
    (w.setCell ⟨t, 0, none⟩ q).heap[t]? = some (.cells #[q, .int .i64 n] 246) := by
  simp only [World.setCell, Array.getElem?_modify, h, if_true, Option.map_some]
  simp
theorem stepT_root (s : Bool) (a bit : Nat) (o X : CT K25) : (stepT s a bit o X).at_ = a := by cases s <;> rfl
theorem plug_root : ∀ (ps : Way) (X Y : CT K25), X.at_ = Y.at_ → (plug ps X).at_ = (plug ps Y).at_
  | [], _, _, h => h
  | (s, a, bit, o) :: ps, X, Y, _ => plug_root ps _ _ (by rw [stepT_root, stepT_root])
theorem holder_in {t : Nat} : ∀ {ps : Way} {X : CT K25}, (holder t ps).1 ∈ t :: (plug ps X).foot
  | [], _ => List.mem_cons_self
  | (s, a, bit, o) :: ps, X => List.mem_cons_of_mem _ (plug_foot (ps := ps) ((stepT_foot s a bit o X).mem_iff.2 (by simp [holder])))
theorem holder_out {t : Nat} : ∀ {ps : Way} {X : CT K25}, (t :: (plug ps X).foot).Nodup → (holder t ps).1 ∉ X.foot
  | [], _, h => (List.nodup_cons.1 h).1
  | (s, a, bit, o) :: ps, X, h => by
    have h2 := (stepT_foot s a bit o X).nodup_iff.1 (plug_nodup (ps := ps) (List.nodup_cons.1 h).2)
    rw [List.nodup_cons] at h2
    exact fun hm => h2.1 (List.mem_append_right _ hm)
/-- the pointer to a place is turned: another tree lies there -/
theorem put_fin {V V8 : World} {t : Nat} {ps : Way} {X Y : CT K25} {m : Int} (hT : TreeAt V t (some (plug ps X)) m) (hnd : (t :: (plug ps X).foot).Nodup) (hb : Below V.heap.size V V8)
    (hY : Y.At V8) (hq : (holder t ps).1 ∉ Y.foot) :
    (V8.setCell ⟨(holder t ps).1, (holder t ps).2, none⟩ (pt Y.at_)).heap[t]? = some (.cells #[pt (plug ps Y).at_, .int .i64 m] 246) ∧
      (plug ps Y).At (V8.setCell ⟨(holder t ps).1, (holder t ps).2, none⟩ (pt Y.at_)) := by
  have h8 := hT.keep hb
  have hYw : Y.At (V8.setCell ⟨(holder t ps).1, (holder t ps).2, none⟩ (pt Y.at_)) := hY.keep fun b hbm => Below.heap_setCell _ _ _ _ (fun e => hq (by have e2 : b = (holder t ps).1 := e; rw [← e2]; exact hbm))
  match ps, hnd, h8, hYw, hq with
  | [], _, h8, hYw, _ => exact ⟨setRoot h8.1 _, hYw⟩
  | (s, a, bit, o) :: ps, hnd, h8, hYw, _ =>
    have hat : a ≠ t := by
      intro e
      subst e
      exact (List.nodup_cons.1 hnd).1 (plug_foot (ps := ps) ((stepT_foot s a bit o X).mem_iff.2 (by simp)))
    refine ⟨?_, plug_new (h8.2 _ rfl).1 (List.nodup_cons.1 hnd).2 hYw rfl fun b _ hba _ => Below.heap_setCell _ _ _ _ hba⟩
    rw [Below.heap_setCell _ _ _ _ (Ne.symm hat), h8.1]
    rw [rootV]
    rw [show (plug ((s, a, bit, o) :: ps) X).at_ = (plug ((s, a, bit, o) :: ps) Y).at_ from plug_root ps _ _ (by rw [stepT_root, stepT_root])]
theorem But.setCell' {bad : List Nat} (w : World) {q : Nat} (hq : q ∈ bad) (o : Nat) (v : Value) : But bad w (w.setCell ⟨q, o, none⟩ v) :=
  (But.setCell w q o v).more fun b hb _ => by simp at hb; rw [hb]; exact hq
end Go.Proofs.YtfmphfidloobkaaGreatDoor
namespace Go.Proofs.YtfmphfidloobkaaGreatDoor
set_option maxRecDepth 100000
open Go.RowKit

def footR : Option (CT K25) → List Nat
  | none => []
  | some T => T.foot
/-- the tree behind a new key: a the leaf's block, fa the fork's -/
noncomputable def putR (R : Option (CT K25)) (k : K25) (c a fa : Nat) : CT K25 :=
  match R with
  | none => .leaf a k c
  | some T => T.ins keyBytes a k c fa (diffN k.val (T.near k.val).2.1.val)
/-- behind Put -/
def PutPost (w : World) (t : Nat) (R : Option (CT K25)) (k : K25) (c : Nat) (w' : World) : Prop :=
  But (t :: footR R) w w' ∧ ∃ a fa n', w.heap.size ≤ a ∧ w.heap.size ≤ fa ∧ a ≠ fa ∧ TreeAt w' t (some (putR R k c a fa)) n'
theorem TreeAt.setN {w : World} {t : Nat} {R : Option (CT K25)} {n : Int} (h : TreeAt w t R n) (ht : t ∉ footR R) (m : Int) : TreeAt (w.setCell ⟨t, 1, none⟩ (.int .i64 m)) t R m := by
  refine ⟨?_, fun T hT => ⟨(h.2 T hT).1.keep fun b hb => Below.heap_setCell w ⟨t, 1, none⟩ _ b (fun e => ht (by subst hT; have e2 : b = t := e; subst e2; exact hb)), (h.2 T hT).2⟩⟩
  have h1 := h.1
  simp only [World.setCell, Array.getElem?_modify, h1, if_true, Option.map_some]
  simp
theorem NodeAt.other {w : World} {a : Nat} {leaf : Bool} {k b : List UInt8} {th p q : Value} {bit : Int} (h : NodeAt w a leaf k b th bit p q) {g o : Nat} (hg : a ≠ g) (v : Value) : NodeAt (w.setCell ⟨g, o, none⟩ v) a leaf k b th bit p q :=
  (Below.heap_setCell w ⟨g, o, none⟩ v a hg).trans h
theorem cells_of {w : World} {b : Nat} {c : Array Value} {t : TypeId} (h : w.heap[b]? = some (.cells c t)) (i : Nat) : w.cell? ⟨b, i, none⟩ = c[i]? ∧ w.frozen? ⟨b, i, none⟩ = false := by
  simp [World.cell?, World.frozen?, h]
noncomputable def depthVia (w : World) : Value → Nat
  | .pointer (some p) => depthAt w ((w.cell? p).getD undef)
  | _ => 0
theorem holder_cell {w : World} {t : Nat} {ps : Way} {X : CT K25} {n : Int} (h : TreeAt w t (some (plug ps X)) n) :
    w.cell? ⟨(holder t ps).1, (holder t ps).2, none⟩ = some (pt X.at_) ∧ w.frozen? ⟨(holder t ps).1, (holder t ps).2, none⟩ = false ∧ (holder t ps).1 < w.heap.size := by
  match ps with
  | [] => exact ⟨(cells_of h.1 0).1, (cells_of h.1 0).2, lt_of_heap h.1⟩
  | (s, a, bit, o) :: ps =>
    have h1 := stepT_at.1 (plug_at (ps := ps) (h.2 _ rfl).1)
    exact ⟨plug_cell (h.2 _ rfl).1, (cells_of h1.1 _).2, lt_of_heap h1.1⟩
theorem holder_depth {w : World} {t : Nat} {ps : Way} {X : CT K25} {n : Int} (h : TreeAt w t (some (plug ps X)) n) : depthVia w (.pointer (some ⟨(holder t ps).1, (holder t ps).2, none⟩)) = X.depth := by
  show depthAt w ((w.cell? ⟨(holder t ps).1, (holder t ps).2, none⟩).getD undef) = X.depth
  rw [(holder_cell h).1]
  exact depthAt_eq (plug_at (h.2 _ rfl).1)
theorem depthVia_of {w : World} {a o : Nat} {X : CT K25} (h : w.cell? ⟨a, o, none⟩ = some (.pointer (some ⟨X.at_, 0, none⟩))) (hX : X.At w) : depthVia w (.pointer (some ⟨a, o, none⟩)) = X.depth := by
  show depthAt w ((w.cell? ⟨a, o, none⟩).getD undef) = X.depth
  rw [h]
  exact depthAt_eq hX
set_option maxHeartbeats 8000000 in
theorem put_calls (k : K25) (c t : Nat) (R : Option (CT K25)) (n : Int) (w : World) (h : TreeAt w t R n) (hnd : (t :: footR R).Nodup) (hf : findR R k = none) :
    Calls Tryz.prog 72 #[.pointer (some ⟨t, 0, none⟩), .agg (row8 k.val), .pointer (some ⟨c, 0, none⟩)] w fun e w' => e = .returned (.bool true) ∧ PutPost w t R k c w' := by
  have hlt := lt_of_heap h.1
  have HB := Lib.hid (keyBytes_gives k.val k.property)
  have hfi : ∀ W, Below w.heap.size w W → Gives Tryz.prog 105 #[.pointer (some ⟨t, 0, none⟩), .agg (row8 k.val)] W (optP (findR R k)) := fun W hb => find_gives k t R n W (h.keep hb)
  rw [hf] at hfi
  simp only [optP] at hfi
  have HF := Lib.hid hfi
  have HT := Lib.hid h
  have HND := Lib.hid hnd
  have HTW := Lib.hid h
  have HFN := Lib.hid hf
  clear hfi h hnd hf
  go_enter Tryz.func72, Tryz.ntmps72
  go_wp2_with fail
  refine Gives.use (HF.out _ (by repeat (first | exact below_of_grow _ _ | exact Below.refl _ _ | exact below_more _ _ _ _ | (simp only [← Array.append_assoc]; first | exact below_more _ _ _ _ | exact below_same _ _ _ | exact Below.refl _ _) | exact below_same _ _ _ | (refine Below.alloc ?_ (by first | (simp; done) | (simp; omega)) _) | (refine Below.grow ?_ (by first | (simp; done) | (simp; omega)) _ _) | refine Below.drew ?_ | refine Below.drewN ?_ _ | (refine Below.putF ?_ (by first | (simp; done) | omega | (simp; omega)) _) | (refine Below.setCell ?_ (by first | (simp; done) | (simp; omega)) _)))) ?_
  intro xs0 d0
  go_wp2_with fail
  clear HF
  apply wp_region_specs (by rfl) [.val _, .val _, .val _, .val _, .val _, .new _] 6 (by rfl) [25, 26, 27, 28, 29, 30] [5] [] (by rfl) (by rfl) (by decide) (by decide +kernel) (fun _ _ _ _ _ h => h)
  case hF => intro x; simp only [over, List.foldl_cons, List.foldl_nil, List.setIfInBounds_toArray, List.set_cons_succ, List.set_cons_zero]; exact rfl
  case hops =>
    refine ⟨?o0, ?o1, ?o2, ?o3, ?o4, ?o5, trivial⟩
    case o0 =>
      intro x w1 hH K hK
      obtain ⟨xs, d, rfl⟩ := grow_of_below hH.below
      clear hH
      try simp only [World.grow_drew] at hK ⊢
      try simp only [World.grow_grow] at hK ⊢
      go_simp
      go_wp2_with fail
      exact ⟨_, rfl, rfl, (by repeat (first | exact below_of_grow _ _ | exact Below.refl _ _ | exact below_more _ _ _ _ | (simp only [← Array.append_assoc]; first | exact below_more _ _ _ _ | exact below_same _ _ _ | exact Below.refl _ _) | exact below_same _ _ _ | (refine Below.alloc ?_ (by first | (simp; done) | (simp; omega)) _) | (refine Below.grow ?_ (by first | (simp; done) | (simp; omega)) _ _) | refine Below.drew ?_ | refine Below.drewN ?_ _ | (refine Below.putF ?_ (by first | (simp; done) | omega | (simp; omega)) _) | (refine Below.setCell ?_ (by first | (simp; done) | (simp; omega)) _))), fun h => by cases h⟩
    case o1 =>
      intro x w1 hH K hK
      obtain ⟨xs, d, rfl⟩ := grow_of_below hH.below
      clear hH
      try simp only [World.grow_drew] at hK ⊢
      try simp only [World.grow_grow] at hK ⊢
      go_simp
      go_wp2_with fail
      exact ⟨_, rfl, rfl, (by repeat (first | exact below_of_grow _ _ | exact Below.refl _ _ | exact below_more _ _ _ _ | (simp only [← Array.append_assoc]; first | exact below_more _ _ _ _ | exact below_same _ _ _ | exact Below.refl _ _) | exact below_same _ _ _ | (refine Below.alloc ?_ (by first | (simp; done) | (simp; omega)) _) | (refine Below.grow ?_ (by first | (simp; done) | (simp; omega)) _ _) | refine Below.drew ?_ | refine Below.drewN ?_ _ | (refine Below.putF ?_ (by first | (simp; done) | omega | (simp; omega)) _) | (refine Below.setCell ?_ (by first | (simp; done) | (simp; omega)) _))), fun h => by cases h⟩
    case o2 =>
      intro x w1 hH K hK
      have e26 : x 26 = _ := hH.holds 1 (by decide) (by decide +kernel) 26 rfl
      obtain ⟨xs, d, rfl⟩ := grow_of_below hH.below
      clear hH
      try simp only [World.grow_drew] at hK ⊢
      try simp only [World.grow_grow] at hK ⊢
      simp only [e26] at hK ⊢
      clear e26
      go_simp
      go_wp2_with (refine Gives.use (HB.out _) ?_; intro ys e)
      exact ⟨_, rfl, rfl, (by first | exact below_more _ _ _ _ | exact (by repeat (first | exact below_of_grow _ _ | exact Below.refl _ _ | exact below_more _ _ _ _ | (simp only [← Array.append_assoc]; first | exact below_more _ _ _ _ | exact below_same _ _ _ | exact Below.refl _ _) | exact below_same _ _ _ | (refine Below.alloc ?_ (by first | (simp; done) | (simp; omega)) _) | (refine Below.grow ?_ (by first | (simp; done) | (simp; omega)) _ _) | refine Below.drew ?_ | refine Below.drewN ?_ _ | (refine Below.putF ?_ (by first | (simp; done) | omega | (simp; omega)) _) | (refine Below.setCell ?_ (by first | (simp; done) | (simp; omega)) _)))), fun h => by cases h⟩
    case o3 =>
      intro x w1 hH K hK
      obtain ⟨xs, d, rfl⟩ := grow_of_below hH.below
      clear hH
      try simp only [World.grow_drew] at hK ⊢
      try simp only [World.grow_grow] at hK ⊢
      go_simp
      go_wp2_with fail
      exact ⟨_, rfl, rfl, (by repeat (first | exact below_of_grow _ _ | exact Below.refl _ _ | exact below_more _ _ _ _ | (simp only [← Array.append_assoc]; first | exact below_more _ _ _ _ | exact below_same _ _ _ | exact Below.refl _ _) | exact below_same _ _ _ | (refine Below.alloc ?_ (by first | (simp; done) | (simp; omega)) _) | (refine Below.grow ?_ (by first | (simp; done) | (simp; omega)) _ _) | refine Below.drew ?_ | refine Below.drewN ?_ _ | (refine Below.putF ?_ (by first | (simp; done) | omega | (simp; omega)) _) | (refine Below.setCell ?_ (by first | (simp; done) | (simp; omega)) _))), fun h => by cases h⟩
    case o4 =>
      intro x w1 hH K hK
      have e25 : x 25 = _ := hH.holds 0 (by decide) (by decide +kernel) 25 rfl
      have e27 : x 27 = _ := hH.holds 2 (by decide) (by decide +kernel) 27 rfl
      have e28 : x 28 = _ := hH.holds 3 (by decide) (by decide +kernel) 28 rfl
      obtain ⟨xs, d, rfl⟩ := grow_of_below hH.below
      clear hH
      try simp only [World.grow_drew] at hK ⊢
      try simp only [World.grow_grow] at hK ⊢
      simp only [e25, e27, e28] at hK ⊢
      clear e25 e27 e28
      go_simp
      go_wp2_with fail
      exact ⟨_, rfl, rfl, (by repeat (first | exact below_of_grow _ _ | exact Below.refl _ _ | exact below_more _ _ _ _ | (simp only [← Array.append_assoc]; first | exact below_more _ _ _ _ | exact below_same _ _ _ | exact Below.refl _ _) | exact below_same _ _ _ | (refine Below.alloc ?_ (by first | (simp; done) | (simp; omega)) _) | (refine Below.grow ?_ (by first | (simp; done) | (simp; omega)) _ _) | refine Below.drew ?_ | refine Below.drewN ?_ _ | (refine Below.putF ?_ (by first | (simp; done) | omega | (simp; omega)) _) | (refine Below.setCell ?_ (by first | (simp; done) | (simp; omega)) _))), fun h => by cases h⟩
    case o5 =>
      intro x w1 hH K hK
      have e29 : x 29 = _ := hH.holds 4 (by decide) (by decide +kernel) 29 rfl
      obtain ⟨xs, d, rfl⟩ := grow_of_below hH.below
      clear hH
      try simp only [World.grow_drew] at hK ⊢
      try simp only [World.grow_grow] at hK ⊢
      simp only [e29] at hK ⊢
      clear e29
      go_simp
      go_wp2_with fail
      exact left_new rfl (by simp) (by first | (simp; done) | (simp; omega))
  case hend =>
    intro x w1 hH
    have e25 : x 25 = _ := hH.holds 0 (by decide) trivial 25 rfl
    have e26 : x 26 = _ := hH.holds 1 (by decide) trivial 26 rfl
    have e27 : x 27 = _ := hH.holds 2 (by decide) trivial 27 rfl
    have e28 : x 28 = _ := hH.holds 3 (by decide) trivial 28 rfl
    have e29 : x 29 = _ := hH.holds 4 (by decide) trivial 29 rfl
    obtain ⟨b30, e30, l30, u30, o30⟩ := hH.holds 5 (by decide) trivial 30 rfl
    obtain ⟨xs, d, rfl⟩ := grow_of_below hH.below
    clear hH
    simp only [e25, e26, e27, e28, e29, e30]; clear e25 e26 e27 e28 e29 e30
    refine new_known1 o30 l30 u30 ?_
    clear o30
    simp [go_sem] at l30 u30
    simp only [List.drop_succ_cons, List.drop_zero]
    go_upto_region 8 with fail
    refine wp_name ?_
    intro V hV
    have hbV : Below w.heap.size w V := by rw [hV]; exact (by repeat (first | exact below_of_grow _ _ | exact Below.refl _ _ | exact below_more _ _ _ _ | (simp only [← Array.append_assoc]; first | exact below_more _ _ _ _ | exact below_same _ _ _ | exact Below.refl _ _) | exact below_same _ _ _ | (refine Below.alloc ?_ (by first | (simp; done) | (simp; omega)) _) | (refine Below.grow ?_ (by first | (simp; done) | (simp; omega)) _ _) | refine Below.drew ?_ | refine Below.drewN ?_ _ | (refine Below.putF ?_ (by first | (simp; done) | omega | (simp; omega)) _) | (refine Below.setCell ?_ (by first | (simp; done) | (simp; omega)) _)))
    have hNV : NodeAt V b30 true k.val k.val (pt c) 0 (.pointer none) (.pointer none) := by
      rw [hV]; exact World.putF_heap_eq _ (by simp; omega)
    have hbl : w.heap.size ≤ b30 := by omega
    have hTV := HT.out.keep hbV
    clear hV l30 u30
    have hltV : t < V.heap.size := lt_of_heap hTV.1
    have htn : t ∉ footR R := (List.nodup_cons.1 HND.out).1
    have hbt : b30 ≠ t := by omega
    have c1 : V.cell? ⟨t, 1, none⟩ = some (.int .i64 n) := (cells_of hTV.1 1).1
    have f1 : V.frozen? ⟨t, 1, none⟩ = false := (cells_of hTV.1 1).2
    have HTV := Lib.hid hTV
    have HNV := Lib.hid hNV
    clear hTV hNV
    go_upto_region 9 with fail
    refine wp_name ?_
    intro V2 hV2
    have hTV2 : TreeAt V2 t R (wrap64 (n + 1)) := by rw [hV2]; exact HTV.out.setN htn _
    have hNV2 : NodeAt V2 b30 true k.val k.val (pt c) 0 (.pointer none) (.pointer none) := by rw [hV2]; exact HNV.out.other hbt _
    have hbw : But (t :: footR R) w V2 := (But.of_below hbV _).trans (by rw [hV2]; exact (But.setCell V t 1 _).more (fun b hb _ => by simp at hb; simp [hb]))
    clear hV2 c1 f1 HTV HNV HT hbV hltV
    have cb := hNV2.bytes k.property k.property
    have lb := lt_of_heap hNV2
    have HN := Lib.hid (near_gives k.val k.property t R _ V2 hTV2)
    have HT2 := Lib.hid (And.intro hTV2 hNV2)
    clear hTV2 hNV2
    generalize wrap64 (n + 1) = m at *
    go_wp2_with fail
    refine Gives.use HN.out ?_
    intro xs2 d2
    go_upto_region 10 with fail
    refine wp_name ?_
    intro V3 hV3
    have hb3 : Below V2.heap.size V2 V3 := by rw [hV3]; exact below_of_grow _ _
    clear hV3 HN cb lb
    have hT3 := HT2.out.1.keep hb3
    have hN3 : NodeAt V3 b30 true k.val k.val (pt c) 0 (.pointer none) (.pointer none) := (hb3.block _ (lt_of_heap HT2.out.2)).trans HT2.out.2
    have hbw3 : But (t :: footR R) w V3 := hbw.trans (But.of_below hb3 _)
    clear HT2 hbw hb3 V2
    have l30 := lt_of_heap hN3
    have hlt3 := lt_of_heap hT3.1
    have HBW := Lib.hid hbw3
    have HT3 := Lib.hid hT3
    have HN3 := Lib.hid hN3
    clear hbw3 hT3 hN3
    cases R with
    | none =>
      simp only [nearR, Option.map_none, optP] at *
      have f1 : V3.frozen? ⟨t, 0, none⟩ = false := (cells_of HT3.out.1 0).2
      have c1 : V3.cell? ⟨t, 0, none⟩ = some (.pointer none) := (cells_of HT3.out.1 0).1
      go_wp2_with fail
      go_ret
      refine ⟨rfl, HBW.out.trans ((But.setCell V3 t 0 _).more fun b hb _ => by simp at hb; simp [hb]), b30, b30 + 1, _, hbl, by omega, by omega, ⟨setRoot HT3.out.1 _, fun T hT => ?_⟩⟩
      obtain rfl := Option.some.inj hT
      exact ⟨HN3.out.other hbt _, trivial⟩
    | some T =>
      have HW := Lib.hid (HTW.out.2 T rfl).1
      simp only [nearR, Option.map_some, optP, pt] at *
      have hx := (HT3.out.2 T rfl).1.leaf _ (near_mem k.val T)
      have hxk : (T.near k.val).2.1 ≠ k := by
        intro e
        have := HFN.out
        unfold findR at this
        simp only [Option.bind_some, if_pos e] at this
        cases this
      obtain ⟨dd, hd⟩ : ∃ d, d = diffN k.val (T.near k.val).2.1.val := ⟨_, rfl⟩
      have hkn : k.val ≠ (T.near k.val).2.1.val := fun e => hxk (Subtype.ext e.symm)
      have hun : FirstUnlike k.val (T.near k.val).2.1.val dd := by rw [hd]; exact firstUnlike_ex k.property (K25.len _) hkn
      have HUN := Lib.hid (And.intro hun hd)
      have hdg := differ_gives k.val (T.near k.val).2.1.val k.property (K25.len _) hkn
      rw [← hd] at hdg
      have HD := Lib.hid hdg
      have cx := hx.bytes (K25.len _) (K25.len _)
      have ck := HN3.out.bytes k.property k.property
      have lx := lt_of_heap hx
      have hxl : (T.near k.val).2.1.val.length = 25 := K25.len _
      clear hx hxk hkn hdg hun hd
      generalize (T.near k.val).2.1.val = xk at cx HD hxl
      generalize (T.near k.val).1 = xa at *
      go_wp2_with fail
      apply wp_region_specs (by rfl) [.val _, .val _, .val _, .val _, .val _, .val _, .val _, .val _, .val _] 9 (by rfl) [50, 51, 52, 53, 54, 55, 56, 57, 58] [] [] (by rfl) (by rfl) (by decide) (by decide +kernel) (fun _ _ _ _ _ h => h)
      case hF => intro x; simp only [over, List.foldl_cons, List.foldl_nil, List.setIfInBounds_toArray, List.set_cons_succ, List.set_cons_zero]; exact rfl
      case hops =>
        refine ⟨?o0, ?o1, ?o2, ?o3, ?o4, ?o5, ?o6, ?o7, ?o8, trivial⟩
        case o0 =>
          intro x w1 hH K hK
          obtain ⟨xs, d, rfl⟩ := grow_of_below hH.below
          clear hH
          try simp only [World.grow_drew] at hK ⊢
          try simp only [World.grow_grow] at hK ⊢
          go_simp
          go_wp2_with fail
          exact ⟨_, rfl, rfl, (by repeat (first | exact below_of_grow _ _ | exact Below.refl _ _ | exact below_more _ _ _ _ | (simp only [← Array.append_assoc]; first | exact below_more _ _ _ _ | exact below_same _ _ _ | exact Below.refl _ _) | exact below_same _ _ _ | (refine Below.alloc ?_ (by first | (simp; done) | (simp; omega)) _) | (refine Below.grow ?_ (by first | (simp; done) | (simp; omega)) _ _) | refine Below.drew ?_ | refine Below.drewN ?_ _ | (refine Below.putF ?_ (by first | (simp; done) | omega | (simp; omega)) _) | (refine Below.setCell ?_ (by first | (simp; done) | (simp; omega)) _))), fun h => by cases h⟩
        case o1 =>
          intro x w1 hH K hK
          have e50 : x 50 = _ := hH.holds 0 (by decide) (by decide +kernel) 50 rfl
          obtain ⟨xs, d, rfl⟩ := grow_of_below hH.below
          clear hH
          try simp only [World.grow_drew] at hK ⊢
          try simp only [World.grow_grow] at hK ⊢
          simp only [e50] at hK ⊢
          clear e50
          go_simp
          go_wp2_with fail
          exact ⟨_, rfl, rfl, (by repeat (first | exact below_of_grow _ _ | exact Below.refl _ _ | exact below_more _ _ _ _ | (simp only [← Array.append_assoc]; first | exact below_more _ _ _ _ | exact below_same _ _ _ | exact Below.refl _ _) | exact below_same _ _ _ | (refine Below.alloc ?_ (by first | (simp; done) | (simp; omega)) _) | (refine Below.grow ?_ (by first | (simp; done) | (simp; omega)) _ _) | refine Below.drew ?_ | refine Below.drewN ?_ _ | (refine Below.putF ?_ (by first | (simp; done) | omega | (simp; omega)) _) | (refine Below.setCell ?_ (by first | (simp; done) | (simp; omega)) _))), fun h => by cases h⟩
        case o2 =>
          intro x w1 hH K hK
          have e51 : x 51 = _ := hH.holds 1 (by decide) (by decide +kernel) 51 rfl
          obtain ⟨xs, d, rfl⟩ := grow_of_below hH.below
          clear hH
          try simp only [World.grow_drew] at hK ⊢
          try simp only [World.grow_grow] at hK ⊢
          simp only [e51] at hK ⊢
          clear e51
          go_simp
          go_wp2_with fail
          exact ⟨_, rfl, rfl, (by repeat (first | exact below_of_grow _ _ | exact Below.refl _ _ | exact below_more _ _ _ _ | (simp only [← Array.append_assoc]; first | exact below_more _ _ _ _ | exact below_same _ _ _ | exact Below.refl _ _) | exact below_same _ _ _ | (refine Below.alloc ?_ (by first | (simp; done) | (simp; omega)) _) | (refine Below.grow ?_ (by first | (simp; done) | (simp; omega)) _ _) | refine Below.drew ?_ | refine Below.drewN ?_ _ | (refine Below.putF ?_ (by first | (simp; done) | omega | (simp; omega)) _) | (refine Below.setCell ?_ (by first | (simp; done) | (simp; omega)) _))), fun h => by cases h⟩
        case o3 =>
          intro x w1 hH K hK
          have e52 : x 52 = _ := hH.holds 2 (by decide) (by decide +kernel) 52 rfl
          obtain ⟨xs, d, rfl⟩ := grow_of_below hH.below
          clear hH
          try simp only [World.grow_drew] at hK ⊢
          try simp only [World.grow_grow] at hK ⊢
          simp only [e52] at hK ⊢
          clear e52
          go_simp
          go_wp2_with fail
          exact ⟨_, rfl, rfl, (by repeat (first | exact below_of_grow _ _ | exact Below.refl _ _ | exact below_more _ _ _ _ | (simp only [← Array.append_assoc]; first | exact below_more _ _ _ _ | exact below_same _ _ _ | exact Below.refl _ _) | exact below_same _ _ _ | (refine Below.alloc ?_ (by first | (simp; done) | (simp; omega)) _) | (refine Below.grow ?_ (by first | (simp; done) | (simp; omega)) _ _) | refine Below.drew ?_ | refine Below.drewN ?_ _ | (refine Below.putF ?_ (by first | (simp; done) | omega | (simp; omega)) _) | (refine Below.setCell ?_ (by first | (simp; done) | (simp; omega)) _))), fun h => by cases h⟩
        case o4 =>
          intro x w1 hH K hK
          obtain ⟨xs, d, rfl⟩ := grow_of_below hH.below
          clear hH
          try simp only [World.grow_drew] at hK ⊢
          try simp only [World.grow_grow] at hK ⊢
          go_simp
          go_wp2_with fail
          exact ⟨_, rfl, rfl, (by repeat (first | exact below_of_grow _ _ | exact Below.refl _ _ | exact below_more _ _ _ _ | (simp only [← Array.append_assoc]; first | exact below_more _ _ _ _ | exact below_same _ _ _ | exact Below.refl _ _) | exact below_same _ _ _ | (refine Below.alloc ?_ (by first | (simp; done) | (simp; omega)) _) | (refine Below.grow ?_ (by first | (simp; done) | (simp; omega)) _ _) | refine Below.drew ?_ | refine Below.drewN ?_ _ | (refine Below.putF ?_ (by first | (simp; done) | omega | (simp; omega)) _) | (refine Below.setCell ?_ (by first | (simp; done) | (simp; omega)) _))), fun h => by cases h⟩
        case o5 =>
          intro x w1 hH K hK
          have e54 : x 54 = _ := hH.holds 4 (by decide) (by decide +kernel) 54 rfl
          obtain ⟨xs, d, rfl⟩ := grow_of_below hH.below
          clear hH
          try simp only [World.grow_drew] at hK ⊢
          try simp only [World.grow_grow] at hK ⊢
          simp only [e54] at hK ⊢
          clear e54
          go_simp
          go_wp2_with fail
          exact ⟨_, rfl, rfl, (by repeat (first | exact below_of_grow _ _ | exact Below.refl _ _ | exact below_more _ _ _ _ | (simp only [← Array.append_assoc]; first | exact below_more _ _ _ _ | exact below_same _ _ _ | exact Below.refl _ _) | exact below_same _ _ _ | (refine Below.alloc ?_ (by first | (simp; done) | (simp; omega)) _) | (refine Below.grow ?_ (by first | (simp; done) | (simp; omega)) _ _) | refine Below.drew ?_ | refine Below.drewN ?_ _ | (refine Below.putF ?_ (by first | (simp; done) | omega | (simp; omega)) _) | (refine Below.setCell ?_ (by first | (simp; done) | (simp; omega)) _))), fun h => by cases h⟩
        case o6 =>
          intro x w1 hH K hK
          have e55 : x 55 = _ := hH.holds 5 (by decide) (by decide +kernel) 55 rfl
          obtain ⟨xs, d, rfl⟩ := grow_of_below hH.below
          clear hH
          try simp only [World.grow_drew] at hK ⊢
          try simp only [World.grow_grow] at hK ⊢
          simp only [e55] at hK ⊢
          clear e55
          go_simp
          go_wp2_with fail
          exact ⟨_, rfl, rfl, (by repeat (first | exact below_of_grow _ _ | exact Below.refl _ _ | exact below_more _ _ _ _ | (simp only [← Array.append_assoc]; first | exact below_more _ _ _ _ | exact below_same _ _ _ | exact Below.refl _ _) | exact below_same _ _ _ | (refine Below.alloc ?_ (by first | (simp; done) | (simp; omega)) _) | (refine Below.grow ?_ (by first | (simp; done) | (simp; omega)) _ _) | refine Below.drew ?_ | refine Below.drewN ?_ _ | (refine Below.putF ?_ (by first | (simp; done) | omega | (simp; omega)) _) | (refine Below.setCell ?_ (by first | (simp; done) | (simp; omega)) _))), fun h => by cases h⟩
        case o7 =>
          intro x w1 hH K hK
          have e56 : x 56 = _ := hH.holds 6 (by decide) (by decide +kernel) 56 rfl
          obtain ⟨xs, d, rfl⟩ := grow_of_below hH.below
          clear hH
          try simp only [World.grow_drew] at hK ⊢
          try simp only [World.grow_grow] at hK ⊢
          simp only [e56] at hK ⊢
          clear e56
          go_simp
          go_wp2_with fail
          exact ⟨_, rfl, rfl, (by repeat (first | exact below_of_grow _ _ | exact Below.refl _ _ | exact below_more _ _ _ _ | (simp only [← Array.append_assoc]; first | exact below_more _ _ _ _ | exact below_same _ _ _ | exact Below.refl _ _) | exact below_same _ _ _ | (refine Below.alloc ?_ (by first | (simp; done) | (simp; omega)) _) | (refine Below.grow ?_ (by first | (simp; done) | (simp; omega)) _ _) | refine Below.drew ?_ | refine Below.drewN ?_ _ | (refine Below.putF ?_ (by first | (simp; done) | omega | (simp; omega)) _) | (refine Below.setCell ?_ (by first | (simp; done) | (simp; omega)) _))), fun h => by cases h⟩
        case o8 =>
          intro x w1 hH K hK
          have e53 : x 53 = _ := hH.holds 3 (by decide) (by decide +kernel) 53 rfl
          have e57 : x 57 = _ := hH.holds 7 (by decide) (by decide +kernel) 57 rfl
          obtain ⟨xs, d, rfl⟩ := grow_of_below hH.below
          clear hH
          try simp only [World.grow_drew] at hK ⊢
          try simp only [World.grow_grow] at hK ⊢
          simp only [e53, e57] at hK ⊢
          clear e53 e57
          go_simp
          go_wp2_with (refine Gives.use (HD.out _) ?_; intro ys e)
          exact ⟨_, rfl, rfl, (by first | exact below_more _ _ _ _ | exact (by repeat (first | exact below_of_grow _ _ | exact Below.refl _ _ | exact below_more _ _ _ _ | (simp only [← Array.append_assoc]; first | exact below_more _ _ _ _ | exact below_same _ _ _ | exact Below.refl _ _) | exact below_same _ _ _ | (refine Below.alloc ?_ (by first | (simp; done) | (simp; omega)) _) | (refine Below.grow ?_ (by first | (simp; done) | (simp; omega)) _ _) | refine Below.drew ?_ | refine Below.drewN ?_ _ | (refine Below.putF ?_ (by first | (simp; done) | omega | (simp; omega)) _) | (refine Below.setCell ?_ (by first | (simp; done) | (simp; omega)) _)))), fun h => by cases h⟩
      case hend =>
        intro x w1 hH
        have e50 : x 50 = _ := hH.holds 0 (by decide) trivial 50 rfl
        have e51 : x 51 = _ := hH.holds 1 (by decide) trivial 51 rfl
        have e52 : x 52 = _ := hH.holds 2 (by decide) trivial 52 rfl
        have e53 : x 53 = _ := hH.holds 3 (by decide) trivial 53 rfl
        have e54 : x 54 = _ := hH.holds 4 (by decide) trivial 54 rfl
        have e55 : x 55 = _ := hH.holds 5 (by decide) trivial 55 rfl
        have e56 : x 56 = _ := hH.holds 6 (by decide) trivial 56 rfl
        have e57 : x 57 = _ := hH.holds 7 (by decide) trivial 57 rfl
        have e58 : x 58 = _ := hH.holds 8 (by decide) trivial 58 rfl
        obtain ⟨xs, d, rfl⟩ := grow_of_below hH.below
        clear hH
        simp only [e50, e51, e52, e53, e54, e55, e56, e57, e58]; clear e50 e51 e52 e53 e54 e55 e56 e57 e58
        simp only [List.drop_succ_cons, List.drop_zero]
        go_upto_region 14 with fail
        refine wp_name ?_
        intro V4 hV4
        have hb4 : Below V3.heap.size V3 V4 := by rw [hV4, World.grow_drew]; exact below_of_grow _ _
        clear hV4 HD cx ck lx hxl
        have hT4 := HT3.out.keep hb4
        have hN4 : NodeAt V4 b30 true k.val k.val (pt c) 0 (.pointer none) (.pointer none) := (hb4.block _ l30).trans HN3.out
        have hbw4 : But (t :: footR (some T)) w V4 := HBW.out.trans (But.of_below hb4 _)
        have l304 := lt_of_heap hN4
        have ck4 := hN4.bytes k.property k.property
        have hbs : w.heap.size ≤ V4.heap.size := hbw4.size
        have H4 := Lib.hid (And.intro hT4 (And.intro hN4 hbw4))
        have HS := Lib.hid (side_gives k.val k.property)
        have hlt4 := lt_of_heap hT4.1
        clear hT4 hN4 hbw4 hb4 HBW HT3 HN3 l30 hlt3 V3
        have hd200 : dd < 200 := HUN.out.1.1
        go_upto_block 0 with fail
        go_cut [11] (fun s11 wx => ∃ (ps : Way) (X : CT K25) (q o : Nat) (xs : Array Obj) (d : Nat), s11 = .pointer (some ⟨q, o, none⟩) ∧ Hid (holder t ps = (q, o) ∧ plug ps X = T ∧ (∀ a fa, T.ins keyBytes a k c fa dd = plug ps (if bitB k.val dd then .fork fa dd X (.leaf a k c) else .fork fa dd (.leaf a k c) X))) ∧ wx = V4.grow xs d)
        case first =>
          go_wp2_with fail
          go_loopw [11] (fun s11 wr => ∃ (ps : Way) (X : CT K25) (q o : Nat) (xs : Array Obj) (d : Nat), s11 = .pointer (some ⟨q, o, none⟩) ∧ holder t ps = (q, o) ∧ plug ps X = T ∧ (∀ a fa, T.ins keyBytes a k c fa dd = plug ps (X.ins keyBytes a k c fa dd)) ∧ wr = V4.grow xs d)
            (fun s11 _ => depthVia V4 s11)
          case atStart => exact ⟨[], T, t, 0, #[], V4.drawn, rfl, rfl, rfl, fun _ _ => rfl, World.grow_nil.symm⟩
          case round =>
            obtain ⟨ps, X, q, o, xs, d, rfl, hqo, hpl, hins, rfl⟩ := hrel
            have hT : TreeAt V4 t (some (plug ps X)) m := by rw [hpl]; exact H4.out.1
            have hdep := holder_depth hT
            have hcel := holder_cell hT
            rw [hqo] at hdep hcel
            obtain ⟨cq, fq, lq⟩ := hcel
            have hXat := plug_at (hT.2 _ rfl).1
            have hXok := plug_ok (hT.2 _ rfl).2
            simp only [pt] at cq
            have HP := Lib.hid (And.intro hqo (And.intro hpl hins))
            clear hqo hpl hins hT
            cases X with
            | leaf xa' k' c' =>
              have hXn : NodeAt V4 xa' true k'.val k'.val (pt c') 0 (.pointer none) (.pointer none) := hXat
              have c0 := (hXn.cells (K25.len _) (K25.len _)).1
              have lX := lt_of_heap hXn
              rw [at_leaf] at cq
              clear hXat hXok hXn hdep
              go_wp2_with fail
              go_meet
              case rel => exact ⟨ps, _, q, o, xs, d, rfl, Lib.hid ⟨HP.out.1, HP.out.2.1, HP.out.2.2⟩, rfl⟩
            | fork xa' bit l r =>
              obtain ⟨hn, hL, hRt⟩ := hXat
              obtain ⟨hb200, _⟩ := hXok
              obtain ⟨c0, _, c2, c3, c4⟩ := NodeAt.cells hn (by simp [zeros]) (by simp [zeros])
              have lX := lt_of_heap hn
              rw [at_fork] at cq
              simp only [pt] at c3 c4
              have HDL := Lib.hid (depthVia_of c3 hL)
              have HDR := Lib.hid (depthVia_of c4 hRt)
              clear hn hL hRt
              by_cases hlt : bit < dd
              · have HDP := Lib.hid hdep
                clear hdep
                by_cases hs : bitB k.val bit = true
                · have hsd : sideI k.val bit = 1 := by simp [sideI, hs]
                  have HS1 := Lib.hid (HS.out bit hb200)
                  rw [hsd] at HS1
                  clear hsd
                  go_wp2_with fail
                  apply wp_region_specs (by rfl) [.val _, .val _, .val _, .val _, .val _, .val _, .val _, .val _, .val _, .val _, .val _, .val _, .val _, .val _, .val _, .val _, .val _] 17 (by rfl) [79, 80, 81, 82, 83, 84, 85, 86, 87, 88, 89, 90, 91, 92, 93, 94, 95] [] [] (by rfl) (by rfl) (by decide) (by decide +kernel) (fun _ _ _ _ _ h => h)
                  case hF => intro x; simp only [over, List.foldl_cons, List.foldl_nil, List.setIfInBounds_toArray, List.set_cons_succ, List.set_cons_zero]; exact rfl
                  case hops =>
                    refine ⟨?o0, ?o1, ?o2, ?o3, ?o4, ?o5, ?o6, ?o7, ?o8, ?o9, ?o10, ?o11, ?o12, ?o13, ?o14, ?o15, ?o16, trivial⟩
                    case o0 =>
                      intro x w1 hH K hK
                      obtain ⟨xs, d, rfl⟩ := grow_of_below hH.below
                      clear hH
                      try simp only [World.grow_drew] at hK ⊢
                      try simp only [World.grow_grow] at hK ⊢
                      go_simp
                      go_wp2_with fail
                      exact ⟨_, rfl, rfl, (by repeat (first | exact below_of_grow _ _ | exact Below.refl _ _ | exact below_more _ _ _ _ | (simp only [← Array.append_assoc]; first | exact below_more _ _ _ _ | exact below_same _ _ _ | exact Below.refl _ _) | exact below_same _ _ _ | (refine Below.alloc ?_ (by first | (simp; done) | (simp; omega)) _) | (refine Below.grow ?_ (by first | (simp; done) | (simp; omega)) _ _) | refine Below.drew ?_ | refine Below.drewN ?_ _ | (refine Below.putF ?_ (by first | (simp; done) | omega | (simp; omega)) _) | (refine Below.setCell ?_ (by first | (simp; done) | (simp; omega)) _))), fun h => by cases h⟩
                    case o1 =>
                      intro x w1 hH K hK
                      have e79 : x 79 = _ := hH.holds 0 (by decide) (by decide +kernel) 79 rfl
                      obtain ⟨xs, d, rfl⟩ := grow_of_below hH.below
                      clear hH
                      try simp only [World.grow_drew] at hK ⊢
                      try simp only [World.grow_grow] at hK ⊢
                      simp only [e79] at hK ⊢
                      clear e79
                      go_simp
                      go_wp2_with fail
                      exact ⟨_, rfl, rfl, (by repeat (first | exact below_of_grow _ _ | exact Below.refl _ _ | exact below_more _ _ _ _ | (simp only [← Array.append_assoc]; first | exact below_more _ _ _ _ | exact below_same _ _ _ | exact Below.refl _ _) | exact below_same _ _ _ | (refine Below.alloc ?_ (by first | (simp; done) | (simp; omega)) _) | (refine Below.grow ?_ (by first | (simp; done) | (simp; omega)) _ _) | refine Below.drew ?_ | refine Below.drewN ?_ _ | (refine Below.putF ?_ (by first | (simp; done) | omega | (simp; omega)) _) | (refine Below.setCell ?_ (by first | (simp; done) | (simp; omega)) _))), fun h => by cases h⟩
                    case o2 =>
                      intro x w1 hH K hK
                      have e80 : x 80 = _ := hH.holds 1 (by decide) (by decide +kernel) 80 rfl
                      obtain ⟨xs, d, rfl⟩ := grow_of_below hH.below
                      clear hH
                      try simp only [World.grow_drew] at hK ⊢
                      try simp only [World.grow_grow] at hK ⊢
                      simp only [e80] at hK ⊢
                      clear e80
                      go_simp
                      go_wp2_with fail
                      exact ⟨_, rfl, rfl, (by repeat (first | exact below_of_grow _ _ | exact Below.refl _ _ | exact below_more _ _ _ _ | (simp only [← Array.append_assoc]; first | exact below_more _ _ _ _ | exact below_same _ _ _ | exact Below.refl _ _) | exact below_same _ _ _ | (refine Below.alloc ?_ (by first | (simp; done) | (simp; omega)) _) | (refine Below.grow ?_ (by first | (simp; done) | (simp; omega)) _ _) | refine Below.drew ?_ | refine Below.drewN ?_ _ | (refine Below.putF ?_ (by first | (simp; done) | omega | (simp; omega)) _) | (refine Below.setCell ?_ (by first | (simp; done) | (simp; omega)) _))), fun h => by cases h⟩
                    case o3 =>
                      intro x w1 hH K hK
                      obtain ⟨xs, d, rfl⟩ := grow_of_below hH.below
                      clear hH
                      try simp only [World.grow_drew] at hK ⊢
                      try simp only [World.grow_grow] at hK ⊢
                      go_simp
                      go_wp2_with fail
                      exact ⟨_, rfl, rfl, (by repeat (first | exact below_of_grow _ _ | exact Below.refl _ _ | exact below_more _ _ _ _ | (simp only [← Array.append_assoc]; first | exact below_more _ _ _ _ | exact below_same _ _ _ | exact Below.refl _ _) | exact below_same _ _ _ | (refine Below.alloc ?_ (by first | (simp; done) | (simp; omega)) _) | (refine Below.grow ?_ (by first | (simp; done) | (simp; omega)) _ _) | refine Below.drew ?_ | refine Below.drewN ?_ _ | (refine Below.putF ?_ (by first | (simp; done) | omega | (simp; omega)) _) | (refine Below.setCell ?_ (by first | (simp; done) | (simp; omega)) _))), fun h => by cases h⟩
                    case o4 =>
                      intro x w1 hH K hK
                      have e82 : x 82 = _ := hH.holds 3 (by decide) (by decide +kernel) 82 rfl
                      obtain ⟨xs, d, rfl⟩ := grow_of_below hH.below
                      clear hH
                      try simp only [World.grow_drew] at hK ⊢
                      try simp only [World.grow_grow] at hK ⊢
                      simp only [e82] at hK ⊢
                      clear e82
                      go_simp
                      go_wp2_with fail
                      exact ⟨_, rfl, rfl, (by repeat (first | exact below_of_grow _ _ | exact Below.refl _ _ | exact below_more _ _ _ _ | (simp only [← Array.append_assoc]; first | exact below_more _ _ _ _ | exact below_same _ _ _ | exact Below.refl _ _) | exact below_same _ _ _ | (refine Below.alloc ?_ (by first | (simp; done) | (simp; omega)) _) | (refine Below.grow ?_ (by first | (simp; done) | (simp; omega)) _ _) | refine Below.drew ?_ | refine Below.drewN ?_ _ | (refine Below.putF ?_ (by first | (simp; done) | omega | (simp; omega)) _) | (refine Below.setCell ?_ (by first | (simp; done) | (simp; omega)) _))), fun h => by cases h⟩
                    case o5 =>
                      intro x w1 hH K hK
                      have e83 : x 83 = _ := hH.holds 4 (by decide) (by decide +kernel) 83 rfl
                      obtain ⟨xs, d, rfl⟩ := grow_of_below hH.below
                      clear hH
                      try simp only [World.grow_drew] at hK ⊢
                      try simp only [World.grow_grow] at hK ⊢
                      simp only [e83] at hK ⊢
                      clear e83
                      go_simp
                      go_wp2_with fail
                      exact ⟨_, rfl, rfl, (by repeat (first | exact below_of_grow _ _ | exact Below.refl _ _ | exact below_more _ _ _ _ | (simp only [← Array.append_assoc]; first | exact below_more _ _ _ _ | exact below_same _ _ _ | exact Below.refl _ _) | exact below_same _ _ _ | (refine Below.alloc ?_ (by first | (simp; done) | (simp; omega)) _) | (refine Below.grow ?_ (by first | (simp; done) | (simp; omega)) _ _) | refine Below.drew ?_ | refine Below.drewN ?_ _ | (refine Below.putF ?_ (by first | (simp; done) | omega | (simp; omega)) _) | (refine Below.setCell ?_ (by first | (simp; done) | (simp; omega)) _))), fun h => by cases h⟩
                    case o6 =>
                      intro x w1 hH K hK
                      have e84 : x 84 = _ := hH.holds 5 (by decide) (by decide +kernel) 84 rfl
                      obtain ⟨xs, d, rfl⟩ := grow_of_below hH.below
                      clear hH
                      try simp only [World.grow_drew] at hK ⊢
                      try simp only [World.grow_grow] at hK ⊢
                      simp only [e84] at hK ⊢
                      clear e84
                      go_simp
                      go_wp2_with fail
                      exact ⟨_, rfl, rfl, (by repeat (first | exact below_of_grow _ _ | exact Below.refl _ _ | exact below_more _ _ _ _ | (simp only [← Array.append_assoc]; first | exact below_more _ _ _ _ | exact below_same _ _ _ | exact Below.refl _ _) | exact below_same _ _ _ | (refine Below.alloc ?_ (by first | (simp; done) | (simp; omega)) _) | (refine Below.grow ?_ (by first | (simp; done) | (simp; omega)) _ _) | refine Below.drew ?_ | refine Below.drewN ?_ _ | (refine Below.putF ?_ (by first | (simp; done) | omega | (simp; omega)) _) | (refine Below.setCell ?_ (by first | (simp; done) | (simp; omega)) _))), fun h => by cases h⟩
                    case o7 =>
                      intro x w1 hH K hK
                      obtain ⟨xs, d, rfl⟩ := grow_of_below hH.below
                      clear hH
                      try simp only [World.grow_drew] at hK ⊢
                      try simp only [World.grow_grow] at hK ⊢
                      go_simp
                      go_wp2_with fail
                      exact ⟨_, rfl, rfl, (by repeat (first | exact below_of_grow _ _ | exact Below.refl _ _ | exact below_more _ _ _ _ | (simp only [← Array.append_assoc]; first | exact below_more _ _ _ _ | exact below_same _ _ _ | exact Below.refl _ _) | exact below_same _ _ _ | (refine Below.alloc ?_ (by first | (simp; done) | (simp; omega)) _) | (refine Below.grow ?_ (by first | (simp; done) | (simp; omega)) _ _) | refine Below.drew ?_ | refine Below.drewN ?_ _ | (refine Below.putF ?_ (by first | (simp; done) | omega | (simp; omega)) _) | (refine Below.setCell ?_ (by first | (simp; done) | (simp; omega)) _))), fun h => by cases h⟩
                    case o8 =>
                      intro x w1 hH K hK
                      have e86 : x 86 = _ := hH.holds 7 (by decide) (by decide +kernel) 86 rfl
                      obtain ⟨xs, d, rfl⟩ := grow_of_below hH.below
                      clear hH
                      try simp only [World.grow_drew] at hK ⊢
                      try simp only [World.grow_grow] at hK ⊢
                      simp only [e86] at hK ⊢
                      clear e86
                      go_simp
                      go_wp2_with fail
                      exact ⟨_, rfl, rfl, (by repeat (first | exact below_of_grow _ _ | exact Below.refl _ _ | exact below_more _ _ _ _ | (simp only [← Array.append_assoc]; first | exact below_more _ _ _ _ | exact below_same _ _ _ | exact Below.refl _ _) | exact below_same _ _ _ | (refine Below.alloc ?_ (by first | (simp; done) | (simp; omega)) _) | (refine Below.grow ?_ (by first | (simp; done) | (simp; omega)) _ _) | refine Below.drew ?_ | refine Below.drewN ?_ _ | (refine Below.putF ?_ (by first | (simp; done) | omega | (simp; omega)) _) | (refine Below.setCell ?_ (by first | (simp; done) | (simp; omega)) _))), fun h => by cases h⟩
                    case o9 =>
                      intro x w1 hH K hK
                      have e87 : x 87 = _ := hH.holds 8 (by decide) (by decide +kernel) 87 rfl
                      obtain ⟨xs, d, rfl⟩ := grow_of_below hH.below
                      clear hH
                      try simp only [World.grow_drew] at hK ⊢
                      try simp only [World.grow_grow] at hK ⊢
                      simp only [e87] at hK ⊢
                      clear e87
                      go_simp
                      go_wp2_with fail
                      exact ⟨_, rfl, rfl, (by repeat (first | exact below_of_grow _ _ | exact Below.refl _ _ | exact below_more _ _ _ _ | (simp only [← Array.append_assoc]; first | exact below_more _ _ _ _ | exact below_same _ _ _ | exact Below.refl _ _) | exact below_same _ _ _ | (refine Below.alloc ?_ (by first | (simp; done) | (simp; omega)) _) | (refine Below.grow ?_ (by first | (simp; done) | (simp; omega)) _ _) | refine Below.drew ?_ | refine Below.drewN ?_ _ | (refine Below.putF ?_ (by first | (simp; done) | omega | (simp; omega)) _) | (refine Below.setCell ?_ (by first | (simp; done) | (simp; omega)) _))), fun h => by cases h⟩
                    case o10 =>
                      intro x w1 hH K hK
                      have e88 : x 88 = _ := hH.holds 9 (by decide) (by decide +kernel) 88 rfl
                      obtain ⟨xs, d, rfl⟩ := grow_of_below hH.below
                      clear hH
                      try simp only [World.grow_drew] at hK ⊢
                      try simp only [World.grow_grow] at hK ⊢
                      simp only [e88] at hK ⊢
                      clear e88
                      go_simp
                      go_wp2_with fail
                      exact ⟨_, rfl, rfl, (by repeat (first | exact below_of_grow _ _ | exact Below.refl _ _ | exact below_more _ _ _ _ | (simp only [← Array.append_assoc]; first | exact below_more _ _ _ _ | exact below_same _ _ _ | exact Below.refl _ _) | exact below_same _ _ _ | (refine Below.alloc ?_ (by first | (simp; done) | (simp; omega)) _) | (refine Below.grow ?_ (by first | (simp; done) | (simp; omega)) _ _) | refine Below.drew ?_ | refine Below.drewN ?_ _ | (refine Below.putF ?_ (by first | (simp; done) | omega | (simp; omega)) _) | (refine Below.setCell ?_ (by first | (simp; done) | (simp; omega)) _))), fun h => by cases h⟩
                    case o11 =>
                      intro x w1 hH K hK
                      have e89 : x 89 = _ := hH.holds 10 (by decide) (by decide +kernel) 89 rfl
                      obtain ⟨xs, d, rfl⟩ := grow_of_below hH.below
                      clear hH
                      try simp only [World.grow_drew] at hK ⊢
                      try simp only [World.grow_grow] at hK ⊢
                      simp only [e89] at hK ⊢
                      clear e89
                      go_simp
                      go_wp2_with fail
                      exact ⟨_, rfl, rfl, (by repeat (first | exact below_of_grow _ _ | exact Below.refl _ _ | exact below_more _ _ _ _ | (simp only [← Array.append_assoc]; first | exact below_more _ _ _ _ | exact below_same _ _ _ | exact Below.refl _ _) | exact below_same _ _ _ | (refine Below.alloc ?_ (by first | (simp; done) | (simp; omega)) _) | (refine Below.grow ?_ (by first | (simp; done) | (simp; omega)) _ _) | refine Below.drew ?_ | refine Below.drewN ?_ _ | (refine Below.putF ?_ (by first | (simp; done) | omega | (simp; omega)) _) | (refine Below.setCell ?_ (by first | (simp; done) | (simp; omega)) _))), fun h => by cases h⟩
                    case o12 =>
                      intro x w1 hH K hK
                      have e90 : x 90 = _ := hH.holds 11 (by decide) (by decide +kernel) 90 rfl
                      obtain ⟨xs, d, rfl⟩ := grow_of_below hH.below
                      clear hH
                      try simp only [World.grow_drew] at hK ⊢
                      try simp only [World.grow_grow] at hK ⊢
                      simp only [e90] at hK ⊢
                      clear e90
                      go_simp
                      go_wp2_with fail
                      exact ⟨_, rfl, rfl, (by repeat (first | exact below_of_grow _ _ | exact Below.refl _ _ | exact below_more _ _ _ _ | (simp only [← Array.append_assoc]; first | exact below_more _ _ _ _ | exact below_same _ _ _ | exact Below.refl _ _) | exact below_same _ _ _ | (refine Below.alloc ?_ (by first | (simp; done) | (simp; omega)) _) | (refine Below.grow ?_ (by first | (simp; done) | (simp; omega)) _ _) | refine Below.drew ?_ | refine Below.drewN ?_ _ | (refine Below.putF ?_ (by first | (simp; done) | omega | (simp; omega)) _) | (refine Below.setCell ?_ (by first | (simp; done) | (simp; omega)) _))), fun h => by cases h⟩
                    case o13 =>
                      intro x w1 hH K hK
                      have e85 : x 85 = _ := hH.holds 6 (by decide) (by decide +kernel) 85 rfl
                      have e91 : x 91 = _ := hH.holds 12 (by decide) (by decide +kernel) 91 rfl
                      obtain ⟨xs, d, rfl⟩ := grow_of_below hH.below
                      clear hH
                      try simp only [World.grow_drew] at hK ⊢
                      try simp only [World.grow_grow] at hK ⊢
                      simp only [e85, e91] at hK ⊢
                      clear e85 e91
                      go_simp
                      go_wp2_with (refine Gives.use (HS1.out _) ?_; intro ys e)
                      exact ⟨_, rfl, rfl, (by first | exact below_more _ _ _ _ | exact (by repeat (first | exact below_of_grow _ _ | exact Below.refl _ _ | exact below_more _ _ _ _ | (simp only [← Array.append_assoc]; first | exact below_more _ _ _ _ | exact below_same _ _ _ | exact Below.refl _ _) | exact below_same _ _ _ | (refine Below.alloc ?_ (by first | (simp; done) | (simp; omega)) _) | (refine Below.grow ?_ (by first | (simp; done) | (simp; omega)) _ _) | refine Below.drew ?_ | refine Below.drewN ?_ _ | (refine Below.putF ?_ (by first | (simp; done) | omega | (simp; omega)) _) | (refine Below.setCell ?_ (by first | (simp; done) | (simp; omega)) _)))), fun h => by cases h⟩
                    case o14 =>
                      intro x w1 hH K hK
                      have e81 : x 81 = _ := hH.holds 2 (by decide) (by decide +kernel) 81 rfl
                      obtain ⟨xs, d, rfl⟩ := grow_of_below hH.below
                      clear hH
                      try simp only [World.grow_drew] at hK ⊢
                      try simp only [World.grow_grow] at hK ⊢
                      simp only [e81] at hK ⊢
                      clear e81
                      go_simp
                      go_wp2_with fail
                      exact ⟨_, rfl, rfl, (by repeat (first | exact below_of_grow _ _ | exact Below.refl _ _ | exact below_more _ _ _ _ | (simp only [← Array.append_assoc]; first | exact below_more _ _ _ _ | exact below_same _ _ _ | exact Below.refl _ _) | exact below_same _ _ _ | (refine Below.alloc ?_ (by first | (simp; done) | (simp; omega)) _) | (refine Below.grow ?_ (by first | (simp; done) | (simp; omega)) _ _) | refine Below.drew ?_ | refine Below.drewN ?_ _ | (refine Below.putF ?_ (by first | (simp; done) | omega | (simp; omega)) _) | (refine Below.setCell ?_ (by first | (simp; done) | (simp; omega)) _))), fun h => by cases h⟩
                    case o15 =>
                      intro x w1 hH K hK
                      have e93 : x 93 = _ := hH.holds 14 (by decide) (by decide +kernel) 93 rfl
                      obtain ⟨xs, d, rfl⟩ := grow_of_below hH.below
                      clear hH
                      try simp only [World.grow_drew] at hK ⊢
                      try simp only [World.grow_grow] at hK ⊢
                      simp only [e93] at hK ⊢
                      clear e93
                      go_simp
                      go_wp2_with fail
                      exact ⟨_, rfl, rfl, (by repeat (first | exact below_of_grow _ _ | exact Below.refl _ _ | exact below_more _ _ _ _ | (simp only [← Array.append_assoc]; first | exact below_more _ _ _ _ | exact below_same _ _ _ | exact Below.refl _ _) | exact below_same _ _ _ | (refine Below.alloc ?_ (by first | (simp; done) | (simp; omega)) _) | (refine Below.grow ?_ (by first | (simp; done) | (simp; omega)) _ _) | refine Below.drew ?_ | refine Below.drewN ?_ _ | (refine Below.putF ?_ (by first | (simp; done) | omega | (simp; omega)) _) | (refine Below.setCell ?_ (by first | (simp; done) | (simp; omega)) _))), fun h => by cases h⟩
                    case o16 =>
                      intro x w1 hH K hK
                      have e92 : x 92 = _ := hH.holds 13 (by decide) (by decide +kernel) 92 rfl
                      have e94 : x 94 = _ := hH.holds 15 (by decide) (by decide +kernel) 94 rfl
                      obtain ⟨xs, d, rfl⟩ := grow_of_below hH.below
                      clear hH
                      try simp only [World.grow_drew] at hK ⊢
                      try simp only [World.grow_grow] at hK ⊢
                      simp only [e92, e94] at hK ⊢
                      clear e92 e94
                      go_simp
                      go_wp2_with fail
                      exact ⟨_, rfl, rfl, (by repeat (first | exact below_of_grow _ _ | exact Below.refl _ _ | exact below_more _ _ _ _ | (simp only [← Array.append_assoc]; first | exact below_more _ _ _ _ | exact below_same _ _ _ | exact Below.refl _ _) | exact below_same _ _ _ | (refine Below.alloc ?_ (by first | (simp; done) | (simp; omega)) _) | (refine Below.grow ?_ (by first | (simp; done) | (simp; omega)) _ _) | refine Below.drew ?_ | refine Below.drewN ?_ _ | (refine Below.putF ?_ (by first | (simp; done) | omega | (simp; omega)) _) | (refine Below.setCell ?_ (by first | (simp; done) | (simp; omega)) _))), fun h => by cases h⟩
                  case hend =>
                    intro x w1 hH
                    have e79 : x 79 = _ := hH.holds 0 (by decide) trivial 79 rfl
                    have e80 : x 80 = _ := hH.holds 1 (by decide) trivial 80 rfl
                    have e81 : x 81 = _ := hH.holds 2 (by decide) trivial 81 rfl
                    have e82 : x 82 = _ := hH.holds 3 (by decide) trivial 82 rfl
                    have e83 : x 83 = _ := hH.holds 4 (by decide) trivial 83 rfl
                    have e84 : x 84 = _ := hH.holds 5 (by decide) trivial 84 rfl
                    have e85 : x 85 = _ := hH.holds 6 (by decide) trivial 85 rfl
                    have e86 : x 86 = _ := hH.holds 7 (by decide) trivial 86 rfl
                    have e87 : x 87 = _ := hH.holds 8 (by decide) trivial 87 rfl
                    have e88 : x 88 = _ := hH.holds 9 (by decide) trivial 88 rfl
                    have e89 : x 89 = _ := hH.holds 10 (by decide) trivial 89 rfl
                    have e90 : x 90 = _ := hH.holds 11 (by decide) trivial 90 rfl
                    have e91 : x 91 = _ := hH.holds 12 (by decide) trivial 91 rfl
                    have e92 : x 92 = _ := hH.holds 13 (by decide) trivial 92 rfl
                    have e93 : x 93 = _ := hH.holds 14 (by decide) trivial 93 rfl
                    have e94 : x 94 = _ := hH.holds 15 (by decide) trivial 94 rfl
                    have e95 : x 95 = _ := hH.holds 16 (by decide) trivial 95 rfl
                    obtain ⟨xs, d, rfl⟩ := grow_of_below hH.below
                    clear hH
                    simp only [e79, e80, e81, e82, e83, e84, e85, e86, e87, e88, e89, e90, e91, e92, e93, e94, e95]; clear e79 e80 e81 e82 e83 e84 e85 e86 e87 e88 e89 e90 e91 e92 e93 e94 e95
                    simp only [List.drop_succ_cons, List.drop_zero]
                    go_wp2_with fail
                    go_roundw
                    case rel => exact ⟨(true, xa', bit, l) :: ps, r, xa', 54, _, _, rfl, rfl, HP.out.2.1, fun a fa => by rw [HP.out.2.2, CT.ins, if_pos hlt, if_pos (show bitB (keyBytes k) bit = true from hs)]; rfl, by rw [World.grow_drew, World.grow_grow]⟩
                    case measure => rw [HDR.out, HDP.out]; simp only [CT.depth]; omega
                · have hsd : sideI k.val bit = 0 := by simp [sideI, hs]
                  have HS1 := Lib.hid (HS.out bit hb200)
                  rw [hsd] at HS1
                  clear hsd
                  go_wp2_with fail
                  apply wp_region_specs (by rfl) [.val _, .val _, .val _, .val _, .val _, .val _, .val _, .val _, .val _, .val _, .val _, .val _, .val _, .val _, .val _, .val _, .val _] 17 (by rfl) [79, 80, 81, 82, 83, 84, 85, 86, 87, 88, 89, 90, 91, 92, 93, 94, 95] [] [] (by rfl) (by rfl) (by decide) (by decide +kernel) (fun _ _ _ _ _ h => h)
                  case hF => intro x; simp only [over, List.foldl_cons, List.foldl_nil, List.setIfInBounds_toArray, List.set_cons_succ, List.set_cons_zero]; exact rfl
                  case hops =>
                    refine ⟨?o0, ?o1, ?o2, ?o3, ?o4, ?o5, ?o6, ?o7, ?o8, ?o9, ?o10, ?o11, ?o12, ?o13, ?o14, ?o15, ?o16, trivial⟩
                    case o0 =>
                      intro x w1 hH K hK
                      obtain ⟨xs, d, rfl⟩ := grow_of_below hH.below
                      clear hH
                      try simp only [World.grow_drew] at hK ⊢
                      try simp only [World.grow_grow] at hK ⊢
                      go_simp
                      go_wp2_with fail
                      exact ⟨_, rfl, rfl, (by repeat (first | exact below_of_grow _ _ | exact Below.refl _ _ | exact below_more _ _ _ _ | (simp only [← Array.append_assoc]; first | exact below_more _ _ _ _ | exact below_same _ _ _ | exact Below.refl _ _) | exact below_same _ _ _ | (refine Below.alloc ?_ (by first | (simp; done) | (simp; omega)) _) | (refine Below.grow ?_ (by first | (simp; done) | (simp; omega)) _ _) | refine Below.drew ?_ | refine Below.drewN ?_ _ | (refine Below.putF ?_ (by first | (simp; done) | omega | (simp; omega)) _) | (refine Below.setCell ?_ (by first | (simp; done) | (simp; omega)) _))), fun h => by cases h⟩
                    case o1 =>
                      intro x w1 hH K hK
                      have e79 : x 79 = _ := hH.holds 0 (by decide) (by decide +kernel) 79 rfl
                      obtain ⟨xs, d, rfl⟩ := grow_of_below hH.below
                      clear hH
                      try simp only [World.grow_drew] at hK ⊢
                      try simp only [World.grow_grow] at hK ⊢
                      simp only [e79] at hK ⊢
                      clear e79
                      go_simp
                      go_wp2_with fail
                      exact ⟨_, rfl, rfl, (by repeat (first | exact below_of_grow _ _ | exact Below.refl _ _ | exact below_more _ _ _ _ | (simp only [← Array.append_assoc]; first | exact below_more _ _ _ _ | exact below_same _ _ _ | exact Below.refl _ _) | exact below_same _ _ _ | (refine Below.alloc ?_ (by first | (simp; done) | (simp; omega)) _) | (refine Below.grow ?_ (by first | (simp; done) | (simp; omega)) _ _) | refine Below.drew ?_ | refine Below.drewN ?_ _ | (refine Below.putF ?_ (by first | (simp; done) | omega | (simp; omega)) _) | (refine Below.setCell ?_ (by first | (simp; done) | (simp; omega)) _))), fun h => by cases h⟩
                    case o2 =>
                      intro x w1 hH K hK
                      have e80 : x 80 = _ := hH.holds 1 (by decide) (by decide +kernel) 80 rfl
                      obtain ⟨xs, d, rfl⟩ := grow_of_below hH.below
                      clear hH
                      try simp only [World.grow_drew] at hK ⊢
                      try simp only [World.grow_grow] at hK ⊢
                      simp only [e80] at hK ⊢
                      clear e80
                      go_simp
                      go_wp2_with fail
                      exact ⟨_, rfl, rfl, (by repeat (first | exact below_of_grow _ _ | exact Below.refl _ _ | exact below_more _ _ _ _ | (simp only [← Array.append_assoc]; first | exact below_more _ _ _ _ | exact below_same _ _ _ | exact Below.refl _ _) | exact below_same _ _ _ | (refine Below.alloc ?_ (by first | (simp; done) | (simp; omega)) _) | (refine Below.grow ?_ (by first | (simp; done) | (simp; omega)) _ _) | refine Below.drew ?_ | refine Below.drewN ?_ _ | (refine Below.putF ?_ (by first | (simp; done) | omega | (simp; omega)) _) | (refine Below.setCell ?_ (by first | (simp; done) | (simp; omega)) _))), fun h => by cases h⟩
                    case o3 =>
                      intro x w1 hH K hK
                      obtain ⟨xs, d, rfl⟩ := grow_of_below hH.below
                      clear hH
                      try simp only [World.grow_drew] at hK ⊢
                      try simp only [World.grow_grow] at hK ⊢
                      go_simp
                      go_wp2_with fail
                      exact ⟨_, rfl, rfl, (by repeat (first | exact below_of_grow _ _ | exact Below.refl _ _ | exact below_more _ _ _ _ | (simp only [← Array.append_assoc]; first | exact below_more _ _ _ _ | exact below_same _ _ _ | exact Below.refl _ _) | exact below_same _ _ _ | (refine Below.alloc ?_ (by first | (simp; done) | (simp; omega)) _) | (refine Below.grow ?_ (by first | (simp; done) | (simp; omega)) _ _) | refine Below.drew ?_ | refine Below.drewN ?_ _ | (refine Below.putF ?_ (by first | (simp; done) | omega | (simp; omega)) _) | (refine Below.setCell ?_ (by first | (simp; done) | (simp; omega)) _))), fun h => by cases h⟩
                    case o4 =>
                      intro x w1 hH K hK
                      have e82 : x 82 = _ := hH.holds 3 (by decide) (by decide +kernel) 82 rfl
                      obtain ⟨xs, d, rfl⟩ := grow_of_below hH.below
                      clear hH
                      try simp only [World.grow_drew] at hK ⊢
                      try simp only [World.grow_grow] at hK ⊢
                      simp only [e82] at hK ⊢
                      clear e82
                      go_simp
                      go_wp2_with fail
                      exact ⟨_, rfl, rfl, (by repeat (first | exact below_of_grow _ _ | exact Below.refl _ _ | exact below_more _ _ _ _ | (simp only [← Array.append_assoc]; first | exact below_more _ _ _ _ | exact below_same _ _ _ | exact Below.refl _ _) | exact below_same _ _ _ | (refine Below.alloc ?_ (by first | (simp; done) | (simp; omega)) _) | (refine Below.grow ?_ (by first | (simp; done) | (simp; omega)) _ _) | refine Below.drew ?_ | refine Below.drewN ?_ _ | (refine Below.putF ?_ (by first | (simp; done) | omega | (simp; omega)) _) | (refine Below.setCell ?_ (by first | (simp; done) | (simp; omega)) _))), fun h => by cases h⟩
                    case o5 =>
                      intro x w1 hH K hK
                      have e83 : x 83 = _ := hH.holds 4 (by decide) (by decide +kernel) 83 rfl
                      obtain ⟨xs, d, rfl⟩ := grow_of_below hH.below
                      clear hH
                      try simp only [World.grow_drew] at hK ⊢
                      try simp only [World.grow_grow] at hK ⊢
                      simp only [e83] at hK ⊢
                      clear e83
                      go_simp
                      go_wp2_with fail
                      exact ⟨_, rfl, rfl, (by repeat (first | exact below_of_grow _ _ | exact Below.refl _ _ | exact below_more _ _ _ _ | (simp only [← Array.append_assoc]; first | exact below_more _ _ _ _ | exact below_same _ _ _ | exact Below.refl _ _) | exact below_same _ _ _ | (refine Below.alloc ?_ (by first | (simp; done) | (simp; omega)) _) | (refine Below.grow ?_ (by first | (simp; done) | (simp; omega)) _ _) | refine Below.drew ?_ | refine Below.drewN ?_ _ | (refine Below.putF ?_ (by first | (simp; done) | omega | (simp; omega)) _) | (refine Below.setCell ?_ (by first | (simp; done) | (simp; omega)) _))), fun h => by cases h⟩
                    case o6 =>
                      intro x w1 hH K hK
                      have e84 : x 84 = _ := hH.holds 5 (by decide) (by decide +kernel) 84 rfl
                      obtain ⟨xs, d, rfl⟩ := grow_of_below hH.below
                      clear hH
                      try simp only [World.grow_drew] at hK ⊢
                      try simp only [World.grow_grow] at hK ⊢
                      simp only [e84] at hK ⊢
                      clear e84
                      go_simp
                      go_wp2_with fail
                      exact ⟨_, rfl, rfl, (by repeat (first | exact below_of_grow _ _ | exact Below.refl _ _ | exact below_more _ _ _ _ | (simp only [← Array.append_assoc]; first | exact below_more _ _ _ _ | exact below_same _ _ _ | exact Below.refl _ _) | exact below_same _ _ _ | (refine Below.alloc ?_ (by first | (simp; done) | (simp; omega)) _) | (refine Below.grow ?_ (by first | (simp; done) | (simp; omega)) _ _) | refine Below.drew ?_ | refine Below.drewN ?_ _ | (refine Below.putF ?_ (by first | (simp; done) | omega | (simp; omega)) _) | (refine Below.setCell ?_ (by first | (simp; done) | (simp; omega)) _))), fun h => by cases h⟩
                    case o7 =>
                      intro x w1 hH K hK
                      obtain ⟨xs, d, rfl⟩ := grow_of_below hH.below
                      clear hH
                      try simp only [World.grow_drew] at hK ⊢
                      try simp only [World.grow_grow] at hK ⊢
                      go_simp
                      go_wp2_with fail
                      exact ⟨_, rfl, rfl, (by repeat (first | exact below_of_grow _ _ | exact Below.refl _ _ | exact below_more _ _ _ _ | (simp only [← Array.append_assoc]; first | exact below_more _ _ _ _ | exact below_same _ _ _ | exact Below.refl _ _) | exact below_same _ _ _ | (refine Below.alloc ?_ (by first | (simp; done) | (simp; omega)) _) | (refine Below.grow ?_ (by first | (simp; done) | (simp; omega)) _ _) | refine Below.drew ?_ | refine Below.drewN ?_ _ | (refine Below.putF ?_ (by first | (simp; done) | omega | (simp; omega)) _) | (refine Below.setCell ?_ (by first | (simp; done) | (simp; omega)) _))), fun h => by cases h⟩
                    case o8 =>
                      intro x w1 hH K hK
                      have e86 : x 86 = _ := hH.holds 7 (by decide) (by decide +kernel) 86 rfl
                      obtain ⟨xs, d, rfl⟩ := grow_of_below hH.below
                      clear hH
                      try simp only [World.grow_drew] at hK ⊢
                      try simp only [World.grow_grow] at hK ⊢
                      simp only [e86] at hK ⊢
                      clear e86
                      go_simp
                      go_wp2_with fail
                      exact ⟨_, rfl, rfl, (by repeat (first | exact below_of_grow _ _ | exact Below.refl _ _ | exact below_more _ _ _ _ | (simp only [← Array.append_assoc]; first | exact below_more _ _ _ _ | exact below_same _ _ _ | exact Below.refl _ _) | exact below_same _ _ _ | (refine Below.alloc ?_ (by first | (simp; done) | (simp; omega)) _) | (refine Below.grow ?_ (by first | (simp; done) | (simp; omega)) _ _) | refine Below.drew ?_ | refine Below.drewN ?_ _ | (refine Below.putF ?_ (by first | (simp; done) | omega | (simp; omega)) _) | (refine Below.setCell ?_ (by first | (simp; done) | (simp; omega)) _))), fun h => by cases h⟩
                    case o9 =>
                      intro x w1 hH K hK
                      have e87 : x 87 = _ := hH.holds 8 (by decide) (by decide +kernel) 87 rfl
                      obtain ⟨xs, d, rfl⟩ := grow_of_below hH.below
                      clear hH
                      try simp only [World.grow_drew] at hK ⊢
                      try simp only [World.grow_grow] at hK ⊢
                      simp only [e87] at hK ⊢
                      clear e87
                      go_simp
                      go_wp2_with fail
                      exact ⟨_, rfl, rfl, (by repeat (first | exact below_of_grow _ _ | exact Below.refl _ _ | exact below_more _ _ _ _ | (simp only [← Array.append_assoc]; first | exact below_more _ _ _ _ | exact below_same _ _ _ | exact Below.refl _ _) | exact below_same _ _ _ | (refine Below.alloc ?_ (by first | (simp; done) | (simp; omega)) _) | (refine Below.grow ?_ (by first | (simp; done) | (simp; omega)) _ _) | refine Below.drew ?_ | refine Below.drewN ?_ _ | (refine Below.putF ?_ (by first | (simp; done) | omega | (simp; omega)) _) | (refine Below.setCell ?_ (by first | (simp; done) | (simp; omega)) _))), fun h => by cases h⟩
                    case o10 =>
                      intro x w1 hH K hK
                      have e88 : x 88 = _ := hH.holds 9 (by decide) (by decide +kernel) 88 rfl
                      obtain ⟨xs, d, rfl⟩ := grow_of_below hH.below
                      clear hH
                      try simp only [World.grow_drew] at hK ⊢
                      try simp only [World.grow_grow] at hK ⊢
                      simp only [e88] at hK ⊢
                      clear e88
                      go_simp
                      go_wp2_with fail
                      exact ⟨_, rfl, rfl, (by repeat (first | exact below_of_grow _ _ | exact Below.refl _ _ | exact below_more _ _ _ _ | (simp only [← Array.append_assoc]; first | exact below_more _ _ _ _ | exact below_same _ _ _ | exact Below.refl _ _) | exact below_same _ _ _ | (refine Below.alloc ?_ (by first | (simp; done) | (simp; omega)) _) | (refine Below.grow ?_ (by first | (simp; done) | (simp; omega)) _ _) | refine Below.drew ?_ | refine Below.drewN ?_ _ | (refine Below.putF ?_ (by first | (simp; done) | omega | (simp; omega)) _) | (refine Below.setCell ?_ (by first | (simp; done) | (simp; omega)) _))), fun h => by cases h⟩
                    case o11 =>
                      intro x w1 hH K hK
                      have e89 : x 89 = _ := hH.holds 10 (by decide) (by decide +kernel) 89 rfl
                      obtain ⟨xs, d, rfl⟩ := grow_of_below hH.below
                      clear hH
                      try simp only [World.grow_drew] at hK ⊢
                      try simp only [World.grow_grow] at hK ⊢
                      simp only [e89] at hK ⊢
                      clear e89
                      go_simp
                      go_wp2_with fail
                      exact ⟨_, rfl, rfl, (by repeat (first | exact below_of_grow _ _ | exact Below.refl _ _ | exact below_more _ _ _ _ | (simp only [← Array.append_assoc]; first | exact below_more _ _ _ _ | exact below_same _ _ _ | exact Below.refl _ _) | exact below_same _ _ _ | (refine Below.alloc ?_ (by first | (simp; done) | (simp; omega)) _) | (refine Below.grow ?_ (by first | (simp; done) | (simp; omega)) _ _) | refine Below.drew ?_ | refine Below.drewN ?_ _ | (refine Below.putF ?_ (by first | (simp; done) | omega | (simp; omega)) _) | (refine Below.setCell ?_ (by first | (simp; done) | (simp; omega)) _))), fun h => by cases h⟩
                    case o12 =>
                      intro x w1 hH K hK
                      have e90 : x 90 = _ := hH.holds 11 (by decide) (by decide +kernel) 90 rfl
                      obtain ⟨xs, d, rfl⟩ := grow_of_below hH.below
                      clear hH
                      try simp only [World.grow_drew] at hK ⊢
                      try simp only [World.grow_grow] at hK ⊢
                      simp only [e90] at hK ⊢
                      clear e90
                      go_simp
                      go_wp2_with fail
                      exact ⟨_, rfl, rfl, (by repeat (first | exact below_of_grow _ _ | exact Below.refl _ _ | exact below_more _ _ _ _ | (simp only [← Array.append_assoc]; first | exact below_more _ _ _ _ | exact below_same _ _ _ | exact Below.refl _ _) | exact below_same _ _ _ | (refine Below.alloc ?_ (by first | (simp; done) | (simp; omega)) _) | (refine Below.grow ?_ (by first | (simp; done) | (simp; omega)) _ _) | refine Below.drew ?_ | refine Below.drewN ?_ _ | (refine Below.putF ?_ (by first | (simp; done) | omega | (simp; omega)) _) | (refine Below.setCell ?_ (by first | (simp; done) | (simp; omega)) _))), fun h => by cases h⟩
                    case o13 =>
                      intro x w1 hH K hK
                      have e85 : x 85 = _ := hH.holds 6 (by decide) (by decide +kernel) 85 rfl
                      have e91 : x 91 = _ := hH.holds 12 (by decide) (by decide +kernel) 91 rfl
                      obtain ⟨xs, d, rfl⟩ := grow_of_below hH.below
                      clear hH
                      try simp only [World.grow_drew] at hK ⊢
                      try simp only [World.grow_grow] at hK ⊢
                      simp only [e85, e91] at hK ⊢
                      clear e85 e91
                      go_simp
                      go_wp2_with (refine Gives.use (HS1.out _) ?_; intro ys e)
                      exact ⟨_, rfl, rfl, (by first | exact below_more _ _ _ _ | exact (by repeat (first | exact below_of_grow _ _ | exact Below.refl _ _ | exact below_more _ _ _ _ | (simp only [← Array.append_assoc]; first | exact below_more _ _ _ _ | exact below_same _ _ _ | exact Below.refl _ _) | exact below_same _ _ _ | (refine Below.alloc ?_ (by first | (simp; done) | (simp; omega)) _) | (refine Below.grow ?_ (by first | (simp; done) | (simp; omega)) _ _) | refine Below.drew ?_ | refine Below.drewN ?_ _ | (refine Below.putF ?_ (by first | (simp; done) | omega | (simp; omega)) _) | (refine Below.setCell ?_ (by first | (simp; done) | (simp; omega)) _)))), fun h => by cases h⟩
                    case o14 =>
                      intro x w1 hH K hK
                      have e81 : x 81 = _ := hH.holds 2 (by decide) (by decide +kernel) 81 rfl
                      obtain ⟨xs, d, rfl⟩ := grow_of_below hH.below
                      clear hH
                      try simp only [World.grow_drew] at hK ⊢
                      try simp only [World.grow_grow] at hK ⊢
                      simp only [e81] at hK ⊢
                      clear e81
                      go_simp
                      go_wp2_with fail
                      exact ⟨_, rfl, rfl, (by repeat (first | exact below_of_grow _ _ | exact Below.refl _ _ | exact below_more _ _ _ _ | (simp only [← Array.append_assoc]; first | exact below_more _ _ _ _ | exact below_same _ _ _ | exact Below.refl _ _) | exact below_same _ _ _ | (refine Below.alloc ?_ (by first | (simp; done) | (simp; omega)) _) | (refine Below.grow ?_ (by first | (simp; done) | (simp; omega)) _ _) | refine Below.drew ?_ | refine Below.drewN ?_ _ | (refine Below.putF ?_ (by first | (simp; done) | omega | (simp; omega)) _) | (refine Below.setCell ?_ (by first | (simp; done) | (simp; omega)) _))), fun h => by cases h⟩
                    case o15 =>
                      intro x w1 hH K hK
                      have e93 : x 93 = _ := hH.holds 14 (by decide) (by decide +kernel) 93 rfl
                      obtain ⟨xs, d, rfl⟩ := grow_of_below hH.below
                      clear hH
                      try simp only [World.grow_drew] at hK ⊢
                      try simp only [World.grow_grow] at hK ⊢
                      simp only [e93] at hK ⊢
                      clear e93
                      go_simp
                      go_wp2_with fail
                      exact ⟨_, rfl, rfl, (by repeat (first | exact below_of_grow _ _ | exact Below.refl _ _ | exact below_more _ _ _ _ | (simp only [← Array.append_assoc]; first | exact below_more _ _ _ _ | exact below_same _ _ _ | exact Below.refl _ _) | exact below_same _ _ _ | (refine Below.alloc ?_ (by first | (simp; done) | (simp; omega)) _) | (refine Below.grow ?_ (by first | (simp; done) | (simp; omega)) _ _) | refine Below.drew ?_ | refine Below.drewN ?_ _ | (refine Below.putF ?_ (by first | (simp; done) | omega | (simp; omega)) _) | (refine Below.setCell ?_ (by first | (simp; done) | (simp; omega)) _))), fun h => by cases h⟩
                    case o16 =>
                      intro x w1 hH K hK
                      have e92 : x 92 = _ := hH.holds 13 (by decide) (by decide +kernel) 92 rfl
                      have e94 : x 94 = _ := hH.holds 15 (by decide) (by decide +kernel) 94 rfl
                      obtain ⟨xs, d, rfl⟩ := grow_of_below hH.below
                      clear hH
                      try simp only [World.grow_drew] at hK ⊢
                      try simp only [World.grow_grow] at hK ⊢
                      simp only [e92, e94] at hK ⊢
                      clear e92 e94
                      go_simp
                      go_wp2_with fail
                      exact ⟨_, rfl, rfl, (by repeat (first | exact below_of_grow _ _ | exact Below.refl _ _ | exact below_more _ _ _ _ | (simp only [← Array.append_assoc]; first | exact below_more _ _ _ _ | exact below_same _ _ _ | exact Below.refl _ _) | exact below_same _ _ _ | (refine Below.alloc ?_ (by first | (simp; done) | (simp; omega)) _) | (refine Below.grow ?_ (by first | (simp; done) | (simp; omega)) _ _) | refine Below.drew ?_ | refine Below.drewN ?_ _ | (refine Below.putF ?_ (by first | (simp; done) | omega | (simp; omega)) _) | (refine Below.setCell ?_ (by first | (simp; done) | (simp; omega)) _))), fun h => by cases h⟩
                  case hend =>
                    intro x w1 hH
                    have e79 : x 79 = _ := hH.holds 0 (by decide) trivial 79 rfl
                    have e80 : x 80 = _ := hH.holds 1 (by decide) trivial 80 rfl
                    have e81 : x 81 = _ := hH.holds 2 (by decide) trivial 81 rfl
                    have e82 : x 82 = _ := hH.holds 3 (by decide) trivial 82 rfl
                    have e83 : x 83 = _ := hH.holds 4 (by decide) trivial 83 rfl
                    have e84 : x 84 = _ := hH.holds 5 (by decide) trivial 84 rfl
                    have e85 : x 85 = _ := hH.holds 6 (by decide) trivial 85 rfl
                    have e86 : x 86 = _ := hH.holds 7 (by decide) trivial 86 rfl
                    have e87 : x 87 = _ := hH.holds 8 (by decide) trivial 87 rfl
                    have e88 : x 88 = _ := hH.holds 9 (by decide) trivial 88 rfl
                    have e89 : x 89 = _ := hH.holds 10 (by decide) trivial 89 rfl
                    have e90 : x 90 = _ := hH.holds 11 (by decide) trivial 90 rfl
                    have e91 : x 91 = _ := hH.holds 12 (by decide) trivial 91 rfl
                    have e92 : x 92 = _ := hH.holds 13 (by decide) trivial 92 rfl
                    have e93 : x 93 = _ := hH.holds 14 (by decide) trivial 93 rfl
                    have e94 : x 94 = _ := hH.holds 15 (by decide) trivial 94 rfl
                    have e95 : x 95 = _ := hH.holds 16 (by decide) trivial 95 rfl
                    obtain ⟨xs, d, rfl⟩ := grow_of_below hH.below
                    clear hH
                    simp only [e79, e80, e81, e82, e83, e84, e85, e86, e87, e88, e89, e90, e91, e92, e93, e94, e95]; clear e79 e80 e81 e82 e83 e84 e85 e86 e87 e88 e89 e90 e91 e92 e93 e94 e95
                    simp only [List.drop_succ_cons, List.drop_zero]
                    go_wp2_with fail
                    go_roundw
                    case rel => exact ⟨(false, xa', bit, r) :: ps, l, xa', 53, _, _, rfl, rfl, HP.out.2.1, fun a fa => by rw [HP.out.2.2, CT.ins, if_pos hlt, if_neg (show ¬ bitB (keyBytes k) bit = true from hs)]; rfl, by rw [World.grow_drew, World.grow_grow]⟩
                    case measure => rw [HDL.out, HDP.out]; simp only [CT.depth]; omega
              · clear hdep
                go_wp2_with fail
                go_meet
                case rel => exact ⟨ps, _, q, o, xs, d, rfl, Lib.hid ⟨HP.out.1, HP.out.2.1, fun a fa => by rw [HP.out.2.2, CT.ins, if_neg hlt]; rfl⟩, rfl⟩
        case rest =>
          obtain ⟨ps, X, q, o, xs, d, rfl, HP, rfl⟩ := hcut
          have hT : TreeAt V4 t (some (plug ps X)) m := by rw [HP.out.2.1]; exact H4.out.1
          have hcel := holder_cell hT
          rw [HP.out.1] at hcel
          obtain ⟨cq, fq, lq⟩ := hcel
          simp only [pt] at cq
          clear hT
          go_upto_region 18 with fail
          refine wp_name ?_
          intro V6 hV6
          have hb6 : Below V4.heap.size V4 V6 := by rw [hV6]; exact (by repeat (first | exact below_of_grow _ _ | exact Below.refl _ _ | exact below_more _ _ _ _ | (simp only [← Array.append_assoc]; first | exact below_more _ _ _ _ | exact below_same _ _ _ | exact Below.refl _ _) | exact below_same _ _ _ | (refine Below.alloc ?_ (by first | (simp; done) | (simp; omega)) _) | (refine Below.grow ?_ (by first | (simp; done) | (simp; omega)) _ _) | refine Below.drew ?_ | refine Below.drewN ?_ _ | (refine Below.putF ?_ (by first | (simp; done) | omega | (simp; omega)) _) | (refine Below.setCell ?_ (by first | (simp; done) | (simp; omega)) _)))
          obtain ⟨fa, hfa⟩ : ∃ fa, fa = V4.heap.size + xs.size := ⟨_, rfl⟩
          rw [← hfa]
          have hfl : V4.heap.size ≤ fa := by omega
          have hn6 : NodeAt V6 fa false (zeros 25) (zeros 25) (.pointer none) dd (.pointer none) (.pointer none) := by
            rw [hV6, hfa]
            exact (heap_al _ _ _).trans (if_pos (by simp))
          clear hV6 hfa
          have ck6 : V6.cut? b30 26 25 = some (row8 k.val) := (cut_of_heap (hb6.block _ l304) _ _).trans ck4
          have l306 : b30 < V6.heap.size := Nat.lt_of_lt_of_le l304 hb6.size
          have HS1 := Lib.hid (HS.out dd hd200 V6)
          have cq6 : V6.cell? ⟨q, o, none⟩ = some (.pointer (some ⟨X.at_, 0, none⟩)) := (hb6.cell (p := ⟨q, o, none⟩) lq).trans cq
          have fq6 : V6.frozen? ⟨q, o, none⟩ = false := (frozen_of_heap (hb6.block _ lq) _).trans fq
          have lq6 : q < V6.heap.size := Nat.lt_of_lt_of_le lq hb6.size
          have hqf : q ≠ fa := by intro e; have h1 : q < V4.heap.size := lq; omega
          have H6 := Lib.hid (And.intro hb6 hn6)
          clear hb6 hn6 cq fq
          by_cases hs : bitB k.val dd = true
          · have hsd : sideI k.val dd = 1 := by simp [sideI, hs]
            rw [hsd] at HS1
            have hins : ∀ a fa, T.ins keyBytes a k c fa dd = plug ps (.fork fa dd X (.leaf a k c)) := fun a fa => by rw [HP.out.2.2, if_pos hs]
            have HI := Lib.hid hins
            clear hs hsd hins HS
            go_wp2_with fail
            refine Gives.use HS1.out ?_
            intro xs7 d7
            go_upto_region 19 with fail
            refine wp_name ?_
            intro V7 hV7
            have hb7 : Below V6.heap.size V6 V7 := by rw [hV7]; exact below_of_grow _ _
            clear hV7 HS1 ck6
            have hn7 : NodeAt V7 fa false (zeros 25) (zeros 25) (.pointer none) dd (.pointer none) (.pointer none) := (hb7.block _ (lt_of_heap H6.out.2)).trans H6.out.2
            have cq7 : V7.cell? ⟨q, o, none⟩ = some (.pointer (some ⟨X.at_, 0, none⟩)) := (hb7.cell (p := ⟨q, o, none⟩) lq6).trans cq6
            have fq7 : V7.frozen? ⟨q, o, none⟩ = false := (frozen_of_heap (hb7.block _ lq6) _).trans fq6
            obtain ⟨_, _, _, c73, c74⟩ := hn7.cells (by simp [zeros]) (by simp [zeros])
            have f73 := (cells_of hn7 53).2
            have f74 := (cells_of hn7 54).2
            have l7 := lt_of_heap hn7
            have lq7 : q < V7.heap.size := Nat.lt_of_lt_of_le lq6 hb7.size
            have H7 := Lib.hid (And.intro H6.out.1 (And.intro hb7 hn7))
            clear H6 hb7 hn7 cq6 fq6 lq6 l306
            go_region
            go_upto_region 20 with fail
            refine wp_name ?_
            intro V8 hV8
            have hn8 : NodeAt V8 fa false (zeros 25) (zeros 25) (.pointer none) dd (pt X.at_) (pt b30) := by rw [hV8]; exact setCell_kid0 (setCell_kid1 H7.out.2.2 _) _
            have hb78 : But [fa] V7 V8 := by rw [hV8]; exact (But.setCell' V7 List.mem_cons_self _ _).trans ((But.setCell' _ List.mem_cons_self _ _).trans (But.of_below ((Below.refl _ _).drew) _))
            have l8 := lt_of_heap hn8
            have lq8 : q < V8.heap.size := Nat.lt_of_lt_of_le lq7 hb78.size
            have cq8 : V8.cell? ⟨q, o, none⟩ = some (.pointer (some ⟨X.at_, 0, none⟩)) := (cell_of_heap (hb78.same _ lq7 (by simpa using hqf)) _).trans cq7
            have fq8 : V8.frozen? ⟨q, o, none⟩ = false := (frozen_of_heap (hb78.same _ lq7 (by simpa using hqf)) _).trans fq7
            clear hV8 f73 f74 fq7 cq7 c73 c74 l7 lq7
            go_wp2_with fail
            go_ret
            have hb48 : Below V4.heap.size V4 V8 := (H7.out.1.trans (H7.out.2.1.mono H7.out.1.size)).trans ((hb78.below (B := V4.heap.size) (by intro b hb; simp at hb; omega) (Nat.le_trans H7.out.1.size H7.out.2.1.size)))
            have hT4 : TreeAt V4 t (some (plug ps X)) m := by rw [HP.out.2.1]; exact H4.out.1
            have hnd : (t :: (plug ps X).foot).Nodup := by rw [HP.out.2.1]; exact HND.out
            have hX8 : X.At V8 := (plug_at (hT4.2 _ rfl).1).keep fun b hb => hb48.block b ((plug_at (hT4.2 _ rfl).1).lt b hb)
            have hl8 : (CT.leaf b30 k c).At V8 := (hb48.block _ l304).trans H4.out.2.1
            have hY8 : CT.At V8 (.fork fa dd X (.leaf b30 k c)) := ⟨hn8, hX8, hl8⟩
            have hqt : q ∈ t :: (plug ps X).foot := by have := holder_in (t := t) (ps := ps) (X := X); rwa [HP.out.1] at this
            have hqw : q < w.heap.size := by
              rcases List.mem_cons.1 hqt with rfl | hm
              · exact hlt
              · rw [HP.out.2.1] at hm; exact HW.out.lt _ hm
            have hqY : q ∉ (.fork fa dd X (.leaf b30 k c) : CT K25).foot := by
              have h1 := holder_out hnd
              rw [HP.out.1] at h1
              simp only [CT.foot, List.mem_cons, List.mem_append, List.not_mem_nil, or_false, not_or]
              exact ⟨hqf, h1, by omega⟩
            have hfin := put_fin (Y := .fork fa dd X (.leaf b30 k c)) hT4 hnd hb48 hY8 (by rw [HP.out.1]; exact hqY)
            rw [HP.out.1] at hfin
            refine ⟨rfl, (H4.out.2.2.trans (But.of_below hb48 _)).trans (But.setCell' V8 (by rw [← HP.out.2.1]; exact hqt) _ _), b30, fa, m, hbl, by omega, by omega, ?_⟩
            have hput : putR (some T) k c b30 fa = plug ps (.fork fa dd X (.leaf b30 k c)) := by
              unfold putR
              simp only
              rw [← HUN.out.2, HI.out]
            rw [hput]
            refine ⟨hfin.1, fun T' hT' => ?_⟩
            obtain rfl := Option.some.inj hT'
            refine ⟨hfin.2, ?_⟩
            rw [← HI.out]
            exact ins_ok hd200 T (H4.out.1.2 T rfl).2 HUN.out.1.2.1 HUN.out.1.2.2
          · have hsd : sideI k.val dd = 0 := by simp [sideI, hs]
            rw [hsd] at HS1
            have hins : ∀ a fa, T.ins keyBytes a k c fa dd = plug ps (.fork fa dd (.leaf a k c) X) := fun a fa => by rw [HP.out.2.2, if_neg hs]
            have HI := Lib.hid hins
            clear hs hsd hins HS
            go_wp2_with fail
            refine Gives.use HS1.out ?_
            intro xs7 d7
            go_upto_region 19 with fail
            refine wp_name ?_
            intro V7 hV7
            have hb7 : Below V6.heap.size V6 V7 := by rw [hV7]; exact below_of_grow _ _
            clear hV7 HS1 ck6
            have hn7 : NodeAt V7 fa false (zeros 25) (zeros 25) (.pointer none) dd (.pointer none) (.pointer none) := (hb7.block _ (lt_of_heap H6.out.2)).trans H6.out.2
            have cq7 : V7.cell? ⟨q, o, none⟩ = some (.pointer (some ⟨X.at_, 0, none⟩)) := (hb7.cell (p := ⟨q, o, none⟩) lq6).trans cq6
            have fq7 : V7.frozen? ⟨q, o, none⟩ = false := (frozen_of_heap (hb7.block _ lq6) _).trans fq6
            obtain ⟨_, _, _, c73, c74⟩ := hn7.cells (by simp [zeros]) (by simp [zeros])
            have f73 := (cells_of hn7 53).2
            have f74 := (cells_of hn7 54).2
            have l7 := lt_of_heap hn7
            have lq7 : q < V7.heap.size := Nat.lt_of_lt_of_le lq6 hb7.size
            have H7 := Lib.hid (And.intro H6.out.1 (And.intro hb7 hn7))
            clear H6 hb7 hn7 cq6 fq6 lq6 l306
            go_region
            go_upto_region 20 with fail
            refine wp_name ?_
            intro V8 hV8
            have hn8 : NodeAt V8 fa false (zeros 25) (zeros 25) (.pointer none) dd (pt b30) (pt X.at_) := by rw [hV8]; exact setCell_kid1 (setCell_kid0 H7.out.2.2 _) _
            have hb78 : But [fa] V7 V8 := by rw [hV8]; exact (But.setCell' V7 List.mem_cons_self _ _).trans ((But.setCell' _ List.mem_cons_self _ _).trans (But.of_below ((Below.refl _ _).drew) _))
            have l8 := lt_of_heap hn8
            have lq8 : q < V8.heap.size := Nat.lt_of_lt_of_le lq7 hb78.size
            have cq8 : V8.cell? ⟨q, o, none⟩ = some (.pointer (some ⟨X.at_, 0, none⟩)) := (cell_of_heap (hb78.same _ lq7 (by simpa using hqf)) _).trans cq7
            have fq8 : V8.frozen? ⟨q, o, none⟩ = false := (frozen_of_heap (hb78.same _ lq7 (by simpa using hqf)) _).trans fq7
            clear hV8 f73 f74 fq7 cq7 c73 c74 l7 lq7
            go_wp2_with fail
            go_ret
            have hb48 : Below V4.heap.size V4 V8 := (H7.out.1.trans (H7.out.2.1.mono H7.out.1.size)).trans ((hb78.below (B := V4.heap.size) (by intro b hb; simp at hb; omega) (Nat.le_trans H7.out.1.size H7.out.2.1.size)))
            have hT4 : TreeAt V4 t (some (plug ps X)) m := by rw [HP.out.2.1]; exact H4.out.1
            have hnd : (t :: (plug ps X).foot).Nodup := by rw [HP.out.2.1]; exact HND.out
            have hX8 : X.At V8 := (plug_at (hT4.2 _ rfl).1).keep fun b hb => hb48.block b ((plug_at (hT4.2 _ rfl).1).lt b hb)
            have hl8 : (CT.leaf b30 k c).At V8 := (hb48.block _ l304).trans H4.out.2.1
            have hY8 : CT.At V8 (.fork fa dd (.leaf b30 k c) X) := ⟨hn8, hl8, hX8⟩
            have hqt : q ∈ t :: (plug ps X).foot := by have := holder_in (t := t) (ps := ps) (X := X); rwa [HP.out.1] at this
            have hqw : q < w.heap.size := by
              rcases List.mem_cons.1 hqt with rfl | hm
              · exact hlt
              · rw [HP.out.2.1] at hm; exact HW.out.lt _ hm
            have hqY : q ∉ (.fork fa dd (.leaf b30 k c) X : CT K25).foot := by
              have h1 := holder_out hnd
              rw [HP.out.1] at h1
              simp only [CT.foot, List.mem_cons, List.mem_append, List.not_mem_nil, or_false, not_or]
              exact ⟨hqf, by omega, h1⟩
            have hfin := put_fin (Y := .fork fa dd (.leaf b30 k c) X) hT4 hnd hb48 hY8 (by rw [HP.out.1]; exact hqY)
            rw [HP.out.1] at hfin
            refine ⟨rfl, (H4.out.2.2.trans (But.of_below hb48 _)).trans (But.setCell' V8 (by rw [← HP.out.2.1]; exact hqt) _ _), b30, fa, m, hbl, by omega, by omega, ?_⟩
            have hput : putR (some T) k c b30 fa = plug ps (.fork fa dd (.leaf b30 k c) X) := by
              unfold putR
              simp only
              rw [← HUN.out.2, HI.out]
            rw [hput]
            refine ⟨hfin.1, fun T' hT' => ?_⟩
            obtain rfl := Option.some.inj hT'
            refine ⟨hfin.2, ?_⟩
            rw [← HI.out]
            exact ins_ok hd200 T (H4.out.1.2 T rfl).2 HUN.out.1.2.1 HUN.out.1.2.2
end Go.Proofs.YtfmphfidloobkaaGreatDoor

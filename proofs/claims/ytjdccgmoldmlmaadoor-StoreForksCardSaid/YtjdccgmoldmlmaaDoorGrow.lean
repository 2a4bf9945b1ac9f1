/- A world that has grown by new blocks alone: the word 'grow', and how cells, stores and new blocks read behind it. -/
import Derived.Test.YtjdccgmoldmlmaaDoorRows
import Derived.WalkKit
import Derived.WalkSpells
import Derived.WalkLawsBesides
import Derived.Deep.RegionHeld3
import Derived.Deep.QuietTactic
import Derived.BigQuiet
import Derived.Deep.DeepMust
import Derived.Deep.Light
import Derived.Deep.DeepCutAuto
namespace Go.Proofs.YtjdccgmoldmlmaaDoor
open Go.RowKit

/-- the world with more blocks behind its own, and another count of draws -/
def _root_.Go.World.grow (w : World) (xs : Array Obj) (d : Nat) : World := { w with heap := w.heap ++ xs, drawn := d }

section
variable {w : World}
@[go_sem, simp] theorem _root_.Go.World.grow_size (xs : Array Obj) (d : Nat) : (w.grow xs d).heap.size = w.heap.size + xs.size := by
  simp [World.grow]
@[go_sem, simp] theorem _root_.Go.World.grow_grow (xs ys : Array Obj) (d e : Nat) : (w.grow xs d).grow ys e = w.grow (xs ++ ys) e := by
  simp [World.grow]
@[go_sem] theorem _root_.Go.World.grow_drew (xs : Array Obj) (d : Nat) : w.drew.grow xs d = w.grow xs d := rfl
@[go_sem] theorem _root_.Go.World.drew_grow (xs : Array Obj) (d : Nat) : (w.grow xs d).drew = w.grow xs (d + 1) := rfl
@[go_sem] theorem _root_.Go.World.grow_drewN (xs : Array Obj) (d n : Nat) : (w.grow xs d).drewN n = w.grow xs (d + n) := rfl
theorem _root_.Go.RowKit.Below.drewN {B : Nat} {a w : World} (h : Below B a w) (n : Nat) : Below B a (w.drewN n) := ⟨h.os, h.tape, h.output, h.size, h.block⟩
@[go_sem] theorem _root_.Go.World.setCell_drewN (a : Addr) (v : Value) (n : Nat) : (w.drewN n).setCell a v = (w.setCell a v).drewN n := rfl
theorem _root_.Go.World.grow_nil : w.grow #[] w.drawn = w := by simp [World.grow]
theorem _root_.Go.World.grow_heap (xs : Array Obj) (d n : Nat) (hn : n < w.heap.size) : (w.grow xs d).heap[n]? = w.heap[n]? := by
  simp [World.grow, Array.getElem?_append, hn]
@[go_sem] theorem _root_.Go.World.cell?_grow (xs : Array Obj) (d n i : Nat) (hn : n < w.heap.size) : (w.grow xs d).cell? ⟨n, i, none⟩ = w.cell? ⟨n, i, none⟩ := by
  simp [World.cell?, World.grow_heap xs d n hn]
@[go_sem] theorem _root_.Go.World.frozen?_grow (xs : Array Obj) (d n i : Nat) (hn : n < w.heap.size) : (w.grow xs d).frozen? ⟨n, i, none⟩ = w.frozen? ⟨n, i, none⟩ := by
  simp [World.frozen?, World.grow_heap xs d n hn]
@[go_sem] theorem _root_.Go.World.setCell_grow (xs : Array Obj) (d n i : Nat) (v : Value) (hn : n < w.heap.size) :
    (w.grow xs d).setCell ⟨n, i, none⟩ v = (w.setCell ⟨n, i, none⟩ v).grow xs d := by
  unfold World.setCell World.grow
  simp only
  congr 1
  apply Array.ext_getElem?
  intro k
  simp only [Array.getElem?_modify, Array.getElem?_append, Array.size_modify]
  by_cases hk : k = n
  · subst hk; simp [hn]
  · by_cases h2 : k < w.heap.size
    · simp [h2]
    · simp [h2]; intro h; omega
theorem grow_of_below {w' : World} (h : Below w.heap.size w w') : ∃ xs d, w' = w.grow xs d := by
  refine ⟨w'.heap.extract w.heap.size w'.heap.size, w'.drawn, ?_⟩
  obtain ⟨h1, h2, h3, h4, h5⟩ := h
  cases w; cases w'
  simp only at h1 h2 h3 h4 h5
  subst h1 h2 h3
  simp only [World.grow, World.mk.injEq, and_true]
  apply Array.ext_getElem?
  intro k
  rw [Array.getElem?_append]
  split
  · exact h5 k (by assumption)
  · rw [Array.getElem?_extract]
    split
    · congr 1; omega
    · rw [Array.getElem?_eq_none]; omega
theorem below_of_grow (xs : Array Obj) (d : Nat) : Below w.heap.size w (w.grow xs d) :=
  ⟨rfl, rfl, rfl, by simp, fun _ h => World.grow_heap _ _ _ h⟩
theorem below_more (xs ys : Array Obj) (d e : Nat) : Below (w.grow xs d).heap.size (w.grow xs d) (w.grow (xs ++ ys) e) := by
  rw [← World.grow_grow xs ys d e]; exact below_of_grow _ _
theorem below_same (xs : Array Obj) (d e : Nat) : Below (w.grow xs d).heap.size (w.grow xs d) (w.grow xs e) := by
  have := below_more (w := w) xs #[] d e
  simpa using this
theorem _root_.Go.RowKit.Below.grow {B : Nat} {a w : World} (h : Below B a w) (hB : B ≤ w.heap.size) (xs : Array Obj) (d : Nat) : Below B a (w.grow xs d) :=
  h.trans ((below_of_grow xs d).mono hB)
end

/-! a block's number is below the size of every later heap: one rule for each number of summands behind it -/
@[go_sem] theorem ltg0 (x : Nat) : (x < x + 1) = True := by simp only [eq_iff_iff, iff_true]; omega
@[go_sem] theorem ltg1 (x : Nat) (t0 : Nat) : (x < x + 1 + t0) = True := by simp only [eq_iff_iff, iff_true]; omega
@[go_sem] theorem ltg2 (x : Nat) (t0 t1 : Nat) : (x < x + 1 + t0 + t1) = True := by simp only [eq_iff_iff, iff_true]; omega
@[go_sem] theorem ltg3 (x : Nat) (t0 t1 t2 : Nat) : (x < x + 1 + t0 + t1 + t2) = True := by simp only [eq_iff_iff, iff_true]; omega
@[go_sem] theorem ltg4 (x : Nat) (t0 t1 t2 t3 : Nat) : (x < x + 1 + t0 + t1 + t2 + t3) = True := by simp only [eq_iff_iff, iff_true]; omega
@[go_sem] theorem ltg5 (x : Nat) (t0 t1 t2 t3 t4 : Nat) : (x < x + 1 + t0 + t1 + t2 + t3 + t4) = True := by simp only [eq_iff_iff, iff_true]; omega
@[go_sem] theorem ltg6 (x : Nat) (t0 t1 t2 t3 t4 t5 : Nat) : (x < x + 1 + t0 + t1 + t2 + t3 + t4 + t5) = True := by simp only [eq_iff_iff, iff_true]; omega
@[go_sem] theorem ltg7 (x : Nat) (t0 t1 t2 t3 t4 t5 t6 : Nat) : (x < x + 1 + t0 + t1 + t2 + t3 + t4 + t5 + t6) = True := by simp only [eq_iff_iff, iff_true]; omega
@[go_sem] theorem ltg8 (x : Nat) (t0 t1 t2 t3 t4 t5 t6 t7 : Nat) : (x < x + 1 + t0 + t1 + t2 + t3 + t4 + t5 + t6 + t7) = True := by simp only [eq_iff_iff, iff_true]; omega
@[go_sem] theorem ltg9 (x : Nat) (t0 t1 t2 t3 t4 t5 t6 t7 t8 : Nat) : (x < x + 1 + t0 + t1 + t2 + t3 + t4 + t5 + t6 + t7 + t8) = True := by simp only [eq_iff_iff, iff_true]; omega
@[go_sem] theorem ltg10 (x : Nat) (t0 t1 t2 t3 t4 t5 t6 t7 t8 t9 : Nat) : (x < x + 1 + t0 + t1 + t2 + t3 + t4 + t5 + t6 + t7 + t8 + t9) = True := by simp only [eq_iff_iff, iff_true]; omega
@[go_sem] theorem ltg11 (x : Nat) (t0 t1 t2 t3 t4 t5 t6 t7 t8 t9 t10 : Nat) : (x < x + 1 + t0 + t1 + t2 + t3 + t4 + t5 + t6 + t7 + t8 + t9 + t10) = True := by simp only [eq_iff_iff, iff_true]; omega
@[go_sem] theorem ltg12 (x : Nat) (t0 t1 t2 t3 t4 t5 t6 t7 t8 t9 t10 t11 : Nat) : (x < x + 1 + t0 + t1 + t2 + t3 + t4 + t5 + t6 + t7 + t8 + t9 + t10 + t11) = True := by simp only [eq_iff_iff, iff_true]; omega
@[go_sem] theorem ltg13 (x : Nat) (t0 t1 t2 t3 t4 t5 t6 t7 t8 t9 t10 t11 t12 : Nat) : (x < x + 1 + t0 + t1 + t2 + t3 + t4 + t5 + t6 + t7 + t8 + t9 + t10 + t11 + t12) = True := by simp only [eq_iff_iff, iff_true]; omega
@[go_sem] theorem ltg14 (x : Nat) (t0 t1 t2 t3 t4 t5 t6 t7 t8 t9 t10 t11 t12 t13 : Nat) : (x < x + 1 + t0 + t1 + t2 + t3 + t4 + t5 + t6 + t7 + t8 + t9 + t10 + t11 + t12 + t13) = True := by simp only [eq_iff_iff, iff_true]; omega
@[go_sem] theorem ltg15 (x : Nat) (t0 t1 t2 t3 t4 t5 t6 t7 t8 t9 t10 t11 t12 t13 t14 : Nat) : (x < x + 1 + t0 + t1 + t2 + t3 + t4 + t5 + t6 + t7 + t8 + t9 + t10 + t11 + t12 + t13 + t14) = True := by simp only [eq_iff_iff, iff_true]; omega
@[go_sem] theorem ltg16 (x : Nat) (t0 t1 t2 t3 t4 t5 t6 t7 t8 t9 t10 t11 t12 t13 t14 t15 : Nat) : (x < x + 1 + t0 + t1 + t2 + t3 + t4 + t5 + t6 + t7 + t8 + t9 + t10 + t11 + t12 + t13 + t14 + t15) = True := by simp only [eq_iff_iff, iff_true]; omega
@[go_sem] theorem ltg17 (x : Nat) (t0 t1 t2 t3 t4 t5 t6 t7 t8 t9 t10 t11 t12 t13 t14 t15 t16 : Nat) : (x < x + 1 + t0 + t1 + t2 + t3 + t4 + t5 + t6 + t7 + t8 + t9 + t10 + t11 + t12 + t13 + t14 + t15 + t16) = True := by simp only [eq_iff_iff, iff_true]; omega
@[go_sem] theorem ltg18 (x : Nat) (t0 t1 t2 t3 t4 t5 t6 t7 t8 t9 t10 t11 t12 t13 t14 t15 t16 t17 : Nat) : (x < x + 1 + t0 + t1 + t2 + t3 + t4 + t5 + t6 + t7 + t8 + t9 + t10 + t11 + t12 + t13 + t14 + t15 + t16 + t17) = True := by simp only [eq_iff_iff, iff_true]; omega
@[go_sem] theorem ltg19 (x : Nat) (t0 t1 t2 t3 t4 t5 t6 t7 t8 t9 t10 t11 t12 t13 t14 t15 t16 t17 t18 : Nat) : (x < x + 1 + t0 + t1 + t2 + t3 + t4 + t5 + t6 + t7 + t8 + t9 + t10 + t11 + t12 + t13 + t14 + t15 + t16 + t17 + t18) = True := by simp only [eq_iff_iff, iff_true]; omega
@[go_sem] theorem ltg20 (x : Nat) (t0 t1 t2 t3 t4 t5 t6 t7 t8 t9 t10 t11 t12 t13 t14 t15 t16 t17 t18 t19 : Nat) : (x < x + 1 + t0 + t1 + t2 + t3 + t4 + t5 + t6 + t7 + t8 + t9 + t10 + t11 + t12 + t13 + t14 + t15 + t16 + t17 + t18 + t19) = True := by simp only [eq_iff_iff, iff_true]; omega
@[go_sem] theorem ltg21 (x : Nat) (t0 t1 t2 t3 t4 t5 t6 t7 t8 t9 t10 t11 t12 t13 t14 t15 t16 t17 t18 t19 t20 : Nat) : (x < x + 1 + t0 + t1 + t2 + t3 + t4 + t5 + t6 + t7 + t8 + t9 + t10 + t11 + t12 + t13 + t14 + t15 + t16 + t17 + t18 + t19 + t20) = True := by simp only [eq_iff_iff, iff_true]; omega
@[go_sem] theorem ltg22 (x : Nat) (t0 t1 t2 t3 t4 t5 t6 t7 t8 t9 t10 t11 t12 t13 t14 t15 t16 t17 t18 t19 t20 t21 : Nat) : (x < x + 1 + t0 + t1 + t2 + t3 + t4 + t5 + t6 + t7 + t8 + t9 + t10 + t11 + t12 + t13 + t14 + t15 + t16 + t17 + t18 + t19 + t20 + t21) = True := by simp only [eq_iff_iff, iff_true]; omega
@[go_sem] theorem ltg23 (x : Nat) (t0 t1 t2 t3 t4 t5 t6 t7 t8 t9 t10 t11 t12 t13 t14 t15 t16 t17 t18 t19 t20 t21 t22 : Nat) : (x < x + 1 + t0 + t1 + t2 + t3 + t4 + t5 + t6 + t7 + t8 + t9 + t10 + t11 + t12 + t13 + t14 + t15 + t16 + t17 + t18 + t19 + t20 + t21 + t22) = True := by simp only [eq_iff_iff, iff_true]; omega
@[go_sem] theorem ltg24 (x : Nat) (t0 t1 t2 t3 t4 t5 t6 t7 t8 t9 t10 t11 t12 t13 t14 t15 t16 t17 t18 t19 t20 t21 t22 t23 : Nat) : (x < x + 1 + t0 + t1 + t2 + t3 + t4 + t5 + t6 + t7 + t8 + t9 + t10 + t11 + t12 + t13 + t14 + t15 + t16 + t17 + t18 + t19 + t20 + t21 + t22 + t23) = True := by simp only [eq_iff_iff, iff_true]; omega
@[go_sem] theorem ltg25 (x : Nat) (t0 t1 t2 t3 t4 t5 t6 t7 t8 t9 t10 t11 t12 t13 t14 t15 t16 t17 t18 t19 t20 t21 t22 t23 t24 : Nat) : (x < x + 1 + t0 + t1 + t2 + t3 + t4 + t5 + t6 + t7 + t8 + t9 + t10 + t11 + t12 + t13 + t14 + t15 + t16 + t17 + t18 + t19 + t20 + t21 + t22 + t23 + t24) = True := by simp only [eq_iff_iff, iff_true]; omega
/-! the same, from what is known of a block's number -/
@[go_sem] theorem ltc1 {x s : Nat} (h : x < s) (t0 : Nat) : (x < s + t0) = True := by simp only [eq_iff_iff, iff_true]; omega
@[go_sem] theorem ltc2 {x s : Nat} (h : x < s) (t0 t1 : Nat) : (x < s + t0 + t1) = True := by simp only [eq_iff_iff, iff_true]; omega
@[go_sem] theorem ltc3 {x s : Nat} (h : x < s) (t0 t1 t2 : Nat) : (x < s + t0 + t1 + t2) = True := by simp only [eq_iff_iff, iff_true]; omega
@[go_sem] theorem ltc4 {x s : Nat} (h : x < s) (t0 t1 t2 t3 : Nat) : (x < s + t0 + t1 + t2 + t3) = True := by simp only [eq_iff_iff, iff_true]; omega
@[go_sem] theorem ltc5 {x s : Nat} (h : x < s) (t0 t1 t2 t3 t4 : Nat) : (x < s + t0 + t1 + t2 + t3 + t4) = True := by simp only [eq_iff_iff, iff_true]; omega
@[go_sem] theorem ltc6 {x s : Nat} (h : x < s) (t0 t1 t2 t3 t4 t5 : Nat) : (x < s + t0 + t1 + t2 + t3 + t4 + t5) = True := by simp only [eq_iff_iff, iff_true]; omega
@[go_sem] theorem ltc7 {x s : Nat} (h : x < s) (t0 t1 t2 t3 t4 t5 t6 : Nat) : (x < s + t0 + t1 + t2 + t3 + t4 + t5 + t6) = True := by simp only [eq_iff_iff, iff_true]; omega
@[go_sem] theorem ltc8 {x s : Nat} (h : x < s) (t0 t1 t2 t3 t4 t5 t6 t7 : Nat) : (x < s + t0 + t1 + t2 + t3 + t4 + t5 + t6 + t7) = True := by simp only [eq_iff_iff, iff_true]; omega
@[go_sem] theorem ltc9 {x s : Nat} (h : x < s) (t0 t1 t2 t3 t4 t5 t6 t7 t8 : Nat) : (x < s + t0 + t1 + t2 + t3 + t4 + t5 + t6 + t7 + t8) = True := by simp only [eq_iff_iff, iff_true]; omega
@[go_sem] theorem ltc10 {x s : Nat} (h : x < s) (t0 t1 t2 t3 t4 t5 t6 t7 t8 t9 : Nat) : (x < s + t0 + t1 + t2 + t3 + t4 + t5 + t6 + t7 + t8 + t9) = True := by simp only [eq_iff_iff, iff_true]; omega
@[go_sem] theorem ltc11 {x s : Nat} (h : x < s) (t0 t1 t2 t3 t4 t5 t6 t7 t8 t9 t10 : Nat) : (x < s + t0 + t1 + t2 + t3 + t4 + t5 + t6 + t7 + t8 + t9 + t10) = True := by simp only [eq_iff_iff, iff_true]; omega
@[go_sem] theorem ltc12 {x s : Nat} (h : x < s) (t0 t1 t2 t3 t4 t5 t6 t7 t8 t9 t10 t11 : Nat) : (x < s + t0 + t1 + t2 + t3 + t4 + t5 + t6 + t7 + t8 + t9 + t10 + t11) = True := by simp only [eq_iff_iff, iff_true]; omega

/-- the world under a name of its own -/
theorem wp_name {P : Program} {c : Code} {Q : Exit → Act → World → Prop} {a : Act} {w : World} (h : ∀ W, W = w → c.wp P Q a W) : c.wp P Q a w := h w rfl
/-- what a call of a function does that touches nothing: it gives v, and memory has grown -/
def Gives (P : Program) (f : Nat) (args : Array Value) (w : World) (v : Value) : Prop :=
  Calls P f args w fun e w' => e = .returned v ∧ Below w.heap.size w w'
theorem Gives.use {P : Program} {f : Nat} {args : Array Value} {w : World} {v : Value} (h : Gives P f args w v) {Q : Ending → World → Prop}
    (hq : ∀ xs d, Q (.returned v) (w.grow xs d)) : Calls P f args w Q :=
  Calls.mono h fun e w' ⟨he, hb⟩ => by
    obtain ⟨xs, d, rfl⟩ := grow_of_below hb
    subst he
    exact hq xs d
theorem ret_int {k : IntKind} {a b : Int} (h : a = b) : Ending.returned (.int k a) = .returned (.int k b) := by rw [h]
theorem ret_bool {a b : Bool} (h : a = b) : Ending.returned (.bool a) = .returned (.bool b) := by rw [h]
theorem ret_string {a b : ByteArray} (h : a = b) : Ending.returned (.string a) = .returned (.string b) := by rw [h]
end Go.Proofs.YtjdccgmoldmlmaaDoor

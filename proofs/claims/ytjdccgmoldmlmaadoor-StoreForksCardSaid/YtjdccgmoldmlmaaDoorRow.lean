/- Whole rows: a struct or an array is loaded and stored in one step, however many cells it has. -/
import Derived.Test.YtjdccgmoldmlmaaDoorSpec
namespace Go.Proofs.YtjdccgmoldmlmaaDoor
open Go.RowKit

attribute [go_sem] Value.oneCell'

/-- the number of a struct's or array's cells -/
def _root_.Go.Program.aggSize (P : Program) (t : TypeId) : Option Nat :=
  match P.underlying t with
  | some (.struct _) | some (.array _ _) => (P.info? t).map (·.size)
  | _ => none
/-- sz cells from place o of block n -/
def _root_.Go.World.cut? (w : World) (n o sz : Nat) : Option (Array Value) :=
  match w.heap[n]? with
  | some (.cells c _ _) => if o + sz ≤ c.size then some (c.extract o (o + sz)) else none
  | _ => none
/-- block n has cells up to o + sz, and is not frozen -/
def _root_.Go.World.there? (w : World) (n o sz : Nat) : Bool :=
  match w.heap[n]? with
  | some (.cells c _ (0, 0)) => decide (o + sz ≤ c.size)
  | _ => false
def spliceA (c : Array Value) (o : Nat) (vs : Array Value) : Array Value := c.extract 0 o ++ vs ++ c.extract (o + vs.size) c.size
/-- the cells vs laid from place o of block n on -/
def _root_.Go.World.lay (w : World) (n o : Nat) (vs : Array Value) : World :=
  { w with heap := w.heap.modify n fun
      | .cells c t fr => .cells (spliceA c o vs) t fr
      | x => x }

section
variable {P : Program} {w : World}

theorem spliceA_size {c : Array Value} {o : Nat} {vs : Array Value} (h : o + vs.size ≤ c.size) : (spliceA c o vs).size = c.size := by
  simp [spliceA]; omega
theorem spliceA_get {c : Array Value} {o : Nat} {vs : Array Value} (h : o + vs.size ≤ c.size) (k : Nat) : (spliceA c o vs)[k]? = if o ≤ k ∧ k < o + vs.size then vs[k - o]? else c[k]? := by
  unfold spliceA
  rw [Array.getElem?_append, Array.getElem?_append]
  simp only [Array.size_append, Array.size_extract]
  have e1 : min o c.size - 0 = o := by omega
  rw [e1]
  by_cases h1 : k < o
  · rw [if_pos (by omega), if_pos h1, if_neg (by omega), Array.getElem?_extract]
    rw [if_pos (by omega)]; congr 1; omega
  · by_cases h2 : k < o + vs.size
    · rw [if_pos h2, if_neg h1, if_pos ⟨by omega, h2⟩]
    · rw [if_neg h2, if_neg (by omega), Array.getElem?_extract]
      split
      · congr 1; omega
      · rw [Array.getElem?_eq_none (by omega)]
theorem splice_full {c vs : Array Value} (h : vs.size = c.size) : spliceA c 0 vs = vs := by
  apply Array.ext_getElem?
  intro k
  rw [spliceA_get (by omega)]
  split
  · simp
  · rw [Array.getElem?_eq_none (by omega), Array.getElem?_eq_none (by omega)]
theorem splice_one {c : Array Value} {o : Nat} {v : Value} (h : o < c.size) : spliceA c o #[v] = c.setIfInBounds o v := by
  apply Array.ext_getElem?
  intro k
  rw [spliceA_get (by simp; omega)]
  by_cases hk : o = k
  · subst hk
    rw [Array.getElem?_setIfInBounds_self_of_lt h]; simp
  · rw [Array.getElem?_setIfInBounds_ne hk, if_neg (by simp; omega)]

theorem cut_spec {n o sz : Nat} {cs : Array Value} (h : w.cut? n o sz = some cs) : cs.size = sz ∧ ∀ j, j < sz → w.cell? ⟨n, o + j, none⟩ = cs[j]? := by
  unfold World.cut? at h
  split at h
  · rename_i c t fr hc
    split at h
    · rename_i hle
      simp at h; subst h
      refine ⟨by rw [Array.size_extract]; omega, fun j hj => ?_⟩
      simp only [World.cell?, hc]
      rw [if_neg (by simp), Array.getElem?_extract, if_pos (by omega)]
    · cases h
  · cases h

theorem addr_add (n o j : Nat) : (⟨n, o, none⟩ : Addr).add j = ⟨n, o + j, none⟩ := by
  unfold Addr.add; split
  · subst_vars; rfl
  · rfl

theorem run_isAgg {t : TypeId} {sz : Nat} (h : P.aggSize t = some sz) (w : World) : (isAgg t).run P w = .ok true w ∧ (sizeOf t).run P w = .ok sz w := by
  unfold Program.aggSize at h
  split at h
  · rename_i fs hu
    simp only [Option.map_eq_some_iff] at h
    obtain ⟨i, hi, rfl⟩ := h
    exact ⟨by simp [isAgg, run_underlying hu], by simp [sizeOf, typeInfo, hi]⟩
  · rename_i m e hu
    simp only [Option.map_eq_some_iff] at h
    obtain ⟨i, hi, rfl⟩ := h
    exact ⟨by simp [isAgg, run_underlying hu], by simp [sizeOf, typeInfo, hi]⟩
  · cases h

theorem run_load_cut {t : TypeId} {sz n o : Nat} {cs : Array Value} (ht : P.aggSize t = some sz) (hc : w.cut? n o sz = some cs) :
    (loadVar t ⟨n, o, none⟩).run P w = .ok (.agg cs) w := by
  obtain ⟨h1, h2⟩ := cut_spec hc
  obtain ⟨ha, hs⟩ := run_isAgg ht w
  have hl : (loadCells ⟨n, o, none⟩ cs.toList.length).run P w = .ok cs.toList.toArray w :=
    run_loadCells_list (P := P) w ⟨n, o, none⟩ cs.toList (fun j v hv => by
      have hj : j < cs.size := by have := (List.getElem?_eq_some_iff.1 hv).1; simpa using this
      rw [addr_add, h2 j (by omega)]
      simpa using hv)
  simp only [Array.length_toList, Array.toArray_toList, h1] at hl
  simp [loadVar, Sem.run_bind, ha, hs, hl]

/-- the words for a row: for a type of many cells lay '@[go_sem ↓ high] theorem .. : loadVar T a = rowLoad T a := rfl' (rowStore likewise) and the number of its cells -/
def rowLoad (t : TypeId) (a : Addr) : Sem Value := loadVar t a
def rowStore (t : TypeId) (a : Addr) (v : Value) : Sem Unit := storeVar t a v
/-- a load of a struct or array: one step -/
@[go_sem] theorem run_rowLoad {t : TypeId} {n o : Nat} (ht : (P.aggSize t).isSome = true) (hc : (w.cut? n o ((P.aggSize t).getD 0)).isSome = true) :
    (rowLoad t ⟨n, o, none⟩).run P w = .ok (.agg ((w.cut? n o ((P.aggSize t).getD 0)).getD #[])) w := by
  obtain ⟨sz, hs⟩ := Option.isSome_iff_exists.1 ht
  rw [hs] at hc ⊢
  obtain ⟨cs, hcs⟩ := Option.isSome_iff_exists.1 hc
  simp only [Option.getD_some] at hcs ⊢
  rw [hcs]
  exact run_load_cut hs hcs

theorem there_spec {n o sz : Nat} (h : w.there? n o sz = true) : ∃ c t, w.heap[n]? = some (.cells c t (0, 0)) ∧ o + sz ≤ c.size := by
  unfold World.there? at h
  split at h
  · rename_i c t hc
    exact ⟨c, t, hc, by simpa using h⟩
  · cases h

theorem lay_setRow {n o : Nat} {c vs : Array Value} {t : TypeId} (h : w.heap[n]? = some (.cells c t (0, 0))) : w.setRow n (spliceA c o vs) = w.lay n o vs := by
  unfold World.setRow World.lay
  congr 1
  apply Array.ext_getElem?
  intro k
  rw [Array.getElem?_modify, Array.getElem?_modify]
  split
  · subst_vars; rw [h]; rfl
  · rfl

theorem run_store_lay {t : TypeId} {n o : Nat} {vs : Array Value} (ht : P.aggSize t = some vs.size) (hc : w.there? n o vs.size = true) (h1 : vs.all (·.oneCell') = true) :
    (storeVar t ⟨n, o, none⟩ (.agg vs)).run P w = .ok () (w.lay n o vs) := by
  obtain ⟨c, e, hn, hl⟩ := there_spec hc
  obtain ⟨_, hs⟩ := run_isAgg ht w
  have := run_storeCells_at P n o e vs.toList 0 c w hn (by simpa using hl) (fun v hv => (Array.all_eq_true_iff_forall_mem.1 h1) v (by simpa using hv))
  have e2 : (c.toList.take (o + 0) ++ vs.toList ++ c.toList.drop (o + 0 + vs.toList.length)).toArray = spliceA c o vs := by
    apply Array.ext'
    simp [spliceA, List.extract_eq_take_drop]
    rw [List.take_of_length_le]; simp
  rw [e2, lay_setRow hn] at this
  simp [storeVar, hs, Value.cells, this]

/-- a store of a struct or array: one step -/
@[go_sem] theorem run_rowStore {t : TypeId} {n o : Nat} {vs : Array Value} (ht : P.aggSize t = some vs.size) (hc : w.there? n o vs.size = true) (h1 : vs.all (·.oneCell') = true) :
    (rowStore t ⟨n, o, none⟩ (.agg vs)).run P w = .ok () (w.lay n o vs) := run_store_lay ht hc h1

/-! the words behind a new block, a world that has grown, a block that is known, a draw -/
@[go_sem] theorem cut_alloc_at (c : Array Value) (t : TypeId) (n o sz : Nat) (hn : n = w.heap.size) : (w.alloc (.cells c t)).cut? n o sz = if o + sz ≤ c.size then some (c.extract o (o + sz)) else none := by
  subst hn; unfold World.cut?; rw [_root_.Go.heap_alloc_new]
@[go_sem] theorem cut_alloc_past (x : Obj) (n o sz : Nat) (hn : n < w.heap.size) : (w.alloc x).cut? n o sz = w.cut? n o sz := by
  unfold World.cut?; rw [heap_alloc_old (w := w) x hn]
@[go_sem] theorem cut_grow (xs : Array Obj) (d n o sz : Nat) (hn : n < w.heap.size) : (w.grow xs d).cut? n o sz = w.cut? n o sz := by
  simp [World.cut?, World.grow_heap xs d n hn]
@[go_sem] theorem cut_drew (n o sz : Nat) : w.drew.cut? n o sz = w.cut? n o sz := rfl
@[go_sem] theorem cut_drewN (k n o sz : Nat) : (w.drewN k).cut? n o sz = w.cut? n o sz := rfl
@[go_sem] theorem cut_putF_hit {B b : Nat} (c : Array Value) (t : TypeId) (o sz : Nat) (h : b < w.heap.size) : (w.putF B b (.cells c t)).cut? b o sz = if o + sz ≤ c.size then some (c.extract o (o + sz)) else none := by
  simp [World.cut?, World.putF_heap_eq _ h]
@[go_sem] theorem cut_putF_old {B b : Nat} (x : Obj) (n o sz : Nat) (h1 : n < B) (h2 : B ≤ b) : (w.putF B b x).cut? n o sz = w.cut? n o sz := by
  simp [World.cut?, World.putF_heap_ne (w := w) (B := B) x (show n ≠ b by omega)]
@[go_sem] theorem cut_putF_miss {B b : Nat} (x : Obj) (n o sz : Nat) (h : n ≠ b) : (w.putF B b x).cut? n o sz = w.cut? n o sz := by
  simp [World.cut?, World.putF_heap_ne (w := w) (B := B) x h]
@[go_sem] theorem there_alloc_at (c : Array Value) (t : TypeId) (n o sz : Nat) (hn : n = w.heap.size) : (w.alloc (.cells c t)).there? n o sz = decide (o + sz ≤ c.size) := by
  subst hn; unfold World.there?; rw [_root_.Go.heap_alloc_new]; rfl
@[go_sem] theorem there_alloc_past (x : Obj) (n o sz : Nat) (hn : n < w.heap.size) : (w.alloc x).there? n o sz = w.there? n o sz := by
  unfold World.there?; rw [heap_alloc_old (w := w) x hn]
@[go_sem] theorem there_grow (xs : Array Obj) (d n o sz : Nat) (hn : n < w.heap.size) : (w.grow xs d).there? n o sz = w.there? n o sz := by
  simp [World.there?, World.grow_heap xs d n hn]
@[go_sem] theorem there_drew (n o sz : Nat) : w.drew.there? n o sz = w.there? n o sz := rfl
@[go_sem] theorem there_drewN (k n o sz : Nat) : (w.drewN k).there? n o sz = w.there? n o sz := rfl
@[go_sem] theorem there_putF_hit {B b : Nat} (c : Array Value) (t : TypeId) (o sz : Nat) (h : b < w.heap.size) : (w.putF B b (.cells c t)).there? b o sz = decide (o + sz ≤ c.size) := by
  simp [World.there?, World.putF_heap_eq _ h]
@[go_sem] theorem there_putF_old {B b : Nat} (x : Obj) (n o sz : Nat) (h1 : n < B) (h2 : B ≤ b) : (w.putF B b x).there? n o sz = w.there? n o sz := by
  simp [World.there?, World.putF_heap_ne (w := w) (B := B) x (show n ≠ b by omega)]
@[go_sem] theorem there_putF_miss {B b : Nat} (x : Obj) (n o sz : Nat) (h : n ≠ b) : (w.putF B b x).there? n o sz = w.there? n o sz := by
  simp [World.there?, World.putF_heap_ne (w := w) (B := B) x h]

theorem lay_heap_ne {n o k : Nat} {vs : Array Value} (h : k ≠ n) : (w.lay n o vs).heap[k]? = w.heap[k]? := by
  simp only [World.lay, Array.getElem?_modify]; rw [if_neg (fun e => h e.symm)]
@[go_sem, simp] theorem lay_size (n o : Nat) (vs : Array Value) : (w.lay n o vs).heap.size = w.heap.size := by simp [World.lay]
@[go_sem] theorem lay_alloc_at (c : Array Value) (t : TypeId) (n o : Nat) (vs : Array Value) (hn : n = w.heap.size) : (w.alloc (.cells c t)).lay n o vs = w.alloc (.cells (spliceA c o vs) t) := by
  subst hn
  unfold World.lay World.alloc
  congr 1
  apply Array.ext_getElem?
  intro k
  rw [Array.getElem?_modify]
  by_cases hk : w.heap.size = k
  · subst hk; simp
  · rw [if_neg hk]; simp only [Array.getElem?_push]; rw [if_neg (fun e => hk e.symm), if_neg (fun e => hk e.symm)]
@[go_sem] theorem lay_alloc_past (x : Obj) (n o : Nat) (vs : Array Value) (hn : n < w.heap.size) : (w.alloc x).lay n o vs = (w.lay n o vs).alloc x := by
  unfold World.lay World.alloc
  congr 1
  apply Array.ext_getElem?
  intro k
  simp only [Array.getElem?_modify, Array.getElem?_push, Array.size_modify]
  by_cases hk : k = w.heap.size
  · subst hk; simp [Nat.ne_of_lt hn]
  · simp [hk]
@[go_sem] theorem lay_grow (xs : Array Obj) (d n o : Nat) (vs : Array Value) (hn : n < w.heap.size) : (w.grow xs d).lay n o vs = (w.lay n o vs).grow xs d := by
  unfold World.lay World.grow
  simp only
  congr 1
  apply Array.ext_getElem?
  intro k
  simp only [Array.getElem?_modify, Array.getElem?_append, Array.size_modify]
  by_cases hk : k = n
  · subst hk; simp [hn]
  · by_cases h2 : k < w.heap.size
    · simp [h2]
    · simp [h2]; intro h; omega
@[go_sem] theorem lay_drew (n o : Nat) (vs : Array Value) : w.drew.lay n o vs = (w.lay n o vs).drew := rfl
@[go_sem] theorem lay_drewN (k n o : Nat) (vs : Array Value) : (w.drewN k).lay n o vs = (w.lay n o vs).drewN k := rfl
theorem lay_putF_ne {B b : Nat} (x : Obj) (n o : Nat) (vs : Array Value) (h : n ≠ b) : (w.putF B b x).lay n o vs = (w.lay n o vs).putF B b x := by
  unfold World.lay World.putF
  simp only
  congr 1
  apply Array.ext_getElem?
  intro k
  by_cases hk : b = k
  · subst hk
    rw [Array.getElem?_modify, if_neg h]
    by_cases hb : b < w.heap.size
    · rw [Array.getElem?_setIfInBounds_self_of_lt hb, Array.getElem?_setIfInBounds_self_of_lt (by simpa using hb)]
    · rw [Array.getElem?_eq_none (by simp; omega), Array.getElem?_eq_none (by simp; omega)]
  · rw [Array.getElem?_setIfInBounds_ne hk, Array.getElem?_modify, Array.getElem?_modify, Array.getElem?_setIfInBounds_ne hk]
@[go_sem] theorem lay_putF_old {B b : Nat} (x : Obj) (n o : Nat) (vs : Array Value) (h1 : n < B) (h2 : B ≤ b) : (w.putF B b x).lay n o vs = (w.lay n o vs).putF B b x := lay_putF_ne x n o vs (by omega)
@[go_sem] theorem lay_putF_miss {B b : Nat} (x : Obj) (n o : Nat) (vs : Array Value) (h : n ≠ b) : (w.putF B b x).lay n o vs = (w.lay n o vs).putF B b x := lay_putF_ne x n o vs h
@[go_sem] theorem lay_putF_hit {B b : Nat} (c : Array Value) (t : TypeId) (o : Nat) (vs : Array Value) (h : b < w.heap.size) : (w.putF B b (.cells c t)).lay b o vs = w.putF B b (.cells (spliceA c o vs) t) := by
  unfold World.lay World.putF
  simp only
  congr 1
  apply Array.ext_getElem?
  intro k
  by_cases hk : b = k
  · subst hk
    rw [Array.getElem?_modify, if_pos rfl, Array.getElem?_setIfInBounds_self_of_lt h, Array.getElem?_setIfInBounds_self_of_lt h]
    rfl
  · rw [Array.getElem?_modify, if_neg hk, Array.getElem?_setIfInBounds_ne hk, Array.getElem?_setIfInBounds_ne hk]
theorem _root_.Go.RowKit.Below.lay {B : Nat} {a : World} (h : Below B a w) {n o : Nat} {vs : Array Value} (hn : B ≤ n) : Below B a (w.lay n o vs) :=
  h.trans ⟨rfl, rfl, rfl, by simp, fun k hk => lay_heap_ne (by omega)⟩
/-- a row of one cell, a whole row -/
@[go_sem] theorem spliceA_lit (c vs : Array Value) (h : vs.size = c.size) : spliceA c 0 vs = vs := splice_full h
/-! the results of a function, where some lie in memory: one equation for each place -/
def ResIs (P : Program) (w : World) (tmps : Array Value) : ResultVar → Value → Prop
  | .tmp t, v => tmps.getD t undef = v
  | .cell p ty, v => ∃ n o, tmps.getD p undef = .pointer (some ⟨n, o, none⟩) ∧ (loadVar ty ⟨n, o, none⟩).run P w = .ok v w
theorem ResIs.row {tmps : Array Value} {p : Tmp} {ty : TypeId} {n o sz : Nat} {cs : Array Value} (hp : tmps.getD p undef = .pointer (some ⟨n, o, none⟩)) (ht : P.aggSize ty = some sz) (hc : w.cut? n o sz = some cs) :
    ResIs P w tmps (.cell p ty) (.agg cs) := ⟨n, o, hp, run_load_cut ht hc⟩
theorem run_res {tmps : Array Value} {r : ResultVar} {v : Value} (h : ResIs P w tmps r v) :
    (match r with | .tmp t => (pure (tmps.getD t undef) : Sem Value) | .cell a t => do loadVar t (← asAddr (tmps.getD a undef))).run P w = .ok v w := by
  cases r with
  | tmp t => simp only [ResIs] at h; simp [← h]
  | cell p ty =>
    obtain ⟨n, o, hp, hl⟩ := h
    simp only [hp, asAddr]
    simp [hl]
theorem results_one {fn : Func} {r : ResultVar} {tmps : Array Value} {v : Value} (h : fn.results = #[r]) (h1 : ResIs P w tmps r v) : (results fn tmps).run P w = .ok v w := by
  have := run_res h1
  unfold results
  rw [h]
  simp only [List.mapM_toArray, List.mapM_cons, List.mapM_nil, bind_pure_comp, map_pure, Functor.map_map, Sem.run_map]
  cases r <;> simp_all
theorem results_two {fn : Func} {r s : ResultVar} {tmps : Array Value} {v u : Value} (h : fn.results = #[r, s]) (h1 : ResIs P w tmps r v) (h2 : ResIs P w tmps s u) : (results fn tmps).run P w = .ok (.tuple #[v, u]) w := by
  have e1 := run_res h1
  have e2 := run_res h2
  unfold results
  rw [h]
  simp only [List.mapM_toArray, List.mapM_cons, List.mapM_nil, bind_pure_comp, map_pure, Functor.map_map, Sem.run_map, Sem.run_bind]
  cases r <;> cases s <;> simp_all
theorem results_three {fn : Func} {r s q : ResultVar} {tmps : Array Value} {v u x : Value} (h : fn.results = #[r, s, q]) (h1 : ResIs P w tmps r v) (h2 : ResIs P w tmps s u) (h3 : ResIs P w tmps q x) :
    (results fn tmps).run P w = .ok (.tuple #[v, u, x]) w := by
  have e1 := run_res h1
  have e2 := run_res h2
  have e3 := run_res h3
  unfold results
  rw [h]
  simp only [List.mapM_toArray, List.mapM_cons, List.mapM_nil, bind_pure_comp, map_pure, Functor.map_map, Sem.run_map, Sem.run_bind]
  cases r <;> cases s <;> cases q <;> simp_all
end
/-- every one of these values takes one cell -/
def allOne (a : Array Value) : Bool := a.all (·.oneCell')
end Go.Proofs.YtjdccgmoldmlmaaDoor

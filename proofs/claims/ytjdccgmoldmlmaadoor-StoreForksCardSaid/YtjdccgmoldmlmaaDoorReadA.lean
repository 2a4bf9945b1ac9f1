/- Arguments that are slices of structs with slices within. -/
import Derived.Test.YtjdccgmoldmlmaaDoorReadS
import Derived.Test.YtjdccgmoldmlmaaDoorFits
namespace Go.Proofs.YtjdccgmoldmlmaaDoor
set_option maxRecDepth 100000
open Go.RowKit Go.ChangeShapes Go.WideShapes

/-- some cells read as a type's data -/
def Tr (P : Program) (w : World) (t : TypeId) (cs : List Value) : Prop :=
  ∃ (H : Type) (enc : TypeId × Value → H) (fuel : Nat) (y : DataW H × List MemPlace), DataW.trod enc P w 0 (fun _ => true) true fuel t cs = some y
section
variable {P : Program} {w : World} {t e : TypeId} {v : Value} {cs : List Value}
theorem Reads.tr (h : Reads P w t v) : Tr P w t v.cells.toList := by
  obtain ⟨_, H, enc, d, p, fuel, hd⟩ := h
  exact ⟨H, enc, fuel, _, hd⟩
theorem Tr.flat (h : Tr P w t cs) (f : Nat) {ks : List CK} (hk : flatK P f t = some ks) : FitsAll ks cs := by
  obtain ⟨H, enc, fuel, y, hd⟩ := h
  exact flat_trod f t ks hk fuel _ _ hd
theorem Tr.field {fs : Array Field} (h : Tr P w t cs) (ht : P.underlying t = some (.struct fs)) {i : Nat} {f : Field} (hf : fs[i]? = some f) : Tr P w f.type ((cs.drop f.offset).take (P.cellsOf f.type)) := by
  obtain ⟨H, enc, fuel, y, hd⟩ := h
  obtain ⟨xs, n, _, _, _, hl, hx⟩ := DataW.trod_struct ht hd
  have h1 := hx i f hf
  have hi : i < xs.length := by
    have := (Array.getElem?_eq_some_iff.1 hf).1
    omega
  rw [List.getElem?_eq_getElem hi] at h1
  exact ⟨H, enc, n, _, h1⟩
theorem Tr.slice (h : Tr P w t cs) (ht : P.underlying t = some (.slice e)) :
    cs = [.slice none 0 0] ∨ ∃ x len cap, cs = [.slice (some x) len cap] ∧ len ≤ cap ∧ cap ≤ maxLen ∧ ∀ i, i < len → ∃ es : List Value, es.length = P.cellsOf e ∧ (∀ j, j < P.cellsOf e → w.cell? ((x.add (i * P.cellsOf e)).add j) = es[j]?) ∧ Tr P w e es := by
  obtain ⟨H, enc, fuel, y, hd⟩ := h
  rcases DataW.trod_slice ht hd with ⟨hcs, _⟩ | ⟨x, len, cap, elems, rest, n, _, hcs, _, _, hl, hm, hel, hc, _⟩
  · exact .inl hcs
  · refine .inr ⟨x, len, cap, hcs, hl, hm, fun i hi => ?_⟩
    have h1 := hc i hi
    rw [List.getElem?_eq_getElem (by omega)] at h1
    simp only [Option.bind_eq_some_iff] at h1
    obtain ⟨es, h2, h3⟩ := h1
    obtain ⟨h4, h5⟩ := cells_get h2
    exact ⟨es, h4, fun j hj => h5 j hj, H, enc, n, _, h3⟩
theorem Tr.rows (h : Tr P w t cs) (ht : P.underlying t = some (.slice e)) {sz : Nat} (hs : P.cellsOf e = sz) (h0 : 0 < sz) :
    ∃ (v : Value) (xs : List (Array Value)), cs = [v] ∧ SlA w w.heap.size sz v xs ∧ ∀ x ∈ xs, Tr P w e x.toList := by
  rcases h.slice ht with rfl | ⟨x, len, cap, rfl, hl, hm, hc⟩
  · exact ⟨_, [], rfl, SlA.nil _ _ _, fun x hx => by simp at hx⟩
  · rw [hs] at hc
    obtain ⟨ls, h1, h2⟩ : ∃ ls : List (List Value), ls.length = len ∧ ∀ i es, ls[i]? = some es → es.length = sz ∧ (∀ j, j < sz → w.cell? ((x.add (i * sz)).add j) = es[j]?) ∧ Tr P w e es := by
      clear hl h
      induction len with
      | zero => exact ⟨[], rfl, fun i es hi => by simp at hi⟩
      | succ len ih =>
        obtain ⟨ls, h1, h2⟩ := ih (fun i hi => hc i (by omega))
        obtain ⟨es, hes⟩ := hc len (by omega)
        refine ⟨ls ++ [es], by simp [h1], fun i es' hi => ?_⟩
        by_cases hil : i < ls.length
        · rw [List.getElem?_append_left hil] at hi; exact h2 i es' hi
        · rw [List.getElem?_append_right (by omega)] at hi
          have hie : i = ls.length := by
            rcases Nat.lt_or_ge (i - ls.length) 1 with h | h
            · omega
            · rw [List.getElem?_eq_none (by simpa using h)] at hi; cases hi
          subst hie
          simp at hi
          subst hi
          rw [h1]; exact hes
    subst h1
    refine ⟨_, ls.map List.toArray, rfl, ⟨?_, some x, cap, by simp, by simpa using hl, hm, fun hn => ?_⟩, ?_⟩
    · intro y hy
      obtain ⟨es, hes, rfl⟩ := List.mem_map.1 hy
      obtain ⟨i, hi, rfl⟩ := List.getElem_of_mem hes
      simpa using (h2 i _ (List.getElem?_eq_getElem hi)).1
    · simp only [List.length_map] at hn
      obtain ⟨hc0, hd0, _⟩ := h2 0 _ (List.getElem?_eq_getElem hn)
      have hz := hd0 0 h0
      rw [List.getElem?_eq_getElem (by omega)] at hz
      obtain ⟨b, o, sp⟩ := x
      have hsp : sp = none := by
        cases sp with
        | none => rfl
        | some q =>
          simp only [Addr.add, Nat.zero_mul, if_pos, World.cell?] at hz
          split at hz <;> simp at hz
      subst hsp
      have hadd : ∀ i j, ((⟨b, o, none⟩ : Addr).add (i * sz)).add j = ⟨b, o + i * sz + j, none⟩ := fun i j => by rw [addr_add, addr_add]
      refine ⟨b, o, rfl, ?_, ?_⟩
      · rw [hadd] at hz
        exact World.block_lt_of_cell? w _ hz
      · intro i y hy
        rw [List.getElem?_map] at hy
        cases hi : ls[i]? with
        | none => rw [hi] at hy; cases hy
        | some es =>
          rw [hi] at hy
          simp only [Option.map_some, Option.some.injEq] at hy
          subst hy
          obtain ⟨q1, q2, _⟩ := h2 i es hi
          exact cut_of_cells q1 h0 (fun j hj => by have := q2 j hj; rw [hadd] at this; exact this)
    · intro y hy
      obtain ⟨es, hes, rfl⟩ := List.mem_map.1 hy
      obtain ⟨i, hi, rfl⟩ := List.getElem_of_mem hes
      exact (h2 i _ (List.getElem?_eq_getElem hi)).2.2
end
def wrtCs : List CK := List.replicate 25 (CK.i .u8) ++ ([CK.b] ++ recCs)
theorem wrt_fit {x : Array Value} (h : FitsAll wrtCs x.toList) : ∃ z : Wr, x = wrtA z := by
  obtain ⟨a, b, e, ha, hb⟩ := FitsAll.split h
  obtain ⟨c, d, e2, hc, hd⟩ := FitsAll.split hb
  obtain ⟨k, rfl⟩ := FitsAll.key ha
  obtain ⟨q, rfl⟩ := FitsAll.bool hc
  obtain ⟨r, rfl⟩ := FitsAll.rec hd
  refine ⟨⟨k, q, r⟩, Array.ext' ?_⟩
  rw [e, e2]
  rfl
/-- writes that are read -/
theorem writes_tr {w : World} {cs : List Value} (h : Tr Tryd.prog w 29 cs) : ∃ (v : Value) (l : List Wr), cs = [v] ∧ SlA w w.heap.size 35 v (l.map wrtA) := by
  obtain ⟨v, xs, rfl, h1, h2⟩ := h.rows Tryd.underlying29 (sz := 35) (by kernel_rfl) (by decide)
  obtain ⟨l, rfl⟩ := models (p := fun x => Tr Tryd.prog w 46 x.toList) (fun x hx => wrt_fit (hx.flat 5 (ks := wrtCs) (by kernel_rfl))) xs h2
  exact ⟨v, l, rfl, h1⟩
/-- acts that are read: their writes -/
theorem acts14_read {w : World} {v : Value} (h : Reads Tryd.prog w 22 v) : ∃ xs : List (Array Value), SlA w w.heap.size 28 v xs ∧ ∀ x ∈ xs, ∃ (lv : Value) (l : List Wr), x[27]? = some lv ∧ SlA w w.heap.size 35 lv (l.map wrtA) := by
  obtain ⟨u, xs, hu, h1, h2⟩ := h.tr.rows Tryd.underlying22 (sz := 28) (by kernel_rfl) (by decide)
  have huv : u = v := by
    obtain ⟨⟨base, hv⟩, _⟩ := h
    obtain ⟨a0, len, cap, rfl⟩ := okWide_slice Tryd.underlying22 hv
    simp [Value.cells] at hu
    exact hu.symm
  subst huv
  refine ⟨xs, h1, fun x hx => ?_⟩
  have hf := (h2 x hx).field Tryd.underlying41 (i := 3) rfl
  obtain ⟨lv, l, e, hl⟩ := writes_tr hf
  refine ⟨lv, l, ?_, hl⟩
  have e2 : (x.toList.drop 27).take 1 = [lv] := e
  have := congrArg (fun z : List Value => z[0]?) e2
  simp at this
  exact this
end Go.Proofs.YtjdccgmoldmlmaaDoor

/- Stores into a row that a call owns: one cell of an element, a whole element. -/
import Derived.Test.YtbflpnkodpeggaaSlice
namespace Go.Proofs.Ytbflpnkodpeggaa
open Go.RowKit

section
variable {w : World} {B sz : Nat} {e : TypeId} {xs : List (Array Value)}
theorem OwnA.of_cells {g cap : Nat} {cur : Array Value} (hB : B ≤ g) (hh : w.heap[g]? = some (.cells cur e)) (hn : xs.length ≤ cap) (hm : cap ≤ maxLen) (hc : cur.size = cap * sz) (hs : ∀ x ∈ xs, x.size = sz)
    (hx : ∀ i x, xs[i]? = some x → ∀ j, j < sz → cur[i * sz + j]? = x[j]?) : OwnA w B sz e (.slice (some ⟨g, 0, none⟩) xs.length cap) xs := by
  refine ⟨hs, flatA_len hs, .inr ⟨g, cap, cur, rfl, hB, hh, hn, hm, hc, ?_⟩⟩
  apply List.ext_getElem?
  intro t
  rw [List.getElem?_take]
  by_cases ht : t < xs.length * sz
  · rw [if_pos ht]
    have hsz : 0 < sz := by
      rcases Nat.eq_zero_or_pos sz with h | h
      · subst h; simp at ht
      · exact h
    have hq : t / sz < xs.length := Nat.div_lt_of_lt_mul (by rw [Nat.mul_comm]; exact ht)
    have hr := Nat.mod_lt t hsz
    have hdm : t / sz * sz + t % sz = t := by rw [Nat.mul_comm]; exact Nat.div_add_mod t sz
    have h1 := hx _ _ (List.getElem?_eq_getElem hq) _ hr
    have h2 := flatA_get hs _ _ (List.getElem?_eq_getElem hq) _ hr
    rw [hdm] at h1 h2
    rw [h2, ← h1, Array.getElem?_toList]
  · rw [if_neg ht, List.getElem?_eq_none (by rw [flatA_len hs]; omega)]
theorem OwnA.cells {g n cap : Nat} (h : OwnA w B sz e (.slice (some ⟨g, 0, none⟩) n cap) xs) : n = xs.length ∧ ∃ cur, B ≤ g ∧ w.heap[g]? = some (.cells cur e) ∧ xs.length ≤ cap ∧ cap ≤ maxLen ∧ cur.size = cap * sz ∧ ∀ i x, xs[i]? = some x → ∀ j, j < sz → cur[i * sz + j]? = x[j]? := by
  obtain ⟨hs, hl, h2⟩ := h
  rcases h2 with ⟨h2, _⟩ | ⟨g', cap', cur, hv, hB, hh, hn, hm, hc, hx⟩
  · cases h2
  · simp only [Value.slice.injEq, Option.some.injEq, Addr.mk.injEq, and_true] at hv
    obtain ⟨rfl, hnn, rfl⟩ := hv
    refine ⟨hnn, cur, hB, hh, hn, hm, hc, fun i x hi j hj => ?_⟩
    have h3 := flatA_get hs i x hi j hj
    rw [← hx, List.getElem?_take, Array.getElem?_toList] at h3
    have hil : i < xs.length := (List.getElem?_eq_some_iff.1 hi).1
    have hle : i * sz + sz ≤ xs.length * sz := by rw [← Nat.succ_mul]; exact Nat.mul_le_mul_right _ hil
    rw [if_pos (by omega)] at h3
    exact h3
theorem idx_ne {i p j q sz : Nat} (hj : j < sz) (hq : q < sz) (h : i ≠ p) : i * sz + j ≠ p * sz + q := by
  rcases Nat.lt_or_gt_of_ne h with h | h
  · have : i * sz + sz ≤ p * sz := by rw [← Nat.succ_mul]; exact Nat.mul_le_mul_right _ h
    omega
  · have : p * sz + sz ≤ i * sz := by rw [← Nat.succ_mul]; exact Nat.mul_le_mul_right _ h
    omega
theorem OwnA.setCell {g n cap p q : Nat} {x : Array Value} {v : Value} (h : OwnA w B sz e (.slice (some ⟨g, 0, none⟩) n cap) xs) (hp : xs[p]? = some x) (hq : q < sz) :
    OwnA (w.setCell ⟨g, p * sz + q, none⟩ v) B sz e (.slice (some ⟨g, 0, none⟩) n cap) (xs.set p (x.setIfInBounds q v)) := by
  have hs := h.1
  obtain ⟨rfl, cur, hB, hh, hn, hm, hc, hx⟩ := h.cells
  have hxs := hs x (List.mem_of_getElem? hp)
  have hpl : p < xs.length := (List.getElem?_eq_some_iff.1 hp).1
  have := OwnA.of_cells (w := w.setCell ⟨g, p * sz + q, none⟩ v) (B := B) (sz := sz) (e := e) (xs := xs.set p (x.setIfInBounds q v)) (g := g) (cap := cap) (cur := cur.setIfInBounds (p * sz + q) v) hB (by
      simp [World.setCell, Array.getElem?_modify, hh]) (by simpa using hn) hm (by simpa using hc) (by
      intro y hy
      rcases List.mem_or_eq_of_mem_set hy with hy | rfl
      · exact hs y hy
      · simpa using hxs) (by
      intro i y hy j hj
      rw [List.getElem?_set] at hy
      by_cases hip : p = i
      · subst hip
        rw [if_pos rfl, if_pos hpl] at hy
        cases hy
        by_cases hjq : q = j
        · subst hjq
          have hlt : p * sz + q < cur.size := by
            have h1 := hx p x hp q hq
            have h2 := Array.getElem?_eq_getElem (xs := x) (i := q) (by omega)
            exact (Array.getElem?_eq_some_iff.1 (h1.trans h2)).1
          rw [Array.getElem?_setIfInBounds_self_of_lt hlt, Array.getElem?_setIfInBounds_self_of_lt (by omega)]
        · rw [Array.getElem?_setIfInBounds_ne (by omega), Array.getElem?_setIfInBounds_ne hjq]
          exact hx p x hp j hj
      · rw [if_neg hip] at hy
        rw [Array.getElem?_setIfInBounds_ne (idx_ne hq hj hip)]
        exact hx i y hy j hj)
  simpa using this
theorem OwnA.setRow {g n cap p : Nat} {y : Array Value} (h : OwnA w B sz e (.slice (some ⟨g, 0, none⟩) n cap) xs) (hp : p < xs.length) (hy : y.size = sz) :
    OwnA (w.lay g (p * sz) y) B sz e (.slice (some ⟨g, 0, none⟩) n cap) (xs.set p y) := by
  have hs := h.1
  obtain ⟨rfl, cur, hB, hh, hn, hm, hc, hx⟩ := h.cells
  have hle : p * sz + y.size ≤ cur.size := by
    rw [hc, hy, ← Nat.succ_mul]; exact Nat.mul_le_mul_right _ (by omega)
  have := OwnA.of_cells (w := w.lay g (p * sz) y) (B := B) (sz := sz) (e := e) (xs := xs.set p y) (g := g) (cap := cap) (cur := spliceA cur (p * sz) y) hB (by
      simp only [World.lay, Array.getElem?_modify, if_true, hh, Option.map_some]) (by simpa using hn) hm (by rw [spliceA_size hle]; exact hc) (by
      intro z hz
      rcases List.mem_or_eq_of_mem_set hz with hz | rfl
      · exact hs z hz
      · exact hy) (by
      intro i z hz j hj
      rw [List.getElem?_set] at hz
      rw [spliceA_get hle]
      by_cases hip : p = i
      · subst hip
        rw [if_pos rfl, if_pos hp] at hz
        cases hz
        rw [if_pos (by omega)]
        congr 1; omega
      · rw [if_neg hip] at hz
        rw [if_neg (by
          intro hh2
          have h1 := idx_ne (i := i) (p := p) (j := j) (q := i * sz + j - p * sz) hj (by omega) (fun e => hip e.symm)
          omega)]
        exact hx i z hz j hj)
  simpa using this
end
end Go.Proofs.Ytbflpnkodpeggaa

/- Arguments that are slices of structs, or arrays of bytes. -/
import Derived.Test.YtjdccgmoldmlmaaDoorSlice
import Derived.Test.YtjdccgmoldmlmaaDoorEnt
import Derived.Test.YtjdccgmoldmlmaaDoorRead
namespace Go.Proofs.YtjdccgmoldmlmaaDoor
open Go.RowKit Go.ChangeShapes Go.WideShapes

theorem cut_of_cells {w : World} {n o sz : Nat} {cs : List Value} (hl : cs.length = sz) (h0 : 0 < sz) (h : ∀ j, j < sz → w.cell? ⟨n, o + j, none⟩ = cs[j]?) : w.cut? n o sz = some cs.toArray := by
  have hlast := h (sz - 1) (by omega)
  rw [List.getElem?_eq_getElem (by omega)] at hlast
  unfold World.cut?
  unfold World.cell? at h hlast
  simp only at h hlast
  split at hlast
  · rename_i c t fr hc
    rw [hc] at h ⊢
    simp only at h ⊢
    have hsz : o + (sz - 1) < c.size := (Array.getElem?_eq_some_iff.1 hlast).1
    rw [if_pos (by omega)]
    congr 1
    apply Array.ext_getElem?
    intro j
    by_cases hj : j < sz
    · rw [Array.getElem?_extract, if_pos (by omega)]; have := h j hj; simp at this; simp [this]
    · rw [Array.getElem?_eq_none (by simp; omega), Array.getElem?_eq_none (by simp; omega)]
  · cases hlast

theorem Reads.rows {P : Program} {w : World} {t e : TypeId} {v : Value} (h : Reads P w t v) (ht : P.underlying t = some (.slice e)) (f : Nat) {ks : List CK} (hk : flatK P f e = some ks) (hs : ks.length = P.cellsOf e) (h0 : 0 < ks.length) :
    ∃ xs : List (Array Value), SlA w w.heap.size ks.length v xs ∧ ∀ x ∈ xs, FitsAll ks x.toList := by
  rcases h.slice ht f hk hs with rfl | ⟨x, len, cap, rfl, hl, hm, hc⟩
  · exact ⟨[], SlA.nil _ _ _, fun x hx => by simp at hx⟩
  · obtain ⟨ls, h1, h2⟩ : ∃ ls : List (List Value), ls.length = len ∧ ∀ i cs, ls[i]? = some cs → cs.length = ks.length ∧ (∀ j, j < ks.length → w.cell? ((x.add (i * ks.length)).add j) = cs[j]?) ∧ FitsAll ks cs := by
      clear hl h
      induction len with
      | zero => exact ⟨[], rfl, fun i cs hi => by simp at hi⟩
      | succ len ih =>
        obtain ⟨ls, h1, h2⟩ := ih (fun i hi => hc i (by omega))
        obtain ⟨cs, hcs⟩ := hc len (by omega)
        refine ⟨ls ++ [cs], by simp [h1], fun i cs' hi => ?_⟩
        by_cases hil : i < ls.length
        · rw [List.getElem?_append_left hil] at hi; exact h2 i cs' hi
        · rw [List.getElem?_append_right (by omega)] at hi
          have hie : i = ls.length := by
            rcases Nat.lt_or_ge (i - ls.length) 1 with h | h
            · omega
            · rw [List.getElem?_eq_none (by simpa using h)] at hi; cases hi
          subst hie
          simp at hi
          subst hi
          rw [h1]; exact hcs
    subst h1
    refine ⟨ls.map List.toArray, ⟨?_, some x, cap, by simp, by simpa using hl, hm, fun hn => ?_⟩, ?_⟩
    · intro y hy
      obtain ⟨cs, hcs, rfl⟩ := List.mem_map.1 hy
      obtain ⟨i, hi, rfl⟩ := List.getElem_of_mem hcs
      simpa using (h2 i _ (List.getElem?_eq_getElem hi)).1
    · simp only [List.length_map] at hn
      obtain ⟨hc0, hd0, _⟩ := h2 0 _ (List.getElem?_eq_getElem hn)
      have hz := hd0 0 h0
      rw [List.getElem?_eq_getElem (by omega)] at hz
      obtain ⟨b, o, sp⟩ := x
      have hsp : sp = none := by
        cases sp with
        | none => rfl
        | some q =>
          simp only [Addr.add, Nat.zero_mul, if_pos, World.cell?] at hz
          split at hz <;> simp at hz
      subst hsp
      have hadd : ∀ i j, ((⟨b, o, none⟩ : Addr).add (i * ks.length)).add j = ⟨b, o + i * ks.length + j, none⟩ := fun i j => by rw [addr_add, addr_add]
      refine ⟨b, o, rfl, ?_, ?_⟩
      · rw [hadd] at hz
        exact World.block_lt_of_cell? w _ hz
      · intro i y hy
        rw [List.getElem?_map] at hy
        cases hi : ls[i]? with
        | none => rw [hi] at hy; cases hy
        | some cs =>
          rw [hi] at hy
          simp only [Option.map_some, Option.some.injEq] at hy
          subst hy
          obtain ⟨q1, q2, _⟩ := h2 i cs hi
          exact cut_of_cells q1 h0 (fun j hj => by have := q2 j hj; rw [hadd] at this; exact this)
    · intro y hy
      obtain ⟨cs, hcs, rfl⟩ := List.mem_map.1 hy
      obtain ⟨i, hi, rfl⟩ := List.getElem_of_mem hcs
      exact (h2 i _ (List.getElem?_eq_getElem hi)).2.2

theorem FitsAll.split : ∀ {a b : List CK} {cs : List Value}, FitsAll (a ++ b) cs → ∃ x y, cs = x ++ y ∧ FitsAll a x ∧ FitsAll b y
  | [], _, cs, h => ⟨[], cs, rfl, trivial, h⟩
  | _ :: _, _, [], h => by simp [FitsAll] at h
  | _ :: _, _, v :: cs, h => by
    obtain ⟨x, y, rfl, h1, h2⟩ := FitsAll.split h.2
    exact ⟨v :: x, y, rfl, ⟨h.1, h1⟩, h2⟩
theorem FitsAll.bytes : ∀ {n : Nat} {cs : List Value}, FitsAll (List.replicate n (CK.i .u8)) cs → ∃ l : List UInt8, l.length = n ∧ cs = l.map fun b => .int .u8 (b.toNat : Int)
  | 0, [], _ => ⟨[], rfl, rfl⟩
  | 0, _ :: _, h => by simp [FitsAll] at h
  | _ + 1, [], h => by simp [FitsAll, List.replicate_succ] at h
  | n + 1, v :: cs, h => by
    rw [List.replicate_succ] at h
    obtain ⟨⟨z, rfl, hz⟩, h2⟩ := h
    obtain ⟨l, hl, rfl⟩ := FitsAll.bytes h2
    have hb : 0 ≤ z ∧ z < 256 := by
      simp [Lit.wf, IntKind.min, IntKind.max, IntKind.signed, IntKind.bits] at hz
      omega
    refine ⟨UInt8.ofNat z.toNat :: l, by simp [hl], ?_⟩
    rw [List.map_cons]
    congr 1
    congr 1
    rw [UInt8.toNat_ofNat']
    omega
theorem FitsAll.key {cs : List Value} (h : FitsAll (List.replicate 25 (CK.i .u8)) cs) : ∃ k : K25, cs = keyL k := by
  obtain ⟨l, hl, rfl⟩ := h.bytes
  exact ⟨⟨l, hl⟩, rfl⟩
theorem FitsAll.bool {cs : List Value} (h : FitsAll [CK.b] cs) : ∃ b, cs = [.bool b] := by
  match cs, h with
  | [_], ⟨⟨b, h⟩, _⟩ => exact ⟨b, by rw [h]⟩
theorem FitsAll.int {k : IntKind} {cs : List Value} (h : FitsAll [CK.i k] cs) : ∃ n, cs = [.int k n] ∧ (Lit.int k n).wf = true := by
  match cs, h with
  | [_], ⟨⟨b, h, hw⟩, _⟩ => exact ⟨b, by rw [h], hw⟩
/-- a list of models for a list of rows -/
theorem models {α : Type} {f : α → Array Value} {p : Array Value → Prop} (h : ∀ x, p x → ∃ a, x = f a) : ∀ xs : List (Array Value), (∀ x ∈ xs, p x) → ∃ l : List α, xs = l.map f
  | [], _ => ⟨[], rfl⟩
  | x :: xs, hx => by
    obtain ⟨a, rfl⟩ := h x (hx x (by simp))
    obtain ⟨l, rfl⟩ := models h xs (fun y hy => hx y (by simp [hy]))
    exact ⟨a :: l, rfl⟩
end Go.Proofs.YtjdccgmoldmlmaaDoor

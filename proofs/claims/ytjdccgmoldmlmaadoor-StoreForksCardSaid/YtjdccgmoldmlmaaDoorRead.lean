/- What an argument that reads as data is: the cells of plain structs and arrays; slices of them. -/
import Derived.Test.YtjdccgmoldmlmaaDoorGrow
import Derived.ProofKit
namespace Go.Proofs.YtjdccgmoldmlmaaDoor
open Go.RowKit Go.ChangeShapes Go.WideShapes

/-- the kinds of cells of plain types -/
def CK := Option (Option IntKind)
def CK.b : CK := some none
def CK.i (k : IntKind) : CK := some (some k)
def CK.s : CK := none
def CK.fits : CK → Value → Prop
  | some none, v => ∃ x, v = .bool x
  | some (some k), v => ∃ n, v = .int k n ∧ (Lit.int k n).wf = true
  | none, v => ∃ s, v = .string s ∧ s.size ≤ maxLen
def FitsAll : List CK → List Value → Prop
  | [], [] => True
  | k :: ks, v :: vs => k.fits v ∧ FitsAll ks vs
  | _, _ => False
theorem FitsAll.append : ∀ {a b : List CK} {cs : List Value}, FitsAll a (cs.take a.length) → FitsAll b (cs.drop a.length) → FitsAll (a ++ b) cs
  | [], _, _, _, h => h
  | _ :: _, _, [], h, _ => by simp [FitsAll] at h
  | _ :: ks, b, v :: vs, h, h2 => by
    simp only [List.length_cons, List.take_succ_cons, FitsAll] at h
    exact ⟨h.1, FitsAll.append h.2 (by simpa using h2)⟩

def flatFields (P : Program) (g : TypeId → Option (List CK)) : List Field → Nat → Option (List CK)
  | [], _ => some []
  | f :: r, off => (g f.type).bind fun ks => if f.offset = off ∧ ks.length = P.cellsOf f.type then (flatFields P g r (off + ks.length)).map (ks ++ ·) else none
/-- the kinds of a plain type's cells -/
def flatK (P : Program) : Nat → TypeId → Option (List CK)
  | 0, _ => none
  | f + 1, t => match P.underlying t with
    | some .bool => some [.b]
    | some (.int k) => some [.i k]
    | some .string => some [.s]
    | some (.struct fs) => (flatFields P (flatK P f) fs.toList 0).bind fun ks => if ks.length = P.cellsOf t then some ks else none
    | some (.array n e) => (flatK P f e).bind fun ks => if ks.length = P.cellsOf e ∧ n * ks.length = P.cellsOf t then some (List.replicate n ks).flatten else none
    | _ => none

section
variable {H : Type} {enc : TypeId × Value → H} {P : Program} {w : World} {base : Nat} {spare : Nat → Bool} {held : Bool}

theorem flatFields_fits {g : TypeId → Option (List CK)} {cs : List Value} : ∀ (fs : List Field) (off : Nat) (ks : List CK), flatFields P g fs off = some ks →
    (∀ (i : Nat) (f : Field), fs[i]? = some f → ∀ k, g f.type = some k → FitsAll k ((cs.drop f.offset).take (P.cellsOf f.type))) →
    cs.length = off + ks.length → FitsAll ks (cs.drop off)
  | [], off, ks, h, _, hl => by
    simp [flatFields] at h; subst h
    have : cs.drop off = [] := by apply List.drop_of_length_le; simp at hl; omega
    rw [this]; trivial
  | f :: r, off, ks, h, hf, hl => by
    simp only [flatFields, Option.bind_eq_some_iff] at h
    obtain ⟨k, hk, h⟩ := h
    split at h
    · rename_i hc
      simp only [Option.map_eq_some_iff] at h
      obtain ⟨k2, hk2, rfl⟩ := h
      refine FitsAll.append ?_ ?_
      · have := hf 0 f rfl k hk
        rw [hc.1, ← hc.2] at this
        exact this
      · rw [List.drop_drop]
        exact flatFields_fits r (off + k.length) k2 hk2 (fun i f' h' => hf (i + 1) f' (by simpa using h')) (by simp at hl; omega)
    · cases h

theorem flat_array {k : List CK} {n : Nat} : ∀ (m : Nat) (cs : List Value), cs.length = m * k.length →
    (∀ i, i < m → FitsAll k ((cs.drop (i * k.length)).take k.length)) → FitsAll (List.replicate m k).flatten cs
  | 0, cs, hl, _ => by
    have : cs = [] := by apply List.length_eq_zero_iff.1; simpa using hl
    subst this; trivial
  | m + 1, cs, hl, h => by
    rw [List.replicate_succ, List.flatten_cons]
    refine FitsAll.append ?_ ?_
    · simpa using h 0 (by omega)
    · refine flat_array (n := n) m _ (by rw [List.length_drop, hl, Nat.succ_mul]; omega) (fun i hi => ?_)
      have := h (i + 1) (by omega)
      rw [List.drop_drop, show k.length + i * k.length = (i + 1) * k.length by rw [Nat.succ_mul]; omega]
      exact this

theorem flat_trod : ∀ (f : Nat) (t : TypeId) (ks : List CK), flatK P f t = some ks → ∀ (fuel : Nat) (cs : List Value) (y : DataW H × List MemPlace),
    DataW.trod enc P w base spare held fuel t cs = some y → FitsAll ks cs := by
  intro f
  induction f with
  | zero => intro t ks h; simp [flatK] at h
  | succ f ih =>
    intro t ks h fuel cs y hy
    unfold flatK at h
    split at h
    · rename_i ht
      simp at h; subst h
      cases fuel with
      | zero => simp [DataW.trod] at hy
      | succ n =>
        unfold DataW.trod at hy
        rw [ht] at hy
        split at hy <;> first | exact ⟨⟨_, rfl⟩, trivial⟩ | simp_all
    · rename_i k ht
      simp at h; subst h
      obtain ⟨n, rfl, _, hw⟩ := DataW.trod_int ht hy
      exact ⟨⟨n, rfl, hw⟩, trivial⟩
    · rename_i ht
      simp at h; subst h
      obtain ⟨s, rfl, _, hs⟩ := DataW.trod_string ht hy
      exact ⟨⟨s, rfl, hs⟩, trivial⟩
    · rename_i fs ht
      simp only [Option.bind_eq_some_iff] at h
      obtain ⟨k, hk, h⟩ := h
      split at h
      · rename_i hl
        simp at h; subst h
        obtain ⟨xs, n, rfl, _, hcs, hxs, hf⟩ := DataW.trod_struct ht hy
        have := flatFields_fits (P := P) (cs := cs) fs.toList 0 k hk (fun i f' hf' k' hk' => by
          have h1 := hf i f' (by simpa using hf')
          have hi : i < xs.length := by
            have := (List.getElem?_eq_some_iff.1 hf').1
            simp at this; omega
          rw [List.getElem?_eq_getElem hi] at h1
          exact ih _ _ hk' _ _ _ h1) (by omega)
        simpa using this
      · cases h
    · rename_i n e ht
      simp only [Option.bind_eq_some_iff] at h
      obtain ⟨k, hk, h⟩ := h
      split at h
      · rename_i hc
        simp at h; subst h
        cases fuel with
        | zero => simp [DataW.trod] at hy
        | succ q =>
          unfold DataW.trod at hy
          rw [ht] at hy
          simp only at hy
          split at hy
          · rename_i hl
            simp only [Option.map_eq_some_iff] at hy
            obtain ⟨xs, hxs, _⟩ := hy
            refine flat_array (n := 0) n cs (by rw [hl, ← hc.2]) (fun i hi => ?_)
            have h1 := mapM_some_get hxs i i (by simp [hi])
            have hlen : xs.length = n := by simpa using mapM_some_length hxs
            rw [List.getElem?_eq_getElem (by omega)] at h1
            rw [← hc.1] at h1
            exact ih _ _ hk _ _ _ h1
          · cases hy
      · cases h
    · cases h
end

/-- an argument as the row hands it over -/
def Reads (P : Program) (w : World) (t : TypeId) (v : Value) : Prop :=
  (∃ base, Value.okWide P w .any base t v) ∧ ∃ (H : Type) (enc : TypeId × Value → H) (d : DataW H) (p : List MemPlace), DataW.Trod enc P w 0 (fun _ => true) true t v d p

theorem Reads.flat {P : Program} {w : World} {t : TypeId} {v : Value} (h : Reads P w t v) (f : Nat) {ks : List CK} (hk : flatK P f t = some ks) : FitsAll ks v.cells.toList := by
  obtain ⟨_, H, enc, d, p, fuel, hd⟩ := h
  exact flat_trod f t ks hk fuel _ _ hd
theorem Reads.agg {P : Program} {w : World} {t : TypeId} {v : Value} {fs : Array Field} (h : Reads P w t v) (ht : P.underlying t = some (.struct fs)) : ∃ cs, v = .agg cs := by
  obtain ⟨⟨base, hv⟩, _⟩ := h
  unfold Value.okWide at hv
  rw [ht] at hv
  obtain ⟨cs, h, _⟩ := hv
  exact ⟨cs, h⟩
theorem Reads.int {P : Program} {w : World} {t : TypeId} {v : Value} {k : IntKind} (h : Reads P w t v) (ht : P.underlying t = some (.int k)) : ∃ n, v = .int k n ∧ (Lit.int k n).wf = true := by
  obtain ⟨⟨base, hv⟩, H, enc, d, p, fuel, hd⟩ := h
  obtain ⟨n, rfl, _, _, hw⟩ := open_int ht hv ⟨fuel, hd⟩
  exact ⟨n, rfl, hw⟩
theorem Reads.string {P : Program} {w : World} {t : TypeId} {v : Value} (h : Reads P w t v) (ht : P.underlying t = some .string) : ∃ s, v = .string s ∧ s.size ≤ maxLen := by
  obtain ⟨⟨base, hv⟩, H, enc, d, p, fuel, hd⟩ := h
  obtain ⟨s, rfl, _, _, hw⟩ := Go.ChangeMaps.open_string ht hv ⟨fuel, hd⟩
  exact ⟨s, rfl, hw⟩

theorem cells_get {w : World} {base n : Nat} {a : Addr} {cs : List Value} (h : w.cells? base a n = some cs) : cs.length = n ∧ ∀ j, j < n → w.cell? (a.add j) = cs[j]? := by
  unfold World.cells? at h
  split at h
  · have hl := mapM_some_length h
    simp at hl
    refine ⟨hl, fun j hj => ?_⟩
    have := mapM_some_get h j j (by simp [hj])
    exact this
  · cases h

theorem Reads.slice {P : Program} {w : World} {t e : TypeId} {v : Value} (h : Reads P w t v) (ht : P.underlying t = some (.slice e)) (f : Nat) {ks : List CK} (hk : flatK P f e = some ks) (hs : ks.length = P.cellsOf e) :
    v = .slice none 0 0 ∨ ∃ x len cap, v = .slice (some x) len cap ∧ len ≤ cap ∧ cap ≤ maxLen ∧ ∀ i, i < len → ∃ cs, cs.length = ks.length ∧ (∀ j, j < ks.length → w.cell? ((x.add (i * ks.length)).add j) = cs[j]?) ∧ FitsAll ks cs := by
  obtain ⟨⟨base, hv⟩, H, enc, d, p, fuel, hd⟩ := h
  obtain ⟨a0, len, cap, rfl⟩ := okWide_slice ht hv
  rcases DataW.trod_slice ht hd with ⟨hcs, _⟩ | ⟨x, len', cap', elems, rest, n, _, hcs, _, _, hl, hm, hel, hc, _⟩
  · simp [Value.cells] at hcs
    obtain ⟨rfl, rfl, rfl⟩ := hcs
    exact .inl rfl
  · simp [Value.cells] at hcs
    obtain ⟨rfl, rfl, rfl⟩ := hcs
    refine .inr ⟨x, len, cap, rfl, hl, hm, fun i hi => ?_⟩
    have h1 := hc i hi
    rw [List.getElem?_eq_getElem (by omega)] at h1
    simp only [Option.bind_eq_some_iff] at h1
    obtain ⟨cs, h2, h3⟩ := h1
    obtain ⟨h4, h5⟩ := cells_get h2
    rw [← hs] at h4 h5 h2
    refine ⟨cs, h4, fun j hj => ?_, flat_trod f e ks hk _ _ _ h3⟩
    exact h5 j (by omega)

/-- a slice of one-cell integers: its numbers -/
theorem Reads.ints {P : Program} {w : World} {t e : TypeId} {v : Value} {k : IntKind} (h : Reads P w t v) (ht : P.underlying t = some (.slice e)) (he : P.underlying e = some (.int k)) (hs : P.cellsOf e = 1) :
    v = .slice none 0 0 ∨ (∃ x cap, v = .slice (some x) 0 cap ∧ cap ≤ maxLen) ∨
      ∃ (b o cap : Nat) (l : List Int), v = .slice (some ⟨b, o, none⟩) l.length cap ∧ 0 < l.length ∧ l.length ≤ cap ∧ cap ≤ maxLen ∧ (∀ z ∈ l, (Lit.int k z).wf = true) ∧ b < w.heap.size ∧ (∀ i (hi : i < l.length), w.cell? ⟨b, o + i, none⟩ = some (.int k l[i])) := by
  have hk : flatK P 1 e = some [.i k] := by simp [flatK, he]
  rcases h.slice ht 1 hk (by simp [hs]) with rfl | ⟨x, len, cap, rfl, hl, hm, hc⟩
  · exact .inl rfl
  · have hc' : ∀ i, i < len → ∃ z, w.cell? (x.add i) = some (.int k z) ∧ (Lit.int k z).wf = true := by
      intro i hi
      obtain ⟨cs, h1, h2, h3⟩ := hc i hi
      match cs, h1, h3 with
      | [c], _, h3 =>
        obtain ⟨⟨z, rfl, hz⟩, _⟩ := h3
        have := h2 0 (by simp)
        simp only [List.length_cons, List.length_nil, Nat.zero_add, Nat.mul_one] at this
        exact ⟨z, by simpa [Addr.add] using this, hz⟩
    rcases Nat.eq_zero_or_pos len with h0 | h0
    · subst h0
      exact .inr (.inl ⟨x, cap, rfl, hm⟩)
    · obtain ⟨l, hll, hlc⟩ : ∃ l : List Int, l.length = len ∧ ∀ i (hi : i < l.length), w.cell? (x.add i) = some (.int k l[i]) ∧ (Lit.int k l[i]).wf = true := by
        clear h0 hl hc h
        induction len with
        | zero => exact ⟨[], rfl, fun i hi => by simp at hi⟩
        | succ len ih =>
          obtain ⟨l, h1, h2⟩ := ih (fun i hi => hc' i (by omega))
          obtain ⟨z, hz, hw⟩ := hc' len (by omega)
          refine ⟨l ++ [z], by simp [h1], fun i hi => ?_⟩
          by_cases hil : i < l.length
          · rw [List.getElem_append_left hil]; exact h2 i hil
          · have : i = len := by simp at hi; omega
            subst this
            rw [List.getElem_append_right (by omega)]
            simp [h1, hz, hw]
      have hx0 := (hlc 0 (by omega)).1
      obtain ⟨b, o, sp⟩ := x
      have hsp : sp = none := by
        cases sp with
        | none => rfl
        | some q =>
          simp only [Addr.add, if_pos, World.cell?] at hx0
          split at hx0 <;> simp at hx0
      subst hsp
      subst hll
      refine .inr (.inr ⟨b, o, cap, l, rfl, h0, hl, hm, ?_, ?_, fun i hi => ?_⟩)
      · intro z hz
        obtain ⟨i, hi, rfl⟩ := List.getElem_of_mem hz
        exact (hlc i hi).2
      · exact World.block_lt_of_cell? w ⟨b, o, none⟩ (by simpa [Addr.add] using hx0)
      · have := (hlc i hi).1
        unfold Addr.add at this
        split at this
        · subst_vars; exact this
        · exact this
end Go.Proofs.YtjdccgmoldmlmaaDoor

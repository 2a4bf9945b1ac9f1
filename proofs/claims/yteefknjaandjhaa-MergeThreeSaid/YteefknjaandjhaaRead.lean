/- What an argument that reads as data is: the cells of plain structs and arrays; slices of them. -/
import Derived.Test.YteefknjaandjhaaGrow
import Derived.ProofKit
namespace Go.Proofs.Yteefknjaandjhaa
open Go.RowKit Go.ChangeShapes Go.WideShapes

/-- the kinds of cells of plain types -/
inductive CK where
  | b
  | i (k : IntKind)
  | s
def CK.fits : CK → Value → Prop
  | .b, v => ∃ x, v = .bool x
  | .i k, v => ∃ n, v = .int k n ∧ (Lit.int k n).wf = true
  | .s, v => ∃ s, v = .string s ∧ s.size ≤ maxLen
def FitsAll : List CK → List Value → Prop
  | [], [] => True
  | k :: ks, v :: vs => k.fits v ∧ FitsAll ks vs
  | _, _ => False
theorem FitsAll.append : ∀ {a b : List CK} {cs : List Value}, FitsAll a (cs.take a.length) → FitsAll b (cs.drop a.length) → FitsAll (a ++ b) cs
  | [], _, _, _, h => h
  | _ :: _, _, [], h, _ => by simp [FitsAll] at h
  | _ :: ks, b, v :: vs, h, h2 => by
    simp only [List.length_cons, List.take_succ_cons, FitsAll] at h
    exact ⟨h.1, FitsAll.append h.2 (by simpa using h2)⟩

def flatFields (P : Program) (g : TypeId → Option (List CK)) : List Field → Nat → Option (List CK)
  | [], _ => some []
  | f :: r, off => (g f.type).bind fun ks => if f.offset = off ∧ ks.length = P.cellsOf f.type then (flatFields P g r (off + ks.length)).map (ks ++ ·) else none
/-- the kinds of a plain type's cells -/
def flatK (P : Program) : Nat → TypeId → Option (List CK)
  | 0, _ => none
  | f + 1, t => match P.underlying t with
    | some .bool => some [.b]
    | some (.int k) => some [.i k]
    | some .string => some [.s]
    | some (.struct fs) => (flatFields P (flatK P f) fs.toList 0).bind fun ks => if ks.length = P.cellsOf t then some ks else none
    | some (.array n e) => (flatK P f e).bind fun ks => if ks.length = P.cellsOf e ∧ n * ks.length = P.cellsOf t then some (List.replicate n ks).flatten else none
    | _ => none

section
variable {H : Type} {enc : TypeId × Value → H} {P : Program} {w : World} {base : Nat} {spare : Nat → Bool} {held : Bool}

theorem flatFields_fits {g : TypeId → Option (List CK)} {cs : List Value} : ∀ (fs : List Field) (off : Nat) (ks : List CK), flatFields P g fs off = some ks →
    (∀ (i : Nat) (f : Field), fs[i]? = some f → ∀ k, g f.type = some k → FitsAll k ((cs.drop f.offset).take (P.cellsOf f.type))) →
    cs.length = off + ks.length → FitsAll ks (cs.drop off)
  | [], off, ks, h, _, hl => by
    simp [flatFields] at h; subst h
    have : cs.drop off = [] := by apply List.drop_of_length_le; simp at hl; omega
    rw [this]; trivial
  | f :: r, off, ks, h, hf, hl => by
    simp only [flatFields, Option.bind_eq_some_iff] at h
    obtain ⟨k, hk, h⟩ := h
    split at h
    · rename_i hc
      simp only [Option.map_eq_some_iff] at h
      obtain ⟨k2, hk2, rfl⟩ := h
      refine FitsAll.append ?_ ?_
      · have := hf 0 f rfl k hk
        rw [hc.1, ← hc.2] at this
        exact this
      · rw [List.drop_drop]
        exact flatFields_fits r (off + k.length) k2 hk2 (fun i f' h' => hf (i + 1) f' (by simpa using h')) (by simp at hl; omega)
    · cases h

theorem flat_array {k : List CK} {n : Nat} : ∀ (m : Nat) (cs : List Value), cs.length = m * k.length →
    (∀ i, i < m → FitsAll k ((cs.drop (i * k.length)).take k.length)) → FitsAll (List.replicate m k).flatten cs
  | 0, cs, hl, _ => by
    have : cs = [] := by apply List.length_eq_zero_iff.1; simpa using hl
    subst this; trivial
  | m + 1, cs, hl, h => by
    rw [List.replicate_succ, List.flatten_cons]
    refine FitsAll.append ?_ ?_
    · simpa using h 0 (by omega)
    · refine flat_array (n := n) m _ (by rw [List.length_drop, hl, Nat.succ_mul]; omega) (fun i hi => ?_)
      have := h (i + 1) (by omega)
      rw [List.drop_drop, show k.length + i * k.length = (i + 1) * k.length by rw [Nat.succ_mul]; omega]
      exact this

theorem flat_trod : ∀ (f : Nat) (t : TypeId) (ks : List CK), flatK P f t = some ks → ∀ (fuel : Nat) (cs : List Value) (y : DataW H × List MemPlace),
    DataW.trod enc P w base spare held fuel t cs = some y → FitsAll ks cs := by
  intro f
  induction f with
  | zero => intro t ks h; simp [flatK] at h
  | succ f ih =>
    intro t ks h fuel cs y hy
    unfold flatK at h
    split at h
    · rename_i ht
      simp at h; subst h
      cases fuel with
      | zero => simp [DataW.trod] at hy
      | succ n =>
        unfold DataW.trod at hy
        rw [ht] at hy
        split at hy <;> simp_all [FitsAll, CK.fits]
    · rename_i k ht
      simp at h; subst h
      obtain ⟨n, rfl, _, hw⟩ := DataW.trod_int ht hy
      exact ⟨⟨n, rfl, hw⟩, trivial⟩
    · rename_i ht
      simp at h; subst h
      obtain ⟨s, rfl, _, hs⟩ := DataW.trod_string ht hy
      exact ⟨⟨s, rfl, hs⟩, trivial⟩
    · rename_i fs ht
      simp only [Option.bind_eq_some_iff] at h
      obtain ⟨k, hk, h⟩ := h
      split at h
      · rename_i hl
        simp at h; subst h
        obtain ⟨xs, n, rfl, _, hcs, hxs, hf⟩ := DataW.trod_struct ht hy
        have := flatFields_fits (P := P) (cs := cs) fs.toList 0 k hk (fun i f' hf' k' hk' => by
          have h1 := hf i f' (by simpa using hf')
          have hi : i < xs.length := by
            have := (List.getElem?_eq_some_iff.1 hf').1
            simp at this; omega
          rw [List.getElem?_eq_getElem hi] at h1
          exact ih _ _ hk' _ _ _ h1) (by omega)
        simpa using this
      · cases h
    · rename_i n e ht
      simp only [Option.bind_eq_some_iff] at h
      obtain ⟨k, hk, h⟩ := h
      split at h
      · rename_i hc
        simp at h; subst h
        cases fuel with
        | zero => simp [DataW.trod] at hy
        | succ q =>
          unfold DataW.trod at hy
          rw [ht] at hy
          simp only at hy
          split at hy
          · rename_i hl
            simp only [Option.map_eq_some_iff] at hy
            obtain ⟨xs, hxs, _⟩ := hy
            refine flat_array (n := 0) n cs (by rw [hl, ← hc.2]) (fun i hi => ?_)
            have h1 := mapM_some_get hxs i i (by simp [hi])
            have hlen : xs.length = n := by simpa using mapM_some_length hxs
            rw [List.getElem?_eq_getElem (by omega)] at h1
            rw [← hc.1] at h1
            exact ih _ _ hk _ _ _ h1
          · cases hy
      · cases h
    · cases h
end

/-- an argument as the row hands it over -/
def Reads (P : Program) (w : World) (t : TypeId) (v : Value) : Prop :=
  (∃ base, Value.okWide P w .any base t v) ∧ ∃ (H : Type) (enc : TypeId × Value → H) (d : DataW H) (p : List MemPlace), DataW.Trod enc P w 0 (fun _ => true) true t v d p

theorem Reads.flat {P : Program} {w : World} {t : TypeId} {v : Value} (h : Reads P w t v) (f : Nat) {ks : List CK} (hk : flatK P f t = some ks) : FitsAll ks v.cells.toList := by
  obtain ⟨_, H, enc, d, p, fuel, hd⟩ := h
  exact flat_trod f t ks hk fuel _ _ hd
theorem Reads.agg {P : Program} {w : World} {t : TypeId} {v : Value} {fs : Array Field} (h : Reads P w t v) (ht : P.underlying t = some (.struct fs)) : ∃ cs, v = .agg cs := by
  obtain ⟨⟨base, hv⟩, _⟩ := h
  unfold Value.okWide at hv
  rw [ht] at hv
  obtain ⟨cs, h, _⟩ := hv
  exact ⟨cs, h⟩
theorem Reads.int {P : Program} {w : World} {t : TypeId} {v : Value} {k : IntKind} (h : Reads P w t v) (ht : P.underlying t = some (.int k)) : ∃ n, v = .int k n ∧ (Lit.int k n).wf = true := by
  obtain ⟨⟨base, hv⟩, H, enc, d, p, fuel, hd⟩ := h
  obtain ⟨n, rfl, _, _, hw⟩ := open_int ht hv ⟨fuel, hd⟩
  exact ⟨n, rfl, hw⟩
theorem Reads.string {P : Program} {w : World} {t : TypeId} {v : Value} (h : Reads P w t v) (ht : P.underlying t = some .string) : ∃ s, v = .string s ∧ s.size ≤ maxLen := by
  obtain ⟨⟨base, hv⟩, H, enc, d, p, fuel, hd⟩ := h
  obtain ⟨s, rfl, _, _, hw⟩ := Go.ChangeMaps.open_string ht hv ⟨fuel, hd⟩
  exact ⟨s, rfl, hw⟩
end Go.Proofs.Yteefknjaandjhaa

/- slices.SortFunc on a row of elements of any type: the row holds the same elements, in order. -/
import Derived.Test.YtfmphfidloobkaaGreatDoorShelf
import Derived.Test.YtfmphfidloobkaaGreatDoorQab
import Derived.Shelf.SlSortCmp.WholeK
import Derived.Shelf.SlSortCmp.NoneTotal
import Derived.Test.YtfmphfidloobkaaGreatDoorQak
namespace Go.Proofs.YtfmphfidloobkaaGreatDoor
open Go.RowKit Go.Sort Go.Shelf

section
variable {α : Type} [Inhabited α] {enc : α → List Value} {k : Nat}
def encA (enc : α → List Value) (x : α) : Array Value := (enc x).toArray
theorem flatK_enc (hk : ∀ x, (enc x).length = k) (h0 : 0 < k) (l : List α) : Go.Sort.flatK enc k l.toArray = (flatA (l.map (encA enc))).toArray := by
  have hs : ∀ x ∈ l.map (encA enc), x.size = k := by intro x hx; obtain ⟨y, _, rfl⟩ := List.mem_map.1 hx; simp [encA, hk]
  have hl := flatA_len hs
  apply ext_get!
  · simp [hl]
  · intro t ht
    simp at ht
    rw [get_flatK enc k _ t (by simpa using ht)]
    have hq : t / k < l.length := Nat.div_lt_of_lt_mul (by rw [Nat.mul_comm]; exact ht)
    have hr : t % k < k := Nat.mod_lt _ h0
    have h1 := flatA_get hs (t / k) (encA enc l[t / k]) (by simp [hq]) (t % k) hr
    have hdm : t / k * k + t % k = t := by rw [Nat.mul_comm]; exact Nat.div_add_mod t k
    rw [hdm] at h1
    have e1 : l.toArray[t / k]! = l[t / k] := by rw [getElem!_pos l.toArray (t / k) (by simpa using hq)]; simp
    rw [e1]
    have hm : t % k < (enc l[t / k]).length := by rw [hk]; exact hr
    have h2 : (encA enc l[t / k])[t % k]? = some ((enc l[t / k])[t % k]) := by
      unfold encA
      rw [List.getElem?_toArray, List.getElem?_eq_getElem hm]
    rw [h2] at h1
    rw [getElem!_pos (enc l[t / k]) (t % k) hm]
    have ht2 : t < (flatA (l.map (encA enc))).length := by rw [hl]; simpa using ht
    rw [getElem!_pos (flatA (l.map (encA enc))).toArray t (by simpa using ht2)]
    rw [List.getElem?_eq_getElem ht2] at h1
    simpa using (Option.some.inj h1).symm
theorem heap_sortG {w : World} {g n : Nat} {cur : Array Value} {e : TypeId} {d : Array α} {os : Array Obj} (h : w.heap[g]? = some (.cells cur e (0, 0))) :
    (sortWorldK enc k w g 0 n d os).heap[g]? = some (.cells (putCells id 0 (Go.Sort.flatK enc k d) cur) e (0, 0)) := by
  have hlt : g < w.heap.size := (Array.getElem?_eq_some_iff.1 h).1
  unfold sortWorldK Sort.grow putRowK putRow
  simp only
  rw [Array.getElem?_append, if_pos (by simpa [mapBlock] using hlt)]
  simp only [mapBlock, Sort.ahead, Array.getElem?_modify, if_true, h, Option.map_some, onCells]
theorem heap_sortG_ne {w : World} {g n j : Nat} {d : Array α} {os : Array Obj} (hk : j < w.heap.size) (hne : j ≠ g) : (sortWorldK enc k w g 0 n d os).heap[j]? = w.heap[j]? := by
  unfold sortWorldK Sort.grow putRowK putRow
  simp only
  rw [Array.getElem?_append, if_pos (by simpa [mapBlock] using hk)]
  simp only [mapBlock, Sort.ahead, Array.getElem?_modify]
  rw [if_neg (fun e => hne e.symm)]
theorem size_sortG {w : World} {g n : Nat} {d : Array α} {os : Array Obj} : w.heap.size ≤ (sortWorldK enc k w g 0 n d os).heap.size := by
  simp [sortWorldK, Sort.grow, putRowK, Sort.ahead]
set_option maxRecDepth 100000 in
theorem sortG_calls {P : Program} {ρ : Ren} (L : SlLaysF0.n6 P ρ) (hk : ∀ x, (enc x).length = k) (h0 : 0 < k) (h1 : ∀ x, ∀ v ∈ enc x, v.oneCell' = true) (agg : ∀ w, (isAgg (ρ.t 24)).run P w = .ok true w) (siz : ∀ w, (Go.sizeOf (ρ.t 24)).run P w = .ok k w)
    (cf : α → α → Int) (hO : SWO (ltOf cf)) (f : Nat) (cb : Array Value) (eg : ∀ args w, (callFunc f args).run P w = .ok (.enter f args) w)
    (l : List α) (v : Value) (w : World) (B : Nat) (e : TypeId) (hB : B ≤ w.heap.size) (hcmp : ∀ blk, v.ownBlock = some blk → CmpLays P f cb enc k cf blk 0 l.length w) (hown : OwnA w B k e v (l.map (encA enc))) (hlen : l.length ≤ 100000) :
    Calls P (ρ.f 6) #[v, .func (.func f) #[] cb] w fun e' w' =>
      e' = .returned (.tuple #[]) ∧ ∃ l' : List α, l'.Perm l ∧ l'.Pairwise (fun x y => ltOf cf y x = false) ∧ OwnA w' B k e v (l'.map (encA enc)) ∧ Below B w w' ∧ ∀ b, b < w.heap.size → v.ownBlock ≠ some b → w'.heap[b]? = w.heap[b]? := by
  have none : ∀ (p : Option Addr) (cap : Nat), v = .slice p 0 cap → l = [] → Calls P (ρ.f 6) #[v, .func (.func f) #[] cb] w fun e' w' =>
      e' = .returned (.tuple #[]) ∧ ∃ l' : List α, l'.Perm l ∧ l'.Pairwise (fun x y => ltOf cf y x = false) ∧ OwnA w' B k e v (l'.map (encA enc)) ∧ Below B w w' ∧ ∀ b, b < w.heap.size → v.ownBlock ≠ some b → w'.heap[b]? = w.heap[b]? := by
    rintro p cap rfl rfl
    refine Calls.mono (AnyF.slices_SortFunc_none L p cap (.func (.func f) #[] cb) w) ?_
    rintro e' w' ⟨he, hw⟩
    subst hw
    exact ⟨he, [], List.Perm.refl _, List.Pairwise.nil, hown, Below.refl _ _, fun _ _ _ => rfl⟩
  have hs : ∀ x ∈ l.map (encA enc), x.size = k := hown.1
  rcases hown.2.2 with ⟨hv, hn0⟩ | ⟨g, cap, cur, hv, hg, hh, hn, hm, hsz, hx⟩
  · exact none _ _ hv (List.eq_nil_of_length_eq_zero (by simpa using hn0))
  · by_cases hl0 : l = []
    · subst hl0
      exact none _ cap hv rfl
    · have hpos : 0 < l.length := List.length_pos_iff.2 hl0
      rw [List.length_map] at hn hv hx
      have hlt : g < w.heap.size := (Array.getElem?_eq_some_iff.1 hh).1
      have hfl : (flatA (l.map (encA enc))).length = l.length * k := by rw [flatA_len hs, List.length_map]
      have hH : HoldsK enc k w g 0 l.toArray := by
        unfold HoldsK
        rw [flatK_enc hk h0]
        intro j hj
        have hj2 : j < (flatA (l.map (encA enc))).length := by simpa using hj
        constructor
        · rw [getElem!_pos _ j (by simpa using hj2)]
          simp only [id, Nat.zero_add, World.cell?, hh]
          have h1 : cur.toList[j]? = some (flatA (l.map (encA enc)))[j] := by
            rw [← List.getElem?_eq_getElem hj2, ← hx, List.getElem?_take, if_pos (by omega)]
          simpa using h1
        · simp [World.frozen?, hh]
      have hob : v.ownBlock = some g := by rw [hv]; rfl
      have hc := AnyQ.slices_SortFunc L k agg siz enc hk h1 cf hO f cb g 0 cap l.toArray w eg (by rw [List.size_toArray]; exact hcmp g hob) hH hlt (by simp; omega)
      rw [List.size_toArray] at hc
      rw [hv]
      refine Calls.mono hc ?_
      rintro e' w' ⟨he, d', n, os, ⟨hsz', _, hperm⟩, hsort, rfl⟩
      simp only [List.size_toArray] at hsz' hsort
      have hd : d' = d'.toList.toArray := rfl
      have hp : d'.toList.Perm l := by
        have e1 : d'.extract 0 l.length = d' := by apply Array.extract_eq_self_of_le; omega
        have e2 : l.toArray.extract 0 l.length = l.toArray := by apply Array.extract_eq_self_of_le; simp
        try simp only [List.size_toArray] at hperm
        rw [e1, e2] at hperm
        exact hperm
      have hdl : d'.toList.length = l.length := by simpa using hsz'
      have hs' : ∀ x ∈ d'.toList.map (encA enc), x.size = k := by intro x hx; obtain ⟨y, _, rfl⟩ := List.mem_map.1 hx; simp [encA, hk]
      have hfl' : (flatA (d'.toList.map (encA enc))).length = l.length * k := by rw [flatA_len hs', List.length_map, hdl]
      refine ⟨he, d'.toList, hp, ?_, ⟨hs', ?_⟩, ?_, ?_⟩
      · rw [List.pairwise_iff_getElem]
        intro i j hi hj hij
        have := hsort i j (Nat.zero_le _) hij (by omega)
        rw [getElem!_pos d' j (by simpa using hj), getElem!_pos d' i (by simpa using hi)] at this
        simpa using this
      · rw [List.length_map, hdl]
        refine ⟨by rw [hfl'], .inr ⟨g, cap, _, rfl, hg, heap_sortG hh, hn, hm, by simp [putCells, hsz], ?_⟩⟩
        apply List.ext_getElem?
        intro t
        rw [List.getElem?_take]
        by_cases ht : t < l.length * k
        · rw [if_pos ht]
          have htc : t < cur.size := by rw [hsz]; have := Nat.mul_le_mul_right k hn; omega
          rw [Array.getElem?_toList]
          unfold putCells
          rw [Array.getElem?_mapIdx, Array.getElem?_eq_getElem htc]
          simp only [Option.map_some, id]
          have e3 : Go.Sort.flatK enc k d' = (flatA (d'.toList.map (encA enc))).toArray := by rw [hd]; exact flatK_enc hk h0 _
          rw [e3]
          rw [if_pos (by simp [hfl']; omega), getElem!_pos _ (t - 0) (by simp [hfl']; omega)]
          rw [List.getElem?_eq_getElem (by rw [hfl']; exact ht)]
          simp
        · rw [if_neg ht, List.getElem?_eq_none (by rw [hfl']; omega)]
      · exact ⟨rfl, rfl, rfl, size_sortG, fun j hj => heap_sortG_ne (by omega) (by omega)⟩
      · intro b hb hne
        refine heap_sortG_ne hb (fun e => hne ?_)
        rw [e]; rfl
end
end Go.Proofs.YtfmphfidloobkaaGreatDoor
namespace Go.Proofs.YtfmphfidloobkaaGreatDoor
open Go.RowKit

theorem del_len {α β : Type} [DecidableEq α] (L : List (α × β)) (k : α) : (del L k).length ≤ L.length := by
  unfold del; exact List.length_filter_le _ _
theorem del_mem_len {α β : Type} [DecidableEq α] : ∀ {L : List (α × β)} {p : α × β}, p ∈ L → (del L p.1).length < L.length
  | [], _, h => by simp at h
  | q :: L, p, h => by
    unfold del
    rw [List.filter_cons]
    by_cases hq : q.1 = p.1
    · simp only [hq, ne_eq, not_true_eq_false, decide_false, Bool.false_eq_true, if_false]
      have := del_len L p.1
      unfold del at this
      simp only [List.length_cons]
      simp only [ne_eq] at this
      omega
    · simp only [hq, ne_eq, not_false_eq_true, decide_true, if_true, List.length_cons]
      have hp : p ∈ L := by
        rcases List.mem_cons.1 h with rfl | h
        · exact (hq rfl).elim
        · exact h
      have := del_mem_len hp
      unfold del at this
      simp only [ne_eq] at this
      omega
theorem del_perm {α β : Type} [DecidableEq α] : ∀ {L : List (α × β)} {p : α × β}, Uniq L → p ∈ L → (p :: del L p.1).Perm L
  | [], _, _, h => by simp at h
  | q :: L, p, hu, h => by
    unfold del
    rw [List.filter_cons]
    have hu2 : q.1 ∉ L.map (·.1) ∧ (L.map (·.1)).Nodup := by unfold Uniq at hu; rwa [List.map_cons, List.nodup_cons] at hu
    by_cases hq : q.1 = p.1
    · have hqp : q = p := by
        rcases List.mem_cons.1 h with rfl | h
        · rfl
        · exact (hu2.1 (List.mem_map.2 ⟨p, h, hq.symm⟩)).elim
      subst hqp
      have hf : L.filter (fun r => decide (r.1 ≠ q.1)) = L := by
        rw [List.filter_eq_self]
        intro r hr
        simp only [ne_eq, decide_eq_true_eq]
        intro e
        exact hu2.1 (List.mem_map.2 ⟨r, hr, e⟩)
      simp only [ne_eq, not_true_eq_false, decide_false, Bool.false_eq_true, if_false]
      simp only [ne_eq] at hf
      rw [hf]
    · simp only [hq, ne_eq, not_false_eq_true, decide_true, if_true]
      have hp : p ∈ L := by
        rcases List.mem_cons.1 h with rfl | h
        · exact (hq rfl).elim
        · exact h
      have := del_perm (show Uniq L from hu2.2) hp
      unfold del at this
      simp only [ne_eq] at this
      exact (List.Perm.swap q p _).trans (this.cons q)
theorem OwnA.mono {w : World} {B B' sz : Nat} {e : TypeId} {v : Value} {xs : List (Array Value)} (h : OwnA w B sz e v xs) (hB : B' ≤ B) : OwnA w B' sz e v xs := by
  obtain ⟨h0, h1, h2⟩ := h
  refine ⟨h0, h1, ?_⟩
  rcases h2 with h2 | ⟨g, cap, cur, a, b, r⟩
  · exact .inl h2
  · exact .inr ⟨g, cap, cur, a, Nat.le_trans hB b, r⟩
theorem RangeIs.uniqL {α β : Type} [DecidableEq α] {ek : α → Value} {ev : β → Value} {dom : α → Prop} {w : World} {b r : Nat} {L left : List (α × β)} (h : RangeIs ek ev dom w b r L left) : Uniq left := by
  have hu := h.isMap.uniq
  obtain ⟨_, _, _, _, _, _, _, _, _, _, _, _, hsub⟩ := h
  exact (hsub.map _).nodup hu
end Go.Proofs.YtfmphfidloobkaaGreatDoor

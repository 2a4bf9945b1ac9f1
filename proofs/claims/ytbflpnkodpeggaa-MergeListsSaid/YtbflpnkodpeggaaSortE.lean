/- slices.SortFunc on entries: the row holds the same entries, in order. -/
import Derived.Test.YtbflpnkodpeggaaShelf
import Derived.Test.YtbflpnkodpeggaaLessD
import Derived.Test.YtbflpnkodpeggaaListPlain
namespace Go.Proofs.Ytbflpnkodpeggaa
open Go.RowKit Go.Sort

instance : Inhabited Ent := ⟨⟨⟨List.replicate 25 0, by simp⟩, Rec.zero⟩⟩
def entL (e : Ent) : List Value := keyL e.k ++ recL e.r
theorem entL_len (e : Ent) : (entL e).length = 34 := by simp [entL, keyL_len, recL_len]
theorem entL_arr (e : Ent) : (entL e).toArray = entA e := rfl
theorem flatK_ent (l : List Ent) : flatK entL 34 l.toArray = (flatA (l.map entA)).toArray := by
  have hs : ∀ x ∈ l.map entA, x.size = 34 := by intro x hx; obtain ⟨y, _, rfl⟩ := List.mem_map.1 hx; exact entA_size y
  have hl := flatA_len hs
  apply ext_get!
  · simp [hl]
  · intro t ht
    simp at ht
    rw [get_flatK entL 34 _ t (by simpa using ht)]
    have hq : t / 34 < l.length := by omega
    have h1 := flatA_get hs (t / 34) (entA l[t / 34]) (by simp [hq]) (t % 34) (Nat.mod_lt _ (by omega))
    have hdm : t / 34 * 34 + t % 34 = t := by omega
    rw [hdm] at h1
    have e1 : l.toArray[t / 34]! = l[t / 34] := by rw [getElem!_pos l.toArray (t / 34) (by simpa using hq)]; simp
    rw [e1]
    have hm : t % 34 < (entL l[t / 34]).length := by rw [entL_len]; exact Nat.mod_lt _ (by omega)
    have h2 : (entA l[t / 34])[t % 34]? = some ((entL l[t / 34])[t % 34]) := by
      rw [← entL_arr, List.getElem?_toArray, List.getElem?_eq_getElem hm]
    rw [h2] at h1
    rw [getElem!_pos (entL l[t / 34]) (t % 34) hm]
    have ht2 : t < (flatA (l.map entA)).length := by rw [hl]; simpa using ht
    rw [getElem!_pos (flatA (l.map entA)).toArray t (by simpa using ht2)]
    rw [List.getElem?_eq_getElem ht2] at h1
    simpa using (Option.some.inj h1).symm
theorem ltOf_ent (x y : Ent) : ltOf Dr.entCf x y = lessL x.k.val y.k.val := by
  unfold ltOf Dr.entCf
  cases lessL x.k.val y.k.val <;> rfl
theorem swo_ent : SWO (ltOf Dr.entCf) where
  irrefl x := by rw [ltOf_ent]; exact lessL_irrefl _
  trans x y z h1 h2 := by rw [ltOf_ent] at *; exact lessL_trans _ _ _ h1 h2
  ntrans x y z h1 h2 := by
    rw [ltOf_ent] at *
    cases h3 : lessL x.k.val z.k.val with
    | false => rfl
    | true =>
      exfalso
      by_cases hyx : kLt y.k x.k
      · have := lessL_trans _ _ _ hyx h3; rw [h2] at this; cases this
      · have hxy : ¬ kLt x.k y.k := by unfold kLt; rw [h1]; decide
        have := k_total hxy hyx
        rw [this] at h3; rw [h2] at h3; cases h3
theorem entCmp_lays (blk off size : Nat) (w : World) : CmpLays Try.prog 32 #[] entL 34 Dr.entCf blk off size w := by
  intro m os dk _ x y
  have h := Dr.entCmp_gives x y (sortWorldK entL 34 w blk off m dk os)
  refine Calls.mono h ?_
  rintro e w' ⟨rfl, hb⟩
  obtain ⟨xs, d, rfl⟩ := Dr.grow_of_below hb
  exact ⟨rfl, d, xs, rfl⟩
theorem agg24 : ∀ w, (isAgg (Try.sortEnt_ren.t 24)).run Try.prog w = .ok true w := fun w => Try.isAgg43 w
theorem size24 : ∀ w, (Go.sizeOf (Try.sortEnt_ren.t 24)).run Try.prog w = .ok 34 w := fun w => Try.sizeOf43 w
theorem heap_sortW {w : World} {g n : Nat} {cur : Array Value} {e : TypeId} {d : Array Ent} {os : Array Obj} (h : w.heap[g]? = some (.cells cur e (0, 0))) :
    (sortWorldK entL 34 w g 0 n d os).heap[g]? = some (.cells (putCells id 0 (flatK entL 34 d) cur) e (0, 0)) := by
  have hlt : g < w.heap.size := (Array.getElem?_eq_some_iff.1 h).1
  unfold sortWorldK Sort.grow putRowK putRow
  simp only
  rw [Array.getElem?_append, if_pos (by simpa [mapBlock] using hlt)]
  simp only [mapBlock, Sort.ahead, Array.getElem?_modify, if_true, h, Option.map_some, onCells]
theorem heap_sortW_ne {w : World} {g n k : Nat} {d : Array Ent} {os : Array Obj} (hk : k < w.heap.size) (hne : k ≠ g) : (sortWorldK entL 34 w g 0 n d os).heap[k]? = w.heap[k]? := by
  unfold sortWorldK Sort.grow putRowK putRow
  simp only
  rw [Array.getElem?_append, if_pos (by simpa [mapBlock] using hk)]
  simp only [mapBlock, Sort.ahead, Array.getElem?_modify]
  rw [if_neg (fun e => hne e.symm)]
set_option maxRecDepth 100000 in
theorem sort_calls (l : List Ent) (v : Value) (w : World) (B : Nat) (hB : B ≤ w.heap.size) (hown : OwnA w B 34 43 v (l.map entA)) (hlen : l.length ≤ 100000) :
    Calls Try.prog 31 #[v, .func (.func 32) #[] #[]] w fun e w' =>
      e = .returned (.tuple #[]) ∧ ∃ l' : List Ent, l'.Perm l ∧ l'.Pairwise (fun x y => lessL y.k.val x.k.val = false) ∧ OwnA w' B 34 43 v (l'.map entA) ∧ Below B w w' := by
  have none : ∀ (p : Option Addr) (cap : Nat), v = .slice p 0 cap → l = [] → Calls Try.prog 31 #[v, .func (.func 32) #[] #[]] w fun e w' =>
      e = .returned (.tuple #[]) ∧ ∃ l' : List Ent, l'.Perm l ∧ l'.Pairwise (fun x y => lessL y.k.val x.k.val = false) ∧ OwnA w' B 34 43 v (l'.map entA) ∧ Below B w w' := by
    rintro p cap rfl rfl
    refine Calls.mono (AnyF.slices_SortFunc_none Try.sortEnt p cap (.func (.func 32) #[] #[]) w) ?_
    rintro e w' ⟨he, hw⟩
    subst hw
    exact ⟨he, [], List.Perm.refl _, List.Pairwise.nil, hown, Below.refl _ _⟩
  have hs : ∀ x ∈ l.map entA, x.size = 34 := hown.1
  rcases hown.2.2 with ⟨hv, h0⟩ | ⟨g, cap, cur, hv, hg, hh, hn, hm, hsz, hx⟩
  · exact none _ _ hv (List.eq_nil_of_length_eq_zero (by simpa using h0))
  · by_cases hl0 : l = []
    · subst hl0
      exact none _ cap hv rfl
    · have hpos : 0 < l.length := List.length_pos_iff.2 hl0
      rw [List.length_map] at hn hv hx
      have hlt : g < w.heap.size := (Array.getElem?_eq_some_iff.1 hh).1
      have hfl : (flatA (l.map entA)).length = l.length * 34 := by rw [flatA_len hs, List.length_map]
      have hH : HoldsK entL 34 w g 0 l.toArray := by
        unfold HoldsK
        rw [flatK_ent]
        intro j hj
        have hj2 : j < (flatA (l.map entA)).length := by simpa using hj
        constructor
        · rw [getElem!_pos _ j (by simpa using hj2)]
          simp only [id, Nat.zero_add, World.cell?, hh]
          have h1 : cur.toList[j]? = some (flatA (l.map entA))[j] := by
            rw [← List.getElem?_eq_getElem hj2, ← hx, List.getElem?_take, if_pos (by omega)]
          simpa using h1
        · simp [World.frozen?, hh]
      have eg : ∀ args w, (callFunc 32 args).run Try.prog w = .ok (.enter 32 args) w := enters_of Try.func32 (by kernel_rfl) rfl
      have hc := AnyQ.slices_SortFunc Try.sortEnt 34 agg24 size24 entL entL_len (fun x v hv => by
        rcases List.mem_append.1 hv with hv | hv
        · exact one_keyL _ v hv
        · exact one_recL _ v hv) Dr.entCf swo_ent 32 #[] g 0 cap l.toArray w eg (entCmp_lays _ _ _ _) hH hlt (by simp; omega)
      rw [List.size_toArray] at hc
      rw [hv]
      refine Calls.mono hc ?_
      rintro e w' ⟨he, d', n, os, ⟨hsz', _, hperm⟩, hsort, rfl⟩
      simp only [List.size_toArray] at hsz' hsort
      have hd : d' = d'.toList.toArray := rfl
      have hp : d'.toList.Perm l := by
        have e1 : d'.extract 0 l.length = d' := by apply Array.extract_eq_self_of_le; omega
        have e2 : l.toArray.extract 0 l.length = l.toArray := by apply Array.extract_eq_self_of_le; simp
        try simp only [List.size_toArray] at hperm
        rw [e1, e2] at hperm
        exact hperm
      have hdl : d'.toList.length = l.length := by simpa using hsz'
      have hs' : ∀ x ∈ d'.toList.map entA, x.size = 34 := by intro x hx; obtain ⟨y, _, rfl⟩ := List.mem_map.1 hx; exact entA_size y
      have hfl' : (flatA (d'.toList.map entA)).length = l.length * 34 := by rw [flatA_len hs', List.length_map, hdl]
      refine ⟨he, d'.toList, hp, ?_, ⟨hs', ?_⟩, ?_⟩
      · rw [List.pairwise_iff_getElem]
        intro i j hi hj hij
        have := hsort i j (Nat.zero_le _) hij (by omega)
        rw [ltOf_ent, getElem!_pos d' j (by simpa using hj), getElem!_pos d' i (by simpa using hi)] at this
        simpa using this
      · rw [List.length_map, hdl]
        refine ⟨by rw [hfl'], .inr ⟨g, cap, _, rfl, hg, heap_sortW hh, hn, hm, by simp [putCells, hsz], ?_⟩⟩
        apply List.ext_getElem?
        intro t
        rw [List.getElem?_take]
        by_cases ht : t < l.length * 34
        · rw [if_pos ht]
          have htc : t < cur.size := by rw [hsz]; have := Nat.mul_le_mul_right 34 hn; omega
          rw [Array.getElem?_toList]
          unfold putCells
          rw [Array.getElem?_mapIdx, Array.getElem?_eq_getElem htc]
          simp only [Option.map_some, id]
          have e3 : flatK entL 34 d' = (flatA (d'.toList.map entA)).toArray := by rw [hd]; exact flatK_ent _
          rw [e3]
          rw [if_pos (by simp [hfl']; omega), getElem!_pos _ (t - 0) (by simp [hfl']; omega)]
          rw [List.getElem?_eq_getElem (by rw [hfl']; exact ht)]
          simp
        · rw [if_neg ht, List.getElem?_eq_none (by rw [hfl']; omega)]
      · refine ⟨rfl, rfl, rfl, ?_, fun k hk => heap_sortW_ne (by omega) (by omega)⟩
        simp [sortWorldK, Sort.grow, putRowK, Sort.ahead]
end Go.Proofs.Ytbflpnkodpeggaa

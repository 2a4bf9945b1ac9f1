/- Layer 24 in plain Lean: the document's lists are the program's. -/
import Derived.Test.YtbflpnkodpeggaaMeetPlain
namespace Go.Proofs.Ytbflpnkodpeggaa

/-- insert: an entry into a list, in order; what stands there by its key stays, unless it is put over that -/
def insertR (l : List Ent) (e : Ent) (over : Bool) : List Ent :=
  if dup l e.k = true then (if over = true then l.set (placeOf l e.k) e else l) else l.take (placeOf l e.k) ++ [e] ++ l.drop (placeOf l e.k)
theorem insertR_not (l : List Ent) (e : Ent) : insertR l e false = riseOne l e := by
  unfold insertR riseOne
  split <;> rfl
theorem insertR_len (l : List Ent) (e : Ent) (o : Bool) : (insertR l e o).length ≤ l.length + 1 := by
  unfold insertR
  split
  · split
    · simp
    · omega
  · simp; omega
/-- the entry at an entry's place -/
theorem dup_at {l : List Ent} {k : K25} (h : dup l k = true) : ∃ x, l[placeOf l k]? = some x ∧ x.k = k := by
  unfold dup at h
  rw [decide_eq_true_eq] at h
  cases hx : l[placeOf l k]? with
  | none => rw [hx] at h; cases h
  | some x => rw [hx] at h; exact ⟨x, rfl, by simpa using h⟩
theorem place_lt {l : List Ent} {k : K25} {i : Nat} {x : Ent} (hi : i < placeOf l k) (hx : l[i]? = some x) : kLt x.k k := by
  have h1 : x ∈ l.take (placeOf l k) := by
    rw [List.mem_iff_getElem?]
    exact ⟨i, by rw [List.getElem?_take, if_pos hi]; exact hx⟩
  rw [take_place] at h1
  exact List.all_eq_true.1 (List.all_takeWhile) x h1
theorem dup_of_mem {l : List Ent} (hs : SortedE l) {e : Ent} (he : e ∈ l) : dup l e.k = true := by
  obtain ⟨i, hi, hie⟩ := List.getElem_of_mem he
  have hge : placeOf l e.k ≤ i := by
    rcases Nat.lt_or_ge i (placeOf l e.k) with h | h
    · have := place_lt h (List.getElem?_eq_getElem hi)
      rw [hie] at this
      exact (kLt_irrefl _ this).elim
    · exact h
  have hp : placeOf l e.k < l.length := by omega
  have hnot : ¬ kLt l[placeOf l e.k].k e.k := by
    have h := drop_place l e.k
    have h2 := List.head?_dropWhile_not (fun x : Ent => lessL x.k.val e.k.val) l
    rw [← h, List.head?_drop, List.getElem?_eq_getElem hp] at h2
    simp only at h2
    unfold kLt
    rw [h2]
    decide
  have heq : placeOf l e.k = i := by
    rcases Nat.lt_or_ge (placeOf l e.k) i with h | h
    · exfalso
      have := (List.pairwise_iff_getElem.1 hs) _ _ hp hi h
      rw [hie] at this
      exact hnot this
    · omega
  unfold dup
  rw [decide_eq_true_eq, heq, List.getElem?_eq_getElem hi, hie]
  rfl
theorem find_congr {l1 l2 : List Ent} (h1 : (l1.map (·.k)).Nodup) (h2 : (l2.map (·.k)).Nodup) {k : K25} (h : ∀ r, (⟨k, r⟩ : Ent) ∈ l1 ↔ (⟨k, r⟩ : Ent) ∈ l2) : findE l1 k = findE l2 k := by
  by_cases hk : ∃ e ∈ l1, e.k = k
  · obtain ⟨e, he, rfl⟩ := hk
    rw [(find_mem h1).2 he]
    have := (h e.r).1 he
    exact ((find_mem h2 (e := ⟨e.k, e.r⟩)).2 this).symm
  · have hn1 : ∀ e ∈ l1, e.k ≠ k := fun e he hk' => hk ⟨e, he, hk'⟩
    have hn2 : ∀ e ∈ l2, e.k ≠ k := by
      intro e he hk'
      subst hk'
      exact hk ⟨⟨e.k, e.r⟩, (h e.r).2 he, rfl⟩
    rw [find_none hn1, find_none hn2]
theorem riseOne_mem {l : List Ent} {e x : Ent} : x ∈ riseOne l e ↔ x ∈ l ∨ (dup l e.k = false ∧ x = e) := by
  unfold riseOne
  cases hd : dup l e.k with
  | true => simp
  | false =>
    simp only [Bool.false_eq_true, if_false, true_and]
    constructor
    · intro h
      rcases List.mem_append.1 h with h | h
      · rcases List.mem_append.1 h with h | h
        · exact .inl (List.mem_of_mem_take h)
        · exact .inr (by simpa using h)
      · exact .inl (List.mem_of_mem_drop h)
    · rintro (h | rfl)
      · rw [← List.take_append_drop (placeOf l e.k) l] at h
        rcases List.mem_append.1 h with h | h
        · exact List.mem_append_left _ (List.mem_append_left _ h)
        · exact List.mem_append_right _ h
      · exact List.mem_append_left _ (List.mem_append_right _ (by simp))
theorem insertR_sorted {l : List Ent} (h : SortedE l) (e : Ent) (o : Bool) : SortedE (insertR l e o) := by
  cases o with
  | false => rw [insertR_not]; exact riseOne_sorted h e
  | true =>
    unfold insertR
    split
    · rename_i hd
      rw [if_pos rfl]
      obtain ⟨x, hx, hxk⟩ := dup_at hd
      have hm : (l.set (placeOf l e.k) e).map (·.k) = l.map (·.k) := by
        rw [List.map_set]
        apply List.ext_getElem?
        intro i
        rw [List.getElem?_set]
        split
        · rename_i hi
          subst hi
          have hlt : placeOf l e.k < l.length := (List.getElem?_eq_some_iff.1 hx).1
          rw [if_pos (by simpa using hlt), List.getElem?_map, hx, Option.map_some, hxk]
        · rfl
      unfold SortedE
      rw [← List.pairwise_map (f := fun e : Ent => e.k), hm, List.pairwise_map]
      exact h
    · have := riseOne_sorted h e
      unfold riseOne at this
      rename_i hd
      rw [if_neg hd] at this
      exact this
theorem set_mem {l : List Ent} (hs : SortedE l) {e x : Ent} (hd : dup l e.k = true) : x ∈ l.set (placeOf l e.k) e ↔ x = e ∨ (x ∈ l ∧ x.k ≠ e.k) := by
  obtain ⟨y, hy, hyk⟩ := dup_at hd
  have hp : placeOf l e.k < l.length := (List.getElem?_eq_some_iff.1 hy).1
  constructor
  · intro hx
    obtain ⟨i, hi, hie⟩ := List.getElem_of_mem hx
    rw [List.getElem_set] at hie
    split at hie
    · exact .inl hie.symm
    · rename_i hne
      have hil : i < l.length := by simpa using hi
      refine .inr ⟨by rw [← hie]; exact List.getElem_mem hil, ?_⟩
      intro hk
      have h1 := (List.pairwise_iff_getElem.1 hs)
      rw [← hie] at hk
      have hyy : l[placeOf l e.k] = y := (List.getElem?_eq_some_iff.1 hy).2
      rcases Nat.lt_or_ge i (placeOf l e.k) with h | h
      · have := h1 _ _ hil hp h
        rw [hyy, hk, hyk] at this
        exact kLt_irrefl _ this
      · have := h1 _ _ hp hil (by omega)
        rw [hyy, hk, hyk] at this
        exact kLt_irrefl _ this
  · rintro (rfl | ⟨hx, hne⟩)
    · exact List.mem_iff_getElem.2 ⟨placeOf l x.k, by simpa using hp, by simp⟩
    · obtain ⟨i, hi, hie⟩ := List.getElem_of_mem hx
      refine List.mem_iff_getElem.2 ⟨i, by simpa using hi, ?_⟩
      rw [List.getElem_set, if_neg]
      · exact hie
      · intro e2
        have hyy : l[placeOf l e.k] = y := (List.getElem?_eq_some_iff.1 hy).2
        apply hne
        rw [← hie]
        subst e2
        rw [hyy]; exact hyk
theorem find_insert {l : List Ent} (hs : SortedE l) (e : Ent) (k : K25) : findE (insertR l e true) k = if k = e.k then ⟨true, e.r⟩ else findE l k := by
  have hs' := insertR_sorted hs e true
  by_cases hk : k = e.k
  · rw [if_pos hk, hk]
    refine (find_mem hs'.keys).2 ?_
    unfold insertR
    split
    · rename_i hd
      rw [if_pos rfl]
      exact (set_mem hs hd).2 (.inl rfl)
    · exact List.mem_append_left _ (List.mem_append_right _ (by simp))
  · rw [if_neg hk]
    refine find_congr hs'.keys hs.keys fun r => ?_
    unfold insertR
    split
    · rename_i hd
      rw [if_pos rfl, set_mem hs hd]
      constructor
      · rintro (h | h)
        · exact (hk (by rw [← h])).elim
        · exact h.1
      · intro h; exact .inr ⟨h, hk⟩
    · rename_i hd
      have := riseOne_mem (l := l) (e := e) (x := ⟨k, r⟩)
      unfold riseOne at this
      rw [if_neg hd] at this
      rw [this]
      constructor
      · rintro (h | ⟨_, h⟩)
        · exact h
        · exact (hk (by rw [← h])).elim
      · exact .inl

/-! the keys of lists -/
def allR (l : List Ent) : List Ent := l.foldl (fun o e => insertR o e false) []
theorem allR_go : ∀ (l : List Ent) (o : List Ent), SortedE o → SortedE (l.foldl (fun o e => insertR o e false) o) ∧ ∀ k, (∃ x ∈ l.foldl (fun o e => insertR o e false) o, x.k = k) ↔ (∃ x ∈ o, x.k = k) ∨ ∃ x ∈ l, x.k = k
  | [], o, h => ⟨h, fun k => by simp⟩
  | e :: l, o, h => by
    obtain ⟨h1, h2⟩ := allR_go l (insertR o e false) (insertR_sorted h e false)
    refine ⟨h1, fun k => ?_⟩
    rw [List.foldl_cons, h2]
    rw [insertR_not]
    have hm : (∃ x ∈ riseOne o e, x.k = k) ↔ (∃ x ∈ o, x.k = k) ∨ e.k = k := by
      constructor
      · rintro ⟨x, hx, hk⟩
        rcases riseOne_mem.1 hx with h | ⟨_, rfl⟩
        · exact .inl ⟨x, h, hk⟩
        · exact .inr hk
      · rintro (⟨x, hx, hk⟩ | hk)
        · exact ⟨x, riseOne_mem.2 (.inl hx), hk⟩
        · cases hd : dup o e.k with
          | true =>
            obtain ⟨x, hx, hxk⟩ := dup_at hd
            exact ⟨x, riseOne_mem.2 (.inl (List.mem_of_getElem? hx)), hxk.trans hk⟩
          | false => exact ⟨e, riseOne_mem.2 (.inr ⟨hd, rfl⟩), hk⟩
    rw [hm]
    constructor
    · rintro ((h | h) | h)
      · exact .inl h
      · exact .inr ⟨e, by simp, h⟩
      · obtain ⟨x, hx, hk⟩ := h; exact .inr ⟨x, by simp [hx], hk⟩
    · rintro (h | ⟨x, hx, hk⟩)
      · exact .inl (.inl h)
      · rcases List.mem_cons.1 hx with rfl | hx
        · exact .inl (.inr hk)
        · exact .inr ⟨x, hx, hk⟩
theorem allR_sorted (l : List Ent) : SortedE (allR l) := (allR_go l [] List.Pairwise.nil).1
theorem allR_keys (a b c : List Ent) : (allR (a ++ b ++ c)).map (·.k) = keysL a b c := by
  have hs1 : ((allR (a ++ b ++ c)).map (·.k)).Pairwise kLt := by rw [List.pairwise_map]; exact allR_sorted _
  have hs2 : (keysL a b c).Pairwise kLt := by
    unfold keysL
    rw [List.pairwise_map]
    exact ents_sorted (putAll_uniq c (putAll_uniq b (putAll_uniq a uniq_nil)))
  refine List.Perm.eq_of_pairwise (le := kLt) (fun x y _ _ h1 h2 => (kLt_irrefl _ (kLt_trans h1 h2)).elim) hs1 hs2 ?_
  rw [List.perm_ext_iff_of_nodup (hs1.imp kLt_ne) (hs2.imp kLt_ne)]
  intro k
  rw [keysL_mem, List.mem_map]
  have := (allR_go (a ++ b ++ c) [] List.Pairwise.nil).2 k
  unfold allR
  rw [this]
  simp only [List.not_mem_nil, false_and, exists_false, false_or, List.mem_append]
  constructor
  · rintro ⟨x, (hx | hx) | hx, hk⟩
    · exact .inl ⟨x, hx, hk⟩
    · exact .inr (.inl ⟨x, hx, hk⟩)
    · exact .inr (.inr ⟨x, hx, hk⟩)
  · rintro (⟨x, hx, hk⟩ | ⟨x, hx, hk⟩ | ⟨x, hx, hk⟩)
    · exact ⟨x, .inl (.inl hx), hk⟩
    · exact ⟨x, .inl (.inr hx), hk⟩
    · exact ⟨x, .inr hx, hk⟩
theorem allR_len : ∀ (l : List Ent), (allR l).length ≤ l.length := by
  have : ∀ (l o : List Ent), (l.foldl (fun o e => insertR o e false) o).length ≤ o.length + l.length := by
    intro l
    induction l with
    | nil => intro o; simp
    | cons e l ih =>
      intro o
      have h1 := ih (insertR o e false)
      have h2 := insertR_len o e false
      simp only [List.foldl_cons, List.length_cons]
      omega
  intro l
  simpa [allR] using this l []
theorem allR_succ (l : List Ent) (i : Nat) (h : i < l.length) : allR (l.take (i + 1)) = insertR (allR (l.take i)) l[i] false := by
  unfold allR
  rw [List.take_succ_eq_append_getElem h, List.foldl_append]
  rfl

/-! the document's answer -/
def wrOfR (a b c : List Ent) (m : Int) (k : K25) : Option Wr :=
  let x := threeC (findE a k) (findE b k) (findE c k) m
  if x.2.2 = 0 ∧ x.1 ≠ findE b k then some ⟨k, !x.1.is_, x.1.r⟩ else none
def clashOfR (a b c : List Ent) (m : Int) (k : K25) : Bool := decide ((threeC (findE a k) (findE b k) (findE c k) m).2.1 = 3)
def listsR (a b c : List Ent) (m : Int) : List Wr × List K25 × Int :=
  if m < 0 ∨ 2 < m then ([], [], 5) else
  if m = 0 ∧ 0 < (((allR (a ++ b ++ c)).map (·.k)).filter (clashOfR a b c m)).length then ([], ((allR (a ++ b ++ c)).map (·.k)).filter (clashOfR a b c m), 11) else
  (((allR (a ++ b ++ c)).map (·.k)).filterMap (wrOfR a b c m), ((allR (a ++ b ++ c)).map (·.k)).filter (clashOfR a b c m), 0)
theorem listsR_eq {a b c : List Ent} (ha : SortedE a) (hb : SortedE b) (hc : SortedE c) (m : Int) : listsR a b c m = listsM a b c m := by
  have h1 : wrOfR a b c m = wrOf a b c m := by
    funext k
    unfold wrOfR wrOf
    rw [cellMap_lk a ha.keys, cellMap_lk b hb.keys, cellMap_lk c hc.keys]
  have h2 : clashOfR a b c m = clashOf a b c m := by
    funext k
    unfold clashOfR clashOf
    rw [cellMap_lk a ha.keys, cellMap_lk b hb.keys, cellMap_lk c hc.keys]
  unfold listsR listsM
  rw [allR_keys, h1, h2]
  split
  · rfl
  · by_cases h : 0 < ((keysL a b c).filter (clashOf a b c m)).length ∧ m = 0
    · rw [if_pos h, if_pos ⟨h.2, h.1⟩]
    · rw [if_neg h, if_neg (fun h' => h ⟨h'.2, h'.1⟩)]
def overOne (l : List Ent) (x : Wr) : List Ent := if x.dead = true then l.filter (fun e => decide (e.k ≠ x.k)) else insertR l ⟨x.k, x.r⟩ true
def overR (l : List Ent) (ws : List Wr) : List Ent := ws.foldl overOne l
theorem overOne_sorted {l : List Ent} (h : SortedE l) (x : Wr) : SortedE (overOne l x) := by
  unfold overOne
  split
  · exact List.Pairwise.filter _ h
  · exact insertR_sorted h _ _
theorem overOne_len (l : List Ent) (x : Wr) : (overOne l x).length ≤ l.length + 1 := by
  unfold overOne
  split
  · have := List.length_filter_le (fun e : Ent => decide (e.k ≠ x.k)) l; omega
  · exact insertR_len _ _ _
theorem overR_len : ∀ (ws : List Wr) (l : List Ent), (overR l ws).length ≤ l.length + ws.length
  | [], _ => Nat.le_refl _
  | x :: ws, l => by
    have h1 := overR_len ws (overOne l x)
    have h2 := overOne_len l x
    show (overR (overOne l x) ws).length ≤ _
    simp only [List.length_cons]
    omega
theorem overR_succ (l : List Ent) (ws : List Wr) (i : Nat) (h : i < ws.length) : overR l (ws.take (i + 1)) = overOne (overR l (ws.take i)) ws[i] := by
  unfold overR
  rw [List.take_succ_eq_append_getElem h, List.foldl_append]
  rfl
theorem overOne_eq {M : MRec} (hu : Uniq M) (x : Wr) : ents (wrOne M x) = overOne (ents M) x := by
  have hs := ents_sorted hu
  refine sorted_ext (ents_sorted (wrOne_uniq hu x)) (overOne_sorted hs x) fun k => ?_
  rw [find_ents (wrOne_uniq hu x), lk_wrOne]
  unfold overOne
  cases hd : x.dead with
  | true =>
    simp only [if_true]
    have hf : SortedE ((ents M).filter (fun e => decide (e.k ≠ x.k))) := List.Pairwise.filter _ hs
    by_cases hk : k = x.k
    · rw [if_pos hk]
      refine (find_none fun e he hk' => ?_).symm
      have := (List.mem_filter.1 he).2
      simp only [ne_eq, decide_eq_true_eq] at this
      exact this (hk'.trans hk)
    · rw [if_neg hk, ← find_ents hu]
      refine find_congr hs.keys hf.keys fun r => ?_
      rw [List.mem_filter]
      simp [hk]
  | false =>
    simp only [Bool.false_eq_true, if_false]
    rw [find_insert hs]
    by_cases hk : k = x.k
    · rw [if_pos hk, if_pos hk]; rfl
    · rw [if_neg hk, if_neg hk, find_ents hu]
theorem overR_go : ∀ (ws : List Wr) {M : MRec}, Uniq M → ents (wrAll M ws) = overR (ents M) ws
  | [], _, _ => rfl
  | x :: ws, M, hu => by
    show ents (wrAll (wrOne M x) ws) = overR (overOne (ents M) x) ws
    rw [overR_go ws (wrOne_uniq hu x), overOne_eq hu]
theorem overR_eq {l : List Ent} (h : SortedE l) (ws : List Wr) : overM l ws = overR l ws := by
  unfold overM
  rw [overR_go ws (putAll_uniq l uniq_nil), ents_putAll h]
end Go.Proofs.Ytbflpnkodpeggaa

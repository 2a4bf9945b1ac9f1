/- Layer 24 in plain Lean: what comes out of merging is what counts; merged once more nothing is left. -/
import Derived.Test.YtbflpnkodpeggaaListPlain
namespace Go.Proofs.Ytbflpnkodpeggaa

theorem find_filterMap {f : K25 → Option Wr} (hf : ∀ k x, f k = some x → x.k = k) : ∀ (ks : List K25) (k : K25), (ks.filterMap f).find? (fun x => decide (x.k = k)) = if k ∈ ks then f k else none
  | [], k => by simp
  | j :: ks, k => by
    have ih := find_filterMap hf ks k
    rw [List.filterMap_cons]
    cases hj : f j with
    | none =>
      simp only
      rw [ih]
      by_cases hjk : k = j
      · subst hjk; simp [hj]
      · simp [hjk]
    | some x =>
      simp only
      rw [List.find?_cons]
      have hx := hf j x hj
      by_cases hjk : k = j
      · subst hjk; simp [hx, hj]
      · have : ¬ x.k = k := fun e => hjk (e.symm.trans hx)
        simp only [this, decide_false, ih, List.mem_cons, hjk, false_or]
theorem filterMap_keys {f : K25 → Option Wr} (hf : ∀ k x, f k = some x → x.k = k) : ∀ (ks : List K25), ((ks.filterMap f).map (·.k)).Sublist ks
  | [] => List.Sublist.refl _
  | j :: ks => by
    rw [List.filterMap_cons]
    cases hj : f j with
    | none => exact (filterMap_keys hf ks).trans (List.sublist_cons_self _ _)
    | some x =>
      simp only [List.map_cons]
      rw [hf j x hj]
      exact (filterMap_keys hf ks).cons_cons j
theorem wrOf_key (a b c : List Ent) (m : Int) : ∀ k x, wrOf a b c m k = some x → x.k = k := by
  intro k x h
  unfold wrOf at h
  simp only at h
  split at h
  · cases h; rfl
  · cases h
theorem threeC_ok {a b c : Cell} {m : Int} (hb : b.ok) (hc : c.ok) : (threeC a b c m).1.ok := by
  unfold threeC
  repeat' split
  · intro _; rfl
  · intro _; rfl
  · exact hc
  · exact hb
/-- what is found behind the writes -/
theorem find_over {a b c : List Ent} {m : Int} (hb : SortedE b) (hc : SortedE c) (h : ∀ k ∈ keysL a b c, (threeC (cellAt a k) (cellAt b k) (cellAt c k) m).2.2 = 0) (k : K25) :
    findE (overM b ((keysL a b c).filterMap (wrOf a b c m))) k = if k ∈ keysL a b c then (threeC (cellAt a k) (cellAt b k) (cellAt c k) m).1 else findE b k := by
  have hnd : (((keysL a b c).filterMap (wrOf a b c m)).map (·.k)).Nodup := (filterMap_keys (wrOf_key a b c m) _).nodup (keysL_nodup a b c)
  have hu : Uniq (putAll [] b) := putAll_uniq b uniq_nil
  have hbk : cellOf (lk (putAll [] b) k) = findE b k := by
    rw [lk_putAll b hb.keys]
    unfold findE
    cases b.find? (fun e => decide (e.k = k)) <;> rfl
  unfold overM
  rw [find_ents (wrAll_uniq _ hu), lk_wrAll _ hnd, find_filterMap (wrOf_key a b c m)]
  by_cases hk : k ∈ keysL a b c
  · rw [if_pos hk, if_pos hk]
    have he := h k hk
    have hok : (threeC (cellAt a k) (cellAt b k) (cellAt c k) m).1.ok := by
      rw [cellMap_lk b hb.keys, cellMap_lk c hc.keys]
      exact threeC_ok (find_ok _ _) (find_ok _ _)
    unfold wrOf
    simp only
    by_cases hx : (threeC (cellAt a k) (cellAt b k) (cellAt c k) m).1 = cellAt b k
    · rw [if_neg (fun h => h.2 hx)]
      simp only
      rw [hbk, hx, cellMap_lk b hb.keys]
    · rw [if_pos ⟨he, hx⟩]
      simp only
      generalize (threeC (cellAt a k) (cellAt b k) (cellAt c k) m).1 = x at *
      obtain ⟨i, r⟩ := x
      cases i with
      | true => rfl
      | false => exact (hok rfl).symm
  · rw [if_neg hk, if_neg hk]
    exact hbk
theorem over_sorted (l : List Ent) (ws : List Wr) : SortedE (overM l ws) := ents_sorted (wrAll_uniq _ (putAll_uniq l uniq_nil))
theorem not_key {a b c : List Ent} {k : K25} (h : ¬ k ∈ keysL a b c) : findE a k = Cell.zero ∧ findE b k = Cell.zero ∧ findE c k = Cell.zero := by
  rw [keysL_mem] at h
  exact ⟨find_none fun e he hk => h (.inl ⟨e, he, hk⟩), find_none fun e he hk => h (.inr (.inl ⟨e, he, hk⟩)), find_none fun e he hk => h (.inr (.inr ⟨e, he, hk⟩))⟩
theorem no_clash {a b c : List Ent} {m : Int} (h : ∀ k, sideC (cellAt a k) (cellAt b k) (cellAt c k) ≠ 3) (hm : ¬ (m < 0 ∨ 2 < m)) : (keysL a b c).filter (clashOf a b c m) = [] := by
  rw [List.filter_eq_nil_iff]
  intro k _
  unfold clashOf threeC
  rw [if_neg hm, if_neg (fun h2 => h k h2.1)]
  split <;> simpa using h k
theorem err_zero {a b c : Cell} {m : Int} (hm : ¬ (m < 0 ∨ 2 < m)) (h : sideC a b c ≠ 3 ∨ m ≠ 0) : (threeC a b c m).2.2 = 0 := by
  unfold threeC
  rw [if_neg hm, if_neg (fun h2 => h.elim (fun h => h h2.1) (fun h => h h2.2))]
  split <;> rfl
/-- where theirs is the base nothing is written -/
theorem lists_theirs_base (a b : List Ent) (m : Int) (hm : ¬ (m < 0 ∨ 2 < m)) : listsM a b a m = ([], [], 0) := by
  have hs : ∀ k, sideC (cellAt a k) (cellAt b k) (cellAt a k) = 0 ∨ sideC (cellAt a k) (cellAt b k) (cellAt a k) = 1 := by
    intro k
    unfold sideC
    split
    · exact .inl rfl
    · rw [if_pos rfl]; exact .inr rfl
  have hc : (keysL a b a).filter (clashOf a b a m) = [] := no_clash (fun k => by have := hs k; omega) hm
  have hw : (keysL a b a).filterMap (wrOf a b a m) = [] := by
    rw [List.filterMap_eq_nil_iff]
    intro k _
    unfold wrOf
    simp only
    rw [if_neg]
    rintro ⟨_, h2⟩
    apply h2
    unfold threeC
    have := hs k
    rw [if_neg hm, if_neg (by omega), if_neg (by omega)]
  unfold listsM
  rw [if_neg hm, hc, hw]
  simp
theorem lists_ours_base (a c : List Ent) (ha : SortedE a) (hc : SortedE c) (m : Int) (hm : ¬ (m < 0 ∨ 2 < m)) : ∃ ws, listsM a a c m = (ws, [], 0) ∧ overM a ws = c := by
  have hs : ∀ k, (sideC (cellAt a k) (cellAt a k) (cellAt c k) = 0 ∧ cellAt a k = cellAt c k) ∨ (sideC (cellAt a k) (cellAt a k) (cellAt c k) = 1 ∧ cellAt c k = cellAt a k) ∨ sideC (cellAt a k) (cellAt a k) (cellAt c k) = 2 := by
    intro k
    unfold sideC
    split
    · rename_i h; exact .inl ⟨rfl, h⟩
    · split
      · rename_i h; exact .inr (.inl ⟨rfl, h⟩)
      · rw [if_pos rfl]; exact .inr (.inr rfl)
  have hn : ∀ k, sideC (cellAt a k) (cellAt a k) (cellAt c k) ≠ 3 := fun k => by have := hs k; omega
  have hcl : (keysL a a c).filter (clashOf a a c m) = [] := no_clash hn hm
  have hx : ∀ k, (threeC (cellAt a k) (cellAt a k) (cellAt c k) m).1 = cellAt c k := by
    intro k
    unfold threeC
    rw [if_neg hm, if_neg (fun h => hn k h.1)]
    rcases hs k with ⟨h0, h1⟩ | ⟨h0, h1⟩ | h0
    · rw [if_neg (by omega)]; exact h1
    · rw [if_neg (by omega)]; exact h1.symm
    · rw [if_pos (.inl h0)]
  refine ⟨(keysL a a c).filterMap (wrOf a a c m), ?_, ?_⟩
  · unfold listsM
    rw [if_neg hm, hcl]
    simp
  · refine sorted_ext (over_sorted _ _) hc fun k => ?_
    rw [find_over ha hc (fun k _ => err_zero hm (.inl (hn k)))]
    split
    · rw [hx, cellMap_lk c hc.keys]
    · rename_i h
      rw [(not_key h).1, (not_key h).2.2]
/-- behind the writes lies what counts -/
theorem lists_over {a b c : List Ent} (ha : SortedE a) (hb : SortedE b) (hc : SortedE c) {m : Int} (hm : m = 1 ∨ m = 2) :
    (listsM a b c m).2.2 = 0 ∧ (∀ k, findE (overM b (listsM a b c m).1) k = (threeC (findE a k) (findE b k) (findE c k) m).1) ∧ ∀ k ∈ (listsM a b c m).2.1, sideC (findE a k) (findE b k) (findE c k) = 3 := by
  have h0 : ¬ (m < 0 ∨ 2 < m) := by omega
  have e : listsM a b c m = ((keysL a b c).filterMap (wrOf a b c m), (keysL a b c).filter (clashOf a b c m), 0) := by
    unfold listsM
    rw [if_neg h0, if_neg (by omega)]
  rw [e]
  refine ⟨rfl, fun k => ?_, fun k hk => ?_⟩
  · rw [find_over hb hc (fun k _ => err_zero h0 (.inr (by omega)))]
    split
    · rw [cellMap_lk a ha.keys, cellMap_lk b hb.keys, cellMap_lk c hc.keys]
    · rename_i h
      obtain ⟨h1, h2, h3⟩ := not_key h
      rw [h1, h2, h3]
      unfold threeC
      rw [if_neg h0, if_neg (by rintro ⟨h4, _⟩; unfold sideC at h4; rw [if_pos rfl] at h4; cases h4), if_neg (by rintro (h4 | ⟨h4, _⟩) <;> (unfold sideC at h4; rw [if_pos rfl] at h4; cases h4))]
  · have h1 := (List.mem_filter.1 hk).2
    unfold clashOf at h1
    rw [cellMap_lk a ha.keys, cellMap_lk b hb.keys, cellMap_lk c hc.keys] at h1
    simp only [decide_eq_true_eq] at h1
    unfold threeC at h1
    rw [if_neg h0, if_neg (by omega)] at h1
    split at h1 <;> exact h1
/-- what counts is one of the two, where nothing clashes -/
theorem three_one (a b c : Cell) {m : Int} (hm : ¬ (m < 0 ∨ 2 < m)) : (threeC a b c m).2.1 = sideC a b c ∧ (sideC a b c = 3 ∨ (threeC a b c m).1 = b ∨ (threeC a b c m).1 = c) := by
  unfold threeC
  rw [if_neg hm]
  split
  · rename_i h; exact ⟨h.1.symm, .inl h.1⟩
  · split
    · exact ⟨rfl, .inr (.inr rfl)⟩
    · exact ⟨rfl, .inr (.inl rfl)⟩
theorem three_mine {a b c : Cell} (h : sideC a b c = 3) : (threeC a b c 1).1 = b := by
  unfold threeC
  rw [if_neg (by omega), if_neg (by omega), if_neg (by omega)]

/-! what Rise makes is sorted -/
theorem drop_place (L : List Ent) (k : K25) : L.drop (placeOf L k) = L.dropWhile fun x => lessL x.k.val k.val := by
  unfold placeOf
  have h := List.takeWhile_append_dropWhile (p := fun x : Ent => lessL x.k.val k.val) (l := L)
  conv => lhs; rw [← h]
  rw [List.drop_append, List.takeWhile_append_dropWhile]
  simp
theorem take_place (L : List Ent) (k : K25) : L.take (placeOf L k) = L.takeWhile fun x => lessL x.k.val k.val := by
  unfold placeOf
  have h := List.takeWhile_append_dropWhile (p := fun x : Ent => lessL x.k.val k.val) (l := L)
  conv => lhs; rw [← h]
  rw [List.take_append, List.takeWhile_append_dropWhile]
  simp
theorem riseOne_sorted {L : List Ent} (h : SortedE L) (e : Ent) : SortedE (riseOne L e) := by
  unfold riseOne
  split
  · exact h
  · rename_i hd
    have hd2 : (L[placeOf L e.k]?).map (·.k) ≠ some e.k := by
      intro h2; apply hd; unfold dup; rw [decide_eq_true_eq]; exact h2
    have h1 : ∀ x ∈ L.take (placeOf L e.k), kLt x.k e.k := by
      rw [take_place]
      intro x hx
      exact List.all_eq_true.1 (List.all_takeWhile) x hx
    have h2 : ∀ y ∈ L.drop (placeOf L e.k), kLt e.k y.k := by
      intro y hy
      cases hD : L.drop (placeOf L e.k) with
      | nil => rw [hD] at hy; simp at hy
      | cons z D =>
        have hz0 : L[placeOf L e.k]? = some z := by
          have := congrArg (fun l => l[0]?) hD
          simpa using this
        have hzk : z.k ≠ e.k := fun he => hd2 (by rw [hz0, Option.map_some, he])
        have hzn : ¬ kLt z.k e.k := by
          rw [drop_place] at hD
          have := List.head?_dropWhile_not (fun x : Ent => lessL x.k.val e.k.val) L
          rw [hD] at this
          simp only [List.head?_cons] at this
          unfold kLt
          rw [this]
          decide
        have hez : kLt e.k z.k := by
          by_cases h : kLt e.k z.k
          · exact h
          · exact (hzk (k_total hzn h)).elim
        rw [hD] at hy
        rcases List.mem_cons.1 hy with rfl | hy
        · exact hez
        · have hs : SortedE (L.drop (placeOf L e.k)) := List.Pairwise.sublist (List.drop_sublist _ _) h
          rw [hD] at hs
          exact kLt_trans hez ((List.pairwise_cons.1 hs).1 y hy)
    unfold SortedE
    rw [List.append_assoc, List.pairwise_append]
    refine ⟨List.Pairwise.sublist (List.take_sublist _ _) h, ?_, ?_⟩
    · rw [List.singleton_append, List.pairwise_cons]
      exact ⟨h2, List.Pairwise.sublist (List.drop_sublist _ _) h⟩
    · intro x hx y hy
      rcases List.mem_append.1 hy with hy | hy
      · simp at hy; subst hy; exact h1 x hx
      · exact kLt_trans (h1 x hx) (h2 y hy)
theorem rise_sorted (L : List Ent) : SortedE (rise L) := by
  unfold rise
  have : ∀ (l : List Ent) (out : List Ent), SortedE out → SortedE (l.foldl (fun out e => riseOne out e.cut80) out) := by
    intro l
    induction l with
    | nil => intro out h; exact h
    | cons e l ih => intro out h; exact ih _ (riseOne_sorted h _)
  exact this _ _ List.Pairwise.nil
theorem rise_len30 (L : List Ent) : (rise L).length ≤ 30 := by
  unfold rise
  have := rise_len (L.take 30) 0
  simp only [List.length_take] at this
  omega
end Go.Proofs.Ytbflpnkodpeggaa

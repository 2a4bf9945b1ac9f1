/- Layer 24 in plain Lean: sorted lists of entries, cells by keys, what is merged. -/
import Derived.Test.YtbflpnkodpeggaaRisePlain
import Derived.Test.YtbflpnkodpeggaaMaps
namespace Go.Proofs.Ytbflpnkodpeggaa

/-! the order of keys -/
def kLt (a b : K25) : Prop := lessL a.val b.val = true
theorem lessL_irrefl : ∀ a : List UInt8, lessL a a = false
  | [] => rfl
  | x :: a => by unfold lessL; rw [if_pos rfl]; exact lessL_irrefl a
theorem lessL_trans : ∀ a b c : List UInt8, lessL a b = true → lessL b c = true → lessL a c = true
  | [], [], _, h, _ => by cases h
  | [], _ :: _, [], _, h => by cases h
  | [], _ :: _, _ :: _, _, _ => rfl
  | _ :: _, [], _, h, _ => by cases h
  | _ :: _, _ :: _, [], _, h => by cases h
  | a :: x, b :: y, c :: z, h1, h2 => by
    unfold lessL at h1 h2 ⊢
    by_cases hab : a = b
    · subst hab
      rw [if_pos rfl] at h1
      by_cases hbc : a = c
      · subst hbc; rw [if_pos rfl] at h2 ⊢; exact lessL_trans x y z h1 h2
      · rw [if_neg hbc] at h2 ⊢; exact h2
    · rw [if_neg hab] at h1
      by_cases hbc : b = c
      · subst hbc; rw [if_neg hab]; exact h1
      · rw [if_neg hbc] at h2
        simp only [decide_eq_true_eq] at h1 h2
        have h3 := UInt8.lt_trans h1 h2
        rw [if_neg (fun e => by subst e; exact UInt8.lt_irrefl _ h3)]
        simpa using h3
theorem lessL_total : ∀ a b : List UInt8, a.length = b.length → lessL a b = false → lessL b a = false → a = b
  | [], [], _, _, _ => rfl
  | [], _ :: _, h, _, _ => by simp at h
  | _ :: _, [], h, _, _ => by simp at h
  | a :: x, b :: y, h, h1, h2 => by
    unfold lessL at h1 h2
    by_cases hab : a = b
    · subst hab; rw [if_pos rfl] at h1 h2; rw [lessL_total x y (by simpa using h) h1 h2]
    · rw [if_neg hab] at h1; rw [if_neg (fun e => hab e.symm)] at h2
      simp only [decide_eq_false_iff_not] at h1 h2
      exact (hab (UInt8.le_antisymm (UInt8.not_lt.1 h2) (UInt8.not_lt.1 h1))).elim
theorem kLt_irrefl (a : K25) : ¬ kLt a a := by unfold kLt; rw [lessL_irrefl]; decide
theorem kLt_trans {a b c : K25} (h : kLt a b) (h2 : kLt b c) : kLt a c := lessL_trans _ _ _ h h2
theorem kLt_ne {a b : K25} (h : kLt a b) : a ≠ b := fun e => by subst e; exact kLt_irrefl _ h
theorem k_total {a b : K25} (h : ¬ kLt a b) (h2 : ¬ kLt b a) : a = b :=
  Subtype.ext (lessL_total _ _ (by rw [a.property, b.property]) (by simpa [kLt] using h) (by simpa [kLt] using h2))

/-! sorted lists -/
def SortedE (l : List Ent) : Prop := l.Pairwise fun x y => kLt x.k y.k
theorem SortedE.keys {l : List Ent} (h : SortedE l) : (l.map (·.k)).Nodup := by
  unfold List.Nodup
  rw [List.pairwise_map]
  exact h.imp kLt_ne
def findE (l : List Ent) (k : K25) : Cell := match l.find? (fun e => decide (e.k = k)) with | some e => ⟨true, e.r⟩ | none => Cell.zero
def cellOf (o : Option Rec) : Cell := match o with | some r => ⟨true, r⟩ | none => Cell.zero
theorem find_mem {l : List Ent} (h : (l.map (·.k)).Nodup) {e : Ent} : findE l e.k = ⟨true, e.r⟩ ↔ e ∈ l := by
  unfold findE
  constructor
  · intro h1
    cases hf : l.find? (fun x => decide (x.k = e.k)) with
    | none => rw [hf] at h1; cases h1
    | some x =>
      rw [hf] at h1
      have h2 := List.find?_some hf
      simp only [decide_eq_true_eq] at h2
      have h3 := List.mem_of_find?_eq_some hf
      simp only [Cell.mk.injEq, true_and] at h1
      cases x; cases e
      simp only at h1 h2
      subst h1 h2
      exact h3
  · intro hm
    cases hf : l.find? (fun x => decide (x.k = e.k)) with
    | none => rw [List.find?_eq_none] at hf; have := hf e hm; simp at this
    | some x =>
      have h2 := List.find?_some hf
      simp only [decide_eq_true_eq] at h2
      have h3 := List.mem_of_find?_eq_some hf
      have : x = e := by
        obtain ⟨i, hi, e1⟩ := List.getElem_of_mem h3
        obtain ⟨j, hj, e2⟩ := List.getElem_of_mem hm
        have : i = j := by
          apply (List.getElem?_inj (l := l.map (·.k)) (by simpa using hi) h).1
          simp [List.getElem?_eq_getElem hi, List.getElem?_eq_getElem hj, e1, e2, h2]
        subst this
        rw [← e1, ← e2]
      rw [this]
theorem find_none {l : List Ent} {k : K25} (h : ∀ e ∈ l, e.k ≠ k) : findE l k = Cell.zero := by
  unfold findE
  rw [List.find?_eq_none.2 (by intro e he; simpa using h e he)]
theorem find_some {l : List Ent} {k : K25} (h : ∃ e ∈ l, e.k = k) : ∃ e ∈ l, e.k = k ∧ findE l k = ⟨true, e.r⟩ := by
  unfold findE
  cases hf : l.find? (fun x => decide (x.k = k)) with
  | none => rw [List.find?_eq_none] at hf; obtain ⟨e, he, hk⟩ := h; have := hf e he; simp [hk] at this
  | some x =>
    have h2 := List.find?_some hf
    simp only [decide_eq_true_eq] at h2
    exact ⟨x, List.mem_of_find?_eq_some hf, h2, rfl⟩
/-- nothing has no record -/
def Cell.ok (c : Cell) : Prop := c.is_ = false → c = Cell.zero
theorem find_ok (l : List Ent) (k : K25) : (findE l k).ok := by
  unfold findE
  split
  · intro h; cases h
  · intro _; rfl
/-- sorted lists that have the same by every key are one -/
theorem sorted_ext {l m : List Ent} (hl : SortedE l) (hm : SortedE m) (h : ∀ k, findE l k = findE m k) : l = m := by
  refine List.Perm.eq_of_pairwise (le := fun x y : Ent => kLt x.k y.k) (fun a b _ _ h1 h2 => (kLt_irrefl _ (kLt_trans h1 h2)).elim) hl hm ?_
  have nd : ∀ {l : List Ent}, SortedE l → l.Nodup := by
    intro l h
    unfold SortedE at h
    unfold List.Nodup
    refine h.imp ?_
    intro x y hlt e
    exact kLt_ne hlt (by rw [e])
  rw [List.perm_ext_iff_of_nodup (nd hl) (nd hm)]
  intro e
  rw [← find_mem hl.keys, ← find_mem hm.keys, h]

/-! entries of a map -/
abbrev MRec := List (K25 × Rec)
def toEnt (p : K25 × Rec) : Ent := ⟨p.1, p.2⟩
def entLe (x y : Ent) : Bool := !lessL y.k.val x.k.val
def ents (L : MRec) : List Ent := (L.map toEnt).mergeSort entLe
theorem entLe_trans (a b c : Ent) (h : entLe a b = true) (h2 : entLe b c = true) : entLe a c = true := by
  unfold entLe at *
  simp only [Bool.not_eq_true', Bool.not_eq_eq_eq_not, Bool.not_true] at *
  by_cases hca : kLt c.k a.k
  · exfalso
    by_cases hab : kLt a.k b.k
    · have := kLt_trans hca hab; unfold kLt at this; rw [h2] at this; cases this
    · have hba : ¬ kLt b.k a.k := by unfold kLt; rw [h]; decide
      have := k_total hab hba
      rw [this] at hca
      unfold kLt at hca; rw [h2] at hca; cases hca
  · simpa [kLt] using hca
theorem entLe_total (a b : Ent) : (entLe a b || entLe b a) = true := by
  unfold entLe
  cases h1 : lessL b.k.val a.k.val with
  | false => rfl
  | true =>
    cases h2 : lessL a.k.val b.k.val with
    | false => rfl
    | true => exact (kLt_irrefl _ (kLt_trans (a := a.k) h2 h1)).elim
/-- a row of entries with different keys that is in order is the one -/
theorem ents_unique {L : MRec} (hu : Uniq L) {l : List Ent} (hp : l.Perm (L.map toEnt)) (hs : l.Pairwise fun x y => lessL y.k.val x.k.val = false) : l = ents L ∧ SortedE l := by
  have hnd : (l.map (·.k)).Nodup := by
    have h1 := hp.map (·.k)
    rw [List.map_map] at h1
    exact h1.symm.nodup hu
  have strict : ∀ m : List Ent, m.Perm l → m.Pairwise (fun x y => lessL y.k.val x.k.val = false) → SortedE m := by
    intro m hm hms
    have h1 : (m.map (·.k)).Nodup := (hm.map (·.k)).symm.nodup hnd
    unfold List.Nodup at h1
    rw [List.pairwise_map] at h1
    refine (hms.and h1).imp ?_
    rintro x y ⟨h2, h3⟩
    by_cases h4 : kLt x.k y.k
    · exact h4
    · exact (h3 (k_total h4 (by unfold kLt; rw [h2]; decide))).elim
  have h1 : SortedE l := strict l (List.Perm.refl _) hs
  have hpe : (ents L).Perm l := (List.mergeSort_perm _ _).trans hp.symm
  have h2 : SortedE (ents L) := strict _ hpe (by
    have := List.pairwise_mergeSort entLe_trans entLe_total (L.map toEnt)
    exact this.imp fun h => by simpa [entLe] using h)
  refine ⟨List.Perm.eq_of_pairwise (le := fun x y : Ent => kLt x.k y.k) (fun a b _ _ h1 h2 => (kLt_irrefl _ (kLt_trans h1 h2)).elim) h1 h2 hpe.symm, h1⟩
theorem ents_sorted {L : MRec} (hu : Uniq L) : SortedE (ents L) :=
  (ents_unique hu (List.mergeSort_perm _ _) ((List.pairwise_mergeSort entLe_trans entLe_total (L.map toEnt)).imp fun h => by simpa [entLe] using h)).2
theorem ents_len (L : MRec) : (ents L).length = L.length := by unfold ents; rw [List.length_mergeSort, List.length_map]
theorem ents_mem {L : MRec} {e : Ent} : e ∈ ents L ↔ (e.k, e.r) ∈ L := by
  unfold ents
  rw [(List.mergeSort_perm _ _).mem_iff, List.mem_map]
  constructor
  · rintro ⟨p, hp, rfl⟩; exact hp
  · intro h; exact ⟨_, h, rfl⟩
theorem find_ents {L : MRec} (hu : Uniq L) (k : K25) : findE (ents L) k = cellOf (lk L k) := by
  cases h : lk L k with
  | none =>
    rw [lk_none] at h
    exact find_none fun e he hk => h _ (ents_mem.1 he) hk
  | some r =>
    rw [lk_mem hu] at h
    exact (find_mem (ents_sorted hu).keys (e := ⟨k, r⟩)).2 (ents_mem.2 h)

/-! lists as maps -/
def putAll (M : MRec) (l : List Ent) : MRec := l.foldl (fun m e => put m e.k e.r) M
theorem putAll_uniq : ∀ (l : List Ent) {M : MRec}, Uniq M → Uniq (putAll M l)
  | [], _, h => h
  | e :: l, _, h => putAll_uniq l (put_uniq h _ _)
theorem lk_putAll : ∀ (l : List Ent), (l.map (·.k)).Nodup → ∀ (M : MRec) (k : K25), lk (putAll M l) k = match l.find? (fun e => decide (e.k = k)) with | some e => some e.r | none => lk M k
  | [], _, _, _ => rfl
  | e :: l, h, M, k => by
    rw [List.map_cons, List.nodup_cons] at h
    have ih := lk_putAll l h.2 (put M e.k e.r) k
    show lk (putAll (put M e.k e.r) l) k = _
    rw [ih, List.find?_cons]
    by_cases hk : e.k = k
    · simp only [hk, decide_true]
      have hn : l.find? (fun e => decide (e.k = k)) = none := by
        rw [List.find?_eq_none]
        intro x hx
        simp only [decide_eq_true_eq]
        intro e2
        exact h.1 (List.mem_map.2 ⟨x, hx, e2.trans hk.symm⟩)
      rw [hn]
      simp only
      rw [lk_put, if_pos rfl]
    · simp only [hk, decide_false]
      cases hf : l.find? (fun e => decide (e.k = k)) with
      | some x => rfl
      | none => simp only; rw [lk_put, if_neg (fun e2 => hk e2.symm)]
theorem mem_putAll : ∀ (l : List Ent) (M : MRec) (k : K25), k ∈ (putAll M l).map (·.1) ↔ k ∈ M.map (·.1) ∨ k ∈ l.map (·.k)
  | [], M, k => by simp [putAll]
  | e :: l, M, k => by
    have ih := mem_putAll l (put M e.k e.r) k
    show k ∈ (putAll (put M e.k e.r) l).map (·.1) ↔ _
    rw [ih, List.map_cons, List.mem_cons]
    have : k ∈ (put M e.k e.r).map (·.1) ↔ k ∈ M.map (·.1) ∨ k = e.k := by
      unfold put
      split
      · rename_i hm
        rw [List.map_map]
        have e1 : (fun p : K25 × Rec => p.1) ∘ (fun p => if p.1 = e.k then (e.k, e.r) else p) = (fun p => p.1) := by
          funext p; simp only [Function.comp]; split
          · rename_i h; exact h.symm
          · rfl
        rw [e1]
        constructor
        · exact .inl
        · rintro (h | rfl)
          · exact h
          · exact hm
      · rw [List.map_append, List.mem_append]; simp
    rw [this]
    constructor
    · rintro ((h | h) | h)
      · exact .inl h
      · exact .inr (.inl h)
      · exact .inr (.inr h)
    · rintro (h | h | h)
      · exact .inl (.inl h)
      · exact .inl (.inr h)
      · exact .inr h
theorem put_len {α β : Type} [DecidableEq α] (L : List (α × β)) (k : α) (v : β) : (put L k v).length ≤ L.length + 1 := by
  unfold put; split <;> simp
theorem del_len {α β : Type} [DecidableEq α] (L : List (α × β)) (k : α) : (del L k).length ≤ L.length := by
  unfold del; exact List.length_filter_le _ _
theorem putAll_len : ∀ (l : List Ent) (M : MRec), (putAll M l).length ≤ M.length + l.length
  | [], _ => Nat.le_refl _
  | e :: l, M => by
    have := putAll_len l (put M e.k e.r)
    have := put_len M e.k e.r
    show (putAll (put M e.k e.r) l).length ≤ _
    simp only [List.length_cons]
    omega
theorem uniq_nil {α β : Type} : Uniq ([] : List (α × β)) := List.nodup_nil
/-- entries that are put in order come out as they were -/
theorem ents_putAll {l : List Ent} (h : SortedE l) : ents (putAll [] l) = l := by
  refine sorted_ext (ents_sorted (putAll_uniq l uniq_nil)) h fun k => ?_
  rw [find_ents (putAll_uniq l uniq_nil), lk_putAll l h.keys]
  unfold findE
  cases l.find? (fun e => decide (e.k = k)) <;> rfl
/-- what tells a list's cell of a key -/
def cellMap (l : List Ent) : List (K25 × Cell) := l.foldl (fun m e => put m e.k ⟨true, e.r⟩) []
def cellAt (l : List Ent) (k : K25) : Cell := (lk (cellMap l) k).getD Cell.zero
theorem cellMap_lk (l : List Ent) (h : (l.map (·.k)).Nodup) (k : K25) : cellAt l k = findE l k := by
  have : ∀ (l : List Ent), (l.map (·.k)).Nodup → ∀ M : List (K25 × Cell), lk (l.foldl (fun m e => put m e.k ⟨true, e.r⟩) M) k = match l.find? (fun e => decide (e.k = k)) with | some e => some ⟨true, e.r⟩ | none => lk M k := by
    intro l
    induction l with
    | nil => intro _ M; rfl
    | cons e l ih =>
      intro h M
      rw [List.map_cons, List.nodup_cons] at h
      rw [List.foldl_cons, ih h.2, List.find?_cons]
      by_cases hk : e.k = k
      · simp only [hk, decide_true]
        have hn : l.find? (fun e => decide (e.k = k)) = none := by
          rw [List.find?_eq_none]
          intro x hx
          simp only [decide_eq_true_eq]
          intro e2
          exact h.1 (List.mem_map.2 ⟨x, hx, e2.trans hk.symm⟩)
        rw [hn]
        simp only
        rw [lk_put, if_pos rfl]
      · simp only [hk, decide_false]
        cases hf : l.find? (fun e => decide (e.k = k)) with
        | some x => rfl
        | none => simp only; rw [lk_put, if_neg (fun e2 => hk e2.symm)]
  unfold cellAt cellMap findE
  rw [this l h]
  cases l.find? (fun e => decide (e.k = k)) <;> rfl

/-! which of two counts -/
def sideC (a b c : Cell) : Int := if b = c then 0 else if c = a then 1 else if b = a then 2 else 3
def threeC (a b c : Cell) (m : Int) : Cell × Int × Int :=
  if m < 0 ∨ 2 < m then (Cell.zero, 0, 5) else
  if sideC a b c = 3 ∧ m = 0 then (Cell.zero, 3, 11) else
  if sideC a b c = 2 ∨ sideC a b c = 3 ∧ m = 2 then (c, sideC a b c, 0) else (b, sideC a b c, 0)
def keysL (a b c : List Ent) : List K25 := (ents (putAll (putAll (putAll [] a) b) c)).map (·.k)
def wrOf (a b c : List Ent) (m : Int) (k : K25) : Option Wr :=
  let x := threeC (cellAt a k) (cellAt b k) (cellAt c k) m
  if x.2.2 = 0 ∧ x.1 ≠ cellAt b k then some ⟨k, !x.1.is_, x.1.r⟩ else none
def clashOf (a b c : List Ent) (m : Int) (k : K25) : Bool := decide ((threeC (cellAt a k) (cellAt b k) (cellAt c k) m).2.1 = 3)
def listsM (a b c : List Ent) (m : Int) : List Wr × List K25 × Int :=
  if m < 0 ∨ 2 < m then ([], [], 5) else
  if 0 < ((keysL a b c).filter (clashOf a b c m)).length ∧ m = 0 then ([], (keysL a b c).filter (clashOf a b c m), 11) else
  ((keysL a b c).filterMap (wrOf a b c m), (keysL a b c).filter (clashOf a b c m), 0)
def wrOne (M : MRec) (x : Wr) : MRec := if x.dead = true then del (put M x.k x.r) x.k else put M x.k x.r
def wrAll (M : MRec) (ws : List Wr) : MRec := ws.foldl wrOne M
def overM (l : List Ent) (ws : List Wr) : List Ent := ents (wrAll (putAll [] l) ws)
theorem wrOne_uniq {M : MRec} (h : Uniq M) (x : Wr) : Uniq (wrOne M x) := by
  unfold wrOne
  split
  · exact del_uniq (put_uniq h _ _) _
  · exact put_uniq h _ _
theorem wrAll_uniq : ∀ (ws : List Wr) {M : MRec}, Uniq M → Uniq (wrAll M ws)
  | [], _, h => h
  | x :: ws, _, h => wrAll_uniq ws (wrOne_uniq h x)
theorem wrAll_len : ∀ (ws : List Wr) (M : MRec), (wrAll M ws).length ≤ M.length + ws.length
  | [], _ => Nat.le_refl _
  | x :: ws, M => by
    have h1 := wrAll_len ws (wrOne M x)
    have h2 : (wrOne M x).length ≤ M.length + 1 := by
      unfold wrOne
      have := put_len M x.k x.r
      split
      · have := del_len (put M x.k x.r) x.k; omega
      · exact this
    show (wrAll (wrOne M x) ws).length ≤ _
    simp only [List.length_cons]
    omega
theorem lk_wrOne (M : MRec) (x : Wr) (k : K25) : lk (wrOne M x) k = if k = x.k then (if x.dead = true then none else some x.r) else lk M k := by
  unfold wrOne
  split
  · rw [lk_del]
    split
    · rfl
    · rename_i h; rw [lk_put, if_neg h]
  · rw [lk_put]
theorem lk_wrAll : ∀ (ws : List Wr), (ws.map (·.k)).Nodup → ∀ (M : MRec) (k : K25), lk (wrAll M ws) k = match ws.find? (fun x => decide (x.k = k)) with | some x => (if x.dead = true then none else some x.r) | none => lk M k
  | [], _, _, _ => rfl
  | x :: ws, h, M, k => by
    rw [List.map_cons, List.nodup_cons] at h
    show lk (wrAll (wrOne M x) ws) k = _
    rw [lk_wrAll ws h.2, List.find?_cons]
    by_cases hk : x.k = k
    · simp only [hk, decide_true]
      have hn : ws.find? (fun e => decide (e.k = k)) = none := by
        rw [List.find?_eq_none]
        intro y hy
        simp only [decide_eq_true_eq]
        intro e2
        exact h.1 (List.mem_map.2 ⟨y, hy, e2.trans hk.symm⟩)
      rw [hn]
      simp only
      rw [lk_wrOne, if_pos hk.symm]
    · simp only [hk, decide_false]
      cases hf : ws.find? (fun e => decide (e.k = k)) with
      | some x => rfl
      | none => simp only; rw [lk_wrOne, if_neg (fun e2 => hk e2.symm)]
theorem keysL_nodup (a b c : List Ent) : (keysL a b c).Nodup :=
  (ents_sorted (putAll_uniq c (putAll_uniq b (putAll_uniq a uniq_nil)))).keys
theorem keysL_mem (a b c : List Ent) (k : K25) : k ∈ keysL a b c ↔ (∃ e ∈ a, e.k = k) ∨ (∃ e ∈ b, e.k = k) ∨ ∃ e ∈ c, e.k = k := by
  have h1 : k ∈ keysL a b c ↔ k ∈ (putAll (putAll (putAll [] a) b) c).map (·.1) := by
    unfold keysL
    rw [List.mem_map, List.mem_map]
    constructor
    · rintro ⟨e, he, rfl⟩; exact ⟨_, ents_mem.1 he, rfl⟩
    · rintro ⟨p, hp, rfl⟩; exact ⟨toEnt p, ents_mem.2 hp, rfl⟩
  rw [h1, mem_putAll, mem_putAll, mem_putAll]
  simp only [List.map_nil, List.not_mem_nil, false_or, List.mem_map]
  constructor
  · rintro ((h | h) | h)
    · exact .inl h
    · exact .inr (.inl h)
    · exact .inr (.inr h)
  · rintro (h | h | h)
    · exact .inl (.inl h)
    · exact .inl (.inr h)
    · exact .inr h
theorem keysL_len (a b c : List Ent) : (keysL a b c).length ≤ a.length + b.length + c.length := by
  unfold keysL
  rw [List.length_map, ents_len]
  have h1 := putAll_len c (putAll (putAll [] a) b)
  have h2 := putAll_len b (putAll [] a)
  have h3 := putAll_len a []
  simp only [List.length_nil] at h3
  omega
end Go.Proofs.Ytbflpnkodpeggaa

/- Layer 6's law KeySplits, for every input: each right one of some keys is in the list of its prefix of depth 3, in order, and nothing else is there; the Go function returns true, and each argument reads behind the call as it read before. Condition: the tables that the row lists (tied to the program's text by the card); the proof does not use what they hold. -/
import Derived.Test.YtpdohgadcepipaaDoorQak
import Derived.Test.YtpdohgadcepipaaDoorQaq
import Derived.WideKeyEntry
import Derived.Test.YtpdohgadcepipaaDoorQaj
import Derived.Deep.CutBlock
import Derived.Handy
import Derived.Test.YtpdohgadcepipaaDoorQbd
import Derived.BigRegion
import Derived.Deep.Cut
import Derived.Test.YtpdohgadcepipaaDoorCards
import Derived.Test.YtpdohgadcepipaaDoorTie
import Derived.ProofKit
import Derived.LaidMore
import Derived.Lay
import Derived.OpenShut
import Derived.ShutString
namespace Go.Proofs.YtpdohgadcepipaaDoor
section
variable {κ π : Type} [DecidableEq π] (rt : κ → Bool) (pf : κ → π)
/-- the keys that are right, by their prefixes -/
def splitG : List κ → List (π × List κ)  → List (π × List κ)
  | [], G => G
  | k :: r, G => splitG r (if rt k = true then put G (pf k) ((lk G (pf k)).getD [] ++ [k]) else G)
def ofP (l : List κ) (p : π) : List κ := l.filter fun k => rt k && decide (pf k = p)
def sumG (G : List (π × List κ)) : Nat := (G.map fun e => e.2.length).sum
def totG (l : List κ) (G : List (π × List κ)) : Nat := (G.map fun e => (ofP rt pf l e.1).length).sum
theorem lk_some_mem {G : List (π × List κ)} {p : π} : lk G p ≠ none ↔ p ∈ G.map (·.1) := by
  rw [Ne, lk_none]
  constructor
  · intro h
    apply Classical.byContradiction
    intro hn
    exact h fun q hq e => hn (List.mem_map.2 ⟨q, hq, e⟩)
  · intro h h2
    obtain ⟨q, hq, e⟩ := List.mem_map.1 h
    exact h2 q hq e
theorem splitG_snoc (l : List κ) (k : κ) : ∀ G, splitG rt pf (l ++ [k]) G = splitG rt pf [k] (splitG rt pf l G) := by
  induction l with
  | nil => intro G; rfl
  | cons a l ih => intro G; exact ih _
theorem splitG_one (k : κ) (G : List (π × List κ)) : splitG rt pf [k] G = if rt k = true then put G (pf k) ((lk G (pf k)).getD [] ++ [k]) else G := rfl
/-- what lies by a prefix -/
theorem splitG_lk (l : List κ) : Uniq (splitG rt pf l []) ∧ ∀ p, lk (splitG rt pf l []) p = if ofP rt pf l p = [] then none else some (ofP rt pf l p) := by
  induction h : l.length generalizing l with
  | zero => 
    have : l = [] := List.eq_nil_of_length_eq_zero h
    subst this
    exact ⟨List.nodup_nil, fun p => rfl⟩
  | succ n ih =>
    rcases List.eq_nil_or_concat l with rfl | ⟨l0, k, rfl⟩
    · simp at h
    rw [List.concat_eq_append] at h ⊢
    obtain ⟨hu, hl⟩ := ih l0 (by simpa using h)
    rw [splitG_snoc, splitG_one]
    by_cases hr : rt k = true
    · rw [if_pos hr]
      refine ⟨put_uniq hu _ _, fun p => ?_⟩
      rw [lk_put, hl]
      have e : ofP rt pf (l0 ++ [k]) p = ofP rt pf l0 p ++ if p = pf k then [k] else [] := by
        unfold ofP
        rw [List.filter_append]
        congr 1
        by_cases hp : p = pf k
        · subst hp; simp [hr]
        · rw [if_neg hp]; simp [hr]; exact fun h => hp h.symm
      rw [e]
      by_cases hp : p = pf k
      · subst hp
        rw [if_pos rfl, if_pos rfl, if_neg (fun h : _ ++ [k] = [] => by simp at h)]
        congr 2
        by_cases h0 : ofP rt pf l0 (pf k) = []
        · rw [if_pos h0, h0]; rfl
        · rw [if_neg h0]; rfl
      · rw [if_neg hp, if_neg hp, List.append_nil, hl]
    · rw [if_neg hr]
      refine ⟨hu, fun p => ?_⟩
      have e : ofP rt pf (l0 ++ [k]) p = ofP rt pf l0 p := by
        unfold ofP
        rw [List.filter_append]
        simp [hr]
      rw [e, hl]
theorem put_len {G : List (π × List κ)} (p : π) (v : List κ) : (put G p v).length = if p ∈ G.map (·.1) then G.length else G.length + 1 := by
  unfold put
  split <;> simp
theorem put_keys {G : List (π × List κ)} (p : π) (v : List κ) : (put G p v).map (·.1) = if p ∈ G.map (·.1) then G.map (·.1) else G.map (·.1) ++ [p] := by
  unfold put
  split
  · rw [List.map_map]
    apply List.map_congr_left
    intro q _
    simp only [Function.comp]
    split <;> simp [*]
  · simp
theorem totG_keys (l : List κ) (G : List (π × List κ)) : totG rt pf l G = ((G.map (·.1)).map fun p => (ofP rt pf l p).length).sum := by
  unfold totG; rw [List.map_map]; rfl
/-- one more key: how many lists, how many in all of them -/
theorem split_step (l : List κ) (i : Nat) (hi : i < l.length) : (rt l[i] = true → (∀ k (h : k < i), rt l[k] = true → pf l[k] ≠ pf l[i]) →
      (splitG rt pf (l.take (i + 1)) []).length = (splitG rt pf (l.take i) []).length + 1 ∧ totG rt pf l (splitG rt pf (l.take (i + 1)) []) = totG rt pf l (splitG rt pf (l.take i) []) + (ofP rt pf l (pf l[i])).length) ∧
    ((rt l[i] = true → ∃ k, ∃ h : k < i, rt l[k] = true ∧ pf l[k] = pf l[i]) → (splitG rt pf (l.take (i + 1)) []).length = (splitG rt pf (l.take i) []).length ∧ totG rt pf l (splitG rt pf (l.take (i + 1)) []) = totG rt pf l (splitG rt pf (l.take i) [])) := by
  rw [List.take_add_one, List.getElem?_eq_getElem hi, Option.toList_some, splitG_snoc, splitG_one]
  obtain ⟨hu, hl⟩ := splitG_lk rt pf (l.take i)
  have hmem : pf l[i] ∈ (splitG rt pf (l.take i) []).map (·.1) ↔ ∃ k, ∃ h : k < i, rt l[k] = true ∧ pf l[k] = pf l[i] := by
    rw [← lk_some_mem, hl]
    have : (¬ (if ofP rt pf (l.take i) (pf l[i]) = [] then none else some (ofP rt pf (l.take i) (pf l[i]))) = none) ↔ ofP rt pf (l.take i) (pf l[i]) ≠ [] := by
      split <;> simp [*]
    rw [Ne, this]
    unfold ofP
    rw [Ne, List.filter_eq_nil_iff]
    constructor
    · intro h
      apply Classical.byContradiction
      intro hn
      refine h fun a ha hp => ?_
      obtain ⟨j, hj, rfl⟩ := List.getElem_of_mem ha
      rw [List.length_take] at hj
      rw [List.getElem_take] at hp
      simp only [Bool.and_eq_true, decide_eq_true_eq] at hp
      exact hn ⟨j, by omega, hp⟩
    · rintro ⟨k, hk, h1, h2⟩ h
      refine h l[k] ?_ (by simp [h1, h2])
      rw [List.mem_take_iff_getElem]
      exact ⟨k, by omega, rfl⟩
  constructor
  · intro hr hn
    have hm : ¬ pf l[i] ∈ (splitG rt pf (l.take i) []).map (·.1) := by
      rw [hmem]
      rintro ⟨k, hk, h1, h2⟩
      exact hn k hk h1 h2
    rw [if_pos hr, put_len, totG_keys, totG_keys, put_keys, if_neg hm, if_neg hm]
    simp
  · intro h
    by_cases hr : rt l[i] = true
    · have hm := hmem.2 (h hr)
      rw [if_pos hr, put_len, totG_keys, totG_keys, put_keys, if_pos hm, if_pos hm]
      exact ⟨rfl, rfl⟩
    · rw [if_neg hr]; exact ⟨rfl, rfl⟩
theorem sum_put : ∀ {G : List (π × List κ)}, Uniq G → ∀ (p : π) (k : κ), sumG (put G p ((lk G p).getD [] ++ [k])) = sumG G + 1
  | [], _, p, k => by simp [put, sumG, lk]
  | (q, v) :: G, hu, p, k => by
    have hu2 : Uniq G := by unfold Uniq at hu ⊢; rw [List.map_cons, List.nodup_cons] at hu; exact hu.2
    have hq : q ∉ G.map (·.1) := by unfold Uniq at hu; rw [List.map_cons, List.nodup_cons] at hu; exact hu.1
    by_cases he : q = p
    · subst he
      have e1 : lk ((q, v) :: G) q = some v := by simp [lk]
      have e2 : put ((q, v) :: G) q (v ++ [k]) = (q, v ++ [k]) :: G := by
        unfold put
        rw [if_pos (by simp), List.map_cons, if_pos rfl]
        congr 1
        conv => rhs; rw [← List.map_id G]
        apply List.map_congr_left
        intro x hx
        rw [if_neg (fun e => hq (List.mem_map.2 ⟨x, hx, e⟩))]
        rfl
      rw [e1, Option.getD_some, e2]
      simp [sumG]; omega
    · have ih := sum_put hu2 p k
      have e1 : lk ((q, v) :: G) p = lk G p := by simp [lk, he]
      have e2 : ∀ x, put ((q, v) :: G) p x = (q, v) :: put G p x := by
        intro x
        unfold put
        by_cases hm : p ∈ G.map (·.1)
        · rw [if_pos (by simp at hm ⊢; exact .inr hm), if_pos hm, List.map_cons, if_neg he]
        · rw [if_neg (by simp at hm ⊢; exact ⟨fun e => he e.symm, hm⟩), if_neg hm]
          rfl
      rw [e1, e2]
      unfold sumG at ih ⊢
      rw [List.map_cons, List.map_cons, List.sum_cons, List.sum_cons, ih]
      omega
theorem split_sum (l : List κ) : sumG (splitG rt pf l []) = (l.filter rt).length := by
  induction h : l.length generalizing l with
  | zero => 
    have : l = [] := List.eq_nil_of_length_eq_zero h
    subst this
    rfl
  | succ n ih =>
    rcases List.eq_nil_or_concat l with rfl | ⟨l0, k, rfl⟩
    · simp at h
    rw [List.concat_eq_append] at h ⊢
    have ih := ih l0 (by simpa using h)
    rw [splitG_snoc, splitG_one, List.filter_append]
    by_cases hr : rt k = true
    · rw [if_pos hr, sum_put (splitG_lk rt pf l0).1, ih]; simp [hr]
    · rw [if_neg hr, ih]; simp [hr]
theorem tot_sum (l : List κ) : totG rt pf l (splitG rt pf l []) = (l.filter rt).length := by
  rw [← split_sum rt pf l]
  unfold totG sumG
  congr 1
  apply List.map_congr_left
  rintro ⟨p, v⟩ hm
  obtain ⟨hu, hl⟩ := splitG_lk rt pf l
  have := (lk_mem hu).2 hm
  rw [hl] at this
  split at this
  · cases this
  · simp only [Option.some.injEq] at this
    rw [this]
/-- one of a prefix's keys lies at its place -/
theorem ofP_at (l : List κ) (i : Nat) (hi : i < l.length) (p : π) (h : rt l[i] = true ∧ pf l[i] = p) : (ofP rt pf l p)[(ofP rt pf (l.take i) p).length]? = some l[i] := by
  have e : ofP rt pf l p = ofP rt pf (l.take i) p ++ l[i] :: ofP rt pf (l.drop (i + 1)) p := by
    unfold ofP
    conv => lhs; rw [← List.take_append_drop i l, List.filter_append, List.drop_eq_getElem_cons hi, List.filter_cons, if_pos (by simp [h])]
  rw [e, List.getElem?_append_right (Nat.le_refl _)]
  simp
theorem ofP_next (l : List κ) (i : Nat) (hi : i < l.length) (p : π) : ofP rt pf (l.take (i + 1)) p = ofP rt pf (l.take i) p ++ if rt l[i] = true ∧ pf l[i] = p then [l[i]] else [] := by
  unfold ofP
  rw [List.take_add_one, List.getElem?_eq_getElem hi, Option.toList_some, List.filter_append]
  congr 1
  by_cases h : rt l[i] = true ∧ pf l[i] = p
  · rw [if_pos h]; simp [h]
  · rw [if_neg h, List.filter_eq_nil_iff]
    intro a ha
    simp at ha; subst ha
    simpa using h
end
end Go.Proofs.YtpdohgadcepipaaDoor
namespace Go.Proofs.YtpdohgadcepipaaDoor
set_option maxRecDepth 100000
open Go.RowKit

theorem keyEnc_flat {P : Program} {α : Type} {t : TypeId} {n : Nat} {ks : List TypeDesc} {dom : α → Prop} (cs : α → Array Value) (ls : α → List Lit) (hl : laidOutB P = true) (hrow : t < P.types.size) (h0 : P.keyTypeAt 6 t = true) (h1 : P.keyType t = true)
    (h2 : kindsAt P (P.types.size + 1) t ks = true) (h3 : P.aggSize t = some n) (hw : (match P.underlying t with | some (.array _ _) | some (.struct _) => true | _ => false) = true) (hs : ∀ a, (cs a).size = n) (hf : ∀ a, dom a → FitAll ks (cs a).toList (ls a))
    (hi : ∀ a b, dom a → dom b → cs a = cs b → a = b) : KeyEnc P t (fun a => .agg (cs a)) dom where
  law := Go.Maps.Keyed.of_law (deep_law_laid hl (by decide : 6 + 1 ≤ 10000) hrow h0 hw)
  reads k hk := by
    have hl := keyLits_flat _ t _ h2 _ _ (hf k hk)
    have hform : (Value.agg (cs k)).formed P t = true := aggSize_formed h3 (hs k)
    have hc : (Value.agg (cs k)).cells.toList = (cs k).toList := rfl
    unfold _root_.Go.keyOf
    split at hw <;> first | cases hw | skip
    · rename_i hu; rw [hu]; simp only [h1, hform, Bool.and_self, if_true, hc, hl, Option.map_some]; exact ⟨_, rfl⟩
    · rename_i hu; rw [hu]; simp only [h1, hform, Bool.and_self, if_true, hc, hl, Option.map_some]; exact ⟨_, rfl⟩
  inj a b ha hb h := by simp only [Value.agg.injEq] at h; exact hi a b ha hb h
def pfV (p : K25) : Value := .agg (prefA p 3)
theorem prefA_inj3 {a b : K25} (h : prefA a 3 = prefA b 3) : a = b := by
  have h2 := congrArg Array.toList h
  unfold prefA at h2
  rw [Array.toList_append, Array.toList_append] at h2
  have h3 := (List.append_inj h2 (by simp [a.len, b.len])).1
  exact Subtype.ext (row8_inj.1 (Array.ext' h3))
theorem prefS_fit (p : K25) : FitAll (byteKinds 25 ++ [.int .i64]) (prefA p 3).toList (byteLits p.val ++ [.int .i64 3]) := by
  have h1 := row8_fit p.val
  rw [p.len] at h1
  have h2 : FitAll [.int .i64] [.int .i64 3] [.int .i64 3] := ⟨rfl, rfl, fun i k v m hk hv hm => by
    cases i with
    | zero =>
      simp at hk hv hm
      subst hk hv hm
      exact ⟨rfl, rfl, rfl, by decide⟩
    | succ i => simp at hk⟩
  have := h1.append h2
  unfold prefA
  rw [Array.toList_append]
  exact this
theorem keyEncS : KeyEnc Tryd.prog 35 pfV (fun _ => True) :=
  keyEnc_flat (n := 26) (ks := byteKinds 25 ++ [.int .i64]) (fun p => prefA p 3) (fun p => byteLits p.val ++ [.int .i64 3]) laidOutP (of_decide_eq_true (by kernel_rfl)) (by kernel_rfl) (by kernel_rfl) (by kernel_rfl) agg_pref (by kernel_rfl) (fun p => by simp [prefA, p.len]) (fun p _ => prefS_fit p) (fun _ _ _ _ h => prefA_inj3 h)
abbrev SPL := List (K25 × (Value × List K25))
def rkS (k : K25) : Array Value := row8 k.val
def evS (y : Value × List K25) : Value := y.1
def mSl (L : SPL) (p : K25) : Value := ((lk L p).map evS).getD (.slice none 0 0)
def mKs (L : SPL) (p : K25) : List K25 := ((lk L p).map (·.2)).getD []
/-- a map of slices of keys -/
structure SpAt (w : World) (B m : Nat) (L : SPL) : Prop where
  map : MapIs pfV evS (fun _ => True) w m L
  own : ∀ p y, lk L p = some y → OwnA w B 25 33 y.1 (y.2.map rkS) ∧ y.1.ownBlock ≠ some m
  apart : ∀ p q y z g, lk L p = some y → lk L q = some z → p ≠ q → y.1.ownBlock = some g → z.1.ownBlock ≠ some g
section
variable {w w' : World} {B m : Nat} {L : SPL}
theorem SpAt.keep (h : SpAt w B m L) (hb : Below w.heap.size w w') : SpAt w' B m L :=
  ⟨h.map.below hb h.map.lt, fun p y hy => ⟨(h.own p y hy).1.below hb, (h.own p y hy).2⟩, h.apart⟩
theorem SpAt.at_ (h : SpAt w B m L) (p : K25) : OwnA w B 25 33 (mSl L p) ((mKs L p).map rkS) ∧ (mSl L p).ownBlock ≠ some m := by
  unfold mSl mKs
  cases hl : lk L p with
  | none => exact ⟨OwnA.nil _ _ _ _, by simp [Value.ownBlock]⟩
  | some y => exact h.own p y hl
theorem SpAt.made (w : World) : SpAt (w.alloc (.map #[] 0)) B w.heap.size [] :=
  ⟨MapIs.made w, (fun p y h => by cases h), (fun p q y z g h => by cases h)⟩
/-- a key is put behind the others of its prefix -/
theorem SpAt.put (h : SpAt w B m L) (p k : K25) {v' : Value} {w1 w2 : World} (ho : OwnA w1 B 25 33 v' ((mKs L p ++ [k]).map rkS)) (hg : ∀ g, g < w.heap.size → g ≠ m → (mSl L p).ownBlock ≠ some g → w1.heap[g]? = w.heap[g]?)
    (hv : v'.ownBlock = (mSl L p).ownBlock ∨ v'.ownBlock = some w.heap.size) (hm : MapIs pfV evS (fun _ => True) w2 m (Go.Proofs.YtpdohgadcepipaaDoor.put L p (v', mKs L p ++ [k]))) (hon : Only m w1 w2) :
    SpAt w2 B m (Go.Proofs.YtpdohgadcepipaaDoor.put L p (v', mKs L p ++ [k])) := by
  have hml := h.map.lt
  have hat := h.at_ p
  have hvm : v'.ownBlock ≠ some m := by
    rcases hv with e | e
    · rw [e]; exact hat.2
    · rw [e]; intro e2; simp only [Option.some.injEq] at e2; omega
  have hap : ∀ q z g, lk L q = some z → q ≠ p → z.1.ownBlock = some g → (mSl L p).ownBlock ≠ some g := by
    intro q z g hq hne hz
    unfold mSl
    cases hl : lk L p with
    | none => simp [Value.ownBlock]
    | some y => exact h.apart q p z y g hq hl hne hz
  have hfar : ∀ q z g, lk L q = some z → q ≠ p → z.1.ownBlock = some g → v'.ownBlock ≠ some g := by
    intro q z g hq hne hz
    rcases hv with e | e
    · rw [e]; exact hap q z g hq hne hz
    · rw [e]
      intro e2
      simp only [Option.some.injEq] at e2
      have := ((h.own q z hq).1.lt g hz).2
      omega
  refine ⟨hm, fun q z hq => ?_, fun q r y z g hq hr hne hy => ?_⟩
  · rw [lk_put] at hq
    by_cases e : q = p
    · rw [if_pos e] at hq
      simp only [Option.some.injEq] at hq
      subst hq
      exact ⟨ho.keep fun g hgo _ => hon.block g (fun e2 => hvm (by rw [← e2]; exact hgo)), hvm⟩
    · rw [if_neg e] at hq
      have hz := h.own q z hq
      refine ⟨(hz.1.keep (w' := w1) fun g hgo hgl => hg g hgl (fun e2 => hz.2 (by rw [← e2]; exact hgo)) (hap q z g hq e hgo)).keep fun g hgo _ => hon.block g (fun e2 => hz.2 (by rw [← e2]; exact hgo)), hz.2⟩
  · rw [lk_put] at hq hr
    by_cases e : q = p
    · rw [if_pos e] at hq
      simp only [Option.some.injEq] at hq
      subst hq
      rw [if_neg (fun e2 => hne (e.trans e2.symm))] at hr
      intro hz
      exact hfar r z g hr (fun e2 => hne (e.trans e2.symm)) hz hy
    · rw [if_neg e] at hq
      by_cases e2 : r = p
      · rw [if_pos e2] at hr
        simp only [Option.some.injEq] at hr
        subst hr
        exact hfar q y g hq e hy
      · rw [if_neg e2] at hr
        exact h.apart q r y z g hq hr hne hy
end
theorem put_proj (L : SPL) (p : K25) (v : Value) (ks : List K25) : (Go.Proofs.YtpdohgadcepipaaDoor.put L p (v, ks)).map (fun e => (e.1, e.2.2)) = Go.Proofs.YtpdohgadcepipaaDoor.put (L.map fun e => (e.1, e.2.2)) p ks := by
  unfold Go.Proofs.YtpdohgadcepipaaDoor.put
  have hk : (L.map fun e => (e.1, e.2.2)).map (·.1) = L.map (·.1) := by rw [List.map_map]; rfl
  rw [hk]
  split
  · rw [List.map_map, List.map_map]
    apply List.map_congr_left
    intro e _
    simp only [Function.comp]
    split <;> rfl
  · simp
theorem lk_proj (L : SPL) (p : K25) : lk (L.map fun e => (e.1, e.2.2)) p = (lk L p).map (·.2) := by
  unfold lk
  rw [List.find?_map, Option.map_map, Option.map_map]
  rfl
theorem mKs_proj (L : SPL) (p : K25) : mKs L p = (lk (L.map fun e => (e.1, e.2.2)) p).getD [] := by rw [lk_proj]; rfl
end Go.Proofs.YtpdohgadcepipaaDoor
namespace Go.Proofs.YtpdohgadcepipaaDoor
open Go.RowKit Go.ChangeShapes Go.MapKept Go.ChangeMaps
section
variable {α β : Type} [DecidableEq α] {P : Program} {kt : TypeId} {ek : α → Value} {ev : β → Value} {dom : α → Prop} {w : World} {b : Nat} {L : List (α × β)}
theorem entry_run (E : KeyEnc P kt ek dom) {t et : TypeId} (ht : P.underlying t = some (.map kt et)) {z : Value} (hz : ∀ u : World, (zeroValue et).run P u = .ok z u) (h : MapIs ek ev dom w b L) {k : α} (hk : dom k) :
    ∃ (st : Nat) (w1 : World), (Instr.mapEntry t (.map (some b)) (ek k)).run P w = .ok (.tuple #[((lk L k).map ev).getD z, goInt st]) w1 ∧ Only b w w1 ∧ w1.drawn = w.drawn ∧
      ∀ (w2 : World) (v : β), w2.heap[b]? = w1.heap[b]? → ∃ w3, (Instr.entryStore t (.map (some b)) (goInt st) (ev v)).run P w2 = .ok () w3 ∧ MapIs ek ev dom w3 b (put L k v) ∧ Only b w2 w3 ∧ w3.drawn = w2.drawn := by
  have hup := fun v => update_run E ht h hk v
  have hu := h.uniq
  obtain ⟨es, c, hb, hs, hm, hd⟩ := h
  obtain ⟨l, hl⟩ := E.reads k hk
  obtain ⟨s1, s2, _⟩ := (MapKept.stamped_iff _ _).1 hs
  rcases find_spec E hm hd hu hk w with ⟨h1, h2, h3⟩ | ⟨j, e, v0, h1, h2, h3, h4, h5⟩
  · refine ⟨c, setBlock w b (.map (es.push ⟨ek k, z, c⟩) (c + 1)), ?_, only_setBlock _, rfl, fun w2 v hw2 => ⟨setBlock w2 b (.map (es.push ⟨ek k, ev v, c⟩) (c + 1)), ?_, ?_, only_setBlock _, rfl⟩⟩
    · rw [h2]
      simp [Instr.mapEntry, run_underlying ht, MapKept.run_getObj_map hb, E.law.check w false hl, h1, hz, MapKept.run_setObj_map _ hb, Result.andThen, setBlock]
    · rw [heap_setBlock_same hb _] at hw2
      have hidx : (es.push ⟨ek k, z, c⟩).findIdx? (fun e => ((e.born : Nat) : Int) == ((c : Nat) : Int)) = some es.size := by
        rw [Go.WideElems.findIdx_arr]
        have := Go.WideElems.findIdx_born (l := (es.push ⟨ek k, z, c⟩).toList) (j := es.size) (e0 := ⟨ek k, z, c⟩) (by
          simp only [Array.toList_push, List.map_append, List.map_cons, List.map_nil]
          refine List.nodup_append.2 ⟨s2, by simp, fun a ha c' hc e1 => ?_⟩
          simp only [List.mem_singleton] at hc
          obtain ⟨x, hx, rfl⟩ := List.mem_map.1 ha
          have := s1 x hx
          omega) (by simp)
        exact this
      have hmod : (es.push ⟨ek k, z, c⟩).modify es.size (fun e => { e with val := ev v }) = es.push ⟨ek k, ev v, c⟩ := by
        apply Array.ext'
        rw [Array.toList_modify, Array.toList_push, Array.toList_push, ← Array.length_toList, Go.WideElems.modify_last]
      simp [Instr.entryStore, MapKept.run_getObj_map hw2, asInt, asIntOf, goInt, hidx, hmod, MapKept.run_setObj_map _ hw2, Result.andThen, setBlock]
    · rw [heap_setBlock_same hb _] at hw2
      obtain ⟨w', hr, hm', _, _⟩ := hup v
      have hr2 : (Instr.mapUpdate t (.map (some b)) (ek k) (ev v)).run P w = .ok () (setBlock w b (.map (es.push ⟨ek k, ev v, c⟩) (c + 1))) := by
        simp [Instr.mapUpdate, run_underlying ht, MapKept.run_getObj_map hb, E.law.check w false hl, h1, MapKept.run_setObj_map _ hb, Result.andThen, setBlock]
      rw [hr2] at hr
      simp only [Result.ok.injEq, true_and] at hr
      rw [← hr] at hm'
      exact hm'.keep ((heap_setBlock_same hw2 _).trans (heap_setBlock_same hb _).symm)
  · have hj : es[j]? = some e := by simpa using h2
    have hsame : es.modify j (fun e => { e with key := ek k }) = es := by
      apply Array.ext'
      rw [Array.toList_modify, Go.ChangeMaps.modify_eq_set _ _ _ _ h2]
      have : ({ e with key := ek k } : MapEntry) = e := by rw [← h3]
      rw [this]
      exact Go.WideElems.set_self _ _ _ h2
    have hev : e.val = ev v0 := by
      obtain ⟨p, hp, _, he⟩ := entry_at hm h2
      rw [h4] at hp
      simp only [Option.some.injEq] at hp
      rw [he, ← hp]
    refine ⟨e.born, setBlock w b (.map es c), ?_, only_setBlock _, rfl, fun w2 v hw2 => ⟨setBlock w2 b (.map (es.modify j fun e' => { e' with key := ek k, val := ev v }) c), ?_, ?_, only_setBlock _, rfl⟩⟩
    · rw [h5]
      simp [Instr.mapEntry, run_underlying ht, MapKept.run_getObj_map hb, E.law.check w false hl, h1, hj, h3, E.law.stays w hl, hsame, MapKept.run_setObj_map _ hb, Result.andThen, setBlock]
    · rw [heap_setBlock_same hb _] at hw2
      have hidx : es.findIdx? (fun e' => ((e'.born : Nat) : Int) == ((e.born : Nat) : Int)) = some j := by
        rw [Go.WideElems.findIdx_arr]
        exact Go.WideElems.findIdx_born s2 h2
      have hmod : es.modify j (fun e => { e with val := ev v }) = es.modify j (fun e' => { e' with key := ek k, val := ev v }) := by
        apply Array.ext'
        rw [Array.toList_modify, Array.toList_modify, Go.ChangeMaps.modify_eq_set _ _ _ _ h2, Go.ChangeMaps.modify_eq_set _ _ _ _ h2, ← h3]
      simp [Instr.entryStore, MapKept.run_getObj_map hw2, asInt, asIntOf, goInt, hidx, hmod, MapKept.run_setObj_map _ hw2, Result.andThen, setBlock]
    · rw [heap_setBlock_same hb _] at hw2
      obtain ⟨w', hr, hm', _, _⟩ := hup v
      have hkey : ((es[j]?).map (·.key)).getD (ek k) = ek k := by rw [hj]; exact h3
      have hr2 : (Instr.mapUpdate t (.map (some b)) (ek k) (ev v)).run P w = .ok () (setBlock w b (.map (es.modify j fun e' => { e' with key := ek k, val := ev v }) c)) := by
        simp [Instr.mapUpdate, run_underlying ht, MapKept.run_getObj_map hb, E.law.check w false hl, h1, hkey, E.law.stays w hl, MapKept.run_setObj_map _ hb, Result.andThen, setBlock]
      rw [hr2] at hr
      simp only [Result.ok.injEq, true_and] at hr
      rw [← hr] at hm'
      exact hm'.keep ((heap_setBlock_same hw2 _).trans (heap_setBlock_same hb _).symm)
end
end Go.Proofs.YtpdohgadcepipaaDoor
namespace Go.Proofs.YtpdohgadcepipaaDoor
set_option maxRecDepth 100000
open Go.RowKit

def pk3 (k : K25) : K25 := ⟨cutB k.val 3, cutB_len _ _ k.len (by decide)⟩
def rtS (k : K25) : Bool := keyRight k.val
theorem cut3_gives (k : K25) (w : World) : Gives Tryd.prog 8 #[.agg (prefA k 3)] w (.agg (row8 (pk3 k).val)) := cut_gives k 3 ⟨by decide, by decide⟩ w
theorem row_keyS : RowType Tryd.prog 22 33 25 25 := ⟨Tryd.underlying22, by kernel_rfl, by decide, by decide⟩
@[go_sem] theorem one_rkS (k : K25) : allOne (row8 k.val) = true := by
  unfold allOne
  rw [Array.all_eq_true_iff_forall_mem]
  intro v hv
  simp [row8] at hv
  obtain ⟨b, _, rfl⟩ := hv
  rfl
@[go_sem ↓ high] theorem run_makeMapS (w : World) : (Instr.makeMap 23 none).run Tryd.prog w = .ok (.map (some w.heap.size)) (w.alloc (.map #[] 0)) := by kernel_rfl
def kZS : K25 := ⟨zeros 25, by simp [zeros]⟩
@[go_sem] theorem zero_prefS : (#[.int .u8 0, .int .u8 0, .int .u8 0, .int .u8 0, .int .u8 0, .int .u8 0, .int .u8 0, .int .u8 0, .int .u8 0, .int .u8 0, .int .u8 0, .int .u8 0, .int .u8 0, .int .u8 0, .int .u8 0, .int .u8 0, .int .u8 0, .int .u8 0, .int .u8 0, .int .u8 0, .int .u8 0, .int .u8 0, .int .u8 0, .int .u8 0, .int .u8 0, .int .i64 0] : Array Value) = prefA kZS 0 := id rfl
@[go_sem] theorem one_prefS (k : K25) (d : Int) : allOne (prefA k d) = true := by
  unfold allOne
  rw [Array.all_eq_true_iff_forall_mem]
  intro v hv
  simp [prefA, row8] at hv
  rcases hv with ⟨b, _, rfl⟩ | rfl <;> rfl
set_option maxHeartbeats 8000000 in
theorem keySplit_calls (l : List K25) (hn : l.length ≤ 1000) (v : Value) (w : World) (hv : SlA w w.heap.size 25 v (l.map rkS)) :
    Calls Tryd.prog 4 #[v] w fun e w' => e = .returned (.map (some w.heap.size)) ∧ Below w.heap.size w w' ∧ ∃ L : SPL, SpAt w' w.heap.size w.heap.size L ∧ L.map (fun e => (e.1, e.2.2)) = splitG rtS pk3 l [] := by
  obtain ⟨a0, cap0, rfl, hcl, hcm⟩ := hv.form
  rw [List.length_map] at *
  have HV := Lib.hid hv
  unfold maxLen at hcm
  clear hv
  go_enter Tryd.func4, Tryd.ntmps4
  go_wp2_with fail
  go_loopw [10] (fun s10 wr => ∃ (i : Nat) (L : SPL), i ≤ l.length ∧ s10 = .int .i64 i ∧ Hid (Below w.heap.size w wr) ∧ Hid (SpAt wr w.heap.size w.heap.size L) ∧ Hid (L.map (fun e => (e.1, e.2.2)) = splitG rtS pk3 (l.take i) [])) (fun s10 _ => l.length - (intOf s10).toNat)
  case atStart => exact ⟨0, [], Nat.zero_le _, rfl, Lib.hid (by repeat (first | exact below_of_grow _ _ | exact Below.refl _ _ | exact below_more _ _ _ _ | (simp only [← Array.append_assoc]; first | exact below_more _ _ _ _ | exact below_same _ _ _ | exact Below.refl _ _) | exact below_same _ _ _ | (refine Below.alloc ?_ (by first | (simp; done) | (simp; omega)) _) | (refine Below.grow ?_ (by first | (simp; done) | (simp; omega)) _ _) | refine Below.drew ?_ | refine Below.drewN ?_ _ | (refine Below.putF ?_ (by first | (simp; done) | omega | (simp; omega)) _) | (refine Below.setCell ?_ (by first | (simp; done) | (simp; omega)) _))), Lib.hid (SpAt.made w), Lib.hid rfl⟩
  case round =>
    obtain ⟨i, L, hi, rfl, HB, HS, HL⟩ := hrel
    by_cases hlt : i < l.length
    · have hltI : (i : Int) < l.length := by omega
      obtain ⟨_, a', cap', he, _, _, hc⟩ := HV.out.below HB.out
      simp only [Value.slice.injEq, List.length_map, true_and] at he
      obtain ⟨rfl, rfl⟩ := he
      obtain ⟨g, q, rfl, hlb, hcut⟩ := hc (by simp; omega)
      have hcutk := hcut i (rkS l[i]) (by simp [hlt])
      have hsz := HB.out.size
      have hgr : g < wr.heap.size := by omega
      have HSN := Lib.hid (show splitG rtS pk3 (l.take (i + 1)) [] = if rtS l[i] = true then put (splitG rtS pk3 (l.take i) []) (pk3 l[i]) ((lk (splitG rtS pk3 (l.take i) []) (pk3 l[i])).getD [] ++ [l[i]]) else splitG rtS pk3 (l.take i) [] by
        rw [List.take_succ_eq_append_getElem hlt, splitG_snoc, splitG_one])
      have HR := Lib.hid (keyRight_gives l[i].val l[i].len)
      have HC := Lib.hid (cut3_gives l[i])
      obtain ⟨k, hk⟩ : ∃ k, k = l[i] := ⟨_, rfl⟩
      rw [← hk] at hcutk HSN HR HC
      have HRT := Lib.hid (show rtS k = keyRight k.val from rfl)
      unfold rkS at hcutk
      clear hk hcut hc
      cases hr : keyRight k.val with
      | false =>
        rw [hr] at HR
        have HL2 := Lib.hid (show L.map (fun e => (e.1, e.2.2)) = splitG rtS pk3 (l.take (i + 1)) [] by rw [HSN.out, HRT.out, hr, if_neg (by decide)]; exact HL.out)
        clear hr HSN HL HRT
        go_wp2_with fail
        refine Gives.use (HR.out _) ?_
        intro xs d
        go_wp2_with fail
        go_roundw
        case rel => exact ⟨i + 1, L, by omega, by go_num, Lib.hid (HB.out.trans ((show Below wr.heap.size wr _ from (by repeat (first | exact below_of_grow _ _ | exact Below.refl _ _ | exact below_more _ _ _ _ | (simp only [← Array.append_assoc]; first | exact below_more _ _ _ _ | exact below_same _ _ _ | exact Below.refl _ _) | exact below_same _ _ _ | (refine Below.alloc ?_ (by first | (simp; done) | (simp; omega)) _) | (refine Below.grow ?_ (by first | (simp; done) | (simp; omega)) _ _) | refine Below.drew ?_ | refine Below.drewN ?_ _ | (refine Below.putF ?_ (by first | (simp; done) | omega | (simp; omega)) _) | (refine Below.setCell ?_ (by first | (simp; done) | (simp; omega)) _)))).mono hsz)), Lib.hid (HS.out.keep (by repeat (first | exact below_of_grow _ _ | exact Below.refl _ _ | exact below_more _ _ _ _ | (simp only [← Array.append_assoc]; first | exact below_more _ _ _ _ | exact below_same _ _ _ | exact Below.refl _ _) | exact below_same _ _ _ | (refine Below.alloc ?_ (by first | (simp; done) | (simp; omega)) _) | (refine Below.grow ?_ (by first | (simp; done) | (simp; omega)) _ _) | refine Below.drew ?_ | refine Below.drewN ?_ _ | (refine Below.putF ?_ (by first | (simp; done) | omega | (simp; omega)) _) | (refine Below.setCell ?_ (by first | (simp; done) | (simp; omega)) _)))), HL2⟩
        case measure => simp [intOf]; omega
      | true =>
        rw [hr] at HR
        have HSN2 := Lib.hid (show splitG rtS pk3 (l.take (i + 1)) [] = put (splitG rtS pk3 (l.take i) []) (pk3 k) (mKs L (pk3 k) ++ [k]) by rw [HSN.out, HRT.out, hr, if_pos rfl, mKs_proj, HL.out])
        clear hr HSN HRT
        go_wp2_with fail
        refine Gives.use (HR.out _) ?_
        intro xs d
        go_wp2_with fail
        refine Gives.use (HC.out _) ?_
        intro ys e
        go_upto_region 7 with fail
        refine wp_name ?_
        intro W hW
        obtain ⟨kb, hkb⟩ : ∃ kb, kb = wr.heap.size := ⟨_, rfl⟩
        obtain ⟨pb, hpb⟩ : ∃ pb, pb = wr.heap.size + 1 + (xs.size + ys.size) := ⟨_, rfl⟩
        have hbW : Below wr.heap.size wr W := by rw [hW]; exact (by repeat (first | exact below_of_grow _ _ | exact Below.refl _ _ | exact below_more _ _ _ _ | (simp only [← Array.append_assoc]; first | exact below_more _ _ _ _ | exact below_same _ _ _ | exact Below.refl _ _) | exact below_same _ _ _ | (refine Below.alloc ?_ (by first | (simp; done) | (simp; omega)) _) | (refine Below.grow ?_ (by first | (simp; done) | (simp; omega)) _ _) | refine Below.drew ?_ | refine Below.drewN ?_ _ | (refine Below.putF ?_ (by first | (simp; done) | omega | (simp; omega)) _) | (refine Below.setCell ?_ (by first | (simp; done) | (simp; omega)) _)))
        have hkW : W.cut? kb 0 25 = some (row8 k.val) := by rw [hW, hkb]; simp [go_sem]
        have hpW : W.cut? pb 0 26 = some (prefA (pk3 k) 3) := by rw [hW, hpb]; exact cut_heap ((heap_al _ _ _).trans (if_pos (by simp))) (by simp)
        have lpW : pb < W.heap.size := by rw [hW, hpb]; simp
        have lkW : kb < W.heap.size := by omega
        simp only [← hpb]
        simp only [← hkb]
        obtain ⟨m, hm⟩ : ∃ m, m = w.heap.size := ⟨_, rfl⟩
        have hSW := HS.out.keep hbW
        have hBW := HB.out.trans (hbW.mono hsz)
        simp only [← hm] at hSW ⊢
        have HMM := Lib.hid hm
        clear hm
        obtain ⟨p, hp⟩ : ∃ p, p = pk3 k := ⟨_, rfl⟩
        rw [← hp] at hpW HSN2
        have hmW : m < W.heap.size := hSW.map.lt
        have hS8 := hSW.keep (w' := W.alloc (.cells (row8 k.val) 33)) ((Below.refl _ _).alloc (Nat.le_refl _) _)
        obtain ⟨st, w1, hrun, ho1, _, hst⟩ := entry_run (P := Tryd.prog) keyEncS Tryd.underlying23 (z := .slice none 0 0) (by intro u; kernel_rfl) hS8.map (k := p) trivial
        have hat := hS8.at_ p
        have hms : ((lk L p).map evS).getD (.slice none 0 0) = mSl L p := rfl
        rw [hms] at hrun
        unfold pfV at hrun
        obtain ⟨sv, hsv⟩ : ∃ sv, sv = goInt st := ⟨_, rfl⟩
        rw [← hsv] at hrun hst
        obtain ⟨v0, hv0⟩ : ∃ v0, v0 = mSl L p := ⟨_, rfl⟩
        rw [← hv0] at hrun hat
        have hs1 : w1.heap.size = W.heap.size + 1 := by rw [ho1.size]; simp
        have how1 : OwnA w1 m 25 33 v0 ((mKs L p).map rkS) := hat.1.keep fun g hg _ => ho1.block g (fun e => hat.2 (by rw [← e]; exact hg))
        have hkn : w1.cut? W.heap.size 0 25 = some (row8 k.val) := (cut_of_heap (ho1.block _ (by omega)) _ _).trans (by simp [go_sem])
        have hmk : (mKs L p).length ≤ l.length := by
          rw [mKs_proj, HL.out, (splitG_lk rtS pk3 (l.take i)).2 p]
          split
          · exact Nat.zero_le _
          · unfold ofP
            exact Nat.le_trans (List.length_filter_le _ _) (by rw [List.length_take]; omega)
        have HO1 := Lib.hid ho1
        have HST := Lib.hid hst
        have HW1 := Lib.hid how1
        have HM := Lib.hid (And.intro hv0 (And.intro hat.2 (And.intro hkn hS8)))
        have HBW := Lib.hid hBW
        clear hW hkb hpb hbW hSW hS8 ho1 hst hat hms hsv hv0 how1 hkn hBW hp
        go_wp2_with (at_builtin; refine wpList_append (B := m) (xs := (mKs L p).map rkS) (ys := [rkS k]) row_keyS rfl (.tmp 22) (.tmp 24) rfl (v := v0) rfl HW1.out rfl ⟨_, sl_one (Nat.le_refl _) (by decide) HM.out.2.2.1⟩ ?_ (by simp; omega) (by have := HMM.out; omega) ?_)
        · intro z hz; obtain rfl : z = rkS k := by simpa using hz
          exact one_rkS k
        intro v3 w3 ho3 hg3 hl3
        have hml : m < w1.heap.size := by omega
        have hm31 : w3.heap[m]? = w1.heap[m]? := hg3.block m hml (fun e => HM.out.2.1 e.symm)
        obtain ⟨w4, hrun4, hm4, ho4, _⟩ := HST.out w3 (v3, mKs L p ++ [k]) hm31
        have hsp : SpAt w4 m m (put L p (v3, mKs L p ++ [k])) := by
          have hv0 := HM.out.1
          refine HM.out.2.2.2.put p k (w1 := w3) (by simpa using ho3) (fun g hg hgm hgo => ?_) ?_ hm4 ho4
          · have hg2 : g < w1.heap.size := by rw [HO1.out.size]; exact hg
            rw [← hv0] at hgo
            exact (hg3.block g hg2 (fun e => hgo e.symm)).trans (HO1.out.block g hgm)
          · rw [← hv0]
            rcases hl3 with e | e
            · exact .inl e
            · exact .inr (by first | exact e.trans (congrArg some HO1.out.size) | exact e.trans (congrArg some (show W.heap.size + 1 = (W.alloc (.cells (row8 k.val) 33)).heap.size by simp)))
        have hb4 : Below w.heap.size w w4 := by
          have hm := HMM.out
          have h1 : Below w.heap.size w w1 := (HBW.out.alloc HBW.out.size (.cells (row8 k.val) 33)).only HO1.out (by omega)
          have h3 : Below w.heap.size w w3 := Below.grown h1 hg3 h1.size (fun q hq => by have := HW1.out.lt q hq; omega)
          exact h3.only ho4 (by omega)
        have HB4 := Lib.hid hb4
        have HS4 := Lib.hid hsp
        have HL4 := Lib.hid (show (put L p (v3, mKs L p ++ [k])).map (fun e => (e.1, e.2.2)) = splitG rtS pk3 (l.take (i + 1)) [] by rw [put_proj, HL.out, HSN2.out])
        unfold evS at hrun4
        have hmm := HMM.out
        subst hmm
        clear hg3 hl3 ho3 hsp hb4 hm4 ho4 hm31 HM HO1 HST HW1 HBW hmk
        go_wp2_with fail
        go_roundw
        case rel => exact ⟨i + 1, _, by omega, by go_num, HB4, HS4, HL4⟩
        case measure => simp [intOf]; omega
    · have hie : i = l.length := by omega
      subst hie
      have hgn : ¬ (l.length : Int) < l.length := by omega
      go_wp2_with fail
      go_ret
      have hl := HL.out
      rw [List.take_length] at hl
      exact ⟨rfl, HB.out, L, HS.out, hl⟩
end Go.Proofs.YtpdohgadcepipaaDoor
namespace Go.Proofs.YtpdohgadcepipaaDoor
open Go.RowKit
section
variable {κ π : Type} [DecidableEq π] (rt : κ → Bool) (pf : κ → π)
theorem splitG_len (l : List κ) : (splitG rt pf l []).length ≤ l.length := by
  induction h : l.length generalizing l with
  | zero =>
    have : l = [] := List.eq_nil_of_length_eq_zero h
    subst this
    exact Nat.le_refl _
  | succ n ih =>
    rcases List.eq_nil_or_concat l with rfl | ⟨l0, k, rfl⟩
    · simp at h
    rw [List.concat_eq_append] at h ⊢
    have ih := ih l0 (by simpa using h)
    rw [splitG_snoc, splitG_one]
    split
    · rw [put_len]; split <;> omega
    · omega
theorem ofP_len (l : List κ) (p : π) : (ofP rt pf l p).length ≤ l.length := List.length_filter_le _ _
theorem totG_le (l : List κ) : ∀ G : List (π × List κ), totG rt pf l G ≤ G.length * l.length
  | [] => Nat.zero_le _
  | e :: G => by
    have ih := totG_le l G
    have h1 := ofP_len rt pf l e.1
    unfold totG at ih ⊢
    rw [List.map_cons, List.sum_cons, List.length_cons, Nat.succ_mul]
    omega
theorem tot_bound (l : List κ) (i : Nat) (hl : l.length ≤ 30) : (splitG rt pf (l.take i) []).length ≤ 30 ∧ totG rt pf l (splitG rt pf (l.take i) []) ≤ 900 := by
  have h1 := splitG_len rt pf (l.take i)
  have h2 : (l.take i).length ≤ 30 := by rw [List.length_take]; omega
  have h3 := totG_le rt pf l (splitG rt pf (l.take i) [])
  have h4 : (splitG rt pf (l.take i) []).length * l.length ≤ 30 * 30 := Nat.mul_le_mul (by omega) hl
  omega
/-- which of some keys were so far those with a prefix, none before a place -/
def fstP (l : List κ) (p : π) (i j : Nat) : Bool := (List.range j).all fun k => match l[k]? with | some y => !(rt y && decide (pf y = p)) || decide (i ≤ k) | none => true
theorem fstP_zero (l : List κ) (p : π) (i : Nat) : fstP rt pf l p i 0 = true := rfl
theorem fstP_no (l : List κ) (p : π) (i j : Nat) (hj : j < l.length) (h : (rt l[j] && decide (pf l[j] = p)) = false) : fstP rt pf l p i (j + 1) = fstP rt pf l p i j := by
  unfold fstP
  rw [List.range_succ, List.all_append, List.all_cons, List.all_nil, Bool.and_true, List.getElem?_eq_getElem hj]
  simp only [h, Bool.not_false, Bool.true_or, Bool.and_true]
theorem fstP_yes (l : List κ) (p : π) (i j : Nat) (hj : j < l.length) (h : (rt l[j] && decide (pf l[j] = p)) = true) : fstP rt pf l p i (j + 1) = (fstP rt pf l p i j && decide (i ≤ j)) := by
  unfold fstP
  rw [List.range_succ, List.all_append, List.all_cons, List.all_nil, Bool.and_true, List.getElem?_eq_getElem hj]
  simp only [h, Bool.not_true, Bool.false_or]
theorem fstP_spec (l : List κ) (p : π) (i : Nat) : fstP rt pf l p i l.length = true ↔ ∀ k, ∀ h : k < l.length, rt l[k] = true → pf l[k] = p → i ≤ k := by
  unfold fstP
  rw [List.all_eq_true]
  constructor
  · intro h k hk h1 h2
    have := h k (List.mem_range.2 hk)
    rw [List.getElem?_eq_getElem hk] at this
    simpa [h1, h2] using this
  · intro h k hk
    rw [List.mem_range] at hk
    rw [List.getElem?_eq_getElem hk]
    have := h k hk
    cases h1 : rt l[k] with
    | false => simp [h1]
    | true =>
      by_cases h2 : pf l[k] = p
      · have := this h1 h2
        simp [h1, h2, this]
      · simp [h1, h2]
/-- one key more is done -/
theorem step_first (l : List κ) (i : Nat) (hi : i < l.length) (hr : rt l[i] = true) (h : fstP rt pf l (pf l[i]) i l.length = true) :
    (splitG rt pf (l.take (i + 1)) []).length = (splitG rt pf (l.take i) []).length + 1 ∧ totG rt pf l (splitG rt pf (l.take (i + 1)) []) = totG rt pf l (splitG rt pf (l.take i) []) + (ofP rt pf l (pf l[i])).length := by
  refine (split_step rt pf l i hi).1 hr fun k hk h1 h2 => ?_
  have := (fstP_spec rt pf l (pf l[i]) i).1 h k (by omega) h1 h2
  omega
theorem step_later (l : List κ) (i : Nat) (hi : i < l.length) (h : fstP rt pf l (pf l[i]) i l.length = false) :
    (splitG rt pf (l.take (i + 1)) []).length = (splitG rt pf (l.take i) []).length ∧ totG rt pf l (splitG rt pf (l.take (i + 1)) []) = totG rt pf l (splitG rt pf (l.take i) []) := by
  refine (split_step rt pf l i hi).2 fun _ => ?_
  apply Classical.byContradiction
  intro hn
  have : fstP rt pf l (pf l[i]) i l.length = true := (fstP_spec rt pf l (pf l[i]) i).2 fun k hk h1 h2 => by
    rcases Nat.lt_or_ge k i with hki | hki
    · exact (hn ⟨k, hki, h1, h2⟩).elim
    · exact hki
  rw [this] at h
  cases h
theorem step_wrong (l : List κ) (i : Nat) (hi : i < l.length) (h : rt l[i] = false) :
    (splitG rt pf (l.take (i + 1)) []).length = (splitG rt pf (l.take i) []).length ∧ totG rt pf l (splitG rt pf (l.take (i + 1)) []) = totG rt pf l (splitG rt pf (l.take i) []) :=
  (split_step rt pf l i hi).2 fun hr => by rw [h] at hr; cases hr
theorem right_succ (l : List κ) (i : Nat) (hi : i < l.length) : ((l.take (i + 1)).filter rt).length = ((l.take i).filter rt).length + if rt l[i] = true then 1 else 0 := by
  rw [List.take_succ_eq_append_getElem hi, List.filter_append, List.length_append]
  congr 1
  by_cases h : rt l[i] = true <;> simp [h]
end
theorem has3 (k y : K25) : hasB (pk3 k) 3 y = decide (pk3 y = pk3 k) := by
  unfold hasB
  have h1 : prefR 3 = true := rfl
  have h2 : plen 3 = 3 := rfl
  have h3 : (pk3 k).val.take 3 = k.val.take 3 := by
    unfold pk3 cutB
    simp only
    rw [List.take_append_of_le_length (by simp [k.len]), List.take_take]
    rfl
  rw [h1, Bool.true_and, h2, h3, Bool.eq_iff_iff, decide_eq_true_eq, decide_eq_true_eq]
  have := cutB_inj k.val y.val 3 k.len y.len
  rw [← this]
  constructor
  · intro h; exact Subtype.ext h.symm
  · intro h; exact (congrArg Subtype.val h).symm
theorem pk3_sets (k : K25) : ((((zeros 25).set 0 (byt k.val 0)).set 1 (byt k.val 1)).set 2 (byt k.val 2)) = (pk3 k).val := (cutS k.val k.len).2.2.2.1
end Go.Proofs.YtpdohgadcepipaaDoor
namespace Go.Proofs.YtpdohgadcepipaaDoor
set_option maxRecDepth 100000
open Go.RowKit

def bK3 (p q r : Nat × Value) : Sem Value := Instr.build 33 #[p, q, r]
@[go_sem ↓ high] theorem bK3_eq (f : Nat × Operand → Nat × Value) (p q r : Nat × Operand) : Instr.build 33 (Array.map f #[p, q, r]) = bK3 (f p) (f q) (f r) := by simp [bK3]
theorem bK3_bytes (a b c : UInt8) (w : World) : (bK3 (0, .int .u8 (a.toNat : Int)) (1, .int .u8 (b.toNat : Int)) (2, .int .u8 (c.toNat : Int))).run Tryd.prog w = .ok (.agg (row8 ((((zeros 25).set 0 a).set 1 b).set 2 c))) w := by
  refine build_of (zero := .agg (row8 (zeros 25))) (places := #[(0, 1), (1, 1), (2, 1), (3, 12), (15, 10)]) (by intro w; exact (Tryd.zeroValue33 w).trans rfl) Tryd.underlying33 (by intro w; kernel_rfl) ?_
  rfl
@[go_sem] theorem bK3_run (k : K25) (w : World) : (bK3 (0, .int .u8 ((byt k.val 0).toNat : Int)) (1, .int .u8 ((byt k.val 1).toNat : Int)) (2, .int .u8 ((byt k.val 2).toNat : Int))).run Tryd.prog w = .ok (.agg (row8 (pk3 k).val)) w := by
  rw [bK3_bytes, pk3_sets]
theorem key_cells {w : World} {b o : Nat} {k : K25} (h : w.cut? b o 25 = some (row8 k.val)) : w.cell? ⟨b, o, none⟩ = some (.int .u8 ((byt k.val 0).toNat : Int)) ∧ w.cell? ⟨b, o + 1, none⟩ = some (.int .u8 ((byt k.val 1).toNat : Int)) ∧ w.cell? ⟨b, o + 2, none⟩ = some (.int .u8 ((byt k.val 2).toNat : Int)) := by
  have hs := (cut_spec h).2
  have hg : ∀ i, i < 25 → (row8 k.val)[i]? = some (.int .u8 ((byt k.val i).toNat : Int)) := fun i hi => row8_get _ _ (by rw [k.len]; exact hi)
  refine ⟨?_, ?_, ?_⟩
  · have := hs 0 (by decide); rw [hg 0 (by decide)] at this; exact this
  · have := hs 1 (by decide); rw [hg 1 (by decide)] at this; exact this
  · have := hs 2 (by decide); rw [hg 2 (by decide)] at this; exact this
theorem has3_gives (p k y : K25) (hp : p = pk3 k) (w : World) : Gives Tryd.prog 6 #[.agg (prefA p 3), .agg (row8 y.val)] w (.bool (decide (pk3 y = p))) := by
  subst hp
  rw [← has3]
  exact has_gives (pk3 k) y 3 w
set_option maxHeartbeats 20000000 in
theorem keySplits_walk (w : World) (l0 : List K25) (v0 : Value) (hv0 : SlA w w.heap.size 25 v0 (l0.map rkS)) : Gives Tryd.prog 3 #[v0] w (.bool true) := by
  obtain ⟨a0, cap0, rfl, hcl, hcm⟩ := hv0.form
  rw [List.length_map] at *
  obtain ⟨n, hn⟩ : ∃ n, n = min l0.length 30 := ⟨_, rfl⟩
  obtain ⟨l, hl⟩ : ∃ l, l = l0.take n := ⟨_, rfl⟩
  have hln : l.length = n := by rw [hl, List.length_take]; omega
  have hn30 : n ≤ 30 := by omega
  have hnc : n ≤ cap0 := by omega
  have hv1 := hv0
  rw [show l0.length = (l0.map rkS).length by simp] at hv1
  have hv2 := hv1.take (n := n) (by rw [List.length_map]; omega)
  rw [← List.map_take, ← hl] at hv2
  have HV := Lib.hid hv2
  have HKN := Lib.hid known06_gives
  unfold maxLen at hcm
  clear hv0 hv1 hv2 hl
  unfold Gives
  go_enter Tryd.func3, Tryd.ntmps3
  go_upto_region 1 with fail
  go_cut [0] (fun s0 wx => s0 = .slice a0 n cap0 ∧ wx = w)
  case first =>
    have hmn : (min (l0.length : Int) 30).toNat = n := by omega
    have HMN := Lib.hid hmn
    clear hmn hn hln hn30 hnc
    go_wp2_with fail
    go_meet
    exact ⟨by rw [HMN.out], rfl⟩
  case rest =>
  obtain ⟨rfl, e0⟩ := hcut
  have e1 := e0.symm
  subst e1
  clear e0 hn hcl
  subst hln
  go_wp2_with fail
  refine (keySplit_calls l (by omega) _ _ HV.out).mono ?_
  rintro e w1 ⟨rfl, hb1, L, hS, hL⟩
  have hz1 := hb1.size
  have HV1 := Lib.hid (HV.out.below hb1)
  have HS := Lib.hid hS
  have HL := Lib.hid hL
  have HB1 := Lib.hid hb1
  have hks : ∀ p, mKs L p = ofP rtS pk3 l p := by
    intro p
    rw [mKs_proj, hL, (splitG_lk rtS pk3 l).2]
    split
    · rename_i h; rw [h]; rfl
    · rfl
  have HKS := Lib.hid hks
  have hLl : L.length = (splitG rtS pk3 l []).length := by rw [← hL]; simp
  have HLL := Lib.hid hLl
  clear hb1 hS hL hks hLl
  have HPB := Lib.hid (fun i => tot_bound rtS pk3 l i hn30)
  go_upto_block 0 with fail
  go_cut [4, 5] (fun s4 s5 wx => s4 = .int .i64 ((l.filter rtS).length : Nat) ∧ s5 = .int .i64 (L.length : Nat) ∧ Hid (Below w1.heap.size w1 wx))
  case first =>
    go_wp2_with fail
    go_loopw [4, 5, 6] (fun s4 s5 s6 wr => ∃ i : Nat, i ≤ l.length ∧ s6 = .int .i64 i ∧ s4 = .int .i64 (totG rtS pk3 l (splitG rtS pk3 (l.take i) []) : Nat) ∧ s5 = .int .i64 ((splitG rtS pk3 (l.take i) []).length : Nat) ∧ Hid (Below w1.heap.size w1 wr)) (fun _ _ s6 _ => l.length - (intOf s6).toNat)
    case atStart => exact ⟨0, Nat.zero_le _, rfl, rfl, rfl, Lib.hid (Below.refl _ _)⟩
    case round =>
      obtain ⟨i, hi, rfl, rfl, rfl, HB⟩ := hrel
      by_cases hlt : i < l.length
      · have hltI : (i : Int) < l.length := by omega
        obtain ⟨_, a', cap', he, _, _, hc⟩ := HV1.out
        simp only [Value.slice.injEq, List.length_map, true_and] at he
        obtain ⟨rfl, rfl⟩ := he
        obtain ⟨g, q, rfl, hlb, hcut⟩ := hc (by simp; omega)
        have HCUT := Lib.hid (show ∀ j, ∀ h : j < l.length, w1.cut? g (q + j * 25) 25 = some (row8 l[j].val) from fun j h => hcut j (rkS l[j]) (by simp [h]))
        clear hc hcut
        have hgw : g < w1.heap.size := by omega
        have hsz := HB.out.size
        have hgr : g < wr.heap.size := by omega
        have hcutk : wr.cut? g (q + i * 25) 25 = some (row8 l[i].val) := (cut_of_heap (HB.out.block g hgw) _ _).trans (HCUT.out i hlt)
        obtain ⟨k, hk⟩ : ∃ k, k = l[i] := ⟨_, rfl⟩
        rw [← hk] at hcutk
        have HK := Lib.hid hk
        have HR := Lib.hid (keyRight_gives k.val k.len)
        have hbi := HPB.out i
        have hbi2 := HPB.out (i + 1)
        have HTL := Lib.hid (And.intro (step_wrong rtS pk3 l i hlt) (And.intro (step_later rtS pk3 l i hlt) (step_first rtS pk3 l i hlt)))
        generalize totG rtS pk3 l (splitG rtS pk3 (l.take i) []) = tt at *
        generalize (splitG rtS pk3 (l.take i) []).length = ll at *
        obtain ⟨hbi0, hbi1⟩ := hbi
        clear hk
        cases hr : rtS k with
        | false =>
          have hr2 : keyRight k.val = false := hr
          rw [hr2] at HR
          have HT := Lib.hid (HTL.out.1 (by rw [← HK.out]; exact hr))
          clear hr hr2 HTL hbi2
          go_wp2_with fail
          refine Gives.use (HR.out _) ?_
          intro xs d
          go_wp2_with fail
          go_roundw
          case rel => exact ⟨i + 1, by omega, by go_num, by rw [HT.out.2], by rw [HT.out.1], Lib.hid (HB.out.trans ((show Below wr.heap.size wr _ from (by repeat (first | exact below_of_grow _ _ | exact Below.refl _ _ | exact below_more _ _ _ _ | (simp only [← Array.append_assoc]; first | exact below_more _ _ _ _ | exact below_same _ _ _ | exact Below.refl _ _) | exact below_same _ _ _ | (refine Below.alloc ?_ (by first | (simp; done) | (simp; omega)) _) | (refine Below.grow ?_ (by first | (simp; done) | (simp; omega)) _ _) | refine Below.drew ?_ | refine Below.drewN ?_ _ | (refine Below.putF ?_ (by first | (simp; done) | omega | (simp; omega)) _) | (refine Below.setCell ?_ (by first | (simp; done) | (simp; omega)) _)))).mono hsz))⟩
          case measure => simp [intOf]; omega
        | true =>
          have hr2 : keyRight k.val = true := hr
          rw [hr2] at HR
          have HRK := Lib.hid hr
          clear hr hr2 hbi2
          go_wp2_with fail
          refine Gives.use (HR.out _) ?_
          intro xs d
          go_upto_region 8 with fail
          refine wp_name ?_
          intro W hW
          have hbW : Below wr.heap.size wr W := by rw [hW]; exact (by repeat (first | exact below_of_grow _ _ | exact Below.refl _ _ | exact below_more _ _ _ _ | (simp only [← Array.append_assoc]; first | exact below_more _ _ _ _ | exact below_same _ _ _ | exact Below.refl _ _) | exact below_same _ _ _ | (refine Below.alloc ?_ (by first | (simp; done) | (simp; omega)) _) | (refine Below.grow ?_ (by first | (simp; done) | (simp; omega)) _ _) | refine Below.drew ?_ | refine Below.drewN ?_ _ | (refine Below.putF ?_ (by first | (simp; done) | omega | (simp; omega)) _) | (refine Below.setCell ?_ (by first | (simp; done) | (simp; omega)) _)))
          obtain ⟨hc0, hc1, hc2⟩ := key_cells ((cut_of_heap (hbW.block g hgr) _ _).trans hcutk)
          have hgW : g < W.heap.size := Nat.lt_of_lt_of_le hgr hbW.size
          have HBW := Lib.hid (HB.out.trans (hbW.mono hsz))
          clear hW hbW hcutk hgr hsz HB HR
          apply wp_region_specs (by rfl) [.val _, .val _, .val _, .val _, .val _, .val _, .val _, .val _, .val _, .val _, .val _, .val _, .val _, .val _, .val _, .val _, .val _, .new _] 18 (by rfl) [33, 34, 35, 36, 37, 38, 39, 40, 41, 42, 43, 44, 45, 46, 47, 48, 49, 7] [17] [] (by rfl) (by rfl) (by decide) (by decide +kernel) (fun _ _ _ _ _ h => h)
          case hF => intro x; simp only [over, List.foldl_cons, List.foldl_nil, List.setIfInBounds_toArray, List.set_cons_succ, List.set_cons_zero]; exact rfl
          case hops =>
            refine ⟨?o0, ?o1, ?o2, ?o3, ?o4, ?o5, ?o6, ?o7, ?o8, ?o9, ?o10, ?o11, ?o12, ?o13, ?o14, ?o15, ?o16, ?o17, trivial⟩
            case o0 =>
              intro x w1 hH K hK
              obtain ⟨xs, d, rfl⟩ := grow_of_below hH.below
              clear hH
              try simp only [World.grow_drew] at hK ⊢
              try simp only [World.grow_grow] at hK ⊢
              go_simp
              go_wp2_with fail
              exact ⟨_, rfl, rfl, (by repeat (first | exact below_of_grow _ _ | exact Below.refl _ _ | exact below_more _ _ _ _ | (simp only [← Array.append_assoc]; first | exact below_more _ _ _ _ | exact below_same _ _ _ | exact Below.refl _ _) | exact below_same _ _ _ | (refine Below.alloc ?_ (by first | (simp; done) | (simp; omega)) _) | (refine Below.grow ?_ (by first | (simp; done) | (simp; omega)) _ _) | refine Below.drew ?_ | refine Below.drewN ?_ _ | (refine Below.putF ?_ (by first | (simp; done) | omega | (simp; omega)) _) | (refine Below.setCell ?_ (by first | (simp; done) | (simp; omega)) _))), fun h => by cases h⟩
            case o1 =>
              intro x w1 hH K hK
              obtain ⟨xs, d, rfl⟩ := grow_of_below hH.below
              clear hH
              try simp only [World.grow_drew] at hK ⊢
              try simp only [World.grow_grow] at hK ⊢
              go_simp
              go_wp2_with fail
              exact ⟨_, rfl, rfl, (by repeat (first | exact below_of_grow _ _ | exact Below.refl _ _ | exact below_more _ _ _ _ | (simp only [← Array.append_assoc]; first | exact below_more _ _ _ _ | exact below_same _ _ _ | exact Below.refl _ _) | exact below_same _ _ _ | (refine Below.alloc ?_ (by first | (simp; done) | (simp; omega)) _) | (refine Below.grow ?_ (by first | (simp; done) | (simp; omega)) _ _) | refine Below.drew ?_ | refine Below.drewN ?_ _ | (refine Below.putF ?_ (by first | (simp; done) | omega | (simp; omega)) _) | (refine Below.setCell ?_ (by first | (simp; done) | (simp; omega)) _))), fun h => by cases h⟩
            case o2 =>
              intro x w1 hH K hK
              have e33 : x 33 = _ := hH.holds 0 (by decide) (by decide +kernel) 33 rfl
              have e34 : x 34 = _ := hH.holds 1 (by decide) (by decide +kernel) 34 rfl
              obtain ⟨xs, d, rfl⟩ := grow_of_below hH.below
              clear hH
              try simp only [World.grow_drew] at hK ⊢
              try simp only [World.grow_grow] at hK ⊢
              simp only [e33, e34] at hK ⊢
              clear e33 e34
              go_simp
              go_wp2_with fail
              exact ⟨_, rfl, rfl, (by repeat (first | exact below_of_grow _ _ | exact Below.refl _ _ | exact below_more _ _ _ _ | (simp only [← Array.append_assoc]; first | exact below_more _ _ _ _ | exact below_same _ _ _ | exact Below.refl _ _) | exact below_same _ _ _ | (refine Below.alloc ?_ (by first | (simp; done) | (simp; omega)) _) | (refine Below.grow ?_ (by first | (simp; done) | (simp; omega)) _ _) | refine Below.drew ?_ | refine Below.drewN ?_ _ | (refine Below.putF ?_ (by first | (simp; done) | omega | (simp; omega)) _) | (refine Below.setCell ?_ (by first | (simp; done) | (simp; omega)) _))), fun h => by cases h⟩
            case o3 =>
              intro x w1 hH K hK
              have e35 : x 35 = _ := hH.holds 2 (by decide) (by decide +kernel) 35 rfl
              obtain ⟨xs, d, rfl⟩ := grow_of_below hH.below
              clear hH
              try simp only [World.grow_drew] at hK ⊢
              try simp only [World.grow_grow] at hK ⊢
              simp only [e35] at hK ⊢
              clear e35
              go_simp
              go_wp2_with fail
              exact ⟨_, rfl, rfl, (by repeat (first | exact below_of_grow _ _ | exact Below.refl _ _ | exact below_more _ _ _ _ | (simp only [← Array.append_assoc]; first | exact below_more _ _ _ _ | exact below_same _ _ _ | exact Below.refl _ _) | exact below_same _ _ _ | (refine Below.alloc ?_ (by first | (simp; done) | (simp; omega)) _) | (refine Below.grow ?_ (by first | (simp; done) | (simp; omega)) _ _) | refine Below.drew ?_ | refine Below.drewN ?_ _ | (refine Below.putF ?_ (by first | (simp; done) | omega | (simp; omega)) _) | (refine Below.setCell ?_ (by first | (simp; done) | (simp; omega)) _))), fun h => by cases h⟩
            case o4 =>
              intro x w1 hH K hK
              have e36 : x 36 = _ := hH.holds 3 (by decide) (by decide +kernel) 36 rfl
              obtain ⟨xs, d, rfl⟩ := grow_of_below hH.below
              clear hH
              try simp only [World.grow_drew] at hK ⊢
              try simp only [World.grow_grow] at hK ⊢
              simp only [e36] at hK ⊢
              clear e36
              go_simp
              go_wp2_with fail
              exact ⟨_, rfl, rfl, (by repeat (first | exact below_of_grow _ _ | exact Below.refl _ _ | exact below_more _ _ _ _ | (simp only [← Array.append_assoc]; first | exact below_more _ _ _ _ | exact below_same _ _ _ | exact Below.refl _ _) | exact below_same _ _ _ | (refine Below.alloc ?_ (by first | (simp; done) | (simp; omega)) _) | (refine Below.grow ?_ (by first | (simp; done) | (simp; omega)) _ _) | refine Below.drew ?_ | refine Below.drewN ?_ _ | (refine Below.putF ?_ (by first | (simp; done) | omega | (simp; omega)) _) | (refine Below.setCell ?_ (by first | (simp; done) | (simp; omega)) _))), fun h => by cases h⟩
            case o5 =>
              intro x w1 hH K hK
              obtain ⟨xs, d, rfl⟩ := grow_of_below hH.below
              clear hH
              try simp only [World.grow_drew] at hK ⊢
              try simp only [World.grow_grow] at hK ⊢
              go_simp
              go_wp2_with fail
              exact ⟨_, rfl, rfl, (by repeat (first | exact below_of_grow _ _ | exact Below.refl _ _ | exact below_more _ _ _ _ | (simp only [← Array.append_assoc]; first | exact below_more _ _ _ _ | exact below_same _ _ _ | exact Below.refl _ _) | exact below_same _ _ _ | (refine Below.alloc ?_ (by first | (simp; done) | (simp; omega)) _) | (refine Below.grow ?_ (by first | (simp; done) | (simp; omega)) _ _) | refine Below.drew ?_ | refine Below.drewN ?_ _ | (refine Below.putF ?_ (by first | (simp; done) | omega | (simp; omega)) _) | (refine Below.setCell ?_ (by first | (simp; done) | (simp; omega)) _))), fun h => by cases h⟩
            case o6 =>
              intro x w1 hH K hK
              obtain ⟨xs, d, rfl⟩ := grow_of_below hH.below
              clear hH
              try simp only [World.grow_drew] at hK ⊢
              try simp only [World.grow_grow] at hK ⊢
              go_simp
              go_wp2_with fail
              exact ⟨_, rfl, rfl, (by repeat (first | exact below_of_grow _ _ | exact Below.refl _ _ | exact below_more _ _ _ _ | (simp only [← Array.append_assoc]; first | exact below_more _ _ _ _ | exact below_same _ _ _ | exact Below.refl _ _) | exact below_same _ _ _ | (refine Below.alloc ?_ (by first | (simp; done) | (simp; omega)) _) | (refine Below.grow ?_ (by first | (simp; done) | (simp; omega)) _ _) | refine Below.drew ?_ | refine Below.drewN ?_ _ | (refine Below.putF ?_ (by first | (simp; done) | omega | (simp; omega)) _) | (refine Below.setCell ?_ (by first | (simp; done) | (simp; omega)) _))), fun h => by cases h⟩
            case o7 =>
              intro x w1 hH K hK
              have e38 : x 38 = _ := hH.holds 5 (by decide) (by decide +kernel) 38 rfl
              have e39 : x 39 = _ := hH.holds 6 (by decide) (by decide +kernel) 39 rfl
              obtain ⟨xs, d, rfl⟩ := grow_of_below hH.below
              clear hH
              try simp only [World.grow_drew] at hK ⊢
              try simp only [World.grow_grow] at hK ⊢
              simp only [e38, e39] at hK ⊢
              clear e38 e39
              go_simp
              go_wp2_with fail
              exact ⟨_, rfl, rfl, (by repeat (first | exact below_of_grow _ _ | exact Below.refl _ _ | exact below_more _ _ _ _ | (simp only [← Array.append_assoc]; first | exact below_more _ _ _ _ | exact below_same _ _ _ | exact Below.refl _ _) | exact below_same _ _ _ | (refine Below.alloc ?_ (by first | (simp; done) | (simp; omega)) _) | (refine Below.grow ?_ (by first | (simp; done) | (simp; omega)) _ _) | refine Below.drew ?_ | refine Below.drewN ?_ _ | (refine Below.putF ?_ (by first | (simp; done) | omega | (simp; omega)) _) | (refine Below.setCell ?_ (by first | (simp; done) | (simp; omega)) _))), fun h => by cases h⟩
            case o8 =>
              intro x w1 hH K hK
              have e40 : x 40 = _ := hH.holds 7 (by decide) (by decide +kernel) 40 rfl
              obtain ⟨xs, d, rfl⟩ := grow_of_below hH.below
              clear hH
              try simp only [World.grow_drew] at hK ⊢
              try simp only [World.grow_grow] at hK ⊢
              simp only [e40] at hK ⊢
              clear e40
              go_simp
              go_wp2_with fail
              exact ⟨_, rfl, rfl, (by repeat (first | exact below_of_grow _ _ | exact Below.refl _ _ | exact below_more _ _ _ _ | (simp only [← Array.append_assoc]; first | exact below_more _ _ _ _ | exact below_same _ _ _ | exact Below.refl _ _) | exact below_same _ _ _ | (refine Below.alloc ?_ (by first | (simp; done) | (simp; omega)) _) | (refine Below.grow ?_ (by first | (simp; done) | (simp; omega)) _ _) | refine Below.drew ?_ | refine Below.drewN ?_ _ | (refine Below.putF ?_ (by first | (simp; done) | omega | (simp; omega)) _) | (refine Below.setCell ?_ (by first | (simp; done) | (simp; omega)) _))), fun h => by cases h⟩
            case o9 =>
              intro x w1 hH K hK
              have e41 : x 41 = _ := hH.holds 8 (by decide) (by decide +kernel) 41 rfl
              obtain ⟨xs, d, rfl⟩ := grow_of_below hH.below
              clear hH
              try simp only [World.grow_drew] at hK ⊢
              try simp only [World.grow_grow] at hK ⊢
              simp only [e41] at hK ⊢
              clear e41
              go_simp
              go_wp2_with fail
              exact ⟨_, rfl, rfl, (by repeat (first | exact below_of_grow _ _ | exact Below.refl _ _ | exact below_more _ _ _ _ | (simp only [← Array.append_assoc]; first | exact below_more _ _ _ _ | exact below_same _ _ _ | exact Below.refl _ _) | exact below_same _ _ _ | (refine Below.alloc ?_ (by first | (simp; done) | (simp; omega)) _) | (refine Below.grow ?_ (by first | (simp; done) | (simp; omega)) _ _) | refine Below.drew ?_ | refine Below.drewN ?_ _ | (refine Below.putF ?_ (by first | (simp; done) | omega | (simp; omega)) _) | (refine Below.setCell ?_ (by first | (simp; done) | (simp; omega)) _))), fun h => by cases h⟩
            case o10 =>
              intro x w1 hH K hK
              obtain ⟨xs, d, rfl⟩ := grow_of_below hH.below
              clear hH
              try simp only [World.grow_drew] at hK ⊢
              try simp only [World.grow_grow] at hK ⊢
              go_simp
              go_wp2_with fail
              exact ⟨_, rfl, rfl, (by repeat (first | exact below_of_grow _ _ | exact Below.refl _ _ | exact below_more _ _ _ _ | (simp only [← Array.append_assoc]; first | exact below_more _ _ _ _ | exact below_same _ _ _ | exact Below.refl _ _) | exact below_same _ _ _ | (refine Below.alloc ?_ (by first | (simp; done) | (simp; omega)) _) | (refine Below.grow ?_ (by first | (simp; done) | (simp; omega)) _ _) | refine Below.drew ?_ | refine Below.drewN ?_ _ | (refine Below.putF ?_ (by first | (simp; done) | omega | (simp; omega)) _) | (refine Below.setCell ?_ (by first | (simp; done) | (simp; omega)) _))), fun h => by cases h⟩
            case o11 =>
              intro x w1 hH K hK
              obtain ⟨xs, d, rfl⟩ := grow_of_below hH.below
              clear hH
              try simp only [World.grow_drew] at hK ⊢
              try simp only [World.grow_grow] at hK ⊢
              go_simp
              go_wp2_with fail
              exact ⟨_, rfl, rfl, (by repeat (first | exact below_of_grow _ _ | exact Below.refl _ _ | exact below_more _ _ _ _ | (simp only [← Array.append_assoc]; first | exact below_more _ _ _ _ | exact below_same _ _ _ | exact Below.refl _ _) | exact below_same _ _ _ | (refine Below.alloc ?_ (by first | (simp; done) | (simp; omega)) _) | (refine Below.grow ?_ (by first | (simp; done) | (simp; omega)) _ _) | refine Below.drew ?_ | refine Below.drewN ?_ _ | (refine Below.putF ?_ (by first | (simp; done) | omega | (simp; omega)) _) | (refine Below.setCell ?_ (by first | (simp; done) | (simp; omega)) _))), fun h => by cases h⟩
            case o12 =>
              intro x w1 hH K hK
              have e43 : x 43 = _ := hH.holds 10 (by decide) (by decide +kernel) 43 rfl
              have e44 : x 44 = _ := hH.holds 11 (by decide) (by decide +kernel) 44 rfl
              obtain ⟨xs, d, rfl⟩ := grow_of_below hH.below
              clear hH
              try simp only [World.grow_drew] at hK ⊢
              try simp only [World.grow_grow] at hK ⊢
              simp only [e43, e44] at hK ⊢
              clear e43 e44
              go_simp
              go_wp2_with fail
              exact ⟨_, rfl, rfl, (by repeat (first | exact below_of_grow _ _ | exact Below.refl _ _ | exact below_more _ _ _ _ | (simp only [← Array.append_assoc]; first | exact below_more _ _ _ _ | exact below_same _ _ _ | exact Below.refl _ _) | exact below_same _ _ _ | (refine Below.alloc ?_ (by first | (simp; done) | (simp; omega)) _) | (refine Below.grow ?_ (by first | (simp; done) | (simp; omega)) _ _) | refine Below.drew ?_ | refine Below.drewN ?_ _ | (refine Below.putF ?_ (by first | (simp; done) | omega | (simp; omega)) _) | (refine Below.setCell ?_ (by first | (simp; done) | (simp; omega)) _))), fun h => by cases h⟩
            case o13 =>
              intro x w1 hH K hK
              have e45 : x 45 = _ := hH.holds 12 (by decide) (by decide +kernel) 45 rfl
              obtain ⟨xs, d, rfl⟩ := grow_of_below hH.below
              clear hH
              try simp only [World.grow_drew] at hK ⊢
              try simp only [World.grow_grow] at hK ⊢
              simp only [e45] at hK ⊢
              clear e45
              go_simp
              go_wp2_with fail
              exact ⟨_, rfl, rfl, (by repeat (first | exact below_of_grow _ _ | exact Below.refl _ _ | exact below_more _ _ _ _ | (simp only [← Array.append_assoc]; first | exact below_more _ _ _ _ | exact below_same _ _ _ | exact Below.refl _ _) | exact below_same _ _ _ | (refine Below.alloc ?_ (by first | (simp; done) | (simp; omega)) _) | (refine Below.grow ?_ (by first | (simp; done) | (simp; omega)) _ _) | refine Below.drew ?_ | refine Below.drewN ?_ _ | (refine Below.putF ?_ (by first | (simp; done) | omega | (simp; omega)) _) | (refine Below.setCell ?_ (by first | (simp; done) | (simp; omega)) _))), fun h => by cases h⟩
            case o14 =>
              intro x w1 hH K hK
              have e46 : x 46 = _ := hH.holds 13 (by decide) (by decide +kernel) 46 rfl
              obtain ⟨xs, d, rfl⟩ := grow_of_below hH.below
              clear hH
              try simp only [World.grow_drew] at hK ⊢
              try simp only [World.grow_grow] at hK ⊢
              simp only [e46] at hK ⊢
              clear e46
              go_simp
              go_wp2_with fail
              exact ⟨_, rfl, rfl, (by repeat (first | exact below_of_grow _ _ | exact Below.refl _ _ | exact below_more _ _ _ _ | (simp only [← Array.append_assoc]; first | exact below_more _ _ _ _ | exact below_same _ _ _ | exact Below.refl _ _) | exact below_same _ _ _ | (refine Below.alloc ?_ (by first | (simp; done) | (simp; omega)) _) | (refine Below.grow ?_ (by first | (simp; done) | (simp; omega)) _ _) | refine Below.drew ?_ | refine Below.drewN ?_ _ | (refine Below.putF ?_ (by first | (simp; done) | omega | (simp; omega)) _) | (refine Below.setCell ?_ (by first | (simp; done) | (simp; omega)) _))), fun h => by cases h⟩
            case o15 =>
              intro x w1 hH K hK
              have e37 : x 37 = _ := hH.holds 4 (by decide) (by decide +kernel) 37 rfl
              have e42 : x 42 = _ := hH.holds 9 (by decide) (by decide +kernel) 42 rfl
              have e47 : x 47 = _ := hH.holds 14 (by decide) (by decide +kernel) 47 rfl
              obtain ⟨xs, d, rfl⟩ := grow_of_below hH.below
              clear hH
              try simp only [World.grow_drew] at hK ⊢
              try simp only [World.grow_grow] at hK ⊢
              simp only [e37, e42, e47] at hK ⊢
              clear e37 e42 e47
              go_simp
              go_wp2_with fail
              exact ⟨_, rfl, rfl, (by repeat (first | exact below_of_grow _ _ | exact Below.refl _ _ | exact below_more _ _ _ _ | (simp only [← Array.append_assoc]; first | exact below_more _ _ _ _ | exact below_same _ _ _ | exact Below.refl _ _) | exact below_same _ _ _ | (refine Below.alloc ?_ (by first | (simp; done) | (simp; omega)) _) | (refine Below.grow ?_ (by first | (simp; done) | (simp; omega)) _ _) | refine Below.drew ?_ | refine Below.drewN ?_ _ | (refine Below.putF ?_ (by first | (simp; done) | omega | (simp; omega)) _) | (refine Below.setCell ?_ (by first | (simp; done) | (simp; omega)) _))), fun h => by cases h⟩
            case o16 =>
              intro x w1 hH K hK
              have e48 : x 48 = _ := hH.holds 15 (by decide) (by decide +kernel) 48 rfl
              obtain ⟨xs, d, rfl⟩ := grow_of_below hH.below
              clear hH
              try simp only [World.grow_drew] at hK ⊢
              try simp only [World.grow_grow] at hK ⊢
              simp only [e48] at hK ⊢
              clear e48
              go_simp
              go_wp2_with fail
              exact ⟨_, rfl, rfl, (by repeat (first | exact below_of_grow _ _ | exact Below.refl _ _ | exact below_more _ _ _ _ | (simp only [← Array.append_assoc]; first | exact below_more _ _ _ _ | exact below_same _ _ _ | exact Below.refl _ _) | exact below_same _ _ _ | (refine Below.alloc ?_ (by first | (simp; done) | (simp; omega)) _) | (refine Below.grow ?_ (by first | (simp; done) | (simp; omega)) _ _) | refine Below.drew ?_ | refine Below.drewN ?_ _ | (refine Below.putF ?_ (by first | (simp; done) | omega | (simp; omega)) _) | (refine Below.setCell ?_ (by first | (simp; done) | (simp; omega)) _))), fun h => by cases h⟩
            case o17 =>
              intro x w1 hH K hK
              obtain ⟨xs, d, rfl⟩ := grow_of_below hH.below
              clear hH
              try simp only [World.grow_drew] at hK ⊢
              try simp only [World.grow_grow] at hK ⊢
              go_simp
              go_wp2_with fail
              exact left_new rfl (by simp) (by first | (simp; done) | (simp; omega))
          case hend =>
            intro x w1 hH
            have e33 : x 33 = _ := hH.holds 0 (by decide) trivial 33 rfl
            have e34 : x 34 = _ := hH.holds 1 (by decide) trivial 34 rfl
            have e35 : x 35 = _ := hH.holds 2 (by decide) trivial 35 rfl
            have e36 : x 36 = _ := hH.holds 3 (by decide) trivial 36 rfl
            have e37 : x 37 = _ := hH.holds 4 (by decide) trivial 37 rfl
            have e38 : x 38 = _ := hH.holds 5 (by decide) trivial 38 rfl
            have e39 : x 39 = _ := hH.holds 6 (by decide) trivial 39 rfl
            have e40 : x 40 = _ := hH.holds 7 (by decide) trivial 40 rfl
            have e41 : x 41 = _ := hH.holds 8 (by decide) trivial 41 rfl
            have e42 : x 42 = _ := hH.holds 9 (by decide) trivial 42 rfl
            have e43 : x 43 = _ := hH.holds 10 (by decide) trivial 43 rfl
            have e44 : x 44 = _ := hH.holds 11 (by decide) trivial 44 rfl
            have e45 : x 45 = _ := hH.holds 12 (by decide) trivial 45 rfl
            have e46 : x 46 = _ := hH.holds 13 (by decide) trivial 46 rfl
            have e47 : x 47 = _ := hH.holds 14 (by decide) trivial 47 rfl
            have e48 : x 48 = _ := hH.holds 15 (by decide) trivial 48 rfl
            have e49 : x 49 = _ := hH.holds 16 (by decide) trivial 49 rfl
            obtain ⟨b7, e7, l7, u7, o7⟩ := hH.holds 17 (by decide) trivial 7 rfl
            obtain ⟨xs, d, rfl⟩ := grow_of_below hH.below
            clear hH
            simp only [e33, e34, e35, e36, e37, e38, e39, e40, e41, e42, e43, e44, e45, e46, e47, e48, e49, e7]; clear e33 e34 e35 e36 e37 e38 e39 e40 e41 e42 e43 e44 e45 e46 e47 e48 e49 e7
            refine new_known1 o7 l7 u7 ?_
            clear o7
            simp [go_sem] at l7 u7
            simp only [List.drop_succ_cons, List.drop_zero]
            go_upto_region 9 with fail
            refine wp_name ?_
            intro X hX
            have hbX : Below W.heap.size W X := by rw [hX]; exact (by repeat (first | exact below_of_grow _ _ | exact Below.refl _ _ | exact below_more _ _ _ _ | (simp only [← Array.append_assoc]; first | exact below_more _ _ _ _ | exact below_same _ _ _ | exact Below.refl _ _) | exact below_same _ _ _ | (refine Below.alloc ?_ (by first | (simp; done) | (simp; omega)) _) | (refine Below.grow ?_ (by first | (simp; done) | (simp; omega)) _ _) | refine Below.drew ?_ | refine Below.drewN ?_ _ | (refine Below.putF ?_ (by first | (simp; done) | omega | (simp; omega)) _) | (refine Below.setCell ?_ (by first | (simp; done) | (simp; omega)) _)))
            have hpX : X.cut? b7 0 26 = some (prefA (pk3 k) 3) := by rw [hX]; exact cut_heap (World.putF_heap_eq _ (by simp; omega)) (by simp)
            have lpX : b7 < X.heap.size := by rw [hX]; simp; omega
            have hwX : Below w1.heap.size w1 X := HBW.out.trans (hbX.mono HBW.out.size)
            have hSX := HS.out.keep hwX
            obtain ⟨p, hp⟩ : ∃ p, p = pk3 k := ⟨_, rfl⟩
            rw [← hp] at hpX
            have hrun := lookup_run (P := Tryd.prog) keyEncS Tryd.underlying23 (z := .slice none 0 0) hSX.map (k := p) trivial (w := X) (by kernel_rfl) false
            have hown := (hSX.at_ p).1.sl
            rw [HKS.out p] at hown
            have hms : ((lk L p).map evS).getD (.slice none 0 0) = mSl L p := rfl
            simp only [Bool.false_eq_true, if_false, hms] at hrun
            unfold pfV at hrun
            obtain ⟨ax, cx, hxe, hcx, hmx⟩ := hown.form
            rw [List.length_map] at hxe hcx
            rw [hxe] at hrun hown
            have HOX := Lib.hid hown
            have HWX := Lib.hid hwX
            have HP := Lib.hid hp
            have hgX : g < X.heap.size := Nat.lt_of_lt_of_le hgw hwX.size
            have hXl : (ofP rtS pk3 l p).length ≤ 30 := Nat.le_trans (ofP_len _ _ _ _) hn30
            have HBX := Lib.hid hwX
            obtain ⟨xl, hxl⟩ : ∃ xl, xl = (ofP rtS pk3 l p).length := ⟨_, rfl⟩
            simp only [← hxl] at hrun hcx hXl
            have HXL := Lib.hid hxl
            clear hX hbX hwX hSX hown hms hxe hmx hc0 hc1 hc2 hxl hp
            go_upto_block 2 with fail
            go_cut [9, 10] (fun s9 s10 wx => s9 = .int .i64 xl ∧ s10 = .bool (fstP rtS pk3 l p i l.length) ∧ Hid (Below X.heap.size X wx))
            case first =>
              clear HTL HPB HKN HKS HLL HL HS HV HV1 HB1 HBW HRK HK
              go_wp2_with fail
              go_loopw [9, 10, 11] (fun s9 s10 s11 wr => ∃ j : Nat, j ≤ l.length ∧ s11 = .int .i64 j ∧ s9 = .int .i64 ((ofP rtS pk3 (l.take j) p).length : Nat) ∧ s10 = .bool (fstP rtS pk3 l p i j) ∧ Hid (Below X.heap.size X wr)) (fun _ _ s11 _ => l.length - (intOf s11).toNat)
              case atStart => exact ⟨0, Nat.zero_le _, rfl, rfl, rfl, Lib.hid (Below.refl _ _)⟩
              case round =>
                obtain ⟨j, hj, rfl, rfl, rfl, HBJ⟩ := hrel
                by_cases hjl : j < l.length
                · have hjI : (j : Int) < l.length := by omega
                  have hcutj : wr.cut? g (q + j * 25) 25 = some (row8 l[j].val) := (cut_of_heap ((HBX.out.trans (HBJ.out.mono HBX.out.size)).block g hgw) _ _).trans (HCUT.out j hjl)
                  have hpj : wr.cut? b7 0 26 = some (prefA p 3) := (cut_of_heap (HBJ.out.block b7 lpX) _ _).trans hpX
                  have hszj := HBJ.out.size
                  have hgj : g < wr.heap.size := by omega
                  have hpbj : b7 < wr.heap.size := by omega
                  have hnext := ofP_next rtS pk3 l j hjl p
                  have hatj := ofP_at rtS pk3 l j hjl p
                  have hfn := fstP_no rtS pk3 l p i j hjl
                  have hfy := fstP_yes rtS pk3 l p i j hjl
                  obtain ⟨y, hy⟩ : ∃ y, y = l[j] := ⟨_, rfl⟩
                  rw [← hy] at hcutj hnext hatj hfn hfy
                  have HRJ := Lib.hid (keyRight_gives y.val y.len)
                  have HHJ := Lib.hid (has3_gives p k y HP.out)
                  have hylen := y.len
                  obtain ⟨at_, hat_⟩ : ∃ n, n = (ofP rtS pk3 (l.take j) p).length := ⟨_, rfl⟩
                  obtain ⟨fj, hfj⟩ : ∃ b, b = fstP rtS pk3 l p i j := ⟨_, rfl⟩
                  rw [← hat_, ← hfj]
                  obtain ⟨cb, hcb⟩ : ∃ b, b = !(rtS y && decide (pk3 y = p)) := ⟨_, rfl⟩
                  have hall : (cb = true → (ofP rtS pk3 (l.take (j + 1)) p).length = at_ ∧ fstP rtS pk3 l p i (j + 1) = fj) ∧ (cb = false → (ofP rtS pk3 (l.take (j + 1)) p).length = at_ + 1 ∧ fstP rtS pk3 l p i (j + 1) = (fj && decide (i ≤ j)) ∧ (ofP rtS pk3 l p)[at_]? = some y) := by
                    constructor
                    · intro h
                      rw [h] at hcb
                      have h2 : (rtS y && decide (pk3 y = p)) = false := by
                        cases hx : (rtS y && decide (pk3 y = p)) with
                        | false => rfl
                        | true => rw [hx] at hcb; cases hcb
                      refine ⟨?_, by rw [hfn h2, hfj]⟩
                      rw [hnext, if_neg (fun h3 => by rw [h3.1, decide_eq_true h3.2] at h2; cases h2), List.append_nil, hat_]
                    · intro h
                      rw [h] at hcb
                      have h2 : (rtS y && decide (pk3 y = p)) = true := by
                        cases hx : (rtS y && decide (pk3 y = p)) with
                        | true => rfl
                        | false => rw [hx] at hcb; cases hcb
                      have h3 : rtS y = true ∧ pk3 y = p := by
                        rw [Bool.and_eq_true] at h2
                        exact ⟨h2.1, of_decide_eq_true h2.2⟩
                      refine ⟨?_, by rw [hfy h2, hfj], ?_⟩
                      · rw [hnext, if_pos h3, hat_]; simp
                      · rw [hat_]; exact hatj h3
                  have HALL := Lib.hid hall
                  have HCB := Lib.hid hcb
                  clear hnext hatj hfn hfy hy hat_ hfj hcb hall
                  have HRT := Lib.hid (show rtS y = keyRight y.val from rfl)
                  go_upto_region 14 with fail
                  go_cut [73] (fun v wx => v = .bool cb ∧ ∃ xs d, wx = wr.grow xs d)
                  case first =>
                    clear HALL HBJ HBX HCUT HXL HOX HP
                    cases hry : rtS y with
                    | false => --@1
                      rw [hry] at HRT HCB
                      rw [← HRT.out] at HRJ
                      have HC := Lib.hid (show cb = true from HCB.out)
                      clear hry HHJ HRT HCB
                      go_wp2_with fail
                      apply wp_region_specs (by rfl) [.val _, .val _, .val _, .val _, .val _, .val _, .val _, .val _, .val _, .val _, .val _, .val _, .val _, .val _, .val _] 15 (by rfl) [59, 60, 61, 62, 63, 64, 65, 66, 67, 68, 69, 70, 71, 72, 73] [] [] (by rfl) (by rfl) (by decide) (by decide +kernel) (fun _ _ _ _ _ h => h)
                      case hF => intro x; simp only [over, List.foldl_cons, List.foldl_nil, List.setIfInBounds_toArray, List.set_cons_succ, List.set_cons_zero]; exact rfl
                      case hops =>
                        refine ⟨?o0, ?o1, ?o2, ?o3, ?o4, ?o5, ?o6, ?o7, ?o8, ?o9, ?o10, ?o11, ?o12, ?o13, ?o14, trivial⟩
                        case o0 =>
                          intro x w1 hH K hK
                          obtain ⟨xs, d, rfl⟩ := grow_of_below hH.below
                          clear hH
                          try simp only [World.grow_drew] at hK ⊢
                          try simp only [World.grow_grow] at hK ⊢
                          go_simp
                          go_wp2_with fail
                          exact ⟨_, rfl, rfl, (by repeat (first | exact below_of_grow _ _ | exact Below.refl _ _ | exact below_more _ _ _ _ | (simp only [← Array.append_assoc]; first | exact below_more _ _ _ _ | exact below_same _ _ _ | exact Below.refl _ _) | exact below_same _ _ _ | (refine Below.alloc ?_ (by first | (simp; done) | (simp; omega)) _) | (refine Below.grow ?_ (by first | (simp; done) | (simp; omega)) _ _) | refine Below.drew ?_ | refine Below.drewN ?_ _ | (refine Below.putF ?_ (by first | (simp; done) | omega | (simp; omega)) _) | (refine Below.setCell ?_ (by first | (simp; done) | (simp; omega)) _))), fun h => by cases h⟩
                        case o1 =>
                          intro x w1 hH K hK
                          obtain ⟨xs, d, rfl⟩ := grow_of_below hH.below
                          clear hH
                          try simp only [World.grow_drew] at hK ⊢
                          try simp only [World.grow_grow] at hK ⊢
                          go_simp
                          go_wp2_with fail
                          exact ⟨_, rfl, rfl, (by repeat (first | exact below_of_grow _ _ | exact Below.refl _ _ | exact below_more _ _ _ _ | (simp only [← Array.append_assoc]; first | exact below_more _ _ _ _ | exact below_same _ _ _ | exact Below.refl _ _) | exact below_same _ _ _ | (refine Below.alloc ?_ (by first | (simp; done) | (simp; omega)) _) | (refine Below.grow ?_ (by first | (simp; done) | (simp; omega)) _ _) | refine Below.drew ?_ | refine Below.drewN ?_ _ | (refine Below.putF ?_ (by first | (simp; done) | omega | (simp; omega)) _) | (refine Below.setCell ?_ (by first | (simp; done) | (simp; omega)) _))), fun h => by cases h⟩
                        case o2 =>
                          intro x w1 hH K hK
                          have e59 : x 59 = _ := hH.holds 0 (by decide) (by decide +kernel) 59 rfl
                          have e60 : x 60 = _ := hH.holds 1 (by decide) (by decide +kernel) 60 rfl
                          obtain ⟨xs, d, rfl⟩ := grow_of_below hH.below
                          clear hH
                          try simp only [World.grow_drew] at hK ⊢
                          try simp only [World.grow_grow] at hK ⊢
                          simp only [e59, e60] at hK ⊢
                          clear e59 e60
                          go_simp
                          go_wp2_with fail
                          exact ⟨_, rfl, rfl, (by repeat (first | exact below_of_grow _ _ | exact Below.refl _ _ | exact below_more _ _ _ _ | (simp only [← Array.append_assoc]; first | exact below_more _ _ _ _ | exact below_same _ _ _ | exact Below.refl _ _) | exact below_same _ _ _ | (refine Below.alloc ?_ (by first | (simp; done) | (simp; omega)) _) | (refine Below.grow ?_ (by first | (simp; done) | (simp; omega)) _ _) | refine Below.drew ?_ | refine Below.drewN ?_ _ | (refine Below.putF ?_ (by first | (simp; done) | omega | (simp; omega)) _) | (refine Below.setCell ?_ (by first | (simp; done) | (simp; omega)) _))), fun h => by cases h⟩
                        case o3 =>
                          intro x w1 hH K hK
                          have e61 : x 61 = _ := hH.holds 2 (by decide) (by decide +kernel) 61 rfl
                          obtain ⟨xs, d, rfl⟩ := grow_of_below hH.below
                          clear hH
                          try simp only [World.grow_drew] at hK ⊢
                          try simp only [World.grow_grow] at hK ⊢
                          simp only [e61] at hK ⊢
                          clear e61
                          go_simp
                          go_wp2_with fail
                          exact ⟨_, rfl, rfl, (by repeat (first | exact below_of_grow _ _ | exact Below.refl _ _ | exact below_more _ _ _ _ | (simp only [← Array.append_assoc]; first | exact below_more _ _ _ _ | exact below_same _ _ _ | exact Below.refl _ _) | exact below_same _ _ _ | (refine Below.alloc ?_ (by first | (simp; done) | (simp; omega)) _) | (refine Below.grow ?_ (by first | (simp; done) | (simp; omega)) _ _) | refine Below.drew ?_ | refine Below.drewN ?_ _ | (refine Below.putF ?_ (by first | (simp; done) | omega | (simp; omega)) _) | (refine Below.setCell ?_ (by first | (simp; done) | (simp; omega)) _))), fun h => by cases h⟩
                        case o4 =>
                          intro x w1 hH K hK
                          have e62 : x 62 = _ := hH.holds 3 (by decide) (by decide +kernel) 62 rfl
                          obtain ⟨xs, d, rfl⟩ := grow_of_below hH.below
                          clear hH
                          try simp only [World.grow_drew] at hK ⊢
                          try simp only [World.grow_grow] at hK ⊢
                          simp only [e62] at hK ⊢
                          clear e62
                          go_simp
                          go_wp2_with (refine Gives.use (HRJ.out _) ?_; intro ys e)
                          exact ⟨_, rfl, rfl, (by first | exact below_more _ _ _ _ | exact (by repeat (first | exact below_of_grow _ _ | exact Below.refl _ _ | exact below_more _ _ _ _ | (simp only [← Array.append_assoc]; first | exact below_more _ _ _ _ | exact below_same _ _ _ | exact Below.refl _ _) | exact below_same _ _ _ | (refine Below.alloc ?_ (by first | (simp; done) | (simp; omega)) _) | (refine Below.grow ?_ (by first | (simp; done) | (simp; omega)) _ _) | refine Below.drew ?_ | refine Below.drewN ?_ _ | (refine Below.putF ?_ (by first | (simp; done) | omega | (simp; omega)) _) | (refine Below.setCell ?_ (by first | (simp; done) | (simp; omega)) _)))), fun h => by cases h⟩
                        case o5 =>
                          intro x w1 hH K hK
                          have e63 : x 63 = _ := hH.holds 4 (by decide) (by decide +kernel) 63 rfl
                          obtain ⟨xs, d, rfl⟩ := grow_of_below hH.below
                          clear hH
                          try simp only [World.grow_drew] at hK ⊢
                          try simp only [World.grow_grow] at hK ⊢
                          simp only [e63] at hK ⊢
                          clear e63
                          go_simp
                          go_wp2_with fail
                          exact ⟨_, rfl, rfl, (by repeat (first | exact below_of_grow _ _ | exact Below.refl _ _ | exact below_more _ _ _ _ | (simp only [← Array.append_assoc]; first | exact below_more _ _ _ _ | exact below_same _ _ _ | exact Below.refl _ _) | exact below_same _ _ _ | (refine Below.alloc ?_ (by first | (simp; done) | (simp; omega)) _) | (refine Below.grow ?_ (by first | (simp; done) | (simp; omega)) _ _) | refine Below.drew ?_ | refine Below.drewN ?_ _ | (refine Below.putF ?_ (by first | (simp; done) | omega | (simp; omega)) _) | (refine Below.setCell ?_ (by first | (simp; done) | (simp; omega)) _))), fun h => by cases h⟩
                        case o6 =>
                          intro x w1 hH K hK
                          have e64 : x 64 = _ := hH.holds 5 (by decide) (by decide +kernel) 64 rfl
                          obtain ⟨xs, d, rfl⟩ := grow_of_below hH.below
                          clear hH
                          try simp only [World.grow_drew] at hK ⊢
                          try simp only [World.grow_grow] at hK ⊢
                          simp only [e64] at hK ⊢
                          clear e64
                          go_simp
                          go_wp2_with fail
                          exact ⟨_, rfl, rfl, (by repeat (first | exact below_of_grow _ _ | exact Below.refl _ _ | exact below_more _ _ _ _ | (simp only [← Array.append_assoc]; first | exact below_more _ _ _ _ | exact below_same _ _ _ | exact Below.refl _ _) | exact below_same _ _ _ | (refine Below.alloc ?_ (by first | (simp; done) | (simp; omega)) _) | (refine Below.grow ?_ (by first | (simp; done) | (simp; omega)) _ _) | refine Below.drew ?_ | refine Below.drewN ?_ _ | (refine Below.putF ?_ (by first | (simp; done) | omega | (simp; omega)) _) | (refine Below.setCell ?_ (by first | (simp; done) | (simp; omega)) _))), fun h => by cases h⟩
                        case o7 =>
                          intro x w1 hH K hK
                          have e65 : x 65 = _ := hH.holds 6 (by decide) (by decide +kernel) 65 rfl
                          obtain ⟨xs, d, rfl⟩ := grow_of_below hH.below
                          clear hH
                          try simp only [World.grow_drew] at hK ⊢
                          try simp only [World.grow_grow] at hK ⊢
                          simp only [e65] at hK ⊢
                          clear e65
                          go_simp
                          go_wp2_with fail
                          exact ⟨_, rfl, rfl, (by repeat (first | exact below_of_grow _ _ | exact Below.refl _ _ | exact below_more _ _ _ _ | (simp only [← Array.append_assoc]; first | exact below_more _ _ _ _ | exact below_same _ _ _ | exact Below.refl _ _) | exact below_same _ _ _ | (refine Below.alloc ?_ (by first | (simp; done) | (simp; omega)) _) | (refine Below.grow ?_ (by first | (simp; done) | (simp; omega)) _ _) | refine Below.drew ?_ | refine Below.drewN ?_ _ | (refine Below.putF ?_ (by first | (simp; done) | omega | (simp; omega)) _) | (refine Below.setCell ?_ (by first | (simp; done) | (simp; omega)) _))), fun h => by cases h⟩
                        case o8 =>
                          intro x w1 hH K hK
                          have e65 : x 65 = _ := hH.holds 6 (by decide) (by decide +kernel) 65 rfl
                          obtain ⟨xs, d, rfl⟩ := grow_of_below hH.below
                          clear hH
                          try simp only [World.grow_drew] at hK ⊢
                          try simp only [World.grow_grow] at hK ⊢
                          simp only [e65] at hK ⊢
                          clear e65
                          go_simp
                          go_wp2_with fail
                          exact ⟨_, rfl, rfl, (by repeat (first | exact below_of_grow _ _ | exact Below.refl _ _ | exact below_more _ _ _ _ | (simp only [← Array.append_assoc]; first | exact below_more _ _ _ _ | exact below_same _ _ _ | exact Below.refl _ _) | exact below_same _ _ _ | (refine Below.alloc ?_ (by first | (simp; done) | (simp; omega)) _) | (refine Below.grow ?_ (by first | (simp; done) | (simp; omega)) _ _) | refine Below.drew ?_ | refine Below.drewN ?_ _ | (refine Below.putF ?_ (by first | (simp; done) | omega | (simp; omega)) _) | (refine Below.setCell ?_ (by first | (simp; done) | (simp; omega)) _))), fun h => by cases h⟩
                        case o9 =>
                          intro x w1 hH K hK
                          have e65 : x 65 = _ := hH.holds 6 (by decide) (by decide +kernel) 65 rfl
                          obtain ⟨xs, d, rfl⟩ := grow_of_below hH.below
                          clear hH
                          try simp only [World.grow_drew] at hK ⊢
                          try simp only [World.grow_grow] at hK ⊢
                          simp only [e65] at hK ⊢
                          clear e65
                          go_simp
                          go_wp2_with fail
                          exact ⟨_, rfl, rfl, (by repeat (first | exact below_of_grow _ _ | exact Below.refl _ _ | exact below_more _ _ _ _ | (simp only [← Array.append_assoc]; first | exact below_more _ _ _ _ | exact below_same _ _ _ | exact Below.refl _ _) | exact below_same _ _ _ | (refine Below.alloc ?_ (by first | (simp; done) | (simp; omega)) _) | (refine Below.grow ?_ (by first | (simp; done) | (simp; omega)) _ _) | refine Below.drew ?_ | refine Below.drewN ?_ _ | (refine Below.putF ?_ (by first | (simp; done) | omega | (simp; omega)) _) | (refine Below.setCell ?_ (by first | (simp; done) | (simp; omega)) _))), fun h => by cases h⟩
                        case o10 =>
                          intro x w1 hH K hK
                          have e65 : x 65 = _ := hH.holds 6 (by decide) (by decide +kernel) 65 rfl
                          have e67 : x 67 = _ := hH.holds 8 (by decide) (by decide +kernel) 67 rfl
                          have e68 : x 68 = _ := hH.holds 9 (by decide) (by decide +kernel) 68 rfl
                          obtain ⟨xs, d, rfl⟩ := grow_of_below hH.below
                          clear hH
                          try simp only [World.grow_drew] at hK ⊢
                          try simp only [World.grow_grow] at hK ⊢
                          simp only [e65, e67, e68] at hK ⊢
                          clear e65 e67 e68
                          go_simp
                          go_wp2_with fail
                          exact ⟨_, rfl, rfl, (by repeat (first | exact below_of_grow _ _ | exact Below.refl _ _ | exact below_more _ _ _ _ | (simp only [← Array.append_assoc]; first | exact below_more _ _ _ _ | exact below_same _ _ _ | exact Below.refl _ _) | exact below_same _ _ _ | (refine Below.alloc ?_ (by first | (simp; done) | (simp; omega)) _) | (refine Below.grow ?_ (by first | (simp; done) | (simp; omega)) _ _) | refine Below.drew ?_ | refine Below.drewN ?_ _ | (refine Below.putF ?_ (by first | (simp; done) | omega | (simp; omega)) _) | (refine Below.setCell ?_ (by first | (simp; done) | (simp; omega)) _))), fun h => by cases h⟩
                        case o11 =>
                          intro x w1 hH K hK
                          have e65 : x 65 = _ := hH.holds 6 (by decide) (by decide +kernel) 65 rfl
                          have e69 : x 69 = _ := hH.holds 10 (by decide) (by decide +kernel) 69 rfl
                          obtain ⟨xs, d, rfl⟩ := grow_of_below hH.below
                          clear hH
                          try simp only [World.grow_drew] at hK ⊢
                          try simp only [World.grow_grow] at hK ⊢
                          simp only [e65, e69] at hK ⊢
                          clear e65 e69
                          go_simp
                          go_wp2_with fail
                          exact ⟨_, rfl, rfl, (by repeat (first | exact below_of_grow _ _ | exact Below.refl _ _ | exact below_more _ _ _ _ | (simp only [← Array.append_assoc]; first | exact below_more _ _ _ _ | exact below_same _ _ _ | exact Below.refl _ _) | exact below_same _ _ _ | (refine Below.alloc ?_ (by first | (simp; done) | (simp; omega)) _) | (refine Below.grow ?_ (by first | (simp; done) | (simp; omega)) _ _) | refine Below.drew ?_ | refine Below.drewN ?_ _ | (refine Below.putF ?_ (by first | (simp; done) | omega | (simp; omega)) _) | (refine Below.setCell ?_ (by first | (simp; done) | (simp; omega)) _))), fun h => by cases h⟩
                        case o12 =>
                          intro x w1 hH K hK
                          have e65 : x 65 = _ := hH.holds 6 (by decide) (by decide +kernel) 65 rfl
                          have e66 : x 66 = _ := hH.holds 7 (by decide) (by decide +kernel) 66 rfl
                          have e70 : x 70 = _ := hH.holds 11 (by decide) (by decide +kernel) 70 rfl
                          obtain ⟨xs, d, rfl⟩ := grow_of_below hH.below
                          clear hH
                          try simp only [World.grow_drew] at hK ⊢
                          try simp only [World.grow_grow] at hK ⊢
                          simp only [e65, e66, e70] at hK ⊢
                          clear e65 e66 e70
                          go_simp
                          go_wp2_with fail
                          exact ⟨_, rfl, rfl, (by repeat (first | exact below_of_grow _ _ | exact Below.refl _ _ | exact below_more _ _ _ _ | (simp only [← Array.append_assoc]; first | exact below_more _ _ _ _ | exact below_same _ _ _ | exact Below.refl _ _) | exact below_same _ _ _ | (refine Below.alloc ?_ (by first | (simp; done) | (simp; omega)) _) | (refine Below.grow ?_ (by first | (simp; done) | (simp; omega)) _ _) | refine Below.drew ?_ | refine Below.drewN ?_ _ | (refine Below.putF ?_ (by first | (simp; done) | omega | (simp; omega)) _) | (refine Below.setCell ?_ (by first | (simp; done) | (simp; omega)) _))), fun h => by cases h⟩
                        case o13 =>
                          intro x w1 hH K hK
                          have e65 : x 65 = _ := hH.holds 6 (by decide) (by decide +kernel) 65 rfl
                          have e71 : x 71 = _ := hH.holds 12 (by decide) (by decide +kernel) 71 rfl
                          obtain ⟨xs, d, rfl⟩ := grow_of_below hH.below
                          clear hH
                          try simp only [World.grow_drew] at hK ⊢
                          try simp only [World.grow_grow] at hK ⊢
                          simp only [e65, e71] at hK ⊢
                          clear e65 e71
                          go_simp
                          go_wp2_with fail
                          exact ⟨_, rfl, rfl, (by repeat (first | exact below_of_grow _ _ | exact Below.refl _ _ | exact below_more _ _ _ _ | (simp only [← Array.append_assoc]; first | exact below_more _ _ _ _ | exact below_same _ _ _ | exact Below.refl _ _) | exact below_same _ _ _ | (refine Below.alloc ?_ (by first | (simp; done) | (simp; omega)) _) | (refine Below.grow ?_ (by first | (simp; done) | (simp; omega)) _ _) | refine Below.drew ?_ | refine Below.drewN ?_ _ | (refine Below.putF ?_ (by first | (simp; done) | omega | (simp; omega)) _) | (refine Below.setCell ?_ (by first | (simp; done) | (simp; omega)) _))), fun h => by cases h⟩
                        case o14 =>
                          intro x w1 hH K hK
                          have e65 : x 65 = _ := hH.holds 6 (by decide) (by decide +kernel) 65 rfl
                          have e72 : x 72 = _ := hH.holds 13 (by decide) (by decide +kernel) 72 rfl
                          obtain ⟨xs, d, rfl⟩ := grow_of_below hH.below
                          clear hH
                          try simp only [World.grow_drew] at hK ⊢
                          try simp only [World.grow_grow] at hK ⊢
                          simp only [e65, e72] at hK ⊢
                          clear e65 e72
                          go_simp
                          go_wp2_with fail
                          exact ⟨_, rfl, rfl, (by repeat (first | exact below_of_grow _ _ | exact Below.refl _ _ | exact below_more _ _ _ _ | (simp only [← Array.append_assoc]; first | exact below_more _ _ _ _ | exact below_same _ _ _ | exact Below.refl _ _) | exact below_same _ _ _ | (refine Below.alloc ?_ (by first | (simp; done) | (simp; omega)) _) | (refine Below.grow ?_ (by first | (simp; done) | (simp; omega)) _ _) | refine Below.drew ?_ | refine Below.drewN ?_ _ | (refine Below.putF ?_ (by first | (simp; done) | omega | (simp; omega)) _) | (refine Below.setCell ?_ (by first | (simp; done) | (simp; omega)) _))), fun h => by cases h⟩
                      case hend =>
                        intro x w1 hH
                        have e59 : x 59 = _ := hH.holds 0 (by decide) trivial 59 rfl
                        have e60 : x 60 = _ := hH.holds 1 (by decide) trivial 60 rfl
                        have e61 : x 61 = _ := hH.holds 2 (by decide) trivial 61 rfl
                        have e62 : x 62 = _ := hH.holds 3 (by decide) trivial 62 rfl
                        have e63 : x 63 = _ := hH.holds 4 (by decide) trivial 63 rfl
                        have e64 : x 64 = _ := hH.holds 5 (by decide) trivial 64 rfl
                        have e65 : x 65 = _ := hH.holds 6 (by decide) trivial 65 rfl
                        have e66 : x 66 = _ := hH.holds 7 (by decide) trivial 66 rfl
                        have e67 : x 67 = _ := hH.holds 8 (by decide) trivial 67 rfl
                        have e68 : x 68 = _ := hH.holds 9 (by decide) trivial 68 rfl
                        have e69 : x 69 = _ := hH.holds 10 (by decide) trivial 69 rfl
                        have e70 : x 70 = _ := hH.holds 11 (by decide) trivial 70 rfl
                        have e71 : x 71 = _ := hH.holds 12 (by decide) trivial 71 rfl
                        have e72 : x 72 = _ := hH.holds 13 (by decide) trivial 72 rfl
                        have e73 : x 73 = _ := hH.holds 14 (by decide) trivial 73 rfl
                        obtain ⟨xs, d, rfl⟩ := grow_of_below hH.below
                        clear hH
                        simp only [e59, e60, e61, e62, e63, e64, e65, e66, e67, e68, e69, e70, e71, e72, e73]; clear e59 e60 e61 e62 e63 e64 e65 e66 e67 e68 e69 e70 e71 e72 e73
                        simp only [List.drop_succ_cons, List.drop_nil]
                        go_wp2_with fail
                        go_meet
                        exact ⟨congrArg Value.bool HC.out.symm, _, _, rfl⟩
                    | true => --@2
                      rw [hry] at HRT HCB
                      rw [← HRT.out] at HRJ
                      obtain ⟨db, hdb⟩ : ∃ b, b = decide (pk3 y = p) := ⟨_, rfl⟩
                      rw [← hdb] at HHJ HCB
                      have HC := Lib.hid (show cb = !db from HCB.out)
                      clear hry HRT HCB hdb
                      go_wp2_with fail
                      apply wp_region_specs (by rfl) [.val _, .val _, .val _, .val _, .val _, .val _, .val _, .val _, .val _, .val _, .val _, .val _, .val _, .val _, .val _] 15 (by rfl) [59, 60, 61, 62, 63, 64, 65, 66, 67, 68, 69, 70, 71, 72, 73] [] [] (by rfl) (by rfl) (by decide) (by decide +kernel) (fun _ _ _ _ _ h => h)
                      case hF => intro x; simp only [over, List.foldl_cons, List.foldl_nil, List.setIfInBounds_toArray, List.set_cons_succ, List.set_cons_zero]; exact rfl
                      case hops =>
                        refine ⟨?o0, ?o1, ?o2, ?o3, ?o4, ?o5, ?o6, ?o7, ?o8, ?o9, ?o10, ?o11, ?o12, ?o13, ?o14, trivial⟩
                        case o0 =>
                          intro x w1 hH K hK
                          obtain ⟨xs, d, rfl⟩ := grow_of_below hH.below
                          clear hH
                          try simp only [World.grow_drew] at hK ⊢
                          try simp only [World.grow_grow] at hK ⊢
                          go_simp
                          go_wp2_with fail
                          exact ⟨_, rfl, rfl, (by repeat (first | exact below_of_grow _ _ | exact Below.refl _ _ | exact below_more _ _ _ _ | (simp only [← Array.append_assoc]; first | exact below_more _ _ _ _ | exact below_same _ _ _ | exact Below.refl _ _) | exact below_same _ _ _ | (refine Below.alloc ?_ (by first | (simp; done) | (simp; omega)) _) | (refine Below.grow ?_ (by first | (simp; done) | (simp; omega)) _ _) | refine Below.drew ?_ | refine Below.drewN ?_ _ | (refine Below.putF ?_ (by first | (simp; done) | omega | (simp; omega)) _) | (refine Below.setCell ?_ (by first | (simp; done) | (simp; omega)) _))), fun h => by cases h⟩
                        case o1 =>
                          intro x w1 hH K hK
                          obtain ⟨xs, d, rfl⟩ := grow_of_below hH.below
                          clear hH
                          try simp only [World.grow_drew] at hK ⊢
                          try simp only [World.grow_grow] at hK ⊢
                          go_simp
                          go_wp2_with fail
                          exact ⟨_, rfl, rfl, (by repeat (first | exact below_of_grow _ _ | exact Below.refl _ _ | exact below_more _ _ _ _ | (simp only [← Array.append_assoc]; first | exact below_more _ _ _ _ | exact below_same _ _ _ | exact Below.refl _ _) | exact below_same _ _ _ | (refine Below.alloc ?_ (by first | (simp; done) | (simp; omega)) _) | (refine Below.grow ?_ (by first | (simp; done) | (simp; omega)) _ _) | refine Below.drew ?_ | refine Below.drewN ?_ _ | (refine Below.putF ?_ (by first | (simp; done) | omega | (simp; omega)) _) | (refine Below.setCell ?_ (by first | (simp; done) | (simp; omega)) _))), fun h => by cases h⟩
                        case o2 =>
                          intro x w1 hH K hK
                          have e59 : x 59 = _ := hH.holds 0 (by decide) (by decide +kernel) 59 rfl
                          have e60 : x 60 = _ := hH.holds 1 (by decide) (by decide +kernel) 60 rfl
                          obtain ⟨xs, d, rfl⟩ := grow_of_below hH.below
                          clear hH
                          try simp only [World.grow_drew] at hK ⊢
                          try simp only [World.grow_grow] at hK ⊢
                          simp only [e59, e60] at hK ⊢
                          clear e59 e60
                          go_simp
                          go_wp2_with fail
                          exact ⟨_, rfl, rfl, (by repeat (first | exact below_of_grow _ _ | exact Below.refl _ _ | exact below_more _ _ _ _ | (simp only [← Array.append_assoc]; first | exact below_more _ _ _ _ | exact below_same _ _ _ | exact Below.refl _ _) | exact below_same _ _ _ | (refine Below.alloc ?_ (by first | (simp; done) | (simp; omega)) _) | (refine Below.grow ?_ (by first | (simp; done) | (simp; omega)) _ _) | refine Below.drew ?_ | refine Below.drewN ?_ _ | (refine Below.putF ?_ (by first | (simp; done) | omega | (simp; omega)) _) | (refine Below.setCell ?_ (by first | (simp; done) | (simp; omega)) _))), fun h => by cases h⟩
                        case o3 =>
                          intro x w1 hH K hK
                          have e61 : x 61 = _ := hH.holds 2 (by decide) (by decide +kernel) 61 rfl
                          obtain ⟨xs, d, rfl⟩ := grow_of_below hH.below
                          clear hH
                          try simp only [World.grow_drew] at hK ⊢
                          try simp only [World.grow_grow] at hK ⊢
                          simp only [e61] at hK ⊢
                          clear e61
                          go_simp
                          go_wp2_with fail
                          exact ⟨_, rfl, rfl, (by repeat (first | exact below_of_grow _ _ | exact Below.refl _ _ | exact below_more _ _ _ _ | (simp only [← Array.append_assoc]; first | exact below_more _ _ _ _ | exact below_same _ _ _ | exact Below.refl _ _) | exact below_same _ _ _ | (refine Below.alloc ?_ (by first | (simp; done) | (simp; omega)) _) | (refine Below.grow ?_ (by first | (simp; done) | (simp; omega)) _ _) | refine Below.drew ?_ | refine Below.drewN ?_ _ | (refine Below.putF ?_ (by first | (simp; done) | omega | (simp; omega)) _) | (refine Below.setCell ?_ (by first | (simp; done) | (simp; omega)) _))), fun h => by cases h⟩
                        case o4 =>
                          intro x w1 hH K hK
                          have e62 : x 62 = _ := hH.holds 3 (by decide) (by decide +kernel) 62 rfl
                          obtain ⟨xs, d, rfl⟩ := grow_of_below hH.below
                          clear hH
                          try simp only [World.grow_drew] at hK ⊢
                          try simp only [World.grow_grow] at hK ⊢
                          simp only [e62] at hK ⊢
                          clear e62
                          go_simp
                          go_wp2_with (refine Gives.use (HRJ.out _) ?_; intro ys e)
                          exact ⟨_, rfl, rfl, (by first | exact below_more _ _ _ _ | exact (by repeat (first | exact below_of_grow _ _ | exact Below.refl _ _ | exact below_more _ _ _ _ | (simp only [← Array.append_assoc]; first | exact below_more _ _ _ _ | exact below_same _ _ _ | exact Below.refl _ _) | exact below_same _ _ _ | (refine Below.alloc ?_ (by first | (simp; done) | (simp; omega)) _) | (refine Below.grow ?_ (by first | (simp; done) | (simp; omega)) _ _) | refine Below.drew ?_ | refine Below.drewN ?_ _ | (refine Below.putF ?_ (by first | (simp; done) | omega | (simp; omega)) _) | (refine Below.setCell ?_ (by first | (simp; done) | (simp; omega)) _)))), fun h => by cases h⟩
                        case o5 =>
                          intro x w1 hH K hK
                          have e63 : x 63 = _ := hH.holds 4 (by decide) (by decide +kernel) 63 rfl
                          obtain ⟨xs, d, rfl⟩ := grow_of_below hH.below
                          clear hH
                          try simp only [World.grow_drew] at hK ⊢
                          try simp only [World.grow_grow] at hK ⊢
                          simp only [e63] at hK ⊢
                          clear e63
                          go_simp
                          go_wp2_with fail
                          exact ⟨_, rfl, rfl, (by repeat (first | exact below_of_grow _ _ | exact Below.refl _ _ | exact below_more _ _ _ _ | (simp only [← Array.append_assoc]; first | exact below_more _ _ _ _ | exact below_same _ _ _ | exact Below.refl _ _) | exact below_same _ _ _ | (refine Below.alloc ?_ (by first | (simp; done) | (simp; omega)) _) | (refine Below.grow ?_ (by first | (simp; done) | (simp; omega)) _ _) | refine Below.drew ?_ | refine Below.drewN ?_ _ | (refine Below.putF ?_ (by first | (simp; done) | omega | (simp; omega)) _) | (refine Below.setCell ?_ (by first | (simp; done) | (simp; omega)) _))), fun h => by cases h⟩
                        case o6 =>
                          intro x w1 hH K hK
                          have e64 : x 64 = _ := hH.holds 5 (by decide) (by decide +kernel) 64 rfl
                          obtain ⟨xs, d, rfl⟩ := grow_of_below hH.below
                          clear hH
                          try simp only [World.grow_drew] at hK ⊢
                          try simp only [World.grow_grow] at hK ⊢
                          simp only [e64] at hK ⊢
                          clear e64
                          go_simp
                          go_wp2_with fail
                          exact ⟨_, rfl, rfl, (by repeat (first | exact below_of_grow _ _ | exact Below.refl _ _ | exact below_more _ _ _ _ | (simp only [← Array.append_assoc]; first | exact below_more _ _ _ _ | exact below_same _ _ _ | exact Below.refl _ _) | exact below_same _ _ _ | (refine Below.alloc ?_ (by first | (simp; done) | (simp; omega)) _) | (refine Below.grow ?_ (by first | (simp; done) | (simp; omega)) _ _) | refine Below.drew ?_ | refine Below.drewN ?_ _ | (refine Below.putF ?_ (by first | (simp; done) | omega | (simp; omega)) _) | (refine Below.setCell ?_ (by first | (simp; done) | (simp; omega)) _))), fun h => by cases h⟩
                        case o7 =>
                          intro x w1 hH K hK
                          have e65 : x 65 = _ := hH.holds 6 (by decide) (by decide +kernel) 65 rfl
                          obtain ⟨xs, d, rfl⟩ := grow_of_below hH.below
                          clear hH
                          try simp only [World.grow_drew] at hK ⊢
                          try simp only [World.grow_grow] at hK ⊢
                          simp only [e65] at hK ⊢
                          clear e65
                          go_simp
                          go_wp2_with fail
                          exact ⟨_, rfl, rfl, (by repeat (first | exact below_of_grow _ _ | exact Below.refl _ _ | exact below_more _ _ _ _ | (simp only [← Array.append_assoc]; first | exact below_more _ _ _ _ | exact below_same _ _ _ | exact Below.refl _ _) | exact below_same _ _ _ | (refine Below.alloc ?_ (by first | (simp; done) | (simp; omega)) _) | (refine Below.grow ?_ (by first | (simp; done) | (simp; omega)) _ _) | refine Below.drew ?_ | refine Below.drewN ?_ _ | (refine Below.putF ?_ (by first | (simp; done) | omega | (simp; omega)) _) | (refine Below.setCell ?_ (by first | (simp; done) | (simp; omega)) _))), fun h => by cases h⟩
                        case o8 =>
                          intro x w1 hH K hK
                          have e65 : x 65 = _ := hH.holds 6 (by decide) (by decide +kernel) 65 rfl
                          obtain ⟨xs, d, rfl⟩ := grow_of_below hH.below
                          clear hH
                          try simp only [World.grow_drew] at hK ⊢
                          try simp only [World.grow_grow] at hK ⊢
                          simp only [e65] at hK ⊢
                          clear e65
                          go_simp
                          go_wp2_with fail
                          exact ⟨_, rfl, rfl, (by repeat (first | exact below_of_grow _ _ | exact Below.refl _ _ | exact below_more _ _ _ _ | (simp only [← Array.append_assoc]; first | exact below_more _ _ _ _ | exact below_same _ _ _ | exact Below.refl _ _) | exact below_same _ _ _ | (refine Below.alloc ?_ (by first | (simp; done) | (simp; omega)) _) | (refine Below.grow ?_ (by first | (simp; done) | (simp; omega)) _ _) | refine Below.drew ?_ | refine Below.drewN ?_ _ | (refine Below.putF ?_ (by first | (simp; done) | omega | (simp; omega)) _) | (refine Below.setCell ?_ (by first | (simp; done) | (simp; omega)) _))), fun h => by cases h⟩
                        case o9 =>
                          intro x w1 hH K hK
                          have e65 : x 65 = _ := hH.holds 6 (by decide) (by decide +kernel) 65 rfl
                          obtain ⟨xs, d, rfl⟩ := grow_of_below hH.below
                          clear hH
                          try simp only [World.grow_drew] at hK ⊢
                          try simp only [World.grow_grow] at hK ⊢
                          simp only [e65] at hK ⊢
                          clear e65
                          go_simp
                          go_wp2_with fail
                          exact ⟨_, rfl, rfl, (by repeat (first | exact below_of_grow _ _ | exact Below.refl _ _ | exact below_more _ _ _ _ | (simp only [← Array.append_assoc]; first | exact below_more _ _ _ _ | exact below_same _ _ _ | exact Below.refl _ _) | exact below_same _ _ _ | (refine Below.alloc ?_ (by first | (simp; done) | (simp; omega)) _) | (refine Below.grow ?_ (by first | (simp; done) | (simp; omega)) _ _) | refine Below.drew ?_ | refine Below.drewN ?_ _ | (refine Below.putF ?_ (by first | (simp; done) | omega | (simp; omega)) _) | (refine Below.setCell ?_ (by first | (simp; done) | (simp; omega)) _))), fun h => by cases h⟩
                        case o10 =>
                          intro x w1 hH K hK
                          have e65 : x 65 = _ := hH.holds 6 (by decide) (by decide +kernel) 65 rfl
                          have e67 : x 67 = _ := hH.holds 8 (by decide) (by decide +kernel) 67 rfl
                          have e68 : x 68 = _ := hH.holds 9 (by decide) (by decide +kernel) 68 rfl
                          obtain ⟨xs, d, rfl⟩ := grow_of_below hH.below
                          clear hH
                          try simp only [World.grow_drew] at hK ⊢
                          try simp only [World.grow_grow] at hK ⊢
                          simp only [e65, e67, e68] at hK ⊢
                          clear e65 e67 e68
                          go_simp
                          go_wp2_with fail
                          exact ⟨_, rfl, rfl, (by repeat (first | exact below_of_grow _ _ | exact Below.refl _ _ | exact below_more _ _ _ _ | (simp only [← Array.append_assoc]; first | exact below_more _ _ _ _ | exact below_same _ _ _ | exact Below.refl _ _) | exact below_same _ _ _ | (refine Below.alloc ?_ (by first | (simp; done) | (simp; omega)) _) | (refine Below.grow ?_ (by first | (simp; done) | (simp; omega)) _ _) | refine Below.drew ?_ | refine Below.drewN ?_ _ | (refine Below.putF ?_ (by first | (simp; done) | omega | (simp; omega)) _) | (refine Below.setCell ?_ (by first | (simp; done) | (simp; omega)) _))), fun h => by cases h⟩
                        case o11 =>
                          intro x w1 hH K hK
                          have e65 : x 65 = _ := hH.holds 6 (by decide) (by decide +kernel) 65 rfl
                          have e69 : x 69 = _ := hH.holds 10 (by decide) (by decide +kernel) 69 rfl
                          obtain ⟨xs, d, rfl⟩ := grow_of_below hH.below
                          clear hH
                          try simp only [World.grow_drew] at hK ⊢
                          try simp only [World.grow_grow] at hK ⊢
                          simp only [e65, e69] at hK ⊢
                          clear e65 e69
                          go_simp
                          go_wp2_with fail
                          exact ⟨_, rfl, rfl, (by repeat (first | exact below_of_grow _ _ | exact Below.refl _ _ | exact below_more _ _ _ _ | (simp only [← Array.append_assoc]; first | exact below_more _ _ _ _ | exact below_same _ _ _ | exact Below.refl _ _) | exact below_same _ _ _ | (refine Below.alloc ?_ (by first | (simp; done) | (simp; omega)) _) | (refine Below.grow ?_ (by first | (simp; done) | (simp; omega)) _ _) | refine Below.drew ?_ | refine Below.drewN ?_ _ | (refine Below.putF ?_ (by first | (simp; done) | omega | (simp; omega)) _) | (refine Below.setCell ?_ (by first | (simp; done) | (simp; omega)) _))), fun h => by cases h⟩
                        case o12 =>
                          intro x w1 hH K hK
                          have e65 : x 65 = _ := hH.holds 6 (by decide) (by decide +kernel) 65 rfl
                          have e66 : x 66 = _ := hH.holds 7 (by decide) (by decide +kernel) 66 rfl
                          have e70 : x 70 = _ := hH.holds 11 (by decide) (by decide +kernel) 70 rfl
                          obtain ⟨xs, d, rfl⟩ := grow_of_below hH.below
                          clear hH
                          try simp only [World.grow_drew] at hK ⊢
                          try simp only [World.grow_grow] at hK ⊢
                          simp only [e65, e66, e70] at hK ⊢
                          clear e65 e66 e70
                          go_simp
                          go_wp2_with (refine Gives.use (HHJ.out _) ?_; intro ys e)
                          exact ⟨_, rfl, rfl, (by first | exact below_more _ _ _ _ | exact (by repeat (first | exact below_of_grow _ _ | exact Below.refl _ _ | exact below_more _ _ _ _ | (simp only [← Array.append_assoc]; first | exact below_more _ _ _ _ | exact below_same _ _ _ | exact Below.refl _ _) | exact below_same _ _ _ | (refine Below.alloc ?_ (by first | (simp; done) | (simp; omega)) _) | (refine Below.grow ?_ (by first | (simp; done) | (simp; omega)) _ _) | refine Below.drew ?_ | refine Below.drewN ?_ _ | (refine Below.putF ?_ (by first | (simp; done) | omega | (simp; omega)) _) | (refine Below.setCell ?_ (by first | (simp; done) | (simp; omega)) _)))), fun h => by cases h⟩
                        case o13 =>
                          intro x w1 hH K hK
                          have e65 : x 65 = _ := hH.holds 6 (by decide) (by decide +kernel) 65 rfl
                          have e71 : x 71 = _ := hH.holds 12 (by decide) (by decide +kernel) 71 rfl
                          obtain ⟨xs, d, rfl⟩ := grow_of_below hH.below
                          clear hH
                          try simp only [World.grow_drew] at hK ⊢
                          try simp only [World.grow_grow] at hK ⊢
                          simp only [e65, e71] at hK ⊢
                          clear e65 e71
                          go_simp
                          go_wp2_with fail
                          exact ⟨_, rfl, rfl, (by repeat (first | exact below_of_grow _ _ | exact Below.refl _ _ | exact below_more _ _ _ _ | (simp only [← Array.append_assoc]; first | exact below_more _ _ _ _ | exact below_same _ _ _ | exact Below.refl _ _) | exact below_same _ _ _ | (refine Below.alloc ?_ (by first | (simp; done) | (simp; omega)) _) | (refine Below.grow ?_ (by first | (simp; done) | (simp; omega)) _ _) | refine Below.drew ?_ | refine Below.drewN ?_ _ | (refine Below.putF ?_ (by first | (simp; done) | omega | (simp; omega)) _) | (refine Below.setCell ?_ (by first | (simp; done) | (simp; omega)) _))), fun h => by cases h⟩
                        case o14 =>
                          intro x w1 hH K hK
                          have e65 : x 65 = _ := hH.holds 6 (by decide) (by decide +kernel) 65 rfl
                          have e72 : x 72 = _ := hH.holds 13 (by decide) (by decide +kernel) 72 rfl
                          obtain ⟨xs, d, rfl⟩ := grow_of_below hH.below
                          clear hH
                          try simp only [World.grow_drew] at hK ⊢
                          try simp only [World.grow_grow] at hK ⊢
                          simp only [e65, e72] at hK ⊢
                          clear e65 e72
                          go_simp
                          go_wp2_with fail
                          exact ⟨_, rfl, rfl, (by repeat (first | exact below_of_grow _ _ | exact Below.refl _ _ | exact below_more _ _ _ _ | (simp only [← Array.append_assoc]; first | exact below_more _ _ _ _ | exact below_same _ _ _ | exact Below.refl _ _) | exact below_same _ _ _ | (refine Below.alloc ?_ (by first | (simp; done) | (simp; omega)) _) | (refine Below.grow ?_ (by first | (simp; done) | (simp; omega)) _ _) | refine Below.drew ?_ | refine Below.drewN ?_ _ | (refine Below.putF ?_ (by first | (simp; done) | omega | (simp; omega)) _) | (refine Below.setCell ?_ (by first | (simp; done) | (simp; omega)) _))), fun h => by cases h⟩
                      case hend =>
                        intro x w1 hH
                        have e59 : x 59 = _ := hH.holds 0 (by decide) trivial 59 rfl
                        have e60 : x 60 = _ := hH.holds 1 (by decide) trivial 60 rfl
                        have e61 : x 61 = _ := hH.holds 2 (by decide) trivial 61 rfl
                        have e62 : x 62 = _ := hH.holds 3 (by decide) trivial 62 rfl
                        have e63 : x 63 = _ := hH.holds 4 (by decide) trivial 63 rfl
                        have e64 : x 64 = _ := hH.holds 5 (by decide) trivial 64 rfl
                        have e65 : x 65 = _ := hH.holds 6 (by decide) trivial 65 rfl
                        have e66 : x 66 = _ := hH.holds 7 (by decide) trivial 66 rfl
                        have e67 : x 67 = _ := hH.holds 8 (by decide) trivial 67 rfl
                        have e68 : x 68 = _ := hH.holds 9 (by decide) trivial 68 rfl
                        have e69 : x 69 = _ := hH.holds 10 (by decide) trivial 69 rfl
                        have e70 : x 70 = _ := hH.holds 11 (by decide) trivial 70 rfl
                        have e71 : x 71 = _ := hH.holds 12 (by decide) trivial 71 rfl
                        have e72 : x 72 = _ := hH.holds 13 (by decide) trivial 72 rfl
                        have e73 : x 73 = _ := hH.holds 14 (by decide) trivial 73 rfl
                        obtain ⟨xs, d, rfl⟩ := grow_of_below hH.below
                        clear hH
                        simp only [e59, e60, e61, e62, e63, e64, e65, e66, e67, e68, e69, e70, e71, e72, e73]; clear e59 e60 e61 e62 e63 e64 e65 e66 e67 e68 e69 e70 e71 e72 e73
                        simp only [List.drop_succ_cons, List.drop_nil]
                        go_wp2_with fail
                        go_meet
                        exact ⟨congrArg Value.bool HC.out.symm, _, _, rfl⟩
                  case rest =>
                    obtain ⟨rfl, xs2, d2, rfl⟩ := hcut
                    clear HRJ HHJ HCB HRT
                    cases cb with
                    | true => --@3
                      have HN := Lib.hid (HALL.out.1 rfl)
                      clear HALL
                      go_wp2_with fail
                      go_roundw
                      case rel => exact ⟨j + 1, by omega, by go_num, by rw [HN.out.1], by rw [HN.out.2], Lib.hid (HBJ.out.trans ((show Below wr.heap.size wr _ from (by repeat (first | exact below_of_grow _ _ | exact Below.refl _ _ | exact below_more _ _ _ _ | (simp only [← Array.append_assoc]; first | exact below_more _ _ _ _ | exact below_same _ _ _ | exact Below.refl _ _) | exact below_same _ _ _ | (refine Below.alloc ?_ (by first | (simp; done) | (simp; omega)) _) | (refine Below.grow ?_ (by first | (simp; done) | (simp; omega)) _ _) | refine Below.drew ?_ | refine Below.drewN ?_ _ | (refine Below.putF ?_ (by first | (simp; done) | omega | (simp; omega)) _) | (refine Below.setCell ?_ (by first | (simp; done) | (simp; omega)) _)))).mono hszj))⟩
                      case measure => simp [intOf]; omega
                    | false => --@5
                      have HN := Lib.hid (HALL.out.2 rfl)
                      clear HALL
                      have hat2 := HN.out.2.2
                      have hatl : at_ < xl := by rw [HXL.out]; exact (List.getElem?_eq_some_iff.1 hat2).1
                      obtain ⟨_, a5, c5, he5, _, _, hc5⟩ := HOX.out.below HBJ.out
                      rw [List.length_map, ← HXL.out] at he5
                      simp only [Value.slice.injEq, true_and] at he5
                      obtain ⟨rfl, rfl⟩ := he5
                      obtain ⟨gx, ox, rfl, hlx, hcx5⟩ := hc5 (by rw [List.length_map, ← HXL.out]; omega)
                      have hxk : wr.cut? gx (ox + at_ * 25) 25 = some (row8 y.val) := hcx5 at_ (rkS y) (by rw [List.getElem?_map, hat2]; rfl)
                      have hgx : gx < wr.heap.size := by omega
                      have hgeJ : ((xl : Int) ≤ at_) = False := eq_false (by omega)
                      have hwat : at_ ≤ 30 := by omega
                      have hyy : (y.val == y.val) = true := by simp
                      obtain ⟨fn, hfn⟩ : ∃ fn, fn = (fj && decide (i ≤ j)) := ⟨_, rfl⟩
                      have HF := Lib.hid (And.intro HN.out.1 (And.intro (HN.out.2.1.trans hfn.symm) hfn))
                      clear hc5 hcx5 hat2 HN hfn
                      go_upto_region 15 with fail
                      go_cut [88] (fun v wx => v = .bool false ∧ ∃ xs d, wx = (wr.grow xs2 d2).grow xs d)
                      case first =>
                        clear HF HBJ HBX HCUT HXL HOX HP
                        go_wp2_with fail
                        apply wp_region_specs (by rfl) [.val _, .val _, .val _, .val _, .val _, .val _, .val _, .val _, .val _, .val _, .val _, .val _, .val _, .val _, .val _] 15 (by rfl) [74, 75, 76, 77, 78, 79, 80, 81, 82, 83, 84, 85, 86, 87, 88] [] [] (by rfl) (by rfl) (by decide) (by decide +kernel) (fun _ _ _ _ _ h => h)
                        case hF => intro x; simp only [over, List.foldl_cons, List.foldl_nil, List.setIfInBounds_toArray, List.set_cons_succ, List.set_cons_zero]; exact rfl
                        case hops =>
                          refine ⟨?o0, ?o1, ?o2, ?o3, ?o4, ?o5, ?o6, ?o7, ?o8, ?o9, ?o10, ?o11, ?o12, ?o13, ?o14, trivial⟩
                          case o0 =>
                            intro x w1 hH K hK
                            obtain ⟨xs, d, rfl⟩ := grow_of_below hH.below
                            clear hH
                            try simp only [World.grow_drew] at hK ⊢
                            try simp only [World.grow_grow] at hK ⊢
                            go_simp
                            go_wp2_with fail
                            exact ⟨_, rfl, rfl, (by repeat (first | exact below_of_grow _ _ | exact Below.refl _ _ | exact below_more _ _ _ _ | (simp only [← Array.append_assoc]; first | exact below_more _ _ _ _ | exact below_same _ _ _ | exact Below.refl _ _) | exact below_same _ _ _ | (refine Below.alloc ?_ (by first | (simp; done) | (simp; omega)) _) | (refine Below.grow ?_ (by first | (simp; done) | (simp; omega)) _ _) | refine Below.drew ?_ | refine Below.drewN ?_ _ | (refine Below.putF ?_ (by first | (simp; done) | omega | (simp; omega)) _) | (refine Below.setCell ?_ (by first | (simp; done) | (simp; omega)) _))), fun h => by cases h⟩
                          case o1 =>
                            intro x w1 hH K hK
                            obtain ⟨xs, d, rfl⟩ := grow_of_below hH.below
                            clear hH
                            try simp only [World.grow_drew] at hK ⊢
                            try simp only [World.grow_grow] at hK ⊢
                            go_simp
                            go_wp2_with fail
                            exact ⟨_, rfl, rfl, (by repeat (first | exact below_of_grow _ _ | exact Below.refl _ _ | exact below_more _ _ _ _ | (simp only [← Array.append_assoc]; first | exact below_more _ _ _ _ | exact below_same _ _ _ | exact Below.refl _ _) | exact below_same _ _ _ | (refine Below.alloc ?_ (by first | (simp; done) | (simp; omega)) _) | (refine Below.grow ?_ (by first | (simp; done) | (simp; omega)) _ _) | refine Below.drew ?_ | refine Below.drewN ?_ _ | (refine Below.putF ?_ (by first | (simp; done) | omega | (simp; omega)) _) | (refine Below.setCell ?_ (by first | (simp; done) | (simp; omega)) _))), fun h => by cases h⟩
                          case o2 =>
                            intro x w1 hH K hK
                            have e75 : x 75 = _ := hH.holds 1 (by decide) (by decide +kernel) 75 rfl
                            obtain ⟨xs, d, rfl⟩ := grow_of_below hH.below
                            clear hH
                            try simp only [World.grow_drew] at hK ⊢
                            try simp only [World.grow_grow] at hK ⊢
                            simp only [e75] at hK ⊢
                            clear e75
                            go_simp
                            go_wp2_with fail
                            exact ⟨_, rfl, rfl, (by repeat (first | exact below_of_grow _ _ | exact Below.refl _ _ | exact below_more _ _ _ _ | (simp only [← Array.append_assoc]; first | exact below_more _ _ _ _ | exact below_same _ _ _ | exact Below.refl _ _) | exact below_same _ _ _ | (refine Below.alloc ?_ (by first | (simp; done) | (simp; omega)) _) | (refine Below.grow ?_ (by first | (simp; done) | (simp; omega)) _ _) | refine Below.drew ?_ | refine Below.drewN ?_ _ | (refine Below.putF ?_ (by first | (simp; done) | omega | (simp; omega)) _) | (refine Below.setCell ?_ (by first | (simp; done) | (simp; omega)) _))), fun h => by cases h⟩
                          case o3 =>
                            intro x w1 hH K hK
                            have e74 : x 74 = _ := hH.holds 0 (by decide) (by decide +kernel) 74 rfl
                            have e76 : x 76 = _ := hH.holds 2 (by decide) (by decide +kernel) 76 rfl
                            obtain ⟨xs, d, rfl⟩ := grow_of_below hH.below
                            clear hH
                            try simp only [World.grow_drew] at hK ⊢
                            try simp only [World.grow_grow] at hK ⊢
                            simp only [e74, e76] at hK ⊢
                            clear e74 e76
                            go_simp
                            go_wp2_with fail
                            exact ⟨_, rfl, rfl, (by repeat (first | exact below_of_grow _ _ | exact Below.refl _ _ | exact below_more _ _ _ _ | (simp only [← Array.append_assoc]; first | exact below_more _ _ _ _ | exact below_same _ _ _ | exact Below.refl _ _) | exact below_same _ _ _ | (refine Below.alloc ?_ (by first | (simp; done) | (simp; omega)) _) | (refine Below.grow ?_ (by first | (simp; done) | (simp; omega)) _ _) | refine Below.drew ?_ | refine Below.drewN ?_ _ | (refine Below.putF ?_ (by first | (simp; done) | omega | (simp; omega)) _) | (refine Below.setCell ?_ (by first | (simp; done) | (simp; omega)) _))), fun h => by cases h⟩
                          case o4 =>
                            intro x w1 hH K hK
                            have e77 : x 77 = _ := hH.holds 3 (by decide) (by decide +kernel) 77 rfl
                            obtain ⟨xs, d, rfl⟩ := grow_of_below hH.below
                            clear hH
                            try simp only [World.grow_drew] at hK ⊢
                            try simp only [World.grow_grow] at hK ⊢
                            simp only [e77] at hK ⊢
                            clear e77
                            go_simp
                            go_wp2_with fail
                            exact ⟨_, rfl, rfl, (by repeat (first | exact below_of_grow _ _ | exact Below.refl _ _ | exact below_more _ _ _ _ | (simp only [← Array.append_assoc]; first | exact below_more _ _ _ _ | exact below_same _ _ _ | exact Below.refl _ _) | exact below_same _ _ _ | (refine Below.alloc ?_ (by first | (simp; done) | (simp; omega)) _) | (refine Below.grow ?_ (by first | (simp; done) | (simp; omega)) _ _) | refine Below.drew ?_ | refine Below.drewN ?_ _ | (refine Below.putF ?_ (by first | (simp; done) | omega | (simp; omega)) _) | (refine Below.setCell ?_ (by first | (simp; done) | (simp; omega)) _))), fun h => by cases h⟩
                          case o5 =>
                            intro x w1 hH K hK
                            have e78 : x 78 = _ := hH.holds 4 (by decide) (by decide +kernel) 78 rfl
                            obtain ⟨xs, d, rfl⟩ := grow_of_below hH.below
                            clear hH
                            try simp only [World.grow_drew] at hK ⊢
                            try simp only [World.grow_grow] at hK ⊢
                            simp only [e78] at hK ⊢
                            clear e78
                            go_simp
                            go_wp2_with fail
                            exact ⟨_, rfl, rfl, (by repeat (first | exact below_of_grow _ _ | exact Below.refl _ _ | exact below_more _ _ _ _ | (simp only [← Array.append_assoc]; first | exact below_more _ _ _ _ | exact below_same _ _ _ | exact Below.refl _ _) | exact below_same _ _ _ | (refine Below.alloc ?_ (by first | (simp; done) | (simp; omega)) _) | (refine Below.grow ?_ (by first | (simp; done) | (simp; omega)) _ _) | refine Below.drew ?_ | refine Below.drewN ?_ _ | (refine Below.putF ?_ (by first | (simp; done) | omega | (simp; omega)) _) | (refine Below.setCell ?_ (by first | (simp; done) | (simp; omega)) _))), fun h => by cases h⟩
                          case o6 =>
                            intro x w1 hH K hK
                            have e78 : x 78 = _ := hH.holds 4 (by decide) (by decide +kernel) 78 rfl
                            obtain ⟨xs, d, rfl⟩ := grow_of_below hH.below
                            clear hH
                            try simp only [World.grow_drew] at hK ⊢
                            try simp only [World.grow_grow] at hK ⊢
                            simp only [e78] at hK ⊢
                            clear e78
                            go_simp
                            go_wp2_with fail
                            exact ⟨_, rfl, rfl, (by repeat (first | exact below_of_grow _ _ | exact Below.refl _ _ | exact below_more _ _ _ _ | (simp only [← Array.append_assoc]; first | exact below_more _ _ _ _ | exact below_same _ _ _ | exact Below.refl _ _) | exact below_same _ _ _ | (refine Below.alloc ?_ (by first | (simp; done) | (simp; omega)) _) | (refine Below.grow ?_ (by first | (simp; done) | (simp; omega)) _ _) | refine Below.drew ?_ | refine Below.drewN ?_ _ | (refine Below.putF ?_ (by first | (simp; done) | omega | (simp; omega)) _) | (refine Below.setCell ?_ (by first | (simp; done) | (simp; omega)) _))), fun h => by cases h⟩
                          case o7 =>
                            intro x w1 hH K hK
                            have e78 : x 78 = _ := hH.holds 4 (by decide) (by decide +kernel) 78 rfl
                            have e79 : x 79 = _ := hH.holds 5 (by decide) (by decide +kernel) 79 rfl
                            have e80 : x 80 = _ := hH.holds 6 (by decide) (by decide +kernel) 80 rfl
                            obtain ⟨xs, d, rfl⟩ := grow_of_below hH.below
                            clear hH
                            try simp only [World.grow_drew] at hK ⊢
                            try simp only [World.grow_grow] at hK ⊢
                            simp only [e78, e79, e80] at hK ⊢
                            clear e78 e79 e80
                            go_simp
                            go_wp2_with fail
                            exact ⟨_, rfl, rfl, (by repeat (first | exact below_of_grow _ _ | exact Below.refl _ _ | exact below_more _ _ _ _ | (simp only [← Array.append_assoc]; first | exact below_more _ _ _ _ | exact below_same _ _ _ | exact Below.refl _ _) | exact below_same _ _ _ | (refine Below.alloc ?_ (by first | (simp; done) | (simp; omega)) _) | (refine Below.grow ?_ (by first | (simp; done) | (simp; omega)) _ _) | refine Below.drew ?_ | refine Below.drewN ?_ _ | (refine Below.putF ?_ (by first | (simp; done) | omega | (simp; omega)) _) | (refine Below.setCell ?_ (by first | (simp; done) | (simp; omega)) _))), fun h => by cases h⟩
                          case o8 =>
                            intro x w1 hH K hK
                            have e78 : x 78 = _ := hH.holds 4 (by decide) (by decide +kernel) 78 rfl
                            have e81 : x 81 = _ := hH.holds 7 (by decide) (by decide +kernel) 81 rfl
                            obtain ⟨xs, d, rfl⟩ := grow_of_below hH.below
                            clear hH
                            try simp only [World.grow_drew] at hK ⊢
                            try simp only [World.grow_grow] at hK ⊢
                            simp only [e78, e81] at hK ⊢
                            clear e78 e81
                            go_simp
                            go_wp2_with fail
                            exact ⟨_, rfl, rfl, (by repeat (first | exact below_of_grow _ _ | exact Below.refl _ _ | exact below_more _ _ _ _ | (simp only [← Array.append_assoc]; first | exact below_more _ _ _ _ | exact below_same _ _ _ | exact Below.refl _ _) | exact below_same _ _ _ | (refine Below.alloc ?_ (by first | (simp; done) | (simp; omega)) _) | (refine Below.grow ?_ (by first | (simp; done) | (simp; omega)) _ _) | refine Below.drew ?_ | refine Below.drewN ?_ _ | (refine Below.putF ?_ (by first | (simp; done) | omega | (simp; omega)) _) | (refine Below.setCell ?_ (by first | (simp; done) | (simp; omega)) _))), fun h => by cases h⟩
                          case o9 =>
                            intro x w1 hH K hK
                            have e78 : x 78 = _ := hH.holds 4 (by decide) (by decide +kernel) 78 rfl
                            obtain ⟨xs, d, rfl⟩ := grow_of_below hH.below
                            clear hH
                            try simp only [World.grow_drew] at hK ⊢
                            try simp only [World.grow_grow] at hK ⊢
                            simp only [e78] at hK ⊢
                            clear e78
                            go_simp
                            go_wp2_with fail
                            exact ⟨_, rfl, rfl, (by repeat (first | exact below_of_grow _ _ | exact Below.refl _ _ | exact below_more _ _ _ _ | (simp only [← Array.append_assoc]; first | exact below_more _ _ _ _ | exact below_same _ _ _ | exact Below.refl _ _) | exact below_same _ _ _ | (refine Below.alloc ?_ (by first | (simp; done) | (simp; omega)) _) | (refine Below.grow ?_ (by first | (simp; done) | (simp; omega)) _ _) | refine Below.drew ?_ | refine Below.drewN ?_ _ | (refine Below.putF ?_ (by first | (simp; done) | omega | (simp; omega)) _) | (refine Below.setCell ?_ (by first | (simp; done) | (simp; omega)) _))), fun h => by cases h⟩
                          case o10 =>
                            intro x w1 hH K hK
                            have e78 : x 78 = _ := hH.holds 4 (by decide) (by decide +kernel) 78 rfl
                            obtain ⟨xs, d, rfl⟩ := grow_of_below hH.below
                            clear hH
                            try simp only [World.grow_drew] at hK ⊢
                            try simp only [World.grow_grow] at hK ⊢
                            simp only [e78] at hK ⊢
                            clear e78
                            go_simp
                            go_wp2_with fail
                            exact ⟨_, rfl, rfl, (by repeat (first | exact below_of_grow _ _ | exact Below.refl _ _ | exact below_more _ _ _ _ | (simp only [← Array.append_assoc]; first | exact below_more _ _ _ _ | exact below_same _ _ _ | exact Below.refl _ _) | exact below_same _ _ _ | (refine Below.alloc ?_ (by first | (simp; done) | (simp; omega)) _) | (refine Below.grow ?_ (by first | (simp; done) | (simp; omega)) _ _) | refine Below.drew ?_ | refine Below.drewN ?_ _ | (refine Below.putF ?_ (by first | (simp; done) | omega | (simp; omega)) _) | (refine Below.setCell ?_ (by first | (simp; done) | (simp; omega)) _))), fun h => by cases h⟩
                          case o11 =>
                            intro x w1 hH K hK
                            have e78 : x 78 = _ := hH.holds 4 (by decide) (by decide +kernel) 78 rfl
                            have e83 : x 83 = _ := hH.holds 9 (by decide) (by decide +kernel) 83 rfl
                            have e84 : x 84 = _ := hH.holds 10 (by decide) (by decide +kernel) 84 rfl
                            obtain ⟨xs, d, rfl⟩ := grow_of_below hH.below
                            clear hH
                            try simp only [World.grow_drew] at hK ⊢
                            try simp only [World.grow_grow] at hK ⊢
                            simp only [e78, e83, e84] at hK ⊢
                            clear e78 e83 e84
                            go_simp
                            go_wp2_with fail
                            exact ⟨_, rfl, rfl, (by repeat (first | exact below_of_grow _ _ | exact Below.refl _ _ | exact below_more _ _ _ _ | (simp only [← Array.append_assoc]; first | exact below_more _ _ _ _ | exact below_same _ _ _ | exact Below.refl _ _) | exact below_same _ _ _ | (refine Below.alloc ?_ (by first | (simp; done) | (simp; omega)) _) | (refine Below.grow ?_ (by first | (simp; done) | (simp; omega)) _ _) | refine Below.drew ?_ | refine Below.drewN ?_ _ | (refine Below.putF ?_ (by first | (simp; done) | omega | (simp; omega)) _) | (refine Below.setCell ?_ (by first | (simp; done) | (simp; omega)) _))), fun h => by cases h⟩
                          case o12 =>
                            intro x w1 hH K hK
                            have e78 : x 78 = _ := hH.holds 4 (by decide) (by decide +kernel) 78 rfl
                            have e85 : x 85 = _ := hH.holds 11 (by decide) (by decide +kernel) 85 rfl
                            obtain ⟨xs, d, rfl⟩ := grow_of_below hH.below
                            clear hH
                            try simp only [World.grow_drew] at hK ⊢
                            try simp only [World.grow_grow] at hK ⊢
                            simp only [e78, e85] at hK ⊢
                            clear e78 e85
                            go_simp
                            go_wp2_with fail
                            exact ⟨_, rfl, rfl, (by repeat (first | exact below_of_grow _ _ | exact Below.refl _ _ | exact below_more _ _ _ _ | (simp only [← Array.append_assoc]; first | exact below_more _ _ _ _ | exact below_same _ _ _ | exact Below.refl _ _) | exact below_same _ _ _ | (refine Below.alloc ?_ (by first | (simp; done) | (simp; omega)) _) | (refine Below.grow ?_ (by first | (simp; done) | (simp; omega)) _ _) | refine Below.drew ?_ | refine Below.drewN ?_ _ | (refine Below.putF ?_ (by first | (simp; done) | omega | (simp; omega)) _) | (refine Below.setCell ?_ (by first | (simp; done) | (simp; omega)) _))), fun h => by cases h⟩
                          case o13 =>
                            intro x w1 hH K hK
                            have e78 : x 78 = _ := hH.holds 4 (by decide) (by decide +kernel) 78 rfl
                            have e82 : x 82 = _ := hH.holds 8 (by decide) (by decide +kernel) 82 rfl
                            have e86 : x 86 = _ := hH.holds 12 (by decide) (by decide +kernel) 86 rfl
                            obtain ⟨xs, d, rfl⟩ := grow_of_below hH.below
                            clear hH
                            try simp only [World.grow_drew] at hK ⊢
                            try simp only [World.grow_grow] at hK ⊢
                            simp only [e78, e82, e86] at hK ⊢
                            clear e78 e82 e86
                            go_simp
                            go_wp2_with fail
                            exact ⟨_, rfl, rfl, (by repeat (first | exact below_of_grow _ _ | exact Below.refl _ _ | exact below_more _ _ _ _ | (simp only [← Array.append_assoc]; first | exact below_more _ _ _ _ | exact below_same _ _ _ | exact Below.refl _ _) | exact below_same _ _ _ | (refine Below.alloc ?_ (by first | (simp; done) | (simp; omega)) _) | (refine Below.grow ?_ (by first | (simp; done) | (simp; omega)) _ _) | refine Below.drew ?_ | refine Below.drewN ?_ _ | (refine Below.putF ?_ (by first | (simp; done) | omega | (simp; omega)) _) | (refine Below.setCell ?_ (by first | (simp; done) | (simp; omega)) _))), fun h => by cases h⟩
                          case o14 =>
                            intro x w1 hH K hK
                            have e78 : x 78 = _ := hH.holds 4 (by decide) (by decide +kernel) 78 rfl
                            have e87 : x 87 = _ := hH.holds 13 (by decide) (by decide +kernel) 87 rfl
                            obtain ⟨xs, d, rfl⟩ := grow_of_below hH.below
                            clear hH
                            try simp only [World.grow_drew] at hK ⊢
                            try simp only [World.grow_grow] at hK ⊢
                            simp only [e78, e87] at hK ⊢
                            clear e78 e87
                            go_simp
                            go_wp2_with fail
                            exact ⟨_, rfl, rfl, (by repeat (first | exact below_of_grow _ _ | exact Below.refl _ _ | exact below_more _ _ _ _ | (simp only [← Array.append_assoc]; first | exact below_more _ _ _ _ | exact below_same _ _ _ | exact Below.refl _ _) | exact below_same _ _ _ | (refine Below.alloc ?_ (by first | (simp; done) | (simp; omega)) _) | (refine Below.grow ?_ (by first | (simp; done) | (simp; omega)) _ _) | refine Below.drew ?_ | refine Below.drewN ?_ _ | (refine Below.putF ?_ (by first | (simp; done) | omega | (simp; omega)) _) | (refine Below.setCell ?_ (by first | (simp; done) | (simp; omega)) _))), fun h => by cases h⟩
                        case hend =>
                          intro x w1 hH
                          have e74 : x 74 = _ := hH.holds 0 (by decide) trivial 74 rfl
                          have e75 : x 75 = _ := hH.holds 1 (by decide) trivial 75 rfl
                          have e76 : x 76 = _ := hH.holds 2 (by decide) trivial 76 rfl
                          have e77 : x 77 = _ := hH.holds 3 (by decide) trivial 77 rfl
                          have e78 : x 78 = _ := hH.holds 4 (by decide) trivial 78 rfl
                          have e79 : x 79 = _ := hH.holds 5 (by decide) trivial 79 rfl
                          have e80 : x 80 = _ := hH.holds 6 (by decide) trivial 80 rfl
                          have e81 : x 81 = _ := hH.holds 7 (by decide) trivial 81 rfl
                          have e82 : x 82 = _ := hH.holds 8 (by decide) trivial 82 rfl
                          have e83 : x 83 = _ := hH.holds 9 (by decide) trivial 83 rfl
                          have e84 : x 84 = _ := hH.holds 10 (by decide) trivial 84 rfl
                          have e85 : x 85 = _ := hH.holds 11 (by decide) trivial 85 rfl
                          have e86 : x 86 = _ := hH.holds 12 (by decide) trivial 86 rfl
                          have e87 : x 87 = _ := hH.holds 13 (by decide) trivial 87 rfl
                          have e88 : x 88 = _ := hH.holds 14 (by decide) trivial 88 rfl
                          obtain ⟨xs, d, rfl⟩ := grow_of_below hH.below
                          clear hH
                          simp only [e74, e75, e76, e77, e78, e79, e80, e81, e82, e83, e84, e85, e86, e87, e88]; clear e74 e75 e76 e77 e78 e79 e80 e81 e82 e83 e84 e85 e86 e87 e88
                          simp only [List.drop_succ_cons, List.drop_nil]
                          go_wp2_with fail
                          go_meet
                          exact ⟨rfl, _, _, rfl⟩
                      case rest =>
                        obtain ⟨rfl, xs3, d3, rfl⟩ := hcut
                        cases fj with
                        | false =>
                          have HF3 := Lib.hid (show false = fstP rtS pk3 l p i (j + 1) by rw [HF.out.2.1, HF.out.2.2]; rfl)
                          have HF4 := Lib.hid HF.out.1
                          have HBK := Lib.hid HBJ.out
                          clear HF HBX HCUT HXL HOX HP HBJ
                          go_wp2_with fail
                          go_roundw
                          case rel => exact ⟨j + 1, by omega, by go_num, by rw [HF4.out]; go_num, congrArg Value.bool HF3.out, Lib.hid (HBK.out.trans ((show Below wr.heap.size wr _ from (by repeat (first | exact below_of_grow _ _ | exact Below.refl _ _ | exact below_more _ _ _ _ | (simp only [← Array.append_assoc]; first | exact below_more _ _ _ _ | exact below_same _ _ _ | exact Below.refl _ _) | exact below_same _ _ _ | (refine Below.alloc ?_ (by first | (simp; done) | (simp; omega)) _) | (refine Below.grow ?_ (by first | (simp; done) | (simp; omega)) _ _) | refine Below.drew ?_ | refine Below.drewN ?_ _ | (refine Below.putF ?_ (by first | (simp; done) | omega | (simp; omega)) _) | (refine Below.setCell ?_ (by first | (simp; done) | (simp; omega)) _)))).mono hszj))⟩
                          case measure => simp [intOf]; omega
                        | true =>
                          by_cases hij : i ≤ j
                          · have hijI : ((i : Int) ≤ j) = True := eq_true (by omega)
                            have HF3 := Lib.hid (show true = fstP rtS pk3 l p i (j + 1) by rw [HF.out.2.1, HF.out.2.2]; simp [hij])
                            have HF4 := Lib.hid HF.out.1
                            have HBK := Lib.hid HBJ.out
                            clear HF HBX HCUT HXL HOX HP HBJ hij
                            go_wp2_with fail
                            go_roundw
                            case rel => exact ⟨j + 1, by omega, by go_num, by rw [HF4.out]; go_num, congrArg Value.bool HF3.out, Lib.hid (HBK.out.trans ((show Below wr.heap.size wr _ from (by repeat (first | exact below_of_grow _ _ | exact Below.refl _ _ | exact below_more _ _ _ _ | (simp only [← Array.append_assoc]; first | exact below_more _ _ _ _ | exact below_same _ _ _ | exact Below.refl _ _) | exact below_same _ _ _ | (refine Below.alloc ?_ (by first | (simp; done) | (simp; omega)) _) | (refine Below.grow ?_ (by first | (simp; done) | (simp; omega)) _ _) | refine Below.drew ?_ | refine Below.drewN ?_ _ | (refine Below.putF ?_ (by first | (simp; done) | omega | (simp; omega)) _) | (refine Below.setCell ?_ (by first | (simp; done) | (simp; omega)) _)))).mono hszj))⟩
                            case measure => simp [intOf]; omega
                          · have hijI : ((i : Int) ≤ j) = False := eq_false (by omega)
                            have HF3 := Lib.hid (show false = fstP rtS pk3 l p i (j + 1) by rw [HF.out.2.1, HF.out.2.2]; simp [hij])
                            have HF4 := Lib.hid HF.out.1
                            have HBK := Lib.hid HBJ.out
                            clear HF HBX HCUT HXL HOX HP HBJ hij
                            go_wp2_with fail
                            go_roundw
                            case rel => exact ⟨j + 1, by omega, by go_num, by rw [HF4.out]; go_num, congrArg Value.bool HF3.out, Lib.hid (HBK.out.trans ((show Below wr.heap.size wr _ from (by repeat (first | exact below_of_grow _ _ | exact Below.refl _ _ | exact below_more _ _ _ _ | (simp only [← Array.append_assoc]; first | exact below_more _ _ _ _ | exact below_same _ _ _ | exact Below.refl _ _) | exact below_same _ _ _ | (refine Below.alloc ?_ (by first | (simp; done) | (simp; omega)) _) | (refine Below.grow ?_ (by first | (simp; done) | (simp; omega)) _ _) | refine Below.drew ?_ | refine Below.drewN ?_ _ | (refine Below.putF ?_ (by first | (simp; done) | omega | (simp; omega)) _) | (refine Below.setCell ?_ (by first | (simp; done) | (simp; omega)) _)))).mono hszj))⟩
                            case measure => simp [intOf]; omega
                · --@4
                  have hje : j = l.length := by omega
                  have hgn : ¬ (j : Int) < l.length := by omega
                  have HE := Lib.hid (show (ofP rtS pk3 (l.take j) p).length = xl ∧ fstP rtS pk3 l p i j = fstP rtS pk3 l p i l.length by rw [hje, List.take_length, HXL.out]; exact ⟨rfl, rfl⟩)
                  clear hje
                  go_wp2_with fail
                  go_meet
                  exact ⟨by rw [HE.out.1], by rw [HE.out.2], HBJ⟩
            case rest =>
              obtain ⟨rfl, rfl, HBJ⟩ := hcut
              --@6
              have hszj := HBJ.out.size
              have hxx : ((xl : Int) != xl) = false := by simp
              obtain ⟨ff, hff⟩ : ∃ ff, ff = fstP rtS pk3 l p i l.length := ⟨_, rfl⟩
              rw [← hff]
              have HT := Lib.hid (show (ff = false → (splitG rtS pk3 (l.take (i + 1)) []).length = ll ∧ totG rtS pk3 l (splitG rtS pk3 (l.take (i + 1)) []) = tt) ∧ (ff = true → (splitG rtS pk3 (l.take (i + 1)) []).length = ll + 1 ∧ totG rtS pk3 l (splitG rtS pk3 (l.take (i + 1)) []) = tt + xl) by
                have h := HTL.out.2
                rw [← HK.out, ← HP.out, ← hff, ← HXL.out] at h
                exact ⟨h.1, h.2 HRK.out⟩)
              have HB3 := Lib.hid (HBX.out.trans (HBJ.out.mono HBX.out.size))
              clear HTL HPB HKN HKS HLL HL HS HV HV1 HB1 HBW HRK HK HXL HOX HP HCUT HBX hff
              cases ff with
              | true =>
                have HT2 := Lib.hid (HT.out.2 rfl)
                clear HT
                go_wp2_with fail
                go_roundw
                case rel => exact ⟨i + 1, by omega, by go_num, by rw [HT2.out.2]; go_num, by rw [HT2.out.1]; go_num, HB3⟩
                case measure => simp [intOf]; omega
              | false =>
                have HT2 := Lib.hid (HT.out.1 rfl)
                clear HT
                go_wp2_with fail
                go_roundw
                case rel => exact ⟨i + 1, by omega, by go_num, by rw [HT2.out.2], by rw [HT2.out.1], HB3⟩
                case measure => simp [intOf]; omega
      · have hie : i = l.length := by omega
        have hgn : ¬ (i : Int) < l.length := by omega
        have HE := Lib.hid (show totG rtS pk3 l (splitG rtS pk3 (l.take i) []) = (l.filter rtS).length ∧ (splitG rtS pk3 (l.take i) []).length = L.length by
          rw [hie, List.take_length, tot_sum, HLL.out]; exact ⟨rfl, rfl⟩)
        clear hie
        go_wp2_with fail
        go_meet
        exact ⟨by rw [HE.out.1], by rw [HE.out.2], HB⟩
  case rest =>
    obtain ⟨rfl, rfl, HB2⟩ := hcut
    go_upto_block 4 with fail
    go_cut [12] (fun s12 wx => s12 = .int .i64 ((l.filter rtS).length : Nat) ∧ Hid (Below w1.heap.size w1 wx))
    case first =>
      clear HPB HKN HKS HLL HL HS
      go_wp2_with fail
      go_loopw [12, 13] (fun s12 s13 wr => ∃ j : Nat, j ≤ l.length ∧ s13 = .int .i64 j ∧ s12 = .int .i64 (((l.take j).filter rtS).length : Nat) ∧ Hid (Below w1.heap.size w1 wr)) (fun _ s13 _ => l.length - (intOf s13).toNat)
      case atStart => exact ⟨0, Nat.zero_le _, rfl, rfl, HB2⟩
      case round =>
        obtain ⟨j, hj, rfl, rfl, HBJ⟩ := hrel
        by_cases hjl : j < l.length
        · have hjI : (j : Int) < l.length := by omega
          obtain ⟨_, a', cap', he, _, _, hc⟩ := HV1.out
          simp only [Value.slice.injEq, List.length_map, true_and] at he
          obtain ⟨rfl, rfl⟩ := he
          obtain ⟨g, q, rfl, hlb, hcut⟩ := hc (by simp; omega)
          have hcutj : wr.cut? g (q + j * 25) 25 = some (row8 l[j].val) := (cut_of_heap (HBJ.out.block g (by omega)) _ _).trans (hcut j (rkS l[j]) (by simp [hjl]))
          have hszj := HBJ.out.size
          have hgj : g < wr.heap.size := by omega
          have hsu := right_succ rtS l j hjl
          have hlen : ((l.take j).filter rtS).length ≤ 30 := Nat.le_trans (List.length_filter_le _ _) (by rw [List.length_take]; omega)
          obtain ⟨y, hy⟩ : ∃ y, y = l[j] := ⟨_, rfl⟩
          rw [← hy] at hcutj hsu
          have HRJ := Lib.hid (keyRight_gives y.val y.len)
          generalize ((l.take j).filter rtS).length = nn at *
          have hrt : rtS y = keyRight y.val := rfl
          rw [hrt] at hsu
          clear hc hcut hy hrt
          cases hry : keyRight y.val with
          | false =>
            rw [hry] at HRJ hsu
            have HN := Lib.hid (show ((l.take (j + 1)).filter rtS).length = nn from by rw [hsu]; simp)
            clear hsu hry
            go_wp2_with fail
            refine Gives.use (HRJ.out _) ?_
            intro xs d
            go_wp2_with fail
            go_roundw
            case rel => exact ⟨j + 1, by omega, by go_num, by rw [HN.out], Lib.hid (HBJ.out.trans ((show Below wr.heap.size wr _ from (by repeat (first | exact below_of_grow _ _ | exact Below.refl _ _ | exact below_more _ _ _ _ | (simp only [← Array.append_assoc]; first | exact below_more _ _ _ _ | exact below_same _ _ _ | exact Below.refl _ _) | exact below_same _ _ _ | (refine Below.alloc ?_ (by first | (simp; done) | (simp; omega)) _) | (refine Below.grow ?_ (by first | (simp; done) | (simp; omega)) _ _) | refine Below.drew ?_ | refine Below.drewN ?_ _ | (refine Below.putF ?_ (by first | (simp; done) | omega | (simp; omega)) _) | (refine Below.setCell ?_ (by first | (simp; done) | (simp; omega)) _)))).mono hszj))⟩
            case measure => simp [intOf]; omega
          | true =>
            rw [hry] at HRJ hsu
            have HN := Lib.hid (show ((l.take (j + 1)).filter rtS).length = nn + 1 from by rw [hsu]; simp)
            clear hsu hry
            go_wp2_with fail
            refine Gives.use (HRJ.out _) ?_
            intro xs d
            go_wp2_with fail
            go_roundw
            case rel => exact ⟨j + 1, by omega, by go_num, by rw [HN.out]; go_num, Lib.hid (HBJ.out.trans ((show Below wr.heap.size wr _ from (by repeat (first | exact below_of_grow _ _ | exact Below.refl _ _ | exact below_more _ _ _ _ | (simp only [← Array.append_assoc]; first | exact below_more _ _ _ _ | exact below_same _ _ _ | exact Below.refl _ _) | exact below_same _ _ _ | (refine Below.alloc ?_ (by first | (simp; done) | (simp; omega)) _) | (refine Below.grow ?_ (by first | (simp; done) | (simp; omega)) _ _) | refine Below.drew ?_ | refine Below.drewN ?_ _ | (refine Below.putF ?_ (by first | (simp; done) | omega | (simp; omega)) _) | (refine Below.setCell ?_ (by first | (simp; done) | (simp; omega)) _)))).mono hszj))⟩
            case measure => simp [intOf]; omega
        · have hje : j = l.length := by omega
          have hgn : ¬ (j : Int) < l.length := by omega
          have HE := Lib.hid (show ((l.take j).filter rtS).length = (l.filter rtS).length by rw [hje, List.take_length])
          clear hje
          go_wp2_with fail
          go_meet
          exact ⟨by rw [HE.out], HBJ⟩
    case rest =>
      obtain ⟨rfl, HB3⟩ := hcut
      have hlen : ∀ (xs : Array Obj) (d : Nat) (ty : TypeId), (Builtin.len_ #[23] ty #[.map (some w.heap.size)]).run Tryd.prog (wc.grow xs d) = .ok (.int .i64 L.length) (wc.grow xs d) :=
        fun xs d ty => len_run (P := Tryd.prog) Tryd.underlying23 ((HS.out.keep HB3.out).keep (below_of_grow _ _)).map
      have hbq1 : ((L.length : Int) == L.length) = true := by simp
      have hbq2 : (((l.filter rtS).length : Int) == (l.filter rtS).length) = true := by simp
      have HBF := Lib.hid (HB1.out.trans (HB3.out.mono HB1.out.size))
      clear HPB HKS HLL HL HS HV HV1 HB2
      go_wp2_with fail
      refine Gives.use (HKN.out _) ?_
      intro xs d
      go_wp2_with fail
      go_ret
      exact ⟨rfl, HBF.out.trans ((show Below wc.heap.size wc _ from (by repeat (first | exact below_of_grow _ _ | exact Below.refl _ _ | exact below_more _ _ _ _ | (simp only [← Array.append_assoc]; first | exact below_more _ _ _ _ | exact below_same _ _ _ | exact Below.refl _ _) | exact below_same _ _ _ | (refine Below.alloc ?_ (by first | (simp; done) | (simp; omega)) _) | (refine Below.grow ?_ (by first | (simp; done) | (simp; omega)) _ _) | refine Below.drew ?_ | refine Below.drewN ?_ _ | (refine Below.putF ?_ (by first | (simp; done) | omega | (simp; omega)) _) | (refine Below.setCell ?_ (by first | (simp; done) | (simp; omega)) _)))).mono HBF.out.size)⟩
end Go.Proofs.YtpdohgadcepipaaDoor
namespace Go.Proofs.YtpdohgadcepipaaDoor
set_option maxRecDepth 100000
open Go.RowKit

theorem keyS_fit {x : Array Value} (h : FitsAll (List.replicate 25 (CK.i .u8)) x.toList) : ∃ k : K25, x = rkS k := by
  obtain ⟨k, hk⟩ := FitsAll.key h
  exact ⟨k, Array.ext' hk⟩
theorem keysS_read {w : World} {v : Value} (h : Reads Tryd.prog w 22 v) : ∃ l : List K25, SlA w w.heap.size 25 v (l.map rkS) := by
  obtain ⟨xs, h1, h2⟩ := h.rows Tryd.underlying22 5 (ks := List.replicate 25 (CK.i .u8)) (by kernel_rfl) (by kernel_rfl) (by decide)
  obtain ⟨l, rfl⟩ := models (p := fun x => FitsAll (List.replicate 25 (CK.i .u8)) x.toList) (fun x => keyS_fit) xs h2
  exact ⟨l, h1⟩
theorem keySplits_law (w : World) (v0 : Value) (h0 : Reads Tryd.prog w 22 v0) : Gives Tryd.prog 3 #[v0] w (.bool true) := by
  obtain ⟨l, hl⟩ := keysS_read h0
  exact keySplits_walk w l v0 hl
end Go.Proofs.YtpdohgadcepipaaDoor
namespace Go.Proofs.YtpdohgadcepipaaDoor
set_option maxRecDepth 100000
open Go.RowKit

namespace keySplits
open Go.ChangeShapes Go.WideShapes Go.ChangeAt Go.RowKit
open Go.ChangeMaps (open_string shut_string)
theorem own : ownKnob Tryd.prog.godebug = none := by kernel_rfl
theorem laidOut : laidOutB Tryd.prog = true := by kernel_rfl
/-- a world in which the listed variables hold what the row says -/
noncomputable def laidW (os : Os) : World := World.laidAll Tryd.prog os Rows.keySplitsRow.laid
set_option maxRecDepth 100000 in
theorem door_met (os : Os) (args : Array Value) : laidMetH Tryd.prog Rows.keySplitsRow.laid ((laidW os).forCall (fun _ _ => 0) ⟨#[], args, []⟩).memory := by
  rw [MakeChecks.laidMetH_plain _ _ _ (by kernel_rfl)]
  exact laidMet_laidAll args (by kernel_rfl) (by kernel_rfl)
set_option maxRecDepth 100000 in
theorem lifted (os : Os) (started : os.Started) (H : Type) (enc : TypeId × Value → H) :
    ReturnsInHanded {} Tryd.checked os 3 .any (fun w args => (Rows.keySplitsSpec.pre enc Tryd.prog Tryd.f3 Rows.keySplitsRow.domain false w args ∧ laidMetH Tryd.prog Rows.keySplitsRow.laid w) ∧ sizedMet enc Tryd.prog Tryd.f3 (OpenSpec.ofChange Rows.keySplitsSpec) false w args) (Rows.keySplitsSpec.post enc Tryd.prog Tryd.f3 false true false false) := by
  refine returnsInHanded_of_change_and (C := Tryd.checked) (X := fun w _ => laidMetH Tryd.prog Rows.keySplitsRow.laid w) (fun _ _ _ hh h => h.of_heap hh) own started (by kernel_rfl) Tryd.func3
    (ChangeSpec.witness_shaped (enc := enc) (C := Tryd.checked) (os := os) (X := fun w _ => laidMetH Tryd.prog Rows.keySplitsRow.laid w) false (laidW os) #[.slice none 0 0] 8 (World.laidAll_os _ _ _) (World.shaped_of_ZipB (by kernel_rfl) (by kernel_rfl)) (by kernel_rfl) (by kernel_rfl) (by kernel_rfl) (door_met os _)) ?_
  intro W base args ds gs before hval0 hW _ _ _ _
  have hval : ∀ (j : Nat) t v, Tryd.f3.params[j]? = some t → args[j]? = some v → Value.okWide Tryd.prog W .any base t v := hval0
  have hW' := hW
  obtain ⟨p, q, hA0, hV, rfl, hfz, hnd⟩ := hW
  have hA : DataW.TrodAll enc Tryd.prog W 0 (fun _ => true) true Tryd.f3.params.toList args.toList ds p := hA0
  rw [Tryd.params3] at hA hval
  obtain ⟨v0, vs0, d0, ds0, p0, q0, hargs, rfl, rfl, h0, r0⟩ := trodAll_cons hA
  obtain ⟨rfl, rfl, rfl⟩ := trodAll_nil r0
  obtain rfl : args = #[v0] := by cases args; simp_all
  obtain ⟨rfl, rfl⟩ := trodVars_none hV
  have lt0 : ∀ x ∈ p0, x.block < W.heap.size := by obtain ⟨m, hm⟩ := h0; exact DataW.trod_lt m _ _ _ hm
  clear hA0 hval0
  refine Calls.mono (keySplits_law W v0 ⟨⟨_, hval 0 22 v0 rfl rfl⟩, H, enc, _, _, h0⟩) fun e W' ⟨he, bel⟩ => ?_
  subst he
  exact ⟨_, rfl, _, _, _, [], _, [], hW', trodAll_mk1 (shut_bool Tryd.underlying4 _), (trodAll_cons_mk (Below.trod laidOut (by kernel_rfl) (of_decide_eq_true (by kernel_rfl)) h0 bel lt0) trodAll_mk0), rfl, bel.frame _, fun h => by cases h⟩
theorem fact0 : (Rows.keySplitsRow.inPlace == Program.inPlace Tryd.pinned.checked.prog 3) = true := by kernel_rfl
theorem fact1 : (Rows.keySplitsRow.unfollowed == Program.unfollowed Tryd.pinned.checked.prog 3) = true := by kernel_rfl
theorem fact2 : (Rows.keySplitsRow.recurses == Program.recurses Tryd.pinned.checked.prog 3) = true := by kernel_rfl
theorem fact3 : (Rows.keySplitsRow.named == Program.varsNamed Tryd.pinned.checked.prog 3) = true := by kernel_rfl
theorem closed : joinedFacts Tryd.pinned.checked.prog 3 Tryd.f3 Rows.keySplitsSpec Rows.keySplitsRow = true := by
  unfold joinedFacts
  rw [fact0, fact1, fact2, fact3]
  refine Eq.trans (b := true) ?_ rfl
  kernel_rfl
theorem said : Rows.KeySplitsSaid :=
  OpenClaim.holds_of_wide 3 Tryd.f3 rfl rfl rfl rfl rfl rfl rfl ⟨rfl, rfl, rfl, rfl, rfl⟩ rfl rfl rfl rfl rfl (by kernel_rfl) Tryd.func3 closed
    (of_decide_eq_true (by kernel_rfl)) (by unfold Func.isWrapper; first | (rw [if_pos (by decide +kernel)]; kernel_rfl) | (rw [if_neg (by decide +kernel)]; exact ⟨rfl, rfl⟩))
    (fun os started H enc _ => lifted os started H enc)
/-- no parameter wants a stand-in; the program's own looks are off -/
theorem plain (f : FuncId) (fn : Func) (hf : Tryd.pinned.checked.prog.funcNamed "vulgate/vulgatelaw06.KeySplits" = some f) (hfn : Tryd.pinned.checked.prog.funcs[f]? = some fn) :
    true = Tryd.pinned.checked.prog.looks [] ∧ ∀ (j : Nat) t, fn.params[j]? = some t → Tryd.pinned.checked.prog.wantsStandIn t = false := by
  obtain rfl : f = 3 := Option.some.inj ((show Tryd.prog.funcNamed "vulgate/vulgatelaw06.KeySplits" = some 3 by kernel_rfl).symm.trans hf) |>.symm
  obtain rfl : fn = Tryd.f3 := (Option.some.inj (Tryd.func3.symm.trans hfn)).symm
  refine ⟨by kernel_rfl, fun j t ht => ?_⟩
  rw [Tryd.params3] at ht
  have hm : t ∈ [22] := by simpa using Array.mem_of_getElem? ht
  have hall : ([22].all fun u => !Tryd.prog.wantsStandIn u) = true := by kernel_rfl
  exact (show Tryd.prog.wantsStandIn t = false by simpa using List.all_eq_true.1 hall t hm)
theorem proved : Rows.KeySplitsCardSaid :=
  Claim7.holds_tied_plain_at .later [] _ _ _ _ said (fun _ h => by cases h) (by kernel_rfl) (fun _ h => by cases h) keySplits_row_tie rfl ⟨rfl, rfl⟩ (by kernel_rfl) rfl plain (by kernel_rfl)
#print axioms proved
end keySplits
end Go.Proofs.YtpdohgadcepipaaDoor

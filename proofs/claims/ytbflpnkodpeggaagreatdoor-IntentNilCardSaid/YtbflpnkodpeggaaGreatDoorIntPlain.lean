/- Layer 16 in plain Lean: what Take and Drop do to a table; a key that an owner has stays its own. -/
import Derived.Test.YtbflpnkodpeggaaGreatDoorEnt
import Derived.Test.YtbflpnkodpeggaaGreatDoorMaps
namespace Go.Proofs.YtbflpnkodpeggaaGreatDoor

/-- a table: owners by keys -/
abbrev Tb := List (K25 × Int)
def takeGo (o : Int) : List K25 → Tb → Int → Tb × Int × Int
  | [], L, n => (L, n, 0)
  | k :: r, L, n => if keyRight k.val = true then
      match lk L k with
      | none => takeGo o r (put L k o) (n + 1)
      | some x => if x = o then takeGo o r L n else (L, n, 11)
    else (L, n, 3)
def takeT (o : Int) (ks : List K25) (L : Tb) : Tb × Int × Int := if o < 1 then (L, 0, 5) else takeGo o ks L 0
def dropGo (o : Int) : List K25 → Tb → Int → Tb × Int
  | [], L, n => (L, n)
  | k :: r, L, n => if lk L k = some o then dropGo o r (del L k) (n + 1) else dropGo o r L n
def ownT (L : Tb) (k : K25) : Int := (lk L k).getD 0

theorem takeGo_keeps {o o' : Int} {k : K25} (hne : o ≠ o') : ∀ (ks : List K25) (L : Tb) (n : Int), lk L k = some o' → lk (takeGo o ks L n).1 k = some o'
  | [], _, _, h => h
  | j :: r, L, n, h => by
    unfold takeGo
    split
    · split
      · rename_i hj
        refine takeGo_keeps hne r _ _ ?_
        rw [lk_put]
        split
        · rename_i e; subst e; rw [hj] at h; cases h
        · exact h
      · split
        · exact takeGo_keeps hne r _ _ h
        · exact h
    · exact h
theorem takeT_keeps {o o' : Int} {k : K25} (hne : o ≠ o') (ks : List K25) (L : Tb) (h : lk L k = some o') : lk (takeT o ks L).1 k = some o' := by
  unfold takeT
  split
  · exact h
  · exact takeGo_keeps hne ks L 0 h
theorem dropGo_keeps {o o' : Int} {k : K25} (hne : o ≠ o') : ∀ (ks : List K25) (L : Tb) (n : Int), lk L k = some o' → lk (dropGo o ks L n).1 k = some o'
  | [], _, _, h => h
  | j :: r, L, n, h => by
    unfold dropGo
    split
    · rename_i hj
      refine dropGo_keeps hne r _ _ ?_
      rw [lk_del]
      split
      · rename_i e; subst e; rw [hj] at h; exact (hne (Option.some.inj h)).elim
      · exact h
    · exact dropGo_keeps hne r _ _ h
/-- the first take of a key -/
theorem take_one {o : Int} (ho : 1 ≤ o) (k : K25) (L : Tb) :
    (keyRight k.val = false ∧ takeT o [k] L = (L, 0, 3)) ∨ (keyRight k.val = true ∧ ((∃ x, x ≠ o ∧ lk L k = some x ∧ takeT o [k] L = (L, 0, 11)) ∨
      (lk (takeT o [k] L).1 k = some o ∧ (takeT o [k] L).2.2 = 0))) := by
  unfold takeT
  rw [if_neg (by omega)]
  unfold takeGo
  cases hr : keyRight k.val with
  | false => left; exact ⟨rfl, by simp⟩
  | true =>
    right
    refine ⟨rfl, ?_⟩
    simp only [if_true]
    cases hl : lk L k with
    | none => right; simp [takeGo, lk_put]
    | some x =>
      by_cases hx : x = o
      · right; subst hx; simp [takeGo, hl]
      · left; exact ⟨x, hx, rfl, by simp [hx]⟩
/-- another's take of it -/
theorem take_other {o o' : Int} (hne : o ≠ o') {k : K25} {L : Tb} (hr : keyRight k.val = true) (h : lk L k = some o') : (takeT o [k] L).1 = L ∧ ((takeT o [k] L).2.2 = 11 ∨ (takeT o [k] L).2.2 = 5) := by
  unfold takeT
  split
  · exact ⟨rfl, .inr rfl⟩
  · unfold takeGo
    rw [hr]
    simp only [if_true, h]
    rw [if_neg (fun e => hne e.symm)]
    exact ⟨rfl, .inl rfl⟩
theorem drop_mine {o : Int} {k : K25} {L : Tb} (h : lk L k = some o) : (dropGo o [k, k] L 0).2 = 1 := by
  unfold dropGo
  rw [if_pos h]
  unfold dropGo
  rw [if_neg (by rw [lk_del, if_pos rfl]; simp)]
  rfl
end Go.Proofs.YtbflpnkodpeggaaGreatDoor

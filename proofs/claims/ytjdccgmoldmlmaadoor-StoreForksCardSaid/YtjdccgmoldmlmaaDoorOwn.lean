/- Rows that a call owns: behind a world that has grown, behind a block that is known. -/
import Derived.Test.YtjdccgmoldmlmaaDoorRow
import Derived.Lib.SmallJoins
namespace Go.Proofs.YtjdccgmoldmlmaaDoor
open Go.RowKit

section
variable {w : World} {base size n : Nat} {e : TypeId} {v : Value} {xs : List Value}
/-- an owned row, where every block from 'base' on that stood in w stands in w' as it was -/
theorem own_keep {w' : World} (h : w.ownsRow base e size v n xs) (hk : ∀ g, base ≤ g → g < w.heap.size → v.ownBlock = some g → w'.heap[g]? = w.heap[g]?) : w'.ownsRow base e size v n xs := by
  obtain ⟨h1, h2⟩ := h
  refine ⟨h1, ?_⟩
  rcases h2 with h2 | ⟨g, cap, cur, hv, hg, hh, r⟩
  · exact .inl h2
  · have hlt : g < w.heap.size := by
      rcases Nat.lt_or_ge g w.heap.size with h | h
      · exact h
      · rw [Array.getElem?_eq_none h] at hh; cases hh
    exact .inr ⟨g, cap, cur, hv, hg, by rw [hk g hg hlt (by rw [hv]; rfl)]; exact hh, r⟩
theorem own_grow (h : w.ownsRow base e size v n xs) (ys : Array Obj) (d : Nat) : (w.grow ys d).ownsRow base e size v n xs :=
  own_keep h fun _ _ hlt _ => World.grow_heap _ _ _ hlt
theorem own_below {w' : World} (h : w.ownsRow base e size v n xs) (hb : Below w.heap.size w w') : w'.ownsRow base e size v n xs :=
  own_keep h fun g _ hlt _ => hb.block g hlt
theorem own_drew (h : w.ownsRow base e size v n xs) : w.drew.ownsRow base e size v n xs := h
theorem own_drewN (h : w.ownsRow base e size v n xs) (k : Nat) : (w.drewN k).ownsRow base e size v n xs := h
end

/-- a slice of n elements that can be read: its cells, in blocks below B -/
def Rd (w : World) (B : Nat) (v : Value) (n : Nat) (xs : List Value) : Prop :=
  ∃ a cap, v = .slice a n cap ∧ n ≤ cap ∧ cap ≤ maxLen ∧ (0 < n → ∃ b o, a = some ⟨b, o, none⟩ ∧ b < B ∧ ∀ j u, xs[j]? = some u → w.cell? ⟨b, o + j, none⟩ = some u)
theorem Rd.keep {w w' : World} {B n : Nat} {v : Value} {xs : List Value} (h : Rd w B v n xs) (hb : Below B w w') : Rd w' B v n xs := by
  obtain ⟨a, cap, h1, h2, h3, h4⟩ := h
  refine ⟨a, cap, h1, h2, h3, fun hn => ?_⟩
  obtain ⟨b, o, e, hlt, hc⟩ := h4 hn
  exact ⟨b, o, e, hlt, fun j u hu => by rw [hb.cell (p := ⟨b, o + j, none⟩) hlt]; exact hc j u hu⟩
theorem Rd.more {w : World} {B B' n : Nat} {v : Value} {xs : List Value} (h : Rd w B v n xs) (hB : B ≤ B') : Rd w B' v n xs := by
  obtain ⟨a, cap, h1, h2, h3, h4⟩ := h
  refine ⟨a, cap, h1, h2, h3, fun hn => ?_⟩
  obtain ⟨b, o, e, hlt, hc⟩ := h4 hn
  exact ⟨b, o, e, by omega, hc⟩
/-- what a call owns can be read -/
theorem Rd.of_own {w : World} {base n : Nat} {e : TypeId} {size : Nat} {v : Value} {xs : List Value} (h : w.ownsRow base e size v n xs) : Rd w w.heap.size v n xs := by
  obtain ⟨h1, h2⟩ := h
  rcases h2 with ⟨rfl, rfl⟩ | ⟨g, cap, cur, rfl, hg, hh, hn, hm, hs, hx⟩
  · exact ⟨none, 0, rfl, Nat.le_refl _, Nat.zero_le _, fun h => by omega⟩
  · refine ⟨_, cap, rfl, hn, hm, fun _ => ⟨g, 0, rfl, ?_, fun j u hu => ?_⟩⟩
    · rcases Nat.lt_or_ge g w.heap.size with h | h
      · exact h
      · rw [Array.getElem?_eq_none h] at hh; cases hh
    · rw [← hx, List.getElem?_take] at hu
      split at hu
      · simp only [World.cell?, hh]
        rw [if_neg (by simp), Nat.zero_add, ← Array.getElem?_toList]; exact hu
      · cases hu
end Go.Proofs.YtjdccgmoldmlmaaDoor

/- Layer 24's lists in plain Lean: the first entry of each key, in order. -/
import Derived.Test.YtbflpnkodpeggaaKeyPlain
import Derived.Test.YtbflpnkodpeggaaEnt
namespace Go.Proofs.Ytbflpnkodpeggaa
open Go.RowKit

def Rec.cut80 (r : Rec) : Rec := { r with text := ⟨r.text.val.take 80, by have := r.text.property; simp; omega⟩ }
def Ent.cut80 (e : Ent) : Ent := ⟨e.k, e.r.cut80⟩
/-- the place of the first entry that does not come ahead of e -/
def placeOf (L : List Ent) (k : K25) : Nat := (L.takeWhile fun x => lessL x.k.val k.val).length
def dup (L : List Ent) (k : K25) : Bool := decide ((L[placeOf L k]?).map (·.k) = some k)
theorem placeOf_le (L : List Ent) (k : K25) : placeOf L k ≤ L.length := takeWhile_len _ L
def riseOne (L : List Ent) (e : Ent) : List Ent :=
  if dup L e.k = true then L else L.take (placeOf L e.k) ++ [e] ++ L.drop (placeOf L e.k)
def rise (L : List Ent) : List Ent := (L.take 30).foldl (fun out e => riseOne out e.cut80) []
theorem riseOne_len (L : List Ent) (e : Ent) : (riseOne L e).length ≤ L.length + 1 := by
  unfold riseOne
  split
  · omega
  · simp; omega

theorem takeWhile_place {α : Type} (p : α → Bool) : ∀ (l : List α) (j : Nat), j ≤ l.length → (∀ i x, i < j → l[i]? = some x → p x = true) → (∀ x, l[j]? = some x → p x = false) → (l.takeWhile p).length = j
  | [], j, hj, _, _ => by simp at hj; subst hj; rfl
  | x :: l, 0, _, _, h2 => by rw [List.takeWhile_cons, h2 x rfl]; rfl
  | x :: l, j + 1, hj, h1, h2 => by
    rw [List.takeWhile_cons, h1 0 x (by omega) rfl]
    simp only [if_true, List.length_cons]
    rw [takeWhile_place p l j (by simpa using hj) (fun i y hi hy => h1 (i + 1) y (by omega) (by simpa using hy)) (fun y hy => h2 y (by simpa using hy))]
theorem rise_len : ∀ (L : List Ent) (_n : Nat), (L.foldl (fun out e => riseOne out e.cut80) ([] : List Ent)).length ≤ L.length
  | L, _ => by
    have : ∀ (L out : List Ent), (L.foldl (fun out e => riseOne out e.cut80) out).length ≤ out.length + L.length := by
      intro L
      induction L with
      | nil => intro out; simp
      | cons e L ih => intro out; have := ih (riseOne out e.cut80); have := riseOne_len out e.cut80; simp only [List.foldl_cons, List.length_cons]; omega
    simpa using this L []
theorem rise_succ (L : List Ent) (k : Nat) (h : k < L.length) (h2 : k < 30) : rise (L.take (k + 1)) = riseOne (rise (L.take k)) L[k].cut80 := by
  unfold rise
  rw [List.take_take, List.take_take, Nat.min_eq_right (by omega), Nat.min_eq_right (by omega), List.take_succ_eq_append_getElem h, List.foldl_append]
  rfl
theorem k25_beq (a b : K25) : (a.val == b.val) = decide (a = b) := by
  rw [Bool.eq_iff_iff, beq_iff_eq, decide_eq_true_eq]
  exact ⟨Subtype.ext, fun h => by rw [h]⟩
end Go.Proofs.Ytbflpnkodpeggaa

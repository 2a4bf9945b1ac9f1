/- Layer 22: the document's acts, whether a mask lets one be done, and the acts that it lets. -/
import Derived.Test.YteefknjaandjhaaRole2
namespace Go.Proofs.Yteefknjaandjhaa
open Go.RowKit

def actsL : List (List UInt8 × List UInt8) := [([112, 114, 111, 106, 101, 99, 116], []), ([103, 114, 97, 110, 116], [103]), ([108, 111, 99, 97, 108, 101], [109]), ([102, 111, 114, 107], [109]), ([115, 111, 117, 114, 99, 101], [115]), ([100, 114, 111, 112], [115]), ([101, 100, 105, 116], [101]), ([115, 117, 98, 109, 105, 116], [101]), ([97, 112, 112, 114, 111, 118, 101], [118]), ([114, 101, 106, 101, 99, 116], [118]), ([103, 101, 116], [114]), ([108, 105, 115, 116], [114]), ([109, 101, 114, 103, 101], [115, 109]), ([101, 120, 112, 111, 114, 116], [114]), ([105, 109, 112, 111, 114, 116], [101]), ([114, 105, 103, 104, 116, 115], [])]
def bs (l : List UInt8) : ByteArray := ⟨l.toArray⟩
/-- a slice value that holds the document's acts -/
def ActsAt (v : Value) (w : World) : Prop := ∃ b, v = .slice (some ⟨b, 0, none⟩) 16 16 ∧ b < w.heap.size ∧ ∀ k, k < 16 → w.cell? ⟨b, k * 2, none⟩ = some (.string (bs (actsL.getD k ([], [])).1)) ∧ w.cell? ⟨b, k * 2 + 1, none⟩ = some (.string (bs (actsL.getD k ([], [])).2))

set_option maxHeartbeats 800000 in
theorem acts_gives (w : World) : Calls Try.prog 12 #[] w fun e w' => ∃ v, e = .returned v ∧ Below w.heap.size w w' ∧ ActsAt v w' := by
  go_enter Try.func12, Try.ntmps12
  go_wp2_with fail
  go_ret
  refine ⟨_, rfl, (by repeat (first | exact Below.refl _ _ | exact below_of_grow _ _ | exact below_more _ _ _ _ | exact below_same _ _ _ | (refine Below.alloc ?_ (by first | (simp; done) | (simp; omega)) _) | (refine Below.grow ?_ (by first | (simp; done) | (simp; omega)) _ _) | refine Below.drew ?_ | refine Below.drewN ?_ _ | (refine Below.putF ?_ (by first | (simp; done) | omega | (simp; omega)) _) | (refine Below.setCell ?_ (by first | (simp; done) | (simp; omega)) _))), w.heap.size, rfl, by simp, fun k hk => ?_⟩
  have h : k = 0 ∨ k = 1 ∨ k = 2 ∨ k = 3 ∨ k = 4 ∨ k = 5 ∨ k = 6 ∨ k = 7 ∨ k = 8 ∨ k = 9 ∨ k = 10 ∨ k = 11 ∨ k = 12 ∨ k = 13 ∨ k = 14 ∨ k = 15 := by omega
  rcases h with rfl | rfl | rfl | rfl | rfl | rfl | rfl | rfl | rfl | rfl | rfl | rfl | rfl | rfl | rfl | rfl
  all_goals
    rw [World.cell?_alloc_new, World.cell?_alloc_new]
    exact ⟨rfl, rfl⟩

theorem ActsAt.at_ {v : Value} {w : World} (h : ActsAt v w) : ∃ b, v = .slice (some ⟨b, 0, none⟩) 16 16 ∧ b < w.heap.size ∧ ∀ k, k < 16 → w.cell? ⟨b, k * 2, none⟩ = some (.string (bs (actsL.getD k ([], [])).1)) ∧ w.cell? ⟨b, k * 2 + 1, none⟩ = some (.string (bs (actsL.getD k ([], [])).2)) := h

def needsL (a : Int) : List UInt8 := (actsL.getD (a - 1).toNat ([], [])).2
def refMayB (m a : Int) : Bool := decide (1 ≤ a ∧ a ≤ 16 ∧ 0 ≤ m ∧ m ≤ 63 ∧ maskL (needsL a ++ lettersTo m.toNat 6) = m)

theorem cat_list (a b : List UInt8) : (bs a ++ ByteArray.mk b.toArray).data.toList = a ++ b := by simp [bs]
theorem needs_len (k : Nat) : (actsL.getD k ([], [])).2.length ≤ 2 := by
  by_cases hk : k < 16
  · have h : k = 0 ∨ k = 1 ∨ k = 2 ∨ k = 3 ∨ k = 4 ∨ k = 5 ∨ k = 6 ∨ k = 7 ∨ k = 8 ∨ k = 9 ∨ k = 10 ∨ k = 11 ∨ k = 12 ∨ k = 13 ∨ k = 14 ∨ k = 15 := by omega
    rcases h with rfl | rfl | rfl | rfl | rfl | rfl | rfl | rfl | rfl | rfl | rfl | rfl | rfl | rfl | rfl | rfl <;> decide
  · have : actsL.length ≤ k := by simp [actsL]; omega
    rw [List.getD_eq_getElem?_getD, List.getElem?_eq_none this]; decide
theorem cat_size (k q : Nat) : (bs (actsL.getD k ([], [])).2 ++ ByteArray.mk (lettersTo q 6).toArray).size ≤ 1000000 := by
  have h1 := needs_len k
  have h2 := lettersTo_len q 6
  have e : (bs (actsL.getD k ([], [])).2 ++ ByteArray.mk (lettersTo q 6).toArray).size = (actsL.getD k ([], [])).2.length + (lettersTo q 6).length := by
    rw [← ByteArray.size_data, ← Array.length_toList, cat_list, List.length_append]
  omega

set_option maxHeartbeats 800000 in
theorem refMay_gives (m a : Int) (w : World) : Gives Try.prog 14 #[.int .i64 m, .int .i64 a] w (.bool (refMayB m a)) := by
  by_cases h : 1 ≤ a ∧ a ≤ 16 ∧ 0 ≤ m ∧ m ≤ 63
  · obtain ⟨h1, h2, h3, h4⟩ := h
    obtain ⟨q, rfl⟩ := Int.eq_ofNat_of_zero_le h3
    obtain ⟨k, hk⟩ : ∃ k : Nat, a = (k : Int) + 1 := ⟨(a - 1).toNat, by omega⟩
    subst hk
    have hk : k < 16 := by omega
    unfold Gives
    go_enter Try.func14, Try.ntmps14
    go_wp2_with fail
    refine (acts_gives _).mono ?_
    rintro e w1 ⟨v, rfl, hb, b, rfl, hbs, hc⟩
    have hc1 := (hc k hk).2
    clear hc
    have hn := needs_len k
    have hl := lettersTo_len q 6
    have hcs := cat_size k q
    generalize hnl : (actsL.getD k ([], [])).2 = nl at hc1 hn hcs
    have HN := Lib.hid hnl
    clear hnl
    have hz : (bs nl).size ≤ 2 := hn
    obtain ⟨xs, d, rfl⟩ := grow_of_below hb
    clear hb
    go_wp2_with (first | (go_at_call 26; refine Gives.use (letters_gives q (by omega) _) ?_; intro ys d2) | (go_at_call 11; refine Gives.use (mask_gives _ hcs _) ?_; intro zs d3))
    go_ret
    refine ⟨ret_bool ?_, (by repeat (first | exact Below.refl _ _ | exact below_of_grow _ _ | exact below_more _ _ _ _ | exact below_same _ _ _ | (refine Below.alloc ?_ (by first | (simp; done) | (simp; omega)) _) | (refine Below.grow ?_ (by first | (simp; done) | (simp; omega)) _ _) | refine Below.drew ?_ | refine Below.drewN ?_ _ | (refine Below.putF ?_ (by first | (simp; done) | omega | (simp; omega)) _) | (refine Below.setCell ?_ (by first | (simp; done) | (simp; omega)) _)))⟩
    rw [show (bs nl).data.toList = nl from List.toList_toArray, Bool.eq_iff_iff, beq_iff_eq, ← HN.out]
    unfold refMayB needsL
    rw [show ((k : Int) + 1 - 1).toNat = k by omega, Int.toNat_natCast, decide_eq_true_eq]
    omega
  · unfold Gives
    go_enter Try.func14, Try.ntmps14
    go_wp2_with fail
    all_goals (go_ret; exact ⟨ret_bool (by unfold refMayB; simp; omega), (by repeat (first | exact Below.refl _ _ | exact below_of_grow _ _ | exact below_more _ _ _ _ | exact below_same _ _ _ | (refine Below.alloc ?_ (by first | (simp; done) | (simp; omega)) _) | (refine Below.grow ?_ (by first | (simp; done) | (simp; omega)) _ _) | refine Below.drew ?_ | refine Below.drewN ?_ _ | (refine Below.putF ?_ (by first | (simp; done) | omega | (simp; omega)) _) | (refine Below.setCell ?_ (by first | (simp; done) | (simp; omega)) _)))⟩)
end Go.Proofs.Yteefknjaandjhaa

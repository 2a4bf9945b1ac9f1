/- Layer 6 in plain Lean: the key of right parts is right; texts of keys. -/
import Derived.Test.YtcedmfnlkelhkaaGreatDoorQab
import Derived.Test.YtcedmfnlkelhkaaGreatDoorQay
import Derived.Test.YtcedmfnlkelhkaaGreatDoorQai
import Derived.Test.YtcedmfnlkelhkaaGreatDoorQaj
import Derived.Handy
namespace Go.Proofs.YtcedmfnlkelhkaaGreatDoor
set_option maxRecDepth 100000
open Go.RowKit

theorem byteOf_id {x : Int} (h0 : 0 ≤ x) (h : x < 256) : ((byteOf x).toNat : Int) = x := by
 unfold byteOf
 rw [UInt8.toNat_ofNat']
 omega
theorem keyErr_range {k p a : Int} {n t : List UInt8} (h : keyErr k p a n t = 0) : 1 ≤ k ∧ k ≤ 6 ∧ 0 ≤ p ∧ p < 4 ∧ (0 < usedAt k → 0 ≤ a ∧ a < usedAt k) := by
 unfold keyErr at h
 by_cases h1 : k < 1 ∨ 6 < k
 ·rw [if_pos h1] at h; exact absurd h (by decide)
 rw [if_neg h1] at h
 by_cases h2 : p < 0 ∨ 4 ≤ p ∨ (0 < usedAt k ∧ (a < 0 ∨ usedAt k ≤ a))
 ·rw [if_pos h2] at h; exact absurd h (by decide)
 omega
theorem keyErr_same {k p a a' : Int} {n t n' t' : List UInt8} (h1 : 0 < usedAt k → a' = a) (h2 : usedName k = true → n' = n) (h3 : usedTag k = true → t' = t) : keyErr k p a' n' t' = keyErr k p a n t := by
 unfold keyErr
 by_cases u1 : 0 < usedAt k
 ·rw [h1 u1]
  by_cases u2 : usedName k = true
  ·rw [h2 u2]
   by_cases u3 : usedTag k = true
   ·rw [h3 u3]
   ·simp [u3]
  ·by_cases u3 : usedTag k = true
   ·rw [h3 u3]; simp [u2]
   ·simp [u2, u3]
 ·by_cases u2 : usedName k = true
  ·rw [h2 u2]
   by_cases u3 : usedTag k = true
   ·rw [h3 u3]; simp [u1]
   ·simp [u1, u3]
  ·by_cases u3 : usedTag k = true
   ·rw [h3 u3]; simp [u1, u2]
   ·simp [u1, u2, u3]
theorem keyMade_same {k p a a' : Int} {n t n' t' : List UInt8} (h1 : 0 < usedAt k → a' = a) (h2 : usedName k = true → n' = n) (h3 : usedTag k = true → t' = t) : keyMade k p a' n' t' = keyMade k p a n t := by
 unfold keyMade
 by_cases u1 : 0 < usedAt k <;> by_cases u2 : usedName k = true <;> by_cases u3 : usedTag k = true <;> simp [u1, u2, u3] <;> simp_all
theorem made_parts (k p a : Int) (n t : List UInt8) (hn : n.length = 12) (_ht : t.length = 10) :
  kKind (keyMade k p a n t) = byteOf k ∧ kProj (keyMade k p a n t) = byteOf p ∧ kAt (keyMade k p a n t) = (if 0 < usedAt k then byteOf a else 0) ∧ kName (keyMade k p a n t) = (if usedName k = true then n else zeros 12) ∧ kTag (keyMade k p a n t) = (if usedTag k = true then t else zeros 10) := by
 have hn2 : (if usedName k = true then n else zeros 12).length = 12 := by split <;> simp [hn, zeros]
 unfold keyMade kKind kProj kAt kName kTag
 generalize (if usedName k = true then n else zeros 12) = N at *
 generalize (if usedTag k = true then t else zeros 10) = T at *
 refine ⟨rfl, rfl, rfl, ?_, ?_⟩
 ·simp only [List.cons_append, List.nil_append, List.drop_succ_cons, List.drop_zero]
  rw [List.take_append, hn2, List.take_of_length_le (by omega)]; simp
 ·simp only [List.cons_append, List.nil_append, List.drop_succ_cons]
  rw [List.drop_append, hn2, List.drop_of_length_le (by omega)]; simp
/-- the parts of a right key -/
theorem right_err {k : List UInt8} (h : keyRight k = true) : keyErr (kKind k).toNat (kProj k).toNat (kAt k).toNat (kName k) (kTag k) = 0 := by
 unfold keyRight at h
 rw [Bool.and_eq_true, decide_eq_true_eq] at h
 exact h.1
theorem right_made {k : List UInt8} (h : keyRight k = true) : keyMade (kKind k).toNat (kProj k).toNat (kAt k).toNat (kName k) (kTag k) = k := by
 have h0 := right_err h
 unfold keyRight at h
 rw [Bool.and_eq_true, decide_eq_true_eq, beq_iff_eq] at h
 have := h.2
 unfold keyOf at this
 rwa [if_pos h0] at this
end Go.Proofs.YtcedmfnlkelhkaaGreatDoor
namespace Go.Proofs.YtcedmfnlkelhkaaGreatDoor
set_option maxRecDepth 100000
open Go.RowKit

/-! what is read of a text -/
structure KRead where
 kind : Int
 proj : Int
 at_ : Int
 name : List UInt8
 tag : List UInt8
def KRead.key (x : KRead) : List UInt8 := keyOf x.kind x.proj x.at_ x.name x.tag
end Go.Proofs.YtcedmfnlkelhkaaGreatDoor
namespace Go.Proofs.YtcedmfnlkelhkaaGreatDoor
set_option maxRecDepth 100000
open Go.RowKit

theorem cellsK {w : World} {b : Nat} {c : Array Value} {t : TypeId} (h : w.heap[b]? = some (.cells c t)) (i : Nat) : w.cell? ⟨b, i, none⟩ = c[i]? ∧ w.frozen? ⟨b, i, none⟩ = false := by
 simp [World.cell?, World.frozen?, h]
end Go.Proofs.YtcedmfnlkelhkaaGreatDoor

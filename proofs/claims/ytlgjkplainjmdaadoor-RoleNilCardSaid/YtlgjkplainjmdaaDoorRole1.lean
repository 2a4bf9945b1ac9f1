/- Layer 22: masks and letters, as the document has them. -/
import Derived.Test.YtlgjkplainjmdaaDoorSpec
import Derived.Lib.Hide
namespace Go.Proofs.YtlgjkplainjmdaaDoor
open Go.RowKit

def lettersL : List UInt8 := [114, 101, 118, 115, 109, 103]
/-- the mask of the first i letters that are in s -/
def maskTo (s : List UInt8) : Nat → Int
  | 0 => 0
  | i + 1 => maskTo s i + if lettersL.getD i 0 ∈ s then 2 ^ i else 0
def maskL (s : List UInt8) : Int := maskTo s 6

theorem pow_bd {k : Nat} (h : k < 6) : 1 ≤ (2 : Int) ^ k ∧ (2 : Int) ^ k ≤ 32 ∧ (2 : Int) ^ (k + 1) = 2 ^ k * 2 := by
  refine ⟨?_, ?_, Int.pow_succ 2 k⟩
  · match k, h with
    | 0, _ | 1, _ | 2, _ | 3, _ | 4, _ | 5, _ => decide
  · match k, h with
    | 0, _ | 1, _ | 2, _ | 3, _ | 4, _ | 5, _ => decide
theorem maskTo_bd (s : List UInt8) : ∀ k, k ≤ 6 → 0 ≤ maskTo s k ∧ maskTo s k < 2 ^ k
  | 0, _ => by simp [maskTo]
  | k + 1, h => by
    have ih := maskTo_bd s k (by omega)
    have hp := pow_bd (k := k) (by omega)
    simp only [maskTo]
    split <;> omega
theorem let_at (k : Nat) (h : k < (ByteArray.mk #[114, 101, 118, 115, 109, 103]).size) : (ByteArray.mk #[114, 101, 118, 115, 109, 103])[k] = lettersL.getD k 0 := by
  have h' : k < 6 := h
  match k, h' with
  | 0, _ | 1, _ | 2, _ | 3, _ | 4, _ | 5, _ => rfl
theorem byte_eq {a b : UInt8} : (((a.toNat : Int) == (b.toNat : Int)) = true) = (a = b) := by
  rw [beq_iff_eq, Int.ofNat_inj, UInt8.toNat_inj]
theorem byte_ne {a b : UInt8} : (((a.toNat : Int) == (b.toNat : Int)) = false) = ¬ (a = b) := by
  rw [← byte_eq]; simp
theorem at_size {s : ByteArray} {q : Nat} (h : q < s.size) : s.data.toList[q]? = some s[q] := by
  have : q < s.data.toList.length := by simpa using h
  rw [List.getElem?_eq_getElem this]; rfl

end Go.Proofs.YtlgjkplainjmdaaDoor

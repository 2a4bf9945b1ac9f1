/- Layer 22, plain: rights as bits and rights as letters are one. -/
import Derived.Test.YteefknjaandjhaaRole6
namespace Go.Proofs.Yteefknjaandjhaa
open Go.RowKit

theorem may_ref_fin : ∀ m : Fin 64, ∀ a : Fin 17, refMayB m.val a.val = mayB m.val a.val := by decide +kernel
theorem may_ref (m a : Int) : refMayB m a = mayB m a := by
  by_cases h : 1 ≤ a ∧ a ≤ 16 ∧ 0 ≤ m ∧ m ≤ 63
  · obtain ⟨p, rfl⟩ := Int.eq_ofNat_of_zero_le (a := a) (by omega)
    obtain ⟨q, rfl⟩ := Int.eq_ofNat_of_zero_le (a := m) (by omega)
    exact may_ref_fin ⟨q, by omega⟩ ⟨p, by omega⟩
  · unfold refMayB mayB
    rw [decide_eq_false (fun hh => h ⟨hh.1, hh.2.1, hh.2.2.1, hh.2.2.2.1⟩), decide_eq_false (fun hh => h ⟨hh.1, hh.2.1, hh.2.2.1, hh.2.2.2.1⟩)]

theorem need_ref_fin : ∀ a : Fin 17, 1 ≤ a.val → maskL (needsL a.val) = need a.val := by decide +kernel
theorem need_ref {a : Int} (h : 1 ≤ a ∧ a ≤ 16) : maskL (needsL a) = need a := by
  obtain ⟨p, rfl⟩ := Int.eq_ofNat_of_zero_le (a := a) (by omega)
  exact need_ref_fin ⟨p, by omega⟩ (by show 1 ≤ p; omega)

def ofBits (b0 b1 b2 b3 b4 b5 : Bool) : Nat := (if b0 then 1 else 0) + (if b1 then 2 else 0) + (if b2 then 4 else 0) + (if b3 then 8 else 0) + (if b4 then 16 else 0) + (if b5 then 32 else 0)
theorem ofBits_or : ∀ b0 b1 b2 b3 b4 b5 c0 c1 c2 c3 c4 c5 : Bool, ofBits (b0 || c0) (b1 || c1) (b2 || c2) (b3 || c3) (b4 || c4) (b5 || c5) = ofBits b0 b1 b2 b3 b4 b5 ||| ofBits c0 c1 c2 c3 c4 c5 := by decide +kernel
def maskN (s : List UInt8) : Nat := ofBits (s.contains 114) (s.contains 101) (s.contains 118) (s.contains 115) (s.contains 109) (s.contains 103)
theorem maskL_eq (s : List UInt8) : maskL s = maskN s := by
  unfold maskL maskN ofBits
  simp only [maskTo, lettersL, List.getD_cons_zero, List.getD_cons_succ, List.contains_iff_mem]
  by_cases h0 : (114 : UInt8) ∈ s <;> by_cases h1 : (101 : UInt8) ∈ s <;> by_cases h2 : (118 : UInt8) ∈ s <;> by_cases h3 : (115 : UInt8) ∈ s <;> by_cases h4 : (109 : UInt8) ∈ s <;> by_cases h5 : (103 : UInt8) ∈ s <;> simp [h0, h1, h2, h3, h4, h5]
theorem maskN_append (a b : List UInt8) : maskN (a ++ b) = maskN a ||| maskN b := by
  unfold maskN
  rw [← ofBits_or]
  simp

/-- the letters of the rights that acts need, one behind the other -/
def leastS (l : List Int) : List UInt8 := l.flatMap fun a => if 1 ≤ a ∧ a ≤ 16 then needsL a else []
theorem leastS_snoc (l : List Int) (a : Int) : leastS (l ++ [a]) = leastS l ++ if 1 ≤ a ∧ a ≤ 16 then needsL a else [] := by simp [leastS]
theorem needsL_len (a : Int) : (needsL a).length ≤ 2 := needs_len _
theorem leastS_len : ∀ l : List Int, (leastS l).length ≤ 2 * l.length
  | [] => by simp [leastS]
  | a :: l => by
    have h1 := leastS_len l
    have h2 := needsL_len a
    have e : leastS (a :: l) = (if 1 ≤ a ∧ a ≤ 16 then needsL a else []) ++ leastS l := rfl
    rw [e, List.length_append, List.length_cons]
    split
    · omega
    · rw [List.length_nil]; omega
theorem need_out {a : Int} (h : ¬ (1 ≤ a ∧ a ≤ 16)) : need a = 0 := if_neg h
theorem least_ref_go : ∀ (l : List Int) (q : Nat), l.foldl (fun acc a => acc ||| (need a).toNat) q = q ||| maskN (leastS l)
  | [], q => by simp [leastS, maskN, ofBits]
  | a :: l, q => by
    rw [List.foldl_cons, least_ref_go l]
    have e : leastS (a :: l) = (if 1 ≤ a ∧ a ≤ 16 then needsL a else []) ++ leastS l := by simp [leastS]
    rw [e, maskN_append, ← Nat.or_assoc]
    congr 2
    split
    · rename_i h
      have := need_ref h
      rw [maskL_eq] at this
      omega
    · rename_i h
      rw [need_out h]; rfl
theorem least_ref (l : List Int) : (leastN l : Int) = maskL (leastS l) := by
  rw [maskL_eq]
  unfold leastN
  rw [least_ref_go, Nat.zero_or]
theorem acts_pick (m : Int) (i : Nat) (h : i < 17) (hm : mayB m i = true) : (actsTo m i).length < (actsTo m 17).length ∧ (actsTo m 17)[(actsTo m i).length]? = some i := by
  have e : ∀ d, i + 1 + d ≤ 17 → ∃ r, actsTo m (i + 1 + d) = actsTo m i ++ i :: r := by
    intro d
    induction d with
    | zero => intro _; exact ⟨[], by rw [Nat.add_zero, actsTo_succ, if_pos hm]⟩
    | succ d ih =>
      intro hd
      obtain ⟨r, hr⟩ := ih (by omega)
      exact ⟨r ++ (if mayB m (i + 1 + d : Nat) = true then [i + 1 + d] else []), by rw [← Nat.add_assoc, actsTo_succ, hr]; simp⟩
  obtain ⟨r, hr⟩ := e (16 - i) (by omega)
  rw [show i + 1 + (16 - i) = 17 by omega] at hr
  rw [hr]
  exact ⟨by simp, by simp⟩
end Go.Proofs.Yteefknjaandjhaa

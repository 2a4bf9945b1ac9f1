/- Layer 22: letters of a mask; acts; what they need. -/
import Derived.Test.YtlgjkplainjmdaaDoorRole1
import Derived.Test.YtlgjkplainjmdaaDoorRow
import Derived.Test.YtlgjkplainjmdaaDoorStr
namespace Go.Proofs.YtlgjkplainjmdaaDoor
open Go.RowKit
set_option maxRecDepth 100000

/-- the letters of the first k bits of m -/
def lettersTo (m : Nat) : Nat → List UInt8
  | 0 => []
  | k + 1 => lettersTo m k ++ if m / 2 ^ k % 2 = 1 then [lettersL.getD k 0] else []

theorem div_pow_succ (m k : Nat) : m / 2 ^ (k + 1) = m / 2 ^ k / 2 := by rw [Nat.pow_succ, Nat.div_div_eq_div_mul]
theorem lettersTo_len (m : Nat) : ∀ k, (lettersTo m k).length ≤ k
  | 0 => by simp [lettersTo]
  | k + 1 => by have := lettersTo_len m k; simp only [lettersTo, List.length_append]; split <;> simp <;> omega
theorem let_cut {k : Nat} (h : k < 6) : (ByteArray.mk #[114, 101, 118, 115, 109, 103]).extract k (k + 1) = ByteArray.mk #[lettersL.getD k 0] := by
  match k, h with
  | 0, _ | 1, _ | 2, _ | 3, _ | 4, _ | 5, _ => decide +kernel

theorem is_yes (a : Int) (h : 1 ≤ a ∧ a ≤ 16) (w : World) : Gives Tryd.prog 9 #[.int .i64 a] w (.bool true) := by
  unfold Gives
  go_enter Tryd.func9, Tryd.ntmps9
  go_wp2_with fail
  go_ret
  exact ⟨ret_bool (by simp), (by repeat (first | exact below_of_grow _ _ | exact Below.refl _ _ | exact below_more _ _ _ _ | (simp only [← Array.append_assoc]; first | exact below_more _ _ _ _ | exact below_same _ _ _ | exact Below.refl _ _) | exact below_same _ _ _ | (refine Below.alloc ?_ (by first | (simp; done) | (simp; omega)) _) | (refine Below.grow ?_ (by first | (simp; done) | (simp; omega)) _ _) | refine Below.drew ?_ | refine Below.drewN ?_ _ | (refine Below.putF ?_ (by first | (simp; done) | omega | (simp; omega)) _) | (refine Below.setCell ?_ (by first | (simp; done) | (simp; omega)) _)))⟩
theorem is_no (a : Int) (h : ¬ (1 ≤ a ∧ a ≤ 16)) (w : World) : Gives Tryd.prog 9 #[.int .i64 a] w (.bool false) := by
  unfold Gives
  go_enter Tryd.func9, Tryd.ntmps9
  go_wp2_with fail
  all_goals (go_ret; refine ⟨ret_bool ?_, (by repeat (first | exact below_of_grow _ _ | exact Below.refl _ _ | exact below_more _ _ _ _ | (simp only [← Array.append_assoc]; first | exact below_more _ _ _ _ | exact below_same _ _ _ | exact Below.refl _ _) | exact below_same _ _ _ | (refine Below.alloc ?_ (by first | (simp; done) | (simp; omega)) _) | (refine Below.grow ?_ (by first | (simp; done) | (simp; omega)) _ _) | refine Below.drew ?_ | refine Below.drewN ?_ _ | (refine Below.putF ?_ (by first | (simp; done) | omega | (simp; omega)) _) | (refine Below.setCell ?_ (by first | (simp; done) | (simp; omega)) _)))⟩)
  all_goals first | rfl | (simp; omega)

def needL : List Int := [0, 0, 32, 16, 16, 8, 8, 2, 2, 4, 4, 1, 1, 24, 1, 2, 0]
def need (a : Int) : Int := if 1 ≤ a ∧ a ≤ 16 then needL.getD a.toNat 0 else 0

theorem i64_and_nat (a b : Nat) (ha : a < 1024) (hb : b < 1024) : bits .and .i64 (a : Int) (b : Int) = ((a &&& b : Nat) : Int) := by
  have hx : a &&& b < 2 ^ 10 := Nat.and_lt_two_pow _ (by omega)
  have e : ∀ c : Nat, c < 1024 → (BitVec.ofInt 64 (c : Int)).toNat = c := by
    intro c hc; rw [BitVec.ofInt_natCast, BitVec.toNat_ofNat]; exact Nat.mod_eq_of_lt (by omega)
  show IntKind.i64.wrap ((BitVec.ofInt 64 (a : Int) &&& BitVec.ofInt 64 (b : Int)).toNat : Int) = _
  rw [BitVec.toNat_and, e a ha, e b hb]
  exact IntWalk.i64_in _ (by omega)
theorem i64_or_nat (a b : Nat) (ha : a < 1024) (hb : b < 1024) : bits .or .i64 (a : Int) (b : Int) = ((a ||| b : Nat) : Int) := by
  have hx : a ||| b < 2 ^ 10 := Nat.or_lt_two_pow (by omega) (by omega)
  have e : ∀ c : Nat, c < 1024 → (BitVec.ofInt 64 (c : Int)).toNat = c := by
    intro c hc; rw [BitVec.ofInt_natCast, BitVec.toNat_ofNat]; exact Nat.mod_eq_of_lt (by omega)
  show IntKind.i64.wrap ((BitVec.ofInt 64 (a : Int) ||| BitVec.ofInt 64 (b : Int)).toNat : Int) = _
  rw [BitVec.toNat_or, e a ha, e b hb]
  exact IntWalk.i64_in _ (by omega)

@[go_sem] theorem agg_17int : Tryd.prog.aggSize 75 = some 17 := by kernel_rfl
@[go_sem ↓ high] theorem ld_17int (a : Addr) : loadVar 75 a = rowLoad 75 a := rfl
@[go_sem ↓ high] theorem st_17int (a : Addr) (v : Value) : storeVar 75 a v = rowStore 75 a v := rfl
theorem needs_gives (w : World) : Gives Tryd.prog 22 #[] w (.agg #[.int .i64 0, .int .i64 0, .int .i64 32, .int .i64 16, .int .i64 16, .int .i64 8, .int .i64 8, .int .i64 2, .int .i64 2, .int .i64 4, .int .i64 4, .int .i64 1, .int .i64 1, .int .i64 24, .int .i64 1, .int .i64 2, .int .i64 0]) := by
  unfold Gives
  go_enter Tryd.func22, Tryd.ntmps22
  go_wp2_with fail
  exact bodyPost_ret (results_one Tryd.results22 (ResIs.row rfl agg_17int (by simp [go_sem]))) rfl ⟨rfl, (by repeat (first | exact below_of_grow _ _ | exact Below.refl _ _ | exact below_more _ _ _ _ | (simp only [← Array.append_assoc]; first | exact below_more _ _ _ _ | exact below_same _ _ _ | exact Below.refl _ _) | exact below_same _ _ _ | (refine Below.alloc ?_ (by first | (simp; done) | (simp; omega)) _) | (refine Below.grow ?_ (by first | (simp; done) | (simp; omega)) _ _) | refine Below.drew ?_ | refine Below.drewN ?_ _ | (refine Below.putF ?_ (by first | (simp; done) | omega | (simp; omega)) _) | (refine Below.setCell ?_ (by first | (simp; done) | (simp; omega)) _)))⟩

theorem needs_at' : ∀ k : Fin 17, ∀ w, (Instr.index 75 (.agg #[.int .i64 0, .int .i64 0, .int .i64 32, .int .i64 16, .int .i64 16, .int .i64 8, .int .i64 8, .int .i64 2, .int .i64 2, .int .i64 4, .int .i64 4, .int .i64 1, .int .i64 1, .int .i64 24, .int .i64 1, .int .i64 2, .int .i64 0]) (.int .i64 (k.val : Nat))).run Tryd.prog w = .ok (.int .i64 (needL.getD k.val 0)) w := by
  intro k w
  rcases k with ⟨k, hk⟩
  have h : k = 0 ∨ k = 1 ∨ k = 2 ∨ k = 3 ∨ k = 4 ∨ k = 5 ∨ k = 6 ∨ k = 7 ∨ k = 8 ∨ k = 9 ∨ k = 10 ∨ k = 11 ∨ k = 12 ∨ k = 13 ∨ k = 14 ∨ k = 15 ∨ k = 16 := by omega
  rcases h with rfl | rfl | rfl | rfl | rfl | rfl | rfl | rfl | rfl | rfl | rfl | rfl | rfl | rfl | rfl | rfl | rfl <;> rfl
theorem needs_at (k : Nat) (h : k ≤ 16) (w : World) : (Instr.index 75 (.agg #[.int .i64 0, .int .i64 0, .int .i64 32, .int .i64 16, .int .i64 16, .int .i64 8, .int .i64 8, .int .i64 2, .int .i64 2, .int .i64 4, .int .i64 4, .int .i64 1, .int .i64 1, .int .i64 24, .int .i64 1, .int .i64 2, .int .i64 0]) (.int .i64 k)).run Tryd.prog w = .ok (.int .i64 (needL.getD k 0)) w := needs_at' ⟨k, by omega⟩ w

set_option maxHeartbeats 800000 in
theorem need_gives (a : Int) (w : World) : Gives Tryd.prog 17 #[.int .i64 a] w (.int .i64 (need a)) := by
  by_cases h : 1 ≤ a ∧ a ≤ 16
  · obtain ⟨k, rfl⟩ := Int.eq_ofNat_of_zero_le (a := a) (by omega)
    have hk := needs_at k (by omega)
    unfold Gives
    go_enter Tryd.func17, Tryd.ntmps17
    go_wp2_with (first | (go_at_call 9; refine Gives.use (is_yes _ h _) ?_; intro xs d) | (go_at_call 22; refine Gives.use (needs_gives _) ?_; intro ys e))
    go_ret
    exact ⟨ret_int (by unfold need; rw [if_pos h]; rfl), (by repeat (first | exact below_of_grow _ _ | exact Below.refl _ _ | exact below_more _ _ _ _ | (simp only [← Array.append_assoc]; first | exact below_more _ _ _ _ | exact below_same _ _ _ | exact Below.refl _ _) | exact below_same _ _ _ | (refine Below.alloc ?_ (by first | (simp; done) | (simp; omega)) _) | (refine Below.grow ?_ (by first | (simp; done) | (simp; omega)) _ _) | refine Below.drew ?_ | refine Below.drewN ?_ _ | (refine Below.putF ?_ (by first | (simp; done) | omega | (simp; omega)) _) | (refine Below.setCell ?_ (by first | (simp; done) | (simp; omega)) _)))⟩
  · unfold Gives
    go_enter Tryd.func17, Tryd.ntmps17
    go_wp2_with (go_at_call 9; refine Gives.use (is_no _ h _) ?_; intro xs d)
    go_ret
    exact ⟨ret_int (by unfold need; rw [if_neg h]), (by repeat (first | exact below_of_grow _ _ | exact Below.refl _ _ | exact below_more _ _ _ _ | (simp only [← Array.append_assoc]; first | exact below_more _ _ _ _ | exact below_same _ _ _ | exact Below.refl _ _) | exact below_same _ _ _ | (refine Below.alloc ?_ (by first | (simp; done) | (simp; omega)) _) | (refine Below.grow ?_ (by first | (simp; done) | (simp; omega)) _ _) | refine Below.drew ?_ | refine Below.drewN ?_ _ | (refine Below.putF ?_ (by first | (simp; done) | omega | (simp; omega)) _) | (refine Below.setCell ?_ (by first | (simp; done) | (simp; omega)) _)))⟩

theorem need_bd (a : Int) : 0 ≤ need a ∧ need a ≤ 63 := by
  unfold need
  split
  · rename_i h
    obtain ⟨k, rfl⟩ := Int.eq_ofNat_of_zero_le (a := a) (by omega)
    have h3 : k < 17 := by omega
    rw [Int.toNat_natCast]
    match k, h3 with
    | 0, _ | 1, _ | 2, _ | 3, _ | 4, _ | 5, _ | 6, _ | 7, _ | 8, _ | 9, _ | 10, _ | 11, _ | 12, _ | 13, _ | 14, _ | 15, _ | 16, _ => decide
  · decide

def mayB (m a : Int) : Bool := decide (1 ≤ a ∧ a ≤ 16 ∧ 0 ≤ m ∧ m ≤ 63 ∧ (m.toNat &&& (need a).toNat) = (need a).toNat)

set_option maxHeartbeats 800000 in
theorem may_gives (m a : Int) (w : World) : Gives Tryd.prog 10 #[.int .i64 m, .int .i64 a] w (.bool (mayB m a)) := by
  by_cases h : 1 ≤ a ∧ a ≤ 16
  · by_cases h2 : 0 ≤ m ∧ m ≤ 63
    · obtain ⟨q, rfl⟩ := Int.eq_ofNat_of_zero_le h2.1
      have hb := need_bd a
      unfold Gives
      go_enter Tryd.func10, Tryd.ntmps10
      go_wp2_with (first | (go_at_call 9; refine Gives.use (is_yes _ h _) ?_; intro xs d) | (go_at_call 17; refine Gives.use (need_gives _ _) ?_; intro ys e))
      go_ret
      refine ⟨ret_bool ?_, (by repeat (first | exact below_of_grow _ _ | exact Below.refl _ _ | exact below_more _ _ _ _ | (simp only [← Array.append_assoc]; first | exact below_more _ _ _ _ | exact below_same _ _ _ | exact Below.refl _ _) | exact below_same _ _ _ | (refine Below.alloc ?_ (by first | (simp; done) | (simp; omega)) _) | (refine Below.grow ?_ (by first | (simp; done) | (simp; omega)) _ _) | refine Below.drew ?_ | refine Below.drewN ?_ _ | (refine Below.putF ?_ (by first | (simp; done) | omega | (simp; omega)) _) | (refine Below.setCell ?_ (by first | (simp; done) | (simp; omega)) _)))⟩
      obtain ⟨n, hn⟩ := Int.eq_ofNat_of_zero_le hb.1
      unfold mayB
      rw [hn] at hb ⊢
      rw [i64_and_nat q n (by omega) (by omega), Bool.eq_iff_iff, beq_iff_eq, decide_eq_true_eq]
      simp only [Int.toNat_natCast]
      omega
    · unfold Gives
      go_enter Tryd.func10, Tryd.ntmps10
      go_wp2_with (first | (go_at_call 9; refine Gives.use (is_yes _ h _) ?_; intro xs d) | (go_at_call 17; refine Gives.use (need_gives _ _) ?_; intro ys e))
      all_goals (go_ret; exact ⟨ret_bool (by unfold mayB; simp; omega), (by repeat (first | exact below_of_grow _ _ | exact Below.refl _ _ | exact below_more _ _ _ _ | (simp only [← Array.append_assoc]; first | exact below_more _ _ _ _ | exact below_same _ _ _ | exact Below.refl _ _) | exact below_same _ _ _ | (refine Below.alloc ?_ (by first | (simp; done) | (simp; omega)) _) | (refine Below.grow ?_ (by first | (simp; done) | (simp; omega)) _ _) | refine Below.drew ?_ | refine Below.drewN ?_ _ | (refine Below.putF ?_ (by first | (simp; done) | omega | (simp; omega)) _) | (refine Below.setCell ?_ (by first | (simp; done) | (simp; omega)) _)))⟩)
  · unfold Gives
    go_enter Tryd.func10, Tryd.ntmps10
    go_wp2_with (go_at_call 9; refine Gives.use (is_no _ h _) ?_; intro xs d)
    go_ret
    exact ⟨ret_bool (by unfold mayB; simp; omega), (by repeat (first | exact below_of_grow _ _ | exact Below.refl _ _ | exact below_more _ _ _ _ | (simp only [← Array.append_assoc]; first | exact below_more _ _ _ _ | exact below_same _ _ _ | exact Below.refl _ _) | exact below_same _ _ _ | (refine Below.alloc ?_ (by first | (simp; done) | (simp; omega)) _) | (refine Below.grow ?_ (by first | (simp; done) | (simp; omega)) _ _) | refine Below.drew ?_ | refine Below.drewN ?_ _ | (refine Below.putF ?_ (by first | (simp; done) | omega | (simp; omega)) _) | (refine Below.setCell ?_ (by first | (simp; done) | (simp; omega)) _)))⟩
end Go.Proofs.YtlgjkplainjmdaaDoor

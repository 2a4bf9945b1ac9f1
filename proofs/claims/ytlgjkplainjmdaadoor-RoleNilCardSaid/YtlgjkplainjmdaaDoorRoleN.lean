/- Layer 22: what anybody may without a reader, and in a store without records. -/
import Derived.Test.YtlgjkplainjmdaaDoorStoreE
import Derived.Test.YtlgjkplainjmdaaDoorKeyP
import Derived.Test.YtlgjkplainjmdaaDoorRole6
import Derived.Handy
namespace Go.Proofs.YtlgjkplainjmdaaDoor
set_option maxRecDepth 100000
open Go.RowKit

theorem ofNil_gives (p u : Int) (w : World) : Gives Tryd.prog 4 #[.nilIface, .int .i64 p, .int .i64 u] w (.tuple #[.int .i64 0, .bool false]) := by
  unfold Gives
  go_enter Tryd.func4, Tryd.ntmps4
  go_wp2_with fail
  exact bodyPost_ret (v := .tuple #[.int .i64 0, .bool false]) (by simp [results, Tryd.results4, go_sem]) rfl ⟨rfl, (by repeat (first | exact below_of_grow _ _ | exact Below.refl _ _ | exact below_more _ _ _ _ | (simp only [← Array.append_assoc]; first | exact below_more _ _ _ _ | exact below_same _ _ _ | exact Below.refl _ _) | exact below_same _ _ _ | (refine Below.alloc ?_ (by first | (simp; done) | (simp; omega)) _) | (refine Below.grow ?_ (by first | (simp; done) | (simp; omega)) _ _) | refine Below.drew ?_ | refine Below.drewN ?_ _ | (refine Below.putF ?_ (by first | (simp; done) | omega | (simp; omega)) _) | (refine Below.setCell ?_ (by first | (simp; done) | (simp; omega)) _)))⟩
theorem checkNil_gives (p u a : Int) (w : World) : Gives Tryd.prog 5 #[.nilIface, .int .i64 p, .int .i64 u, .int .i64 a] w (.int .i64 1) := by
  unfold Gives
  go_enter Tryd.func5, Tryd.ntmps5
  go_wp2_with fail
  go_ret
  exact ⟨rfl, (by repeat (first | exact below_of_grow _ _ | exact Below.refl _ _ | exact below_more _ _ _ _ | (simp only [← Array.append_assoc]; first | exact below_more _ _ _ _ | exact below_same _ _ _ | exact Below.refl _ _) | exact below_same _ _ _ | (refine Below.alloc ?_ (by first | (simp; done) | (simp; omega)) _) | (refine Below.grow ?_ (by first | (simp; done) | (simp; omega)) _ _) | refine Below.drew ?_ | refine Below.drewN ?_ _ | (refine Below.putF ?_ (by first | (simp; done) | omega | (simp; omega)) _) | (refine Below.setCell ?_ (by first | (simp; done) | (simp; omega)) _)))⟩
/-- a snap as a reader -/
def snapI (s : Nat) : Value := .iface 30 (.agg #[.pointer (some ⟨s, 0, none⟩), .int .u64 0])
set_option maxHeartbeats 2000000 in
theorem ofE_gives (p u : Int) (s : Nat) (w : World) (h : EmptyS w s) : Gives Tryd.prog 4 #[snapI s, .int .i64 p, .int .i64 u] w (.tuple #[.int .i64 0, .bool false]) := by
  unfold snapI
  by_cases hr : 0 ≤ p ∧ p < 4 ∧ 0 ≤ u ∧ u < 16
  · obtain ⟨h1, h2, h3, h4⟩ := hr
    have hk := keyP_gives p h1 h2
    have hrd : ∀ W, Below w.heap.size w W → Gives Tryd.prog 91 #[.agg #[.pointer (some ⟨s, 0, none⟩), .int .u64 0], .agg (row8 (projL p))] W (.tuple #[.agg (recA Rec.zero), .bool false]) := fun W hb => snapRead_gives _ (projL_len p) s 0 W (h.keep hb)
    have HK := Lib.hid hk
    have HR := Lib.hid hrd
    clear hk hrd h
    have hp := projL_len p
    generalize projL p = k at *
    unfold Gives
    go_enter Tryd.func4, Tryd.ntmps4
    go_wp2_with fail
    refine Gives.use (HK.out _) ?_
    intro xs0 d0
    go_wp2_with fail
    refine Gives.use (HR.out _ (by repeat (first | exact below_of_grow _ _ | exact Below.refl _ _ | exact below_more _ _ _ _ | (simp only [← Array.append_assoc]; first | exact below_more _ _ _ _ | exact below_same _ _ _ | exact Below.refl _ _) | exact below_same _ _ _ | (refine Below.alloc ?_ (by first | (simp; done) | (simp; omega)) _) | (refine Below.grow ?_ (by first | (simp; done) | (simp; omega)) _ _) | refine Below.drew ?_ | refine Below.drewN ?_ _ | (refine Below.putF ?_ (by first | (simp; done) | omega | (simp; omega)) _) | (refine Below.setCell ?_ (by first | (simp; done) | (simp; omega)) _)))) ?_
    intro xs1 d1
    go_wp2_with fail
    exact bodyPost_ret (v := .tuple #[.int .i64 0, .bool false]) (by simp [results, Tryd.results4, go_sem]) rfl ⟨rfl, (by repeat (first | exact below_of_grow _ _ | exact Below.refl _ _ | exact below_more _ _ _ _ | (simp only [← Array.append_assoc]; first | exact below_more _ _ _ _ | exact below_same _ _ _ | exact Below.refl _ _) | exact below_same _ _ _ | (refine Below.alloc ?_ (by first | (simp; done) | (simp; omega)) _) | (refine Below.grow ?_ (by first | (simp; done) | (simp; omega)) _ _) | refine Below.drew ?_ | refine Below.drewN ?_ _ | (refine Below.putF ?_ (by first | (simp; done) | omega | (simp; omega)) _) | (refine Below.setCell ?_ (by first | (simp; done) | (simp; omega)) _)))⟩
  · have hg : (decide (p < 0) || decide (4 ≤ p) || decide (u < 0) || decide (16 ≤ u)) = true := by simp; omega
    clear h
    unfold Gives
    go_enter Tryd.func4, Tryd.ntmps4
    go_wp2_with fail
    all_goals exact bodyPost_ret (v := .tuple #[.int .i64 0, .bool false]) (by simp [results, Tryd.results4, go_sem]) rfl ⟨rfl, (by repeat (first | exact below_of_grow _ _ | exact Below.refl _ _ | exact below_more _ _ _ _ | (simp only [← Array.append_assoc]; first | exact below_more _ _ _ _ | exact below_same _ _ _ | exact Below.refl _ _) | exact below_same _ _ _ | (refine Below.alloc ?_ (by first | (simp; done) | (simp; omega)) _) | (refine Below.grow ?_ (by first | (simp; done) | (simp; omega)) _ _) | refine Below.drew ?_ | refine Below.drewN ?_ _ | (refine Below.putF ?_ (by first | (simp; done) | omega | (simp; omega)) _) | (refine Below.setCell ?_ (by first | (simp; done) | (simp; omega)) _)))⟩
def chkE (p u a : Int) : Int := if 1 ≤ a ∧ a ≤ 16 then (if 0 ≤ p ∧ p < 4 ∧ 0 ≤ u ∧ u < 16 then (if a = 1 then 0 else 7) else 5) else 16
set_option maxHeartbeats 4000000 in
theorem checkE_gives (p u a : Int) (s : Nat) (w : World) (h : EmptyS w s) : Gives Tryd.prog 5 #[snapI s, .int .i64 p, .int .i64 u, .int .i64 a] w (.int .i64 (chkE p u a)) := by
  have hof : ∀ W, Below w.heap.size w W → Gives Tryd.prog 4 #[snapI s, .int .i64 p, .int .i64 u] W (.tuple #[.int .i64 0, .bool false]) := fun W hb => ofE_gives p u s W (h.keep hb)
  have HOF := Lib.hid hof
  clear hof h
  unfold snapI at *
  by_cases ha : 1 ≤ a ∧ a ≤ 16
  · have hi := is_yes a ha
    have HI := Lib.hid hi
    clear hi
    by_cases hr : 0 ≤ p ∧ p < 4 ∧ 0 ≤ u ∧ u < 16
    · by_cases h1 : a = 1
      · have he : chkE p u a = 0 := by unfold chkE; rw [if_pos ha, if_pos hr, if_pos h1]
        rw [he]
        obtain ⟨r1, r2, r3, r4⟩ := hr
        clear he
        subst h1
        unfold Gives
        go_enter Tryd.func5, Tryd.ntmps5
        go_wp2_with fail
        refine Gives.use (HI.out _) ?_
        intro xs0 d0
        go_wp2_with fail
        go_ret
        exact ⟨rfl, (by repeat (first | exact below_of_grow _ _ | exact Below.refl _ _ | exact below_more _ _ _ _ | (simp only [← Array.append_assoc]; first | exact below_more _ _ _ _ | exact below_same _ _ _ | exact Below.refl _ _) | exact below_same _ _ _ | (refine Below.alloc ?_ (by first | (simp; done) | (simp; omega)) _) | (refine Below.grow ?_ (by first | (simp; done) | (simp; omega)) _ _) | refine Below.drew ?_ | refine Below.drewN ?_ _ | (refine Below.putF ?_ (by first | (simp; done) | omega | (simp; omega)) _) | (refine Below.setCell ?_ (by first | (simp; done) | (simp; omega)) _)))⟩
      · have he : chkE p u a = 7 := by unfold chkE; rw [if_pos ha, if_pos hr, if_neg h1]
        rw [he]
        obtain ⟨r1, r2, r3, r4⟩ := hr
        clear he
        unfold Gives
        go_enter Tryd.func5, Tryd.ntmps5
        go_wp2_with fail
        refine Gives.use (HI.out _) ?_
        intro xs0 d0
        go_wp2_with fail
        refine Gives.use (HOF.out _ (by repeat (first | exact below_of_grow _ _ | exact Below.refl _ _ | exact below_more _ _ _ _ | (simp only [← Array.append_assoc]; first | exact below_more _ _ _ _ | exact below_same _ _ _ | exact Below.refl _ _) | exact below_same _ _ _ | (refine Below.alloc ?_ (by first | (simp; done) | (simp; omega)) _) | (refine Below.grow ?_ (by first | (simp; done) | (simp; omega)) _ _) | refine Below.drew ?_ | refine Below.drewN ?_ _ | (refine Below.putF ?_ (by first | (simp; done) | omega | (simp; omega)) _) | (refine Below.setCell ?_ (by first | (simp; done) | (simp; omega)) _)))) ?_
        intro xs1 d1
        go_wp2_with fail
        go_ret
        exact ⟨rfl, (by repeat (first | exact below_of_grow _ _ | exact Below.refl _ _ | exact below_more _ _ _ _ | (simp only [← Array.append_assoc]; first | exact below_more _ _ _ _ | exact below_same _ _ _ | exact Below.refl _ _) | exact below_same _ _ _ | (refine Below.alloc ?_ (by first | (simp; done) | (simp; omega)) _) | (refine Below.grow ?_ (by first | (simp; done) | (simp; omega)) _ _) | refine Below.drew ?_ | refine Below.drewN ?_ _ | (refine Below.putF ?_ (by first | (simp; done) | omega | (simp; omega)) _) | (refine Below.setCell ?_ (by first | (simp; done) | (simp; omega)) _)))⟩
    · have he : chkE p u a = 5 := by unfold chkE; rw [if_pos ha, if_neg hr]
      rw [he]
      have hg : (decide (p < 0) || decide (4 ≤ p) || decide (u < 0) || decide (16 ≤ u)) = true := by simp; omega
      clear he
      unfold Gives
      go_enter Tryd.func5, Tryd.ntmps5
      go_wp2_with fail
      refine Gives.use (HI.out _) ?_
      intro xs0 d0
      go_wp2_with fail
      all_goals go_ret
      all_goals exact ⟨rfl, (by repeat (first | exact below_of_grow _ _ | exact Below.refl _ _ | exact below_more _ _ _ _ | (simp only [← Array.append_assoc]; first | exact below_more _ _ _ _ | exact below_same _ _ _ | exact Below.refl _ _) | exact below_same _ _ _ | (refine Below.alloc ?_ (by first | (simp; done) | (simp; omega)) _) | (refine Below.grow ?_ (by first | (simp; done) | (simp; omega)) _ _) | refine Below.drew ?_ | refine Below.drewN ?_ _ | (refine Below.putF ?_ (by first | (simp; done) | omega | (simp; omega)) _) | (refine Below.setCell ?_ (by first | (simp; done) | (simp; omega)) _)))⟩
  · have he : chkE p u a = 16 := by unfold chkE; rw [if_neg ha]
    rw [he]
    have HI := Lib.hid (is_no a ha)
    clear he ha
    unfold Gives
    go_enter Tryd.func5, Tryd.ntmps5
    go_wp2_with fail
    refine Gives.use (HI.out _) ?_
    intro xs0 d0
    go_wp2_with fail
    go_ret
    exact ⟨rfl, (by repeat (first | exact below_of_grow _ _ | exact Below.refl _ _ | exact below_more _ _ _ _ | (simp only [← Array.append_assoc]; first | exact below_more _ _ _ _ | exact below_same _ _ _ | exact Below.refl _ _) | exact below_same _ _ _ | (refine Below.alloc ?_ (by first | (simp; done) | (simp; omega)) _) | (refine Below.grow ?_ (by first | (simp; done) | (simp; omega)) _ _) | refine Below.drew ?_ | refine Below.drewN ?_ _ | (refine Below.putF ?_ (by first | (simp; done) | omega | (simp; omega)) _) | (refine Below.setCell ?_ (by first | (simp; done) | (simp; omega)) _)))⟩
theorem critNew_calls (w : World) : Calls Tryd.prog 11 #[] w fun e w' => e = .returned (.pointer (some ⟨w.heap.size, 0, none⟩)) ∧ w' = w.alloc (.cells #[.pointer none, .int .i64 0] 67) := by
  go_enter Tryd.func11, Tryd.ntmps11
  go_wp2_with fail
  go_ret
  exact ⟨rfl, rfl⟩
theorem storeNew_calls (w : World) : Calls Tryd.prog 6 #[] w fun e w' => e = .returned (.pointer (some ⟨w.heap.size + 1, 0, none⟩)) ∧ Below w.heap.size w w' ∧ EmptyS w' (w.heap.size + 1) := by
  have hc := critNew_calls w
  have HC := Lib.hid hc
  clear hc
  go_enter Tryd.func6, Tryd.ntmps6
  go_wp2_with fail
  refine HC.out.mono ?_
  rintro e w1 ⟨rfl, rfl⟩
  go_wp2_with fail
  go_ret
  exact ⟨rfl, (by repeat (first | exact below_of_grow _ _ | exact Below.refl _ _ | exact below_more _ _ _ _ | (simp only [← Array.append_assoc]; first | exact below_more _ _ _ _ | exact below_same _ _ _ | exact Below.refl _ _) | exact below_same _ _ _ | (refine Below.alloc ?_ (by first | (simp; done) | (simp; omega)) _) | (refine Below.grow ?_ (by first | (simp; done) | (simp; omega)) _ _) | refine Below.drew ?_ | refine Below.drewN ?_ _ | (refine Below.putF ?_ (by first | (simp; done) | omega | (simp; omega)) _) | (refine Below.setCell ?_ (by first | (simp; done) | (simp; omega)) _))), w.heap.size, (heap_al _ _ _).trans ((if_neg (by simp)).trans ((heap_al _ _ _).trans (if_pos rfl))), (heap_al _ _ _).trans (if_pos (by simp))⟩
end Go.Proofs.YtlgjkplainjmdaaDoor

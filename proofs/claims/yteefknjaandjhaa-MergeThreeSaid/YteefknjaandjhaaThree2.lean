/- The walks of layer 24's functions over three cells, more. -/
import Derived.Test.YteefknjaandjhaaThree
import Derived.Lib.Hide
namespace Go.Proofs.Yteefknjaandjhaa
open Go.RowKit

/-- which of two counts: the cell, the side, the error -/
def three (a b c : C24) (mode : Int) : C24 × Int × Int :=
  if mode < 0 ∨ 2 < mode then (C24.zero, 0, 5)
  else if side a b c = 3 ∧ mode = 0 then (C24.zero, 3, 11)
  else if side a b c = 2 ∨ (side a b c = 3 ∧ mode = 2) then (c, side a b c, 0)
  else (b, side a b c, 0)

set_option maxHeartbeats 400000 in
theorem three_gives (a b c : C24) (m : Int) (w : World) : Gives Try.prog 7 #[a.v, b.v, c.v, .int .i64 m] w (.tuple #[(three a b c m).1.v, .int .i64 (three a b c m).2.1, .int .i64 (three a b c m).2.2]) := by
  unfold Gives C24.v
  go_enter Try.func7, Try.ntmps7
  go_wp2_with (go_at_call 24; refine Gives.use (side_gives a b c _) ?_; intro xs d)
  all_goals (refine bodyPost_ret (v := .tuple #[(three a b c m).1.v, .int .i64 (three a b c m).2.1, .int .i64 (three a b c m).2.2]) ?_ rfl ⟨rfl, (by repeat (first | exact Below.refl _ _ | exact below_of_grow _ _ | exact below_more _ _ _ _ | exact below_same _ _ _ | (refine Below.alloc ?_ (by first | (simp; done) | (simp; omega)) _) | (refine Below.grow ?_ (by first | (simp; done) | (simp; omega)) _ _) | refine Below.drew ?_ | (refine Below.putF ?_ (by first | (simp; done) | omega | (simp; omega)) _) | (refine Below.setCell ?_ (by first | (simp; done) | (simp; omega)) _)))⟩)
  all_goals simp only [results, Try.results7, go_sem]
  all_goals go_light
  all_goals try simp only [beq_iff_eq, beq_eq_false_iff_ne, ne_eq] at *
  all_goals first
    | rw [show three a b c m = (C24.zero, 0, 5) from if_pos (by omega)]
    | rw [show three a b c m = (C24.zero, 3, 11) from (if_neg (by omega)).trans (if_pos (by omega))]
    | rw [show three a b c m = (c, side a b c, 0) from (if_neg (by omega)).trans ((if_neg (by omega)).trans (if_pos (by omega)))]
    | rw [show three a b c m = (b, side a b c, 0) from (if_neg (by omega)).trans ((if_neg (by omega)).trans (if_neg (by omega)))]
  all_goals simp [go_sem, *]

set_option maxHeartbeats 800000 in
theorem refThree_gives (a b c : C24) (m : Int) (w : World) : Gives Try.prog 8 #[a.d, b.d, c.d, .int .i64 m] w (.tuple #[(three a b c m).1.d, .int .i64 (three a b c m).2.1, .int .i64 (three a b c m).2.2]) := by
  have e := eqCellD
  unfold Gives C24.d
  go_enter Try.func8, Try.ntmps8
  go_wp2
  all_goals (refine bodyPost_ret (v := .tuple #[(three a b c m).1.d, .int .i64 (three a b c m).2.1, .int .i64 (three a b c m).2.2]) ?_ rfl ⟨rfl, (by repeat (first | exact Below.refl _ _ | exact below_of_grow _ _ | exact below_more _ _ _ _ | exact below_same _ _ _ | (refine Below.alloc ?_ (by first | (simp; done) | (simp; omega)) _) | (refine Below.grow ?_ (by first | (simp; done) | (simp; omega)) _ _) | refine Below.drew ?_ | (refine Below.putF ?_ (by first | (simp; done) | omega | (simp; omega)) _) | (refine Below.setCell ?_ (by first | (simp; done) | (simp; omega)) _)))⟩)
  all_goals simp only [results, Try.results8, go_sem]
  all_goals go_light
  all_goals (clear e)
  all_goals try simp only [beq_iff_eq, beq_eq_false_iff_ne, ne_eq] at *
  all_goals first
    | rw [show three a b c m = (C24.zero, 0, 5) from if_pos (by omega)]
    | (have hS : side a b c = 0 := by (unfold side; simp_all)
       rw [show three a b c m = (b, 0, 0) from (if_neg (by omega)).trans ((if_neg (by omega)).trans ((if_neg (by omega)).trans (by rw [hS])))])
    | (have hS : side a b c = 1 := by (unfold side; simp_all)
       rw [show three a b c m = (b, 1, 0) from (if_neg (by omega)).trans ((if_neg (by omega)).trans ((if_neg (by omega)).trans (by rw [hS])))])
    | (have hS : side a b c = 2 := by (unfold side; simp_all)
       rw [show three a b c m = (c, 2, 0) from (if_neg (by omega)).trans ((if_neg (by omega)).trans ((if_pos (by omega)).trans (by rw [hS])))])
    | (have hS : side a b c = 3 := by (unfold side; simp_all)
       rw [show three a b c m = (C24.zero, 3, 11) from (if_neg (by omega)).trans (if_pos (by omega))])
    | (have hS : side a b c = 3 := by (unfold side; simp_all)
       rw [show three a b c m = (c, 3, 0) from (if_neg (by omega)).trans ((if_neg (by omega)).trans ((if_pos (by omega)).trans (by rw [hS])))])
    | (have hS : side a b c = 3 := by (unfold side; simp_all)
       rw [show three a b c m = (b, 3, 0) from (if_neg (by omega)).trans ((if_neg (by omega)).trans ((if_neg (by omega)).trans (by rw [hS])))])
    | skip
  all_goals simp [go_sem, *]

def exA : C24 := ⟨true, ⟨6, 1, 0, 0, 0, false, 1, 0, ⟨#[97]⟩⟩⟩
def exB : C24 := ⟨true, ⟨6, 1, 0, 0, 0, false, 1, 0, ⟨#[98]⟩⟩⟩
theorem ex1 : three C24.zero exA exB 1 = (exA, 3, 0) := by decide +kernel
theorem ex2 : three C24.zero exA exB 0 = (C24.zero, 3, 11) := by decide +kernel

set_option maxHeartbeats 800000 in
theorem known24 (w : World) : Gives Try.prog 10 #[] w (.bool true) := by
  have h1 := fun w => three_gives C24.zero exA exB 1 w
  have h2 := fun w => three_gives C24.zero exA exB 0 w
  rw [ex1] at h1
  rw [ex2] at h2
  have H1 := Lib.hid h1
  have H2 := Lib.hid h2
  clear h1 h2
  unfold Gives
  go_enter Try.func10, Try.ntmps10
  go_wp2_with fail
  refine Gives.use (H1.out _) ?_
  intro xs d
  simp only [go_sem, exA]
  go_wp2_with fail
  refine Gives.use (H2.out _) ?_
  intro ys e
  simp only [go_sem]
  go_wp2_with fail
  go_ret
  exact ⟨rfl, (by repeat (first | exact Below.refl _ _ | exact below_of_grow _ _ | exact below_more _ _ _ _ | exact below_same _ _ _ | (refine Below.alloc ?_ (by first | (simp; done) | (simp; omega)) _) | (refine Below.grow ?_ (by first | (simp; done) | (simp; omega)) _ _) | refine Below.drew ?_ | (refine Below.putF ?_ (by first | (simp; done) | omega | (simp; omega)) _) | (refine Below.setCell ?_ (by first | (simp; done) | (simp; omega)) _)))⟩
end Go.Proofs.Yteefknjaandjhaa

/- The walks of layer 24's functions over three cells. -/
import Derived.Test.YteefknjaandjhaaRec
namespace Go.Proofs.Yteefknjaandjhaa
open Go.RowKit

set_option maxHeartbeats 400000 in
theorem of10 (r : R10) (h : r.ok) (w : World) : Gives Try.prog 25 #[r.v] w r.d := by
  obtain ⟨hk, hs, hu, hp, hm, hr⟩ := h
  unfold Gives R10.v
  go_enter Try.func25, Try.ntmps25
  go_wp2
  exact bodyPost_ret (v := r.d) (by simp [results, Try.results25, go_sem]) rfl ⟨rfl, (by repeat (first | exact Below.refl _ _ | exact below_of_grow _ _ | exact below_more _ _ _ _ | exact below_same _ _ _ | (refine Below.alloc ?_ (by first | (simp; done) | (simp; omega)) _) | (refine Below.grow ?_ (by first | (simp; done) | (simp; omega)) _ _) | refine Below.drew ?_ | (refine Below.putF ?_ (by first | (simp; done) | omega | (simp; omega)) _) | (refine Below.setCell ?_ (by first | (simp; done) | (simp; omega)) _)))⟩

set_option maxHeartbeats 400000 in
theorem of24 (c : C24) (h : c.r.ok) (w : World) : Gives Try.prog 9 #[c.v] w c.d := by
  unfold Gives C24.v
  go_enter Try.func9, Try.ntmps9
  go_wp2_with fail
  go_region_held3 (fun w' => (∀ q, w'.cell? ⟨w.heap.size, q, none⟩ = (#[.bool c.is_, .int .u8 c.r.kind, .int .u8 c.r.state, .int .u8 c.r.user, .int .u8 c.r.parent, .int .u8 c.r.mask, .bool c.r.gone, .int .u32 c.r.rev, .int .u64 c.r.at_, .string c.r.text] : Array Value)[q]?)) (simp [go_sem])
    (first | (go_at_call 25; refine Gives.use (of10 c.r h _) ?_; intro xs d; simp only [R10.d]))
  go_wp2
  exact bodyPost_ret (v := c.d) (by simp [results, Try.results9, go_sem]) rfl ⟨rfl, (by repeat (first | exact Below.refl _ _ | exact below_of_grow _ _ | exact below_more _ _ _ _ | exact below_same _ _ _ | (refine Below.alloc ?_ (by first | (simp; done) | (simp; omega)) _) | (refine Below.grow ?_ (by first | (simp; done) | (simp; omega)) _ _) | refine Below.drew ?_ | (refine Below.putF ?_ (by first | (simp; done) | omega | (simp; omega)) _) | (refine Below.setCell ?_ (by first | (simp; done) | (simp; omega)) _)))⟩

def side (base ours theirs : C24) : Int := if ours = theirs then 0 else if theirs = base then 1 else if ours = base then 2 else 3

set_option maxHeartbeats 400000 in
theorem side_gives (a b c : C24) (w : World) : Gives Try.prog 24 #[a.v, b.v, c.v] w (.int .i64 (side a b c)) := by
  have e := eqCell
  unfold Gives C24.v
  go_enter Try.func24, Try.ntmps24
  go_wp2
  all_goals (go_ret; refine ⟨ret_int ?_, (by repeat (first | exact Below.refl _ _ | exact below_of_grow _ _ | exact below_more _ _ _ _ | exact below_same _ _ _ | (refine Below.alloc ?_ (by first | (simp; done) | (simp; omega)) _) | (refine Below.grow ?_ (by first | (simp; done) | (simp; omega)) _ _) | refine Below.drew ?_ | (refine Below.putF ?_ (by first | (simp; done) | omega | (simp; omega)) _) | (refine Below.setCell ?_ (by first | (simp; done) | (simp; omega)) _)))⟩; go_light; unfold side; (repeat' split) <;> simp_all)

/-- a cell with its text cut to 80 bytes; nothing has no record -/
def C24.cut (c : C24) : C24 := if c.is_ then { c with r := { c.r with text := c.r.text.extract 0 (min c.r.text.size 80) } } else C24.zero

theorem cut_no {c : C24} (h : (!c.is_) = true) : c.cut = C24.zero := by unfold C24.cut; simp at h; simp [h]
theorem cut_long {c : C24} (h : (!c.is_) = false) (h2 : 80 < (c.r.text.size : Int)) : c.cut = ⟨c.is_, ⟨c.r.kind, c.r.state, c.r.user, c.r.parent, c.r.mask, c.r.gone, c.r.rev, c.r.at_, c.r.text.extract 0 80⟩⟩ := by
  unfold C24.cut; simp at h; simp only [h, if_true, C24.mk.injEq, R10.mk.injEq, true_and]; rw [Nat.min_eq_right (by omega)]
theorem cut_short {c : C24} (h : (!c.is_) = false) (h2 : (c.r.text.size : Int) ≤ 80) : c.cut = c := by
  unfold C24.cut; simp at h; simp only [h, if_true]; rw [Nat.min_eq_left (by omega)]
  obtain ⟨c0, c1, c2, c3, c4, c5, c6, c7, c8, c9⟩ := c
  simp at h
  simp [h]

set_option maxHeartbeats 400000 in
theorem cut_gives (c : C24) (hx : c.r.text.size ≤ maxLen) (w : World) : Gives Try.prog 6 #[c.v] w c.cut.v := by
  unfold maxLen at hx
  unfold Gives C24.v
  go_enter Try.func6, Try.ntmps6
  go_wp2
  all_goals (refine bodyPost_ret (v := c.cut.v) ?_ rfl ⟨rfl, (by repeat (first | exact Below.refl _ _ | exact below_of_grow _ _ | exact below_more _ _ _ _ | exact below_same _ _ _ | (refine Below.alloc ?_ (by first | (simp; done) | (simp; omega)) _) | (refine Below.grow ?_ (by first | (simp; done) | (simp; omega)) _ _) | refine Below.drew ?_ | (refine Below.putF ?_ (by first | (simp; done) | omega | (simp; omega)) _) | (refine Below.setCell ?_ (by first | (simp; done) | (simp; omega)) _)))⟩)
  all_goals simp only [results, Try.results6, go_sem]
  all_goals (go_light; clear hx)
  all_goals first | rw [cut_no ‹_›] | rw [cut_long ‹_› ‹_›] | rw [cut_short ‹_› ‹_›]
  all_goals simp [go_sem]

end Go.Proofs.Yteefknjaandjhaa

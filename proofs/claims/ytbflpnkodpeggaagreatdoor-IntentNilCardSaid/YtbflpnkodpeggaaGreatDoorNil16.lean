/- Layer 16: what a table that is nil answers. -/
import Derived.Test.YtbflpnkodpeggaaGreatDoorKnown16
namespace Go.Proofs.YtbflpnkodpeggaaGreatDoor
set_option maxRecDepth 100000
open Go.RowKit

theorem takeN_gives (o : Int) (v : Value) (w : World) : Gives Tryz.prog 4 #[.pointer none, .int .i64 o, v] w (.tuple #[.int .i64 0, .int .i64 9]) := by
  unfold Gives
  go_enter Tryz.func4, Tryz.ntmps4
  go_wp2_with fail
  refine bodyPost_ret (v := .tuple #[.int .i64 0, .int .i64 9]) (by simp [results, Tryz.results4, go_sem]) rfl ⟨rfl, (by repeat (first | exact below_of_grow _ _ | exact Below.refl _ _ | exact below_more _ _ _ _ | (simp only [← Array.append_assoc]; first | exact below_more _ _ _ _ | exact below_same _ _ _ | exact Below.refl _ _) | exact below_same _ _ _ | (refine Below.alloc ?_ (by first | (simp; done) | (simp; omega)) _) | (refine Below.grow ?_ (by first | (simp; done) | (simp; omega)) _ _) | refine Below.drew ?_ | refine Below.drewN ?_ _ | (refine Below.putF ?_ (by first | (simp; done) | omega | (simp; omega)) _) | (refine Below.setCell ?_ (by first | (simp; done) | (simp; omega)) _)))⟩
theorem ownerN_gives (k : K25) (w : World) : Gives Tryz.prog 5 #[.pointer none, .agg (row8 k.val)] w (.tuple #[.int .i64 0, .bool false]) := by
  unfold Gives
  go_enter Tryz.func5, Tryz.ntmps5
  go_wp2_with fail
  refine bodyPost_ret (v := .tuple #[.int .i64 0, .bool false]) (by simp [results, Tryz.results5, go_sem]) rfl ⟨rfl, (by repeat (first | exact below_of_grow _ _ | exact Below.refl _ _ | exact below_more _ _ _ _ | (simp only [← Array.append_assoc]; first | exact below_more _ _ _ _ | exact below_same _ _ _ | exact Below.refl _ _) | exact below_same _ _ _ | (refine Below.alloc ?_ (by first | (simp; done) | (simp; omega)) _) | (refine Below.grow ?_ (by first | (simp; done) | (simp; omega)) _ _) | refine Below.drew ?_ | refine Below.drewN ?_ _ | (refine Below.putF ?_ (by first | (simp; done) | omega | (simp; omega)) _) | (refine Below.setCell ?_ (by first | (simp; done) | (simp; omega)) _)))⟩
theorem ofN_gives (o : Int) (w : World) : Gives Tryz.prog 9 #[.pointer none, .int .i64 o] w (.slice none 0 0) := by
  unfold Gives
  go_enter Tryz.func9, Tryz.ntmps9
  go_wp2_with fail
  go_ret
  exact ⟨rfl, (by repeat (first | exact below_of_grow _ _ | exact Below.refl _ _ | exact below_more _ _ _ _ | (simp only [← Array.append_assoc]; first | exact below_more _ _ _ _ | exact below_same _ _ _ | exact Below.refl _ _) | exact below_same _ _ _ | (refine Below.alloc ?_ (by first | (simp; done) | (simp; omega)) _) | (refine Below.grow ?_ (by first | (simp; done) | (simp; omega)) _ _) | refine Below.drew ?_ | refine Below.drewN ?_ _ | (refine Below.putF ?_ (by first | (simp; done) | omega | (simp; omega)) _) | (refine Below.setCell ?_ (by first | (simp; done) | (simp; omega)) _)))⟩
theorem ownersN_gives (w : World) : Gives Tryz.prog 10 #[.pointer none] w (.slice none 0 0) := by
  unfold Gives
  go_enter Tryz.func10, Tryz.ntmps10
  go_wp2_with fail
  go_ret
  exact ⟨rfl, (by repeat (first | exact below_of_grow _ _ | exact Below.refl _ _ | exact below_more _ _ _ _ | (simp only [← Array.append_assoc]; first | exact below_more _ _ _ _ | exact below_same _ _ _ | exact Below.refl _ _) | exact below_same _ _ _ | (refine Below.alloc ?_ (by first | (simp; done) | (simp; omega)) _) | (refine Below.grow ?_ (by first | (simp; done) | (simp; omega)) _ _) | refine Below.drew ?_ | refine Below.drewN ?_ _ | (refine Below.putF ?_ (by first | (simp; done) | omega | (simp; omega)) _) | (refine Below.setCell ?_ (by first | (simp; done) | (simp; omega)) _)))⟩
theorem lenN_gives (w : World) : Gives Tryz.prog 11 #[.pointer none] w (.int .i64 0) := by
  unfold Gives
  go_enter Tryz.func11, Tryz.ntmps11
  go_wp2_with fail
  go_ret
  exact ⟨rfl, (by repeat (first | exact below_of_grow _ _ | exact Below.refl _ _ | exact below_more _ _ _ _ | (simp only [← Array.append_assoc]; first | exact below_more _ _ _ _ | exact below_same _ _ _ | exact Below.refl _ _) | exact below_same _ _ _ | (refine Below.alloc ?_ (by first | (simp; done) | (simp; omega)) _) | (refine Below.grow ?_ (by first | (simp; done) | (simp; omega)) _ _) | refine Below.drew ?_ | refine Below.drewN ?_ _ | (refine Below.putF ?_ (by first | (simp; done) | omega | (simp; omega)) _) | (refine Below.setCell ?_ (by first | (simp; done) | (simp; omega)) _)))⟩
theorem firstN_gives (o : Int) (w : World) : Gives Tryz.prog 6 #[.pointer none, .int .i64 o] w (.tuple #[.agg (row8 (zeros 25)), .bool false]) := by
  have hof := ofN_gives o
  have HOF := Lib.hid hof
  clear hof
  unfold Gives
  go_enter Tryz.func6, Tryz.ntmps6
  go_wp2_with (go_at_call 9; refine Gives.use (HOF.out _) ?_; intro xs d)
  go_loopw [12] (fun s12 wr => s12 = .int .i64 0 ∧ wr = (w.alloc (.cells (row8 (zeros 25)) 29)).grow xs d) (fun _ _ => 0)
  case atStart => exact ⟨rfl, by simp [go_sem]⟩
  case round =>
    obtain ⟨rfl, rfl⟩ := hrel
    go_wp2_with fail
    refine bodyPost_ret (v := .tuple #[.agg (row8 (zeros 25)), .bool false]) (results_two Tryz.results6 (ResIs.row rfl agg_key ?_) ?_) rfl ⟨rfl, (by repeat (first | exact below_of_grow _ _ | exact Below.refl _ _ | exact below_more _ _ _ _ | (simp only [← Array.append_assoc]; first | exact below_more _ _ _ _ | exact below_same _ _ _ | exact Below.refl _ _) | exact below_same _ _ _ | (refine Below.alloc ?_ (by first | (simp; done) | (simp; omega)) _) | (refine Below.grow ?_ (by first | (simp; done) | (simp; omega)) _ _) | refine Below.drew ?_ | refine Below.drewN ?_ _ | (refine Below.putF ?_ (by first | (simp; done) | omega | (simp; omega)) _) | (refine Below.setCell ?_ (by first | (simp; done) | (simp; omega)) _)))⟩
    · simp [go_sem]
    · rfl
theorem dropN_gives (o : Int) (k : K25) (w : World) (g : Nat) (hk : w.cut? g 0 25 = some (row8 k.val)) : Gives Tryz.prog 8 #[.pointer none, .int .i64 o, .slice (some ⟨g, 0, none⟩) 1 1] w (.int .i64 0) := by
  have hon := ownerN_gives k
  have HON := Lib.hid hon
  have hg : g < w.heap.size := by
    unfold World.cut? at hk
    split at hk
    · rename_i hh; exact (Array.getElem?_eq_some_iff.1 hh).1
    · cases hk
  clear hon
  unfold Gives
  go_enter Tryz.func8, Tryz.ntmps8
  go_wp2_with fail
  go_loopw [7, 14] (fun s7 s14 wr => ∃ i : Nat, i ≤ 1 ∧ s7 = .int .i64 0 ∧ s14 = .int .i64 i ∧ ∃ xs d, wr = w.grow xs d) (fun _ s14 _ => 1 - (intOf s14).toNat)
  case atStart => exact ⟨0, by omega, rfl, rfl, #[], _, World.grow_nil.symm⟩
  case round =>
    obtain ⟨i, hi, rfl, rfl, xs, d, rfl⟩ := hrel
    by_cases h0 : i = 0
    · subst h0
      go_wp2_with (go_at_call 5; refine Gives.use (HON.out _) ?_; intro ys e)
      go_roundw
      case rel =>
        refine ⟨1, by omega, rfl, rfl, ?_⟩
        exact grow_of_below (by repeat (first | exact below_of_grow _ _ | exact Below.refl _ _ | exact below_more _ _ _ _ | (simp only [← Array.append_assoc]; first | exact below_more _ _ _ _ | exact below_same _ _ _ | exact Below.refl _ _) | exact below_same _ _ _ | (refine Below.alloc ?_ (by first | (simp; done) | (simp; omega)) _) | (refine Below.grow ?_ (by first | (simp; done) | (simp; omega)) _ _) | refine Below.drew ?_ | refine Below.drewN ?_ _ | (refine Below.putF ?_ (by first | (simp; done) | omega | (simp; omega)) _) | (refine Below.setCell ?_ (by first | (simp; done) | (simp; omega)) _)))
      case measure => simp [intOf]
    · obtain rfl : i = 1 := by omega
      go_wp2_with fail
      go_ret
      exact ⟨rfl, (by repeat (first | exact below_of_grow _ _ | exact Below.refl _ _ | exact below_more _ _ _ _ | (simp only [← Array.append_assoc]; first | exact below_more _ _ _ _ | exact below_same _ _ _ | exact Below.refl _ _) | exact below_same _ _ _ | (refine Below.alloc ?_ (by first | (simp; done) | (simp; omega)) _) | (refine Below.grow ?_ (by first | (simp; done) | (simp; omega)) _ _) | refine Below.drew ?_ | refine Below.drewN ?_ _ | (refine Below.putF ?_ (by first | (simp; done) | omega | (simp; omega)) _) | (refine Below.setCell ?_ (by first | (simp; done) | (simp; omega)) _)))⟩
end Go.Proofs.YtbflpnkodpeggaaGreatDoor

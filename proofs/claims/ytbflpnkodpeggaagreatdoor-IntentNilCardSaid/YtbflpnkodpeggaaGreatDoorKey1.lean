/- Layer 6: what a kind uses; the key of parts; is a key right? -/
import Derived.Test.YtbflpnkodpeggaaGreatDoorTag5
namespace Go.Proofs.YtbflpnkodpeggaaGreatDoor
set_option maxRecDepth 100000
open Go.RowKit

theorem used_gives (k : Int) (w : World) : Gives Tryz.prog 24 #[.int .i64 k] w (.agg #[.int .i64 (usedAt k), .bool (usedName k), .bool (usedTag k)]) := by
  by_cases h : k = 2 ∨ k = 3 ∨ k = 4 ∨ k = 5 ∨ k = 6
  · rcases h with rfl | rfl | rfl | rfl | rfl
    all_goals
      unfold Gives
      go_enter Tryz.func24, Tryz.ntmps24
      go_wp2_with fail
    · exact bodyPost_ret (v := .agg #[.int .i64 16, .bool false, .bool false]) (by simp [results, Tryz.results24, go_sem]) rfl ⟨rfl, (by repeat (first | exact below_of_grow _ _ | exact Below.refl _ _ | exact below_more _ _ _ _ | (simp only [← Array.append_assoc]; first | exact below_more _ _ _ _ | exact below_same _ _ _ | exact Below.refl _ _) | exact below_same _ _ _ | (refine Below.alloc ?_ (by first | (simp; done) | (simp; omega)) _) | (refine Below.grow ?_ (by first | (simp; done) | (simp; omega)) _ _) | refine Below.drew ?_ | refine Below.drewN ?_ _ | (refine Below.putF ?_ (by first | (simp; done) | omega | (simp; omega)) _) | (refine Below.setCell ?_ (by first | (simp; done) | (simp; omega)) _)))⟩
    · exact bodyPost_ret (v := .agg #[.int .i64 0, .bool false, .bool true]) (by simp [results, Tryz.results24, go_sem]) rfl ⟨rfl, (by repeat (first | exact below_of_grow _ _ | exact Below.refl _ _ | exact below_more _ _ _ _ | (simp only [← Array.append_assoc]; first | exact below_more _ _ _ _ | exact below_same _ _ _ | exact Below.refl _ _) | exact below_same _ _ _ | (refine Below.alloc ?_ (by first | (simp; done) | (simp; omega)) _) | (refine Below.grow ?_ (by first | (simp; done) | (simp; omega)) _ _) | refine Below.drew ?_ | refine Below.drewN ?_ _ | (refine Below.putF ?_ (by first | (simp; done) | omega | (simp; omega)) _) | (refine Below.setCell ?_ (by first | (simp; done) | (simp; omega)) _)))⟩
    · exact bodyPost_ret (v := .agg #[.int .i64 4, .bool false, .bool false]) (by simp [results, Tryz.results24, go_sem]) rfl ⟨rfl, (by repeat (first | exact below_of_grow _ _ | exact Below.refl _ _ | exact below_more _ _ _ _ | (simp only [← Array.append_assoc]; first | exact below_more _ _ _ _ | exact below_same _ _ _ | exact Below.refl _ _) | exact below_same _ _ _ | (refine Below.alloc ?_ (by first | (simp; done) | (simp; omega)) _) | (refine Below.grow ?_ (by first | (simp; done) | (simp; omega)) _ _) | refine Below.drew ?_ | refine Below.drewN ?_ _ | (refine Below.putF ?_ (by first | (simp; done) | omega | (simp; omega)) _) | (refine Below.setCell ?_ (by first | (simp; done) | (simp; omega)) _)))⟩
    · exact bodyPost_ret (v := .agg #[.int .i64 4, .bool true, .bool false]) (by simp [results, Tryz.results24, go_sem]) rfl ⟨rfl, (by repeat (first | exact below_of_grow _ _ | exact Below.refl _ _ | exact below_more _ _ _ _ | (simp only [← Array.append_assoc]; first | exact below_more _ _ _ _ | exact below_same _ _ _ | exact Below.refl _ _) | exact below_same _ _ _ | (refine Below.alloc ?_ (by first | (simp; done) | (simp; omega)) _) | (refine Below.grow ?_ (by first | (simp; done) | (simp; omega)) _ _) | refine Below.drew ?_ | refine Below.drewN ?_ _ | (refine Below.putF ?_ (by first | (simp; done) | omega | (simp; omega)) _) | (refine Below.setCell ?_ (by first | (simp; done) | (simp; omega)) _)))⟩
    · exact bodyPost_ret (v := .agg #[.int .i64 4, .bool true, .bool true]) (by simp [results, Tryz.results24, go_sem]) rfl ⟨rfl, (by repeat (first | exact below_of_grow _ _ | exact Below.refl _ _ | exact below_more _ _ _ _ | (simp only [← Array.append_assoc]; first | exact below_more _ _ _ _ | exact below_same _ _ _ | exact Below.refl _ _) | exact below_same _ _ _ | (refine Below.alloc ?_ (by first | (simp; done) | (simp; omega)) _) | (refine Below.grow ?_ (by first | (simp; done) | (simp; omega)) _ _) | refine Below.drew ?_ | refine Below.drewN ?_ _ | (refine Below.putF ?_ (by first | (simp; done) | omega | (simp; omega)) _) | (refine Below.setCell ?_ (by first | (simp; done) | (simp; omega)) _)))⟩
  · have e : usedAt k = 0 ∧ usedName k = false ∧ usedTag k = false := by
      unfold usedAt usedName usedTag
      refine ⟨?_, by simp; omega, by simp; omega⟩
      rw [if_neg (by omega), if_neg (by omega)]
    rw [e.1, e.2.1, e.2.2]
    have h2 : (k == 2) = false := by simp; omega
    have h3 : (k == 3) = false := by simp; omega
    have h4 : (k == 4) = false := by simp; omega
    have h5 : (k == 5) = false := by simp; omega
    have h6 : (k == 6) = false := by simp; omega
    clear e h
    unfold Gives
    go_enter Tryz.func24, Tryz.ntmps24
    go_wp2_with fail
    exact bodyPost_ret (v := .agg #[.int .i64 0, .bool false, .bool false]) (by simp [results, Tryz.results24, go_sem]) rfl ⟨rfl, (by repeat (first | exact below_of_grow _ _ | exact Below.refl _ _ | exact below_more _ _ _ _ | (simp only [← Array.append_assoc]; first | exact below_more _ _ _ _ | exact below_same _ _ _ | exact Below.refl _ _) | exact below_same _ _ _ | (refine Below.alloc ?_ (by first | (simp; done) | (simp; omega)) _) | (refine Below.grow ?_ (by first | (simp; done) | (simp; omega)) _ _) | refine Below.drew ?_ | refine Below.drewN ?_ _ | (refine Below.putF ?_ (by first | (simp; done) | omega | (simp; omega)) _) | (refine Below.setCell ?_ (by first | (simp; done) | (simp; omega)) _)))⟩
end Go.Proofs.YtbflpnkodpeggaaGreatDoor

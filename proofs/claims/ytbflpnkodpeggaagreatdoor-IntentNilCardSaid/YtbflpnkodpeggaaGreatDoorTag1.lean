/- Layer 5: letters; the text of a tag. -/
import Derived.Test.YtbflpnkodpeggaaGreatDoorName
import Derived.Test.YtbflpnkodpeggaaGreatDoorShelf
namespace Go.Proofs.YtbflpnkodpeggaaGreatDoor
set_option maxRecDepth 100000
open Go.RowKit

theorem low_int (c : UInt8) : lowB c = (decide ((97 : Int) ≤ c.toNat) && decide ((c.toNat : Int) ≤ 122)) := by
  unfold lowB; congr 1 <;> (rw [decide_eq_decide]; omega)
theorem upp_int (c : UInt8) : uppB c = (decide ((65 : Int) ≤ c.toNat) && decide ((c.toNat : Int) ≤ 90)) := by
  unfold uppB; congr 1 <;> (rw [decide_eq_decide]; omega)
theorem dig_int (c : UInt8) : digB c = (decide ((48 : Int) ≤ c.toNat) && decide ((c.toNat : Int) ≤ 57)) := by
  unfold digB; congr 1 <;> (rw [decide_eq_decide]; omega)
theorem tagLetter_gives (c : UInt8) (w : World) : Gives Tryz.prog 66 #[.int .u8 (c.toNat : Int)] w (.bool (letB c)) := by
  unfold letB
  rw [low_int, upp_int]
  unfold Gives
  go_enter Tryz.func66, Tryz.ntmps66
  go_wp2_with fail
  all_goals
    go_ret
    exact ⟨congrArg Ending.returned (congrArg Value.bool (by first | (simp [*]; done) | (rw [Bool.eq_iff_iff]; simp [*]; done) | (rw [Bool.eq_iff_iff]; simp [*]; omega) | (rw [Bool.eq_iff_iff]; simp; omega))), (by repeat (first | exact below_of_grow _ _ | exact Below.refl _ _ | exact below_more _ _ _ _ | (simp only [← Array.append_assoc]; first | exact below_more _ _ _ _ | exact below_same _ _ _ | exact Below.refl _ _) | exact below_same _ _ _ | (refine Below.alloc ?_ (by first | (simp; done) | (simp; omega)) _) | (refine Below.grow ?_ (by first | (simp; done) | (simp; omega)) _ _) | refine Below.drew ?_ | refine Below.drewN ?_ _ | (refine Below.putF ?_ (by first | (simp; done) | omega | (simp; omega)) _) | (refine Below.setCell ?_ (by first | (simp; done) | (simp; omega)) _)))⟩
theorem tagDigit_gives (c : UInt8) (w : World) : Gives Tryz.prog 69 #[.int .u8 (c.toNat : Int)] w (.bool (digB c)) := by
  rw [dig_int]
  unfold Gives
  go_enter Tryz.func69, Tryz.ntmps69
  go_wp2_with fail
  all_goals
    go_ret
    exact ⟨congrArg Ending.returned (congrArg Value.bool (by first | (simp [*]; done) | (rw [Bool.eq_iff_iff]; simp [*]; done) | (rw [Bool.eq_iff_iff]; simp [*]; omega) | (rw [Bool.eq_iff_iff]; simp; omega))), (by repeat (first | exact below_of_grow _ _ | exact Below.refl _ _ | exact below_more _ _ _ _ | (simp only [← Array.append_assoc]; first | exact below_more _ _ _ _ | exact below_same _ _ _ | exact Below.refl _ _) | exact below_same _ _ _ | (refine Below.alloc ?_ (by first | (simp; done) | (simp; omega)) _) | (refine Below.grow ?_ (by first | (simp; done) | (simp; omega)) _ _) | refine Below.drew ?_ | refine Below.drewN ?_ _ | (refine Below.putF ?_ (by first | (simp; done) | omega | (simp; omega)) _) | (refine Below.setCell ?_ (by first | (simp; done) | (simp; omega)) _)))⟩
theorem toLow_yes {c : UInt8} (h : uppB c = true) : ((toLow c).toNat : Int) = c.toNat + 32 := by
  unfold toLow
  rw [if_pos h]
  simp [uppB] at h
  simp [UInt8.toNat_add]
  omega
theorem toUpp_yes {c : UInt8} (h : lowB c = true) : ((toUpp c).toNat : Int) = c.toNat - 32 := by
  unfold toUpp
  rw [if_pos h]
  simp [lowB] at h
  simp [UInt8.toNat_sub]
  omega
theorem toLow_no {c : UInt8} (h : uppB c = false) : toLow c = c := by unfold toLow; rw [h]; rfl
theorem toUpp_no {c : UInt8} (h : lowB c = false) : toUpp c = c := by unfold toUpp; rw [h]; rfl
theorem lower_gives (c : UInt8) (w : World) : Gives Tryz.prog 67 #[.int .u8 (c.toNat : Int)] w (.int .u8 ((toLow c).toNat : Int)) := by
  cases h : uppB c
  · rw [toLow_no h]
    rw [upp_int] at h
    have H := Lib.hid h
    clear h
    unfold Gives
    go_enter Tryz.func67, Tryz.ntmps67
    go_wp2_with fail
    all_goals first
      | (go_ret; exact ⟨rfl, (by repeat (first | exact below_of_grow _ _ | exact Below.refl _ _ | exact below_more _ _ _ _ | (simp only [← Array.append_assoc]; first | exact below_more _ _ _ _ | exact below_same _ _ _ | exact Below.refl _ _) | exact below_same _ _ _ | (refine Below.alloc ?_ (by first | (simp; done) | (simp; omega)) _) | (refine Below.grow ?_ (by first | (simp; done) | (simp; omega)) _ _) | refine Below.drew ?_ | refine Below.drewN ?_ _ | (refine Below.putF ?_ (by first | (simp; done) | omega | (simp; omega)) _) | (refine Below.setCell ?_ (by first | (simp; done) | (simp; omega)) _)))⟩)
      | (exfalso; have := H.out; simp at this; omega)
  · have e := toLow_yes h
    rw [e]
    rw [upp_int] at h
    have h1 : (65 : Int) ≤ c.toNat := by simp at h; omega
    have h2 : (c.toNat : Int) ≤ 90 := by simp at h; omega
    have hw : IntKind.u8.wrap ((c.toNat : Int) + 32) = (c.toNat : Int) + 32 := by
      have : IntKind.u8.wrap ((c.toNat : Int) + 32) = ((c.toNat : Int) + 32) % 256 := rfl
      rw [this]; omega
    clear h e
    unfold Gives
    go_enter Tryz.func67, Tryz.ntmps67
    go_wp2_with fail
    go_ret
    exact ⟨by first | rfl | rw [hw], (by repeat (first | exact below_of_grow _ _ | exact Below.refl _ _ | exact below_more _ _ _ _ | (simp only [← Array.append_assoc]; first | exact below_more _ _ _ _ | exact below_same _ _ _ | exact Below.refl _ _) | exact below_same _ _ _ | (refine Below.alloc ?_ (by first | (simp; done) | (simp; omega)) _) | (refine Below.grow ?_ (by first | (simp; done) | (simp; omega)) _ _) | refine Below.drew ?_ | refine Below.drewN ?_ _ | (refine Below.putF ?_ (by first | (simp; done) | omega | (simp; omega)) _) | (refine Below.setCell ?_ (by first | (simp; done) | (simp; omega)) _)))⟩
theorem upper_gives (c : UInt8) (w : World) : Gives Tryz.prog 68 #[.int .u8 (c.toNat : Int)] w (.int .u8 ((toUpp c).toNat : Int)) := by
  cases h : lowB c
  · rw [toUpp_no h]
    rw [low_int] at h
    have H := Lib.hid h
    clear h
    unfold Gives
    go_enter Tryz.func68, Tryz.ntmps68
    go_wp2_with fail
    all_goals first
      | (go_ret; exact ⟨rfl, (by repeat (first | exact below_of_grow _ _ | exact Below.refl _ _ | exact below_more _ _ _ _ | (simp only [← Array.append_assoc]; first | exact below_more _ _ _ _ | exact below_same _ _ _ | exact Below.refl _ _) | exact below_same _ _ _ | (refine Below.alloc ?_ (by first | (simp; done) | (simp; omega)) _) | (refine Below.grow ?_ (by first | (simp; done) | (simp; omega)) _ _) | refine Below.drew ?_ | refine Below.drewN ?_ _ | (refine Below.putF ?_ (by first | (simp; done) | omega | (simp; omega)) _) | (refine Below.setCell ?_ (by first | (simp; done) | (simp; omega)) _)))⟩)
      | (exfalso; have := H.out; simp at this; omega)
  · have e := toUpp_yes h
    rw [e]
    rw [low_int] at h
    have h1 : (97 : Int) ≤ c.toNat := by simp at h; omega
    have h2 : (c.toNat : Int) ≤ 122 := by simp at h; omega
    have hw : IntKind.u8.wrap ((c.toNat : Int) - 32) = (c.toNat : Int) - 32 := by
      have : IntKind.u8.wrap ((c.toNat : Int) - 32) = ((c.toNat : Int) - 32) % 256 := rfl
      rw [this]; omega
    clear h e
    unfold Gives
    go_enter Tryz.func68, Tryz.ntmps68
    go_wp2_with fail
    go_ret
    exact ⟨by first | rfl | rw [hw], (by repeat (first | exact below_of_grow _ _ | exact Below.refl _ _ | exact below_more _ _ _ _ | (simp only [← Array.append_assoc]; first | exact below_more _ _ _ _ | exact below_same _ _ _ | exact Below.refl _ _) | exact below_same _ _ _ | (refine Below.alloc ?_ (by first | (simp; done) | (simp; omega)) _) | (refine Below.grow ?_ (by first | (simp; done) | (simp; omega)) _ _) | refine Below.drew ?_ | refine Below.drewN ?_ _ | (refine Below.putF ?_ (by first | (simp; done) | omega | (simp; omega)) _) | (refine Below.setCell ?_ (by first | (simp; done) | (simp; omega)) _)))⟩
end Go.Proofs.YtbflpnkodpeggaaGreatDoor

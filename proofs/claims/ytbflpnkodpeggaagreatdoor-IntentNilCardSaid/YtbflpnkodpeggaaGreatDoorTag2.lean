/- Layer 5: the text of a tag. -/
import Derived.Test.YtbflpnkodpeggaaGreatDoorTag1
import Derived.Deep.RegionHeld3
namespace Go.Proofs.YtbflpnkodpeggaaGreatDoor
set_option maxRecDepth 100000
open Go.RowKit

theorem allLet_gives (s : List UInt8) (hm : s.length ≤ maxLen) (w : World) : Gives Tryz.prog 65 #[.string (bs s), .func (.func 66) #[] #[]] w (.bool (s.all letB)) := by
  have hz := bs_size s
  unfold maxLen at hm
  unfold Gives
  go_enter Tryz.func65, Tryz.ntmps65
  go_wp2_with fail
  go_loopw [8] (fun i wr => ∃ (k : Nat) (xs : Array Obj) (d : Nat), k ≤ s.length ∧ i = .int .i64 k ∧ Hid ((s.take k).all letB = true) ∧ wr = w.grow xs d) (fun i _ => s.length - (intOf i).toNat)
  case atStart => exact ⟨0, #[], _, by omega, rfl, Lib.hid (by simp), World.grow_nil.symm⟩
  case round =>
    obtain ⟨k, xs, d, hk, rfl, hall, rfl⟩ := hrel
    by_cases hlt : k < s.length
    · have htk : s.take (k + 1) = s.take k ++ [byt s k] := by rw [List.take_succ_eq_append_getElem hlt, byt_get hlt]
      have HT := Lib.hid htk
      have hs := tagLetter_gives (byt s k)
      generalize hb : letB (byt s k) = b at *
      have HS := Lib.hid hs
      have HB := Lib.hid hb
      clear hs hb htk
      cases b
      · go_wp2_with (go_at_call 66; refine Gives.use (HS.out _) ?_; intro ys e)
        have h : s.all letB = false := by
          rw [Bool.eq_false_iff]
          intro h
          have := List.all_eq_true.1 h (s[k]'hlt) (List.getElem_mem hlt)
          rw [byt_get hlt, HB.out] at this
          cases this
        go_ret
        exact ⟨by rw [h]; rfl, (by repeat (first | exact below_of_grow _ _ | exact Below.refl _ _ | exact below_more _ _ _ _ | (simp only [← Array.append_assoc]; first | exact below_more _ _ _ _ | exact below_same _ _ _ | exact Below.refl _ _) | exact below_same _ _ _ | (refine Below.alloc ?_ (by first | (simp; done) | (simp; omega)) _) | (refine Below.grow ?_ (by first | (simp; done) | (simp; omega)) _ _) | refine Below.drew ?_ | refine Below.drewN ?_ _ | (refine Below.putF ?_ (by first | (simp; done) | omega | (simp; omega)) _) | (refine Below.setCell ?_ (by first | (simp; done) | (simp; omega)) _)))⟩
      · go_wp2_with (go_at_call 66; refine Gives.use (HS.out _) ?_; intro ys e)
        go_roundw
        case rel =>
          refine ⟨k + 1, _, _, by omega, by go_num, Lib.hid ?_, rfl⟩
          rw [HT.out, List.all_append, hall.out]
          simp [HB.out]
        case measure => simp [intOf]; omega
    · have : k = s.length := by omega
      subst this
      rw [List.take_length] at hall
      go_wp2_with fail
      go_ret
      exact ⟨by rw [hall.out]; rfl, (by repeat (first | exact below_of_grow _ _ | exact Below.refl _ _ | exact below_more _ _ _ _ | (simp only [← Array.append_assoc]; first | exact below_more _ _ _ _ | exact below_same _ _ _ | exact Below.refl _ _) | exact below_same _ _ _ | (refine Below.alloc ?_ (by first | (simp; done) | (simp; omega)) _) | (refine Below.grow ?_ (by first | (simp; done) | (simp; omega)) _ _) | refine Below.drew ?_ | refine Below.drewN ?_ _ | (refine Below.putF ?_ (by first | (simp; done) | omega | (simp; omega)) _) | (refine Below.setCell ?_ (by first | (simp; done) | (simp; omega)) _)))⟩
theorem allDig_gives (s : List UInt8) (hm : s.length ≤ maxLen) (w : World) : Gives Tryz.prog 65 #[.string (bs s), .func (.func 69) #[] #[]] w (.bool (s.all digB)) := by
  have hz := bs_size s
  unfold maxLen at hm
  unfold Gives
  go_enter Tryz.func65, Tryz.ntmps65
  go_wp2_with fail
  go_loopw [8] (fun i wr => ∃ (k : Nat) (xs : Array Obj) (d : Nat), k ≤ s.length ∧ i = .int .i64 k ∧ Hid ((s.take k).all digB = true) ∧ wr = w.grow xs d) (fun i _ => s.length - (intOf i).toNat)
  case atStart => exact ⟨0, #[], _, by omega, rfl, Lib.hid (by simp), World.grow_nil.symm⟩
  case round =>
    obtain ⟨k, xs, d, hk, rfl, hall, rfl⟩ := hrel
    by_cases hlt : k < s.length
    · have htk : s.take (k + 1) = s.take k ++ [byt s k] := by rw [List.take_succ_eq_append_getElem hlt, byt_get hlt]
      have HT := Lib.hid htk
      have hs := tagDigit_gives (byt s k)
      generalize hb : digB (byt s k) = b at *
      have HS := Lib.hid hs
      have HB := Lib.hid hb
      clear hs hb htk
      cases b
      · go_wp2_with (go_at_call 69; refine Gives.use (HS.out _) ?_; intro ys e)
        have h : s.all digB = false := by
          rw [Bool.eq_false_iff]
          intro h
          have := List.all_eq_true.1 h (s[k]'hlt) (List.getElem_mem hlt)
          rw [byt_get hlt, HB.out] at this
          cases this
        go_ret
        exact ⟨by rw [h]; rfl, (by repeat (first | exact below_of_grow _ _ | exact Below.refl _ _ | exact below_more _ _ _ _ | (simp only [← Array.append_assoc]; first | exact below_more _ _ _ _ | exact below_same _ _ _ | exact Below.refl _ _) | exact below_same _ _ _ | (refine Below.alloc ?_ (by first | (simp; done) | (simp; omega)) _) | (refine Below.grow ?_ (by first | (simp; done) | (simp; omega)) _ _) | refine Below.drew ?_ | refine Below.drewN ?_ _ | (refine Below.putF ?_ (by first | (simp; done) | omega | (simp; omega)) _) | (refine Below.setCell ?_ (by first | (simp; done) | (simp; omega)) _)))⟩
      · go_wp2_with (go_at_call 69; refine Gives.use (HS.out _) ?_; intro ys e)
        go_roundw
        case rel =>
          refine ⟨k + 1, _, _, by omega, by go_num, Lib.hid ?_, rfl⟩
          rw [HT.out, List.all_append, hall.out]
          simp [HB.out]
        case measure => simp [intOf]; omega
    · have : k = s.length := by omega
      subst this
      rw [List.take_length] at hall
      go_wp2_with fail
      go_ret
      exact ⟨by rw [hall.out]; rfl, (by repeat (first | exact below_of_grow _ _ | exact Below.refl _ _ | exact below_more _ _ _ _ | (simp only [← Array.append_assoc]; first | exact below_more _ _ _ _ | exact below_same _ _ _ | exact Below.refl _ _) | exact below_same _ _ _ | (refine Below.alloc ?_ (by first | (simp; done) | (simp; omega)) _) | (refine Below.grow ?_ (by first | (simp; done) | (simp; omega)) _ _) | refine Below.drew ?_ | refine Below.drewN ?_ _ | (refine Below.putF ?_ (by first | (simp; done) | omega | (simp; omega)) _) | (refine Below.setCell ?_ (by first | (simp; done) | (simp; omega)) _)))⟩

theorem row8_conv {w : World} {b o cap : Nat} {l : List UInt8} (h : Row8 w b o l) :
    (convert 63 9 (.slice (some ⟨b, o, none⟩) l.length cap)).run Tryz.prog w = .ok (.string (bs l)) w :=
  run_convert_bytes_back (P := Tryz.prog) w 63 9 5 ⟨b, o, none⟩ cap l Tryz.underlying63 Tryz.underlying5 Tryz.underlying9 (row8_cells h)
theorem bs_data (l : List UInt8) : (bs l).data.toList = l := by simp [bs]
theorem part_gives (l : List UInt8) (b o cap : Nat) (w : World) (h : Row8 w b o l) (hm : l.length ≤ maxLen) : Gives Tryz.prog 70 #[.slice (some ⟨b, o, none⟩) l.length cap] w (.string (bs (partT l))) := by
  have hcv := row8_conv (cap := cap) h
  have ht := Tryz.strings_TrimRight_one (bs l) 0 (by decide) w (by rw [bs_size]; exact hm)
  rw [bs_data] at ht
  have HT := Lib.hid ht
  clear ht h
  unfold Gives
  go_enter Tryz.func70, Tryz.ntmps70
  go_wp2_with (go_at_call 75; refine HT.out.mono ?_; rintro e w' ⟨rfl, rfl⟩)
  go_ret
  exact ⟨rfl, (by repeat (first | exact below_of_grow _ _ | exact Below.refl _ _ | exact below_more _ _ _ _ | (simp only [← Array.append_assoc]; first | exact below_more _ _ _ _ | exact below_same _ _ _ | exact Below.refl _ _) | exact below_same _ _ _ | (refine Below.alloc ?_ (by first | (simp; done) | (simp; omega)) _) | (refine Below.grow ?_ (by first | (simp; done) | (simp; omega)) _ _) | refine Below.drew ?_ | refine Below.drewN ?_ _ | (refine Below.putF ?_ (by first | (simp; done) | omega | (simp; omega)) _) | (refine Below.setCell ?_ (by first | (simp; done) | (simp; omega)) _)))⟩
end Go.Proofs.YtbflpnkodpeggaaGreatDoor

/- Layer 5: letters; the text of a tag. -/
import Derived.Test.YtjdccgmoldmlmaaDoorName
import Derived.Test.YtjdccgmoldmlmaaDoorShelf
import Derived.Deep.RegionHeld3
namespace Go.Proofs.YtjdccgmoldmlmaaDoor
set_option maxRecDepth 100000
open Go.RowKit

theorem low_int (c : UInt8) : lowB c = (decide ((97 : Int) ≤ c.toNat) && decide ((c.toNat : Int) ≤ 122)) := by
  unfold lowB; congr 1 <;> (rw [decide_eq_decide]; omega)
theorem upp_int (c : UInt8) : uppB c = (decide ((65 : Int) ≤ c.toNat) && decide ((c.toNat : Int) ≤ 90)) := by
  unfold uppB; congr 1 <;> (rw [decide_eq_decide]; omega)
theorem dig_int (c : UInt8) : digB c = (decide ((48 : Int) ≤ c.toNat) && decide ((c.toNat : Int) ≤ 57)) := by
  unfold digB; congr 1 <;> (rw [decide_eq_decide]; omega)
theorem tagLetter_gives (c : UInt8) (w : World) : Gives Tryd.prog 59 #[.int .u8 (c.toNat : Int)] w (.bool (letB c)) := by
  unfold letB
  rw [low_int, upp_int]
  unfold Gives
  go_enter Tryd.func59, Tryd.ntmps59
  go_wp2_with fail
  all_goals
    go_ret
    exact ⟨congrArg Ending.returned (congrArg Value.bool (by first | (simp [*]; done) | (rw [Bool.eq_iff_iff]; simp [*]; done) | (rw [Bool.eq_iff_iff]; simp [*]; omega) | (rw [Bool.eq_iff_iff]; simp; omega))), (by repeat (first | exact below_of_grow _ _ | exact Below.refl _ _ | exact below_more _ _ _ _ | (simp only [← Array.append_assoc]; first | exact below_more _ _ _ _ | exact below_same _ _ _ | exact Below.refl _ _) | exact below_same _ _ _ | (refine Below.alloc ?_ (by first | (simp; done) | (simp; omega)) _) | (refine Below.grow ?_ (by first | (simp; done) | (simp; omega)) _ _) | refine Below.drew ?_ | refine Below.drewN ?_ _ | (refine Below.putF ?_ (by first | (simp; done) | omega | (simp; omega)) _) | (refine Below.setCell ?_ (by first | (simp; done) | (simp; omega)) _)))⟩
theorem tagDigit_gives (c : UInt8) (w : World) : Gives Tryd.prog 62 #[.int .u8 (c.toNat : Int)] w (.bool (digB c)) := by
  rw [dig_int]
  unfold Gives
  go_enter Tryd.func62, Tryd.ntmps62
  go_wp2_with fail
  all_goals
    go_ret
    exact ⟨congrArg Ending.returned (congrArg Value.bool (by first | (simp [*]; done) | (rw [Bool.eq_iff_iff]; simp [*]; done) | (rw [Bool.eq_iff_iff]; simp [*]; omega) | (rw [Bool.eq_iff_iff]; simp; omega))), (by repeat (first | exact below_of_grow _ _ | exact Below.refl _ _ | exact below_more _ _ _ _ | (simp only [← Array.append_assoc]; first | exact below_more _ _ _ _ | exact below_same _ _ _ | exact Below.refl _ _) | exact below_same _ _ _ | (refine Below.alloc ?_ (by first | (simp; done) | (simp; omega)) _) | (refine Below.grow ?_ (by first | (simp; done) | (simp; omega)) _ _) | refine Below.drew ?_ | refine Below.drewN ?_ _ | (refine Below.putF ?_ (by first | (simp; done) | omega | (simp; omega)) _) | (refine Below.setCell ?_ (by first | (simp; done) | (simp; omega)) _)))⟩
theorem toLow_yes {c : UInt8} (h : uppB c = true) : ((toLow c).toNat : Int) = c.toNat + 32 := by
  unfold toLow
  rw [if_pos h]
  simp [uppB] at h
  simp [UInt8.toNat_add]
  omega
theorem toUpp_yes {c : UInt8} (h : lowB c = true) : ((toUpp c).toNat : Int) = c.toNat - 32 := by
  unfold toUpp
  rw [if_pos h]
  simp [lowB] at h
  simp [UInt8.toNat_sub]
  omega
theorem toLow_no {c : UInt8} (h : uppB c = false) : toLow c = c := by unfold toLow; rw [h]; rfl
theorem toUpp_no {c : UInt8} (h : lowB c = false) : toUpp c = c := by unfold toUpp; rw [h]; rfl
theorem lower_gives (c : UInt8) (w : World) : Gives Tryd.prog 60 #[.int .u8 (c.toNat : Int)] w (.int .u8 ((toLow c).toNat : Int)) := by
  cases h : uppB c
  · rw [toLow_no h]
    rw [upp_int] at h
    have H := Lib.hid h
    clear h
    unfold Gives
    go_enter Tryd.func60, Tryd.ntmps60
    go_wp2_with fail
    all_goals first
      | (go_ret; exact ⟨rfl, (by repeat (first | exact below_of_grow _ _ | exact Below.refl _ _ | exact below_more _ _ _ _ | (simp only [← Array.append_assoc]; first | exact below_more _ _ _ _ | exact below_same _ _ _ | exact Below.refl _ _) | exact below_same _ _ _ | (refine Below.alloc ?_ (by first | (simp; done) | (simp; omega)) _) | (refine Below.grow ?_ (by first | (simp; done) | (simp; omega)) _ _) | refine Below.drew ?_ | refine Below.drewN ?_ _ | (refine Below.putF ?_ (by first | (simp; done) | omega | (simp; omega)) _) | (refine Below.setCell ?_ (by first | (simp; done) | (simp; omega)) _)))⟩)
      | (exfalso; have := H.out; simp at this; omega)
  · have e := toLow_yes h
    rw [e]
    rw [upp_int] at h
    have h1 : (65 : Int) ≤ c.toNat := by simp at h; omega
    have h2 : (c.toNat : Int) ≤ 90 := by simp at h; omega
    have hw : IntKind.u8.wrap ((c.toNat : Int) + 32) = (c.toNat : Int) + 32 := by
      have : IntKind.u8.wrap ((c.toNat : Int) + 32) = ((c.toNat : Int) + 32) % 256 := rfl
      rw [this]; omega
    clear h e
    unfold Gives
    go_enter Tryd.func60, Tryd.ntmps60
    go_wp2_with fail
    go_ret
    exact ⟨by first | rfl | rw [hw], (by repeat (first | exact below_of_grow _ _ | exact Below.refl _ _ | exact below_more _ _ _ _ | (simp only [← Array.append_assoc]; first | exact below_more _ _ _ _ | exact below_same _ _ _ | exact Below.refl _ _) | exact below_same _ _ _ | (refine Below.alloc ?_ (by first | (simp; done) | (simp; omega)) _) | (refine Below.grow ?_ (by first | (simp; done) | (simp; omega)) _ _) | refine Below.drew ?_ | refine Below.drewN ?_ _ | (refine Below.putF ?_ (by first | (simp; done) | omega | (simp; omega)) _) | (refine Below.setCell ?_ (by first | (simp; done) | (simp; omega)) _)))⟩
theorem upper_gives (c : UInt8) (w : World) : Gives Tryd.prog 61 #[.int .u8 (c.toNat : Int)] w (.int .u8 ((toUpp c).toNat : Int)) := by
  cases h : lowB c
  · rw [toUpp_no h]
    rw [low_int] at h
    have H := Lib.hid h
    clear h
    unfold Gives
    go_enter Tryd.func61, Tryd.ntmps61
    go_wp2_with fail
    all_goals first
      | (go_ret; exact ⟨rfl, (by repeat (first | exact below_of_grow _ _ | exact Below.refl _ _ | exact below_more _ _ _ _ | (simp only [← Array.append_assoc]; first | exact below_more _ _ _ _ | exact below_same _ _ _ | exact Below.refl _ _) | exact below_same _ _ _ | (refine Below.alloc ?_ (by first | (simp; done) | (simp; omega)) _) | (refine Below.grow ?_ (by first | (simp; done) | (simp; omega)) _ _) | refine Below.drew ?_ | refine Below.drewN ?_ _ | (refine Below.putF ?_ (by first | (simp; done) | omega | (simp; omega)) _) | (refine Below.setCell ?_ (by first | (simp; done) | (simp; omega)) _)))⟩)
      | (exfalso; have := H.out; simp at this; omega)
  · have e := toUpp_yes h
    rw [e]
    rw [low_int] at h
    have h1 : (97 : Int) ≤ c.toNat := by simp at h; omega
    have h2 : (c.toNat : Int) ≤ 122 := by simp at h; omega
    have hw : IntKind.u8.wrap ((c.toNat : Int) - 32) = (c.toNat : Int) - 32 := by
      have : IntKind.u8.wrap ((c.toNat : Int) - 32) = ((c.toNat : Int) - 32) % 256 := rfl
      rw [this]; omega
    clear h e
    unfold Gives
    go_enter Tryd.func61, Tryd.ntmps61
    go_wp2_with fail
    go_ret
    exact ⟨by first | rfl | rw [hw], (by repeat (first | exact below_of_grow _ _ | exact Below.refl _ _ | exact below_more _ _ _ _ | (simp only [← Array.append_assoc]; first | exact below_more _ _ _ _ | exact below_same _ _ _ | exact Below.refl _ _) | exact below_same _ _ _ | (refine Below.alloc ?_ (by first | (simp; done) | (simp; omega)) _) | (refine Below.grow ?_ (by first | (simp; done) | (simp; omega)) _ _) | refine Below.drew ?_ | refine Below.drewN ?_ _ | (refine Below.putF ?_ (by first | (simp; done) | omega | (simp; omega)) _) | (refine Below.setCell ?_ (by first | (simp; done) | (simp; omega)) _)))⟩
end Go.Proofs.YtjdccgmoldmlmaaDoor
namespace Go.Proofs.YtjdccgmoldmlmaaDoor
set_option maxRecDepth 100000
open Go.RowKit

theorem allLet_gives (s : List UInt8) (hm : s.length ≤ maxLen) (w : World) : Gives Tryd.prog 58 #[.string (bs s), .func (.func 59) #[] #[]] w (.bool (s.all letB)) := by
  have hz := bs_size s
  unfold maxLen at hm
  unfold Gives
  go_enter Tryd.func58, Tryd.ntmps58
  go_wp2_with fail
  go_loopw [8] (fun i wr => ∃ (k : Nat) (xs : Array Obj) (d : Nat), k ≤ s.length ∧ i = .int .i64 k ∧ Hid ((s.take k).all letB = true) ∧ wr = w.grow xs d) (fun i _ => s.length - (intOf i).toNat)
  case atStart => exact ⟨0, #[], _, by omega, rfl, Lib.hid (by simp), World.grow_nil.symm⟩
  case round =>
    obtain ⟨k, xs, d, hk, rfl, hall, rfl⟩ := hrel
    by_cases hlt : k < s.length
    · have htk : s.take (k + 1) = s.take k ++ [byt s k] := by rw [List.take_succ_eq_append_getElem hlt, byt_get hlt]
      have HT := Lib.hid htk
      have hs := tagLetter_gives (byt s k)
      generalize hb : letB (byt s k) = b at *
      have HS := Lib.hid hs
      have HB := Lib.hid hb
      clear hs hb htk
      cases b
      · go_wp2_with (go_at_call 59; refine Gives.use (HS.out _) ?_; intro ys e)
        have h : s.all letB = false := by
          rw [Bool.eq_false_iff]
          intro h
          have := List.all_eq_true.1 h (s[k]'hlt) (List.getElem_mem hlt)
          rw [byt_get hlt, HB.out] at this
          cases this
        go_ret
        exact ⟨by rw [h]; rfl, (by repeat (first | exact below_of_grow _ _ | exact Below.refl _ _ | exact below_more _ _ _ _ | (simp only [← Array.append_assoc]; first | exact below_more _ _ _ _ | exact below_same _ _ _ | exact Below.refl _ _) | exact below_same _ _ _ | (refine Below.alloc ?_ (by first | (simp; done) | (simp; omega)) _) | (refine Below.grow ?_ (by first | (simp; done) | (simp; omega)) _ _) | refine Below.drew ?_ | refine Below.drewN ?_ _ | (refine Below.putF ?_ (by first | (simp; done) | omega | (simp; omega)) _) | (refine Below.setCell ?_ (by first | (simp; done) | (simp; omega)) _)))⟩
      · go_wp2_with (go_at_call 59; refine Gives.use (HS.out _) ?_; intro ys e)
        go_roundw
        case rel =>
          refine ⟨k + 1, _, _, by omega, by go_num, Lib.hid ?_, rfl⟩
          rw [HT.out, List.all_append, hall.out]
          simp [HB.out]
        case measure => simp [intOf]; omega
    · have : k = s.length := by omega
      subst this
      rw [List.take_length] at hall
      go_wp2_with fail
      go_ret
      exact ⟨by rw [hall.out]; rfl, (by repeat (first | exact below_of_grow _ _ | exact Below.refl _ _ | exact below_more _ _ _ _ | (simp only [← Array.append_assoc]; first | exact below_more _ _ _ _ | exact below_same _ _ _ | exact Below.refl _ _) | exact below_same _ _ _ | (refine Below.alloc ?_ (by first | (simp; done) | (simp; omega)) _) | (refine Below.grow ?_ (by first | (simp; done) | (simp; omega)) _ _) | refine Below.drew ?_ | refine Below.drewN ?_ _ | (refine Below.putF ?_ (by first | (simp; done) | omega | (simp; omega)) _) | (refine Below.setCell ?_ (by first | (simp; done) | (simp; omega)) _)))⟩
theorem allDig_gives (s : List UInt8) (hm : s.length ≤ maxLen) (w : World) : Gives Tryd.prog 58 #[.string (bs s), .func (.func 62) #[] #[]] w (.bool (s.all digB)) := by
  have hz := bs_size s
  unfold maxLen at hm
  unfold Gives
  go_enter Tryd.func58, Tryd.ntmps58
  go_wp2_with fail
  go_loopw [8] (fun i wr => ∃ (k : Nat) (xs : Array Obj) (d : Nat), k ≤ s.length ∧ i = .int .i64 k ∧ Hid ((s.take k).all digB = true) ∧ wr = w.grow xs d) (fun i _ => s.length - (intOf i).toNat)
  case atStart => exact ⟨0, #[], _, by omega, rfl, Lib.hid (by simp), World.grow_nil.symm⟩
  case round =>
    obtain ⟨k, xs, d, hk, rfl, hall, rfl⟩ := hrel
    by_cases hlt : k < s.length
    · have htk : s.take (k + 1) = s.take k ++ [byt s k] := by rw [List.take_succ_eq_append_getElem hlt, byt_get hlt]
      have HT := Lib.hid htk
      have hs := tagDigit_gives (byt s k)
      generalize hb : digB (byt s k) = b at *
      have HS := Lib.hid hs
      have HB := Lib.hid hb
      clear hs hb htk
      cases b
      · go_wp2_with (go_at_call 62; refine Gives.use (HS.out _) ?_; intro ys e)
        have h : s.all digB = false := by
          rw [Bool.eq_false_iff]
          intro h
          have := List.all_eq_true.1 h (s[k]'hlt) (List.getElem_mem hlt)
          rw [byt_get hlt, HB.out] at this
          cases this
        go_ret
        exact ⟨by rw [h]; rfl, (by repeat (first | exact below_of_grow _ _ | exact Below.refl _ _ | exact below_more _ _ _ _ | (simp only [← Array.append_assoc]; first | exact below_more _ _ _ _ | exact below_same _ _ _ | exact Below.refl _ _) | exact below_same _ _ _ | (refine Below.alloc ?_ (by first | (simp; done) | (simp; omega)) _) | (refine Below.grow ?_ (by first | (simp; done) | (simp; omega)) _ _) | refine Below.drew ?_ | refine Below.drewN ?_ _ | (refine Below.putF ?_ (by first | (simp; done) | omega | (simp; omega)) _) | (refine Below.setCell ?_ (by first | (simp; done) | (simp; omega)) _)))⟩
      · go_wp2_with (go_at_call 62; refine Gives.use (HS.out _) ?_; intro ys e)
        go_roundw
        case rel =>
          refine ⟨k + 1, _, _, by omega, by go_num, Lib.hid ?_, rfl⟩
          rw [HT.out, List.all_append, hall.out]
          simp [HB.out]
        case measure => simp [intOf]; omega
    · have : k = s.length := by omega
      subst this
      rw [List.take_length] at hall
      go_wp2_with fail
      go_ret
      exact ⟨by rw [hall.out]; rfl, (by repeat (first | exact below_of_grow _ _ | exact Below.refl _ _ | exact below_more _ _ _ _ | (simp only [← Array.append_assoc]; first | exact below_more _ _ _ _ | exact below_same _ _ _ | exact Below.refl _ _) | exact below_same _ _ _ | (refine Below.alloc ?_ (by first | (simp; done) | (simp; omega)) _) | (refine Below.grow ?_ (by first | (simp; done) | (simp; omega)) _ _) | refine Below.drew ?_ | refine Below.drewN ?_ _ | (refine Below.putF ?_ (by first | (simp; done) | omega | (simp; omega)) _) | (refine Below.setCell ?_ (by first | (simp; done) | (simp; omega)) _)))⟩

theorem row8_conv {w : World} {b o cap : Nat} {l : List UInt8} (h : Row8 w b o l) :
    (convert 97 9 (.slice (some ⟨b, o, none⟩) l.length cap)).run Tryd.prog w = .ok (.string (bs l)) w :=
  run_convert_bytes_back (P := Tryd.prog) w 97 9 5 ⟨b, o, none⟩ cap l Tryd.underlying97 Tryd.underlying5 Tryd.underlying9 (row8_cells h)
theorem bs_data (l : List UInt8) : (bs l).data.toList = l := by simp [bs]
theorem part_gives (l : List UInt8) (b o cap : Nat) (w : World) (h : Row8 w b o l) (hm : l.length ≤ maxLen) : Gives Tryd.prog 63 #[.slice (some ⟨b, o, none⟩) l.length cap] w (.string (bs (partT l))) := by
  have hcv := row8_conv (cap := cap) h
  have ht := Tryd.strings_TrimRight_one (bs l) 0 (by decide) w (by rw [bs_size]; exact hm)
  rw [bs_data] at ht
  have HT := Lib.hid ht
  clear ht h
  unfold Gives
  go_enter Tryd.func63, Tryd.ntmps63
  go_wp2_with (go_at_call 66; refine HT.out.mono ?_; rintro e w' ⟨rfl, rfl⟩)
  go_ret
  exact ⟨rfl, (by repeat (first | exact below_of_grow _ _ | exact Below.refl _ _ | exact below_more _ _ _ _ | (simp only [← Array.append_assoc]; first | exact below_more _ _ _ _ | exact below_same _ _ _ | exact Below.refl _ _) | exact below_same _ _ _ | (refine Below.alloc ?_ (by first | (simp; done) | (simp; omega)) _) | (refine Below.grow ?_ (by first | (simp; done) | (simp; omega)) _ _) | refine Below.drew ?_ | refine Below.drewN ?_ _ | (refine Below.putF ?_ (by first | (simp; done) | omega | (simp; omega)) _) | (refine Below.setCell ?_ (by first | (simp; done) | (simp; omega)) _)))⟩
end Go.Proofs.YtjdccgmoldmlmaaDoor
namespace Go.Proofs.YtjdccgmoldmlmaaDoor
set_option maxRecDepth 100000
open Go.RowKit

theorem Row8.part {w : World} {b o : Nat} {l : List UInt8} (h : Row8 w b o l) (a n : Nat) : Row8 w b (o + a) ((l.drop a).take n) := by
  intro j hj
  have hj2 : j < n ∧ a + j < l.length := by simp at hj; omega
  have := h (a + j) hj2.2
  rw [Nat.add_assoc, this, ← byt_get hj, ← byt_get hj2.2]
  simp
theorem Row8.grow {w : World} {b o : Nat} {l : List UInt8} (h : Row8 w b o l) (hb : b < w.heap.size) (xs : Array Obj) (d : Nat) : Row8 (w.grow xs d) b o l := by
  intro j hj
  rw [← h j hj]
  exact World.cell?_grow xs d b (o + j) hb
theorem part_at (l : List UInt8) (b o n cap : Nat) (hn : l.length = n) (w : World) (h : Row8 w b o l) (hm : n ≤ 100) : Gives Tryd.prog 63 #[.slice (some ⟨b, o, none⟩) n cap] w (.string (bs (partT l))) := by
  subst hn
  exact part_gives l b o cap w h (by unfold maxLen; omega)

/-- a slice of two strings -/
def TwoStr (s1 s2 : List UInt8) (v : Value) (w : World) : Prop :=
  ∃ b, v = .slice (some ⟨b, 0, none⟩) 2 2 ∧ b < w.heap.size ∧ w.cell? ⟨b, 0, none⟩ = some (.string (bs s1)) ∧ w.cell? ⟨b, 1, none⟩ = some (.string (bs s2))
theorem TwoStr.keep {s1 s2 : List UInt8} {v : Value} {w w' : World} (h : TwoStr s1 s2 v w) (hb : Below w.heap.size w w') : TwoStr s1 s2 v w' := by
  obtain ⟨b, h1, h2, h3, h4⟩ := h
  exact ⟨b, h1, Nat.lt_of_lt_of_le h2 hb.size, by rw [hb.cell (p := ⟨b, 0, none⟩) h2]; exact h3, by rw [hb.cell (p := ⟨b, 1, none⟩) h2]; exact h4⟩

theorem dropWhile_len {α : Type} (p : α → Bool) : ∀ l : List α, (l.dropWhile p).length ≤ l.length
  | [] => Nat.le_refl _
  | x :: l => by
    rw [List.dropWhile_cons]
    split
    · have := dropWhile_len p l
      simp only [List.length_cons]; omega
    · exact Nat.le_refl _
theorem partT_len (l : List UInt8) : (partT l).length ≤ l.length := by
  unfold partT Lib.trimRightB
  have := dropWhile_len (· == (0 : UInt8)) l.reverse
  simpa using this
theorem dashed_len (l : List UInt8) : (dashed l).length ≤ l.length + 1 := by
  unfold dashed; split <;> simp
theorem dash_app (a b : List UInt8) (h : b ≠ []) : bs a ++ (ByteArray.mk #[45] ++ bs b) = bs (a ++ dashed b) := by
  unfold dashed
  rw [if_neg h]
  have : (ByteArray.mk #[45] ++ bs b) = bs (45 :: b) := by
    rw [show (ByteArray.mk #[45] : ByteArray) = bs [45] from rfl, bs_append]; rfl
  rw [this, bs_append]
def plainTo (a b c : List UInt8) : Nat → List UInt8
  | 0 => a
  | 1 => a ++ dashed b
  | _ => a ++ dashed b ++ dashed c
set_option maxHeartbeats 1600000 in
theorem plain_gives (t : List UInt8) (hn : t.length = 10) (w : World) : Gives Tryd.prog 53 #[.agg (row8 t)] w (.string (bs (tagPlain t))) := by
  have hz : (zeros 10).length = 10 := by simp
  by_cases hroot : t = zeros 10
  · have e : (t == zeros 10) = true := beq_iff_eq.2 hroot
    have e2 : tagPlain t = rootL := if_pos hroot
    have E := Lib.hid e2
    clear e2 hroot
    unfold Gives
    go_enter Tryd.func53, Tryd.ntmps53
    go_wp2_with fail
    go_ret
    exact ⟨by rw [E.out]; rfl, (by repeat (first | exact below_of_grow _ _ | exact Below.refl _ _ | exact below_more _ _ _ _ | (simp only [← Array.append_assoc]; first | exact below_more _ _ _ _ | exact below_same _ _ _ | exact Below.refl _ _) | exact below_same _ _ _ | (refine Below.alloc ?_ (by first | (simp; done) | (simp; omega)) _) | (refine Below.grow ?_ (by first | (simp; done) | (simp; omega)) _ _) | refine Below.drew ?_ | refine Below.drewN ?_ _ | (refine Below.putF ?_ (by first | (simp; done) | omega | (simp; omega)) _) | (refine Below.setCell ?_ (by first | (simp; done) | (simp; omega)) _)))⟩
  · have e : (t == zeros 10) = false := beq_eq_false_iff_ne.2 hroot
    have e2 : tagPlain t = partT (langT t) ++ dashed (partT (scriptT t)) ++ dashed (partT (regionT t)) := if_neg hroot
    have E := Lib.hid e2
    have hr := row8_new (w := w) t 36
    have h1 : Row8 (w.alloc (.cells (row8 t) 36)) w.heap.size 0 (langT t) := hr.take 3
    have h2 : Row8 (w.alloc (.cells (row8 t) 36)) w.heap.size 3 (scriptT t) := by have := hr.part 3 4; rw [Nat.zero_add] at this; exact this
    have h3 : Row8 (w.alloc (.cells (row8 t) 36)) w.heap.size 7 (regionT t) := by
      have := hr.part 7 3
      rw [Nat.zero_add, List.take_of_length_le (by simp; omega)] at this
      exact this
    have l1 : (langT t).length = 3 := by simp [langT, hn]
    have l2 : (scriptT t).length = 4 := by simp [scriptT, hn]
    have l3 : (regionT t).length = 3 := by simp [regionT, hn]
    have c1 := fun xs d => part_at (langT t) w.heap.size 0 3 3 l1 _ (h1.grow (by simp) xs d) (by omega)
    have c2 := fun xs d => part_at (scriptT t) w.heap.size 3 4 4 l2 _ (h2.grow (by simp) xs d) (by omega)
    have c3 := fun xs d => part_at (regionT t) w.heap.size 7 3 3 l3 _ (h3.grow (by simp) xs d) (by omega)
    have c0 := part_at (langT t) w.heap.size 0 3 3 l1 _ h1 (by omega)
    have b1 : (bs (partT (langT t))).size ≤ 10 := by rw [bs_size]; have := partT_len (langT t); omega
    have b2 : (bs (partT (scriptT t))).size ≤ 10 := by rw [bs_size]; have := partT_len (scriptT t); omega
    have b3 : (bs (partT (regionT t))).size ≤ 10 := by rw [bs_size]; have := partT_len (regionT t); omega
    generalize partT (langT t) = a1 at *
    generalize partT (scriptT t) = a2 at *
    generalize partT (regionT t) = a3 at *
    have C0 := Lib.hid c0
    have C2 := Lib.hid c2
    have C3 := Lib.hid c3
    clear c0 c1 c2 c3 l1 l2 l3 h1 h2 h3 hr hroot e2
    unfold Gives
    go_enter Tryd.func53, Tryd.ntmps53
    go_wp2_with (go_at_call 63; refine Gives.use C0.out ?_; intro xs0 d0)
    apply wp_region_specs (by rfl) [.val _, .val _, .val _, .val _, .val _, .val _, .rel (TwoStr a2 a3), .val _, .val _] 9 (by rfl) [12, 13, 14, 15, 16, 17, 18, 19, 20] [] [] (by rfl) (by rfl) (by decide) (by decide +kernel) (fun _ _ _ _ _ h => h)
    case hF => intro x; simp only [over, List.foldl_cons, List.foldl_nil, List.setIfInBounds_toArray, List.set_cons_succ, List.set_cons_zero]; exact rfl
    case hops =>
      refine ⟨?o0, ?o1, ?o2, ?o3, ?o4, ?o5, ?o6, ?o7, ?o8, trivial⟩
      case o0 =>
        intro x w1 hH K hK
        obtain ⟨xs, d, rfl⟩ := grow_of_below hH.below
        clear hH
        try simp only [World.grow_drew] at hK ⊢
        try simp only [World.grow_grow] at hK ⊢
        go_simp
        go_wp2_with fail
        exact ⟨_, rfl, rfl, (by repeat (first | exact below_of_grow _ _ | exact Below.refl _ _ | exact below_more _ _ _ _ | (simp only [← Array.append_assoc]; first | exact below_more _ _ _ _ | exact below_same _ _ _ | exact Below.refl _ _) | exact below_same _ _ _ | (refine Below.alloc ?_ (by first | (simp; done) | (simp; omega)) _) | (refine Below.grow ?_ (by first | (simp; done) | (simp; omega)) _ _) | refine Below.drew ?_ | refine Below.drewN ?_ _ | (refine Below.putF ?_ (by first | (simp; done) | omega | (simp; omega)) _) | (refine Below.setCell ?_ (by first | (simp; done) | (simp; omega)) _))), fun h => by cases h⟩
      case o1 =>
        intro x w1 hH K hK
        have e12 : x 12 = _ := hH.holds 0 (by decide) (by decide +kernel) 12 rfl
        obtain ⟨xs, d, rfl⟩ := grow_of_below hH.below
        clear hH
        try simp only [World.grow_drew] at hK ⊢
        try simp only [World.grow_grow] at hK ⊢
        simp only [e12] at hK ⊢
        clear e12
        go_simp
        go_wp2_with fail
        exact ⟨_, rfl, rfl, (by repeat (first | exact below_of_grow _ _ | exact Below.refl _ _ | exact below_more _ _ _ _ | (simp only [← Array.append_assoc]; first | exact below_more _ _ _ _ | exact below_same _ _ _ | exact Below.refl _ _) | exact below_same _ _ _ | (refine Below.alloc ?_ (by first | (simp; done) | (simp; omega)) _) | (refine Below.grow ?_ (by first | (simp; done) | (simp; omega)) _ _) | refine Below.drew ?_ | refine Below.drewN ?_ _ | (refine Below.putF ?_ (by first | (simp; done) | omega | (simp; omega)) _) | (refine Below.setCell ?_ (by first | (simp; done) | (simp; omega)) _))), fun h => by cases h⟩
      case o2 =>
        intro x w1 hH K hK
        have e13 : x 13 = _ := hH.holds 1 (by decide) (by decide +kernel) 13 rfl
        obtain ⟨xs, d, rfl⟩ := grow_of_below hH.below
        clear hH
        try simp only [World.grow_drew] at hK ⊢
        try simp only [World.grow_grow] at hK ⊢
        simp only [e13] at hK ⊢
        clear e13
        go_simp
        go_wp2_with (refine Gives.use (C2.out _ _) ?_; intro ys e)
        exact ⟨_, rfl, rfl, (by first | exact below_more _ _ _ _ | exact (by repeat (first | exact below_of_grow _ _ | exact Below.refl _ _ | exact below_more _ _ _ _ | (simp only [← Array.append_assoc]; first | exact below_more _ _ _ _ | exact below_same _ _ _ | exact Below.refl _ _) | exact below_same _ _ _ | (refine Below.alloc ?_ (by first | (simp; done) | (simp; omega)) _) | (refine Below.grow ?_ (by first | (simp; done) | (simp; omega)) _ _) | refine Below.drew ?_ | refine Below.drewN ?_ _ | (refine Below.putF ?_ (by first | (simp; done) | omega | (simp; omega)) _) | (refine Below.setCell ?_ (by first | (simp; done) | (simp; omega)) _)))), fun h => by cases h⟩
      case o3 =>
        intro x w1 hH K hK
        obtain ⟨xs, d, rfl⟩ := grow_of_below hH.below
        clear hH
        try simp only [World.grow_drew] at hK ⊢
        try simp only [World.grow_grow] at hK ⊢
        go_simp
        go_wp2_with fail
        exact ⟨_, rfl, rfl, (by repeat (first | exact below_of_grow _ _ | exact Below.refl _ _ | exact below_more _ _ _ _ | (simp only [← Array.append_assoc]; first | exact below_more _ _ _ _ | exact below_same _ _ _ | exact Below.refl _ _) | exact below_same _ _ _ | (refine Below.alloc ?_ (by first | (simp; done) | (simp; omega)) _) | (refine Below.grow ?_ (by first | (simp; done) | (simp; omega)) _ _) | refine Below.drew ?_ | refine Below.drewN ?_ _ | (refine Below.putF ?_ (by first | (simp; done) | omega | (simp; omega)) _) | (refine Below.setCell ?_ (by first | (simp; done) | (simp; omega)) _))), fun h => by cases h⟩
      case o4 =>
        intro x w1 hH K hK
        have e15 : x 15 = _ := hH.holds 3 (by decide) (by decide +kernel) 15 rfl
        obtain ⟨xs, d, rfl⟩ := grow_of_below hH.below
        clear hH
        try simp only [World.grow_drew] at hK ⊢
        try simp only [World.grow_grow] at hK ⊢
        simp only [e15] at hK ⊢
        clear e15
        go_simp
        go_wp2_with fail
        exact ⟨_, rfl, rfl, (by repeat (first | exact below_of_grow _ _ | exact Below.refl _ _ | exact below_more _ _ _ _ | (simp only [← Array.append_assoc]; first | exact below_more _ _ _ _ | exact below_same _ _ _ | exact Below.refl _ _) | exact below_same _ _ _ | (refine Below.alloc ?_ (by first | (simp; done) | (simp; omega)) _) | (refine Below.grow ?_ (by first | (simp; done) | (simp; omega)) _ _) | refine Below.drew ?_ | refine Below.drewN ?_ _ | (refine Below.putF ?_ (by first | (simp; done) | omega | (simp; omega)) _) | (refine Below.setCell ?_ (by first | (simp; done) | (simp; omega)) _))), fun h => by cases h⟩
      case o5 =>
        intro x w1 hH K hK
        have e16 : x 16 = _ := hH.holds 4 (by decide) (by decide +kernel) 16 rfl
        obtain ⟨xs, d, rfl⟩ := grow_of_below hH.below
        clear hH
        try simp only [World.grow_drew] at hK ⊢
        try simp only [World.grow_grow] at hK ⊢
        simp only [e16] at hK ⊢
        clear e16
        go_simp
        go_wp2_with (refine Gives.use (C3.out _ _) ?_; intro ys e)
        exact ⟨_, rfl, rfl, (by first | exact below_more _ _ _ _ | exact (by repeat (first | exact below_of_grow _ _ | exact Below.refl _ _ | exact below_more _ _ _ _ | (simp only [← Array.append_assoc]; first | exact below_more _ _ _ _ | exact below_same _ _ _ | exact Below.refl _ _) | exact below_same _ _ _ | (refine Below.alloc ?_ (by first | (simp; done) | (simp; omega)) _) | (refine Below.grow ?_ (by first | (simp; done) | (simp; omega)) _ _) | refine Below.drew ?_ | refine Below.drewN ?_ _ | (refine Below.putF ?_ (by first | (simp; done) | omega | (simp; omega)) _) | (refine Below.setCell ?_ (by first | (simp; done) | (simp; omega)) _)))), fun h => by cases h⟩
      case o6 =>
        intro x w1 hH K hK
        have e14 : x 14 = _ := hH.holds 2 (by decide) (by decide +kernel) 14 rfl
        have e17 : x 17 = _ := hH.holds 5 (by decide) (by decide +kernel) 17 rfl
        obtain ⟨xs, d, rfl⟩ := grow_of_below hH.below
        clear hH
        try simp only [World.grow_drew] at hK ⊢
        try simp only [World.grow_grow] at hK ⊢
        simp only [e14, e17] at hK ⊢
        clear e14 e17
        go_simp
        go_wp2_with fail
        exact ⟨_, rfl, fun w3 h3 => TwoStr.keep ⟨_, rfl, by simp, by simp [go_sem], by simp [go_sem]⟩ h3, (by repeat (first | exact below_of_grow _ _ | exact Below.refl _ _ | exact below_more _ _ _ _ | (simp only [← Array.append_assoc]; first | exact below_more _ _ _ _ | exact below_same _ _ _ | exact Below.refl _ _) | exact below_same _ _ _ | (refine Below.alloc ?_ (by first | (simp; done) | (simp; omega)) _) | (refine Below.grow ?_ (by first | (simp; done) | (simp; omega)) _ _) | refine Below.drew ?_ | refine Below.drewN ?_ _ | (refine Below.putF ?_ (by first | (simp; done) | omega | (simp; omega)) _) | (refine Below.setCell ?_ (by first | (simp; done) | (simp; omega)) _))), fun h => by cases h⟩
      case o7 =>
        intro x w1 hH K hK
        have r18 := hH.holds 6 (by decide) (by decide +kernel) 18 rfl (_) (Below.refl _ _)
        obtain ⟨xs, d, rfl⟩ := grow_of_below hH.below
        clear hH
        try simp only [World.grow_drew] at hK r18 ⊢
        try simp only [World.grow_grow] at hK r18 ⊢
        obtain ⟨b, hb, _, _, _⟩ := r18
        simp only [hb] at hK ⊢
        go_simp
        go_wp2_with fail
        exact ⟨_, rfl, rfl, Below.refl _ _, fun h => by cases h⟩
      case o8 =>
        intro x w1 hH K hK
        obtain ⟨xs, d, rfl⟩ := grow_of_below hH.below
        clear hH
        try simp only [World.grow_drew] at hK ⊢
        try simp only [World.grow_grow] at hK ⊢
        go_simp
        go_wp2_with fail
        exact ⟨_, rfl, rfl, (by repeat (first | exact below_of_grow _ _ | exact Below.refl _ _ | exact below_more _ _ _ _ | (simp only [← Array.append_assoc]; first | exact below_more _ _ _ _ | exact below_same _ _ _ | exact Below.refl _ _) | exact below_same _ _ _ | (refine Below.alloc ?_ (by first | (simp; done) | (simp; omega)) _) | (refine Below.grow ?_ (by first | (simp; done) | (simp; omega)) _ _) | refine Below.drew ?_ | refine Below.drewN ?_ _ | (refine Below.putF ?_ (by first | (simp; done) | omega | (simp; omega)) _) | (refine Below.setCell ?_ (by first | (simp; done) | (simp; omega)) _))), fun h => by cases h⟩
    case hend =>
      intro x w1 hH
      have e12 : x 12 = _ := hH.holds 0 (by decide) trivial 12 rfl
      have e13 : x 13 = _ := hH.holds 1 (by decide) trivial 13 rfl
      have e14 : x 14 = _ := hH.holds 2 (by decide) trivial 14 rfl
      have e15 : x 15 = _ := hH.holds 3 (by decide) trivial 15 rfl
      have e16 : x 16 = _ := hH.holds 4 (by decide) trivial 16 rfl
      have e17 : x 17 = _ := hH.holds 5 (by decide) trivial 17 rfl
      have r18 := hH.holds 6 (by decide) trivial 18 rfl (_) (Below.refl _ _)
      have e19 : x 19 = _ := hH.holds 7 (by decide) trivial 19 rfl
      have e20 : x 20 = _ := hH.holds 8 (by decide) trivial 20 rfl
      obtain ⟨xs, d, rfl⟩ := grow_of_below hH.below
      clear hH
      simp only [e12, e13, e14, e15, e16, e17, e19, e20]; clear e12 e13 e14 e15 e16 e17 e19 e20
      simp only [List.drop_succ_cons, List.drop_nil]
      obtain ⟨b, hb, hbs, hc1, hc2⟩ := r18
      rw [hb]
      clear hb
      simp only [World.grow_drew, World.grow_grow] at hbs hc1 hc2 ⊢
      have hB : Below w.heap.size w ((w.alloc (.cells (row8 t) 36)).grow (xs0 ++ xs) d) := (by repeat (first | exact below_of_grow _ _ | exact Below.refl _ _ | exact below_more _ _ _ _ | (simp only [← Array.append_assoc]; first | exact below_more _ _ _ _ | exact below_same _ _ _ | exact Below.refl _ _) | exact below_same _ _ _ | (refine Below.alloc ?_ (by first | (simp; done) | (simp; omega)) _) | (refine Below.grow ?_ (by first | (simp; done) | (simp; omega)) _ _) | refine Below.drew ?_ | refine Below.drewN ?_ _ | (refine Below.putF ?_ (by first | (simp; done) | omega | (simp; omega)) _) | (refine Below.setCell ?_ (by first | (simp; done) | (simp; omega)) _)))
      generalize (w.alloc (.cells (row8 t) 36)).grow (xs0 ++ xs) d = W at hB hbs hc1 hc2 ⊢
      have hs := hB.size
      have HB := Lib.hid hB
      clear hB
      go_wp2_with fail
      have L0 := Lib.hid (show plainTo a1 a2 a3 0 = a1 from rfl)
      have L1 := Lib.hid (show plainTo a1 a2 a3 1 = a1 ++ dashed a2 from rfl)
      have L2 := Lib.hid (show plainTo a1 a2 a3 2 = a1 ++ dashed a2 ++ dashed a3 from rfl)
      go_loopw [3, 20] (fun s i wr => ∃ (k : Nat) (ys : Array Obj) (e : Nat), k ≤ 2 ∧ s = .string (bs (plainTo a1 a2 a3 k)) ∧ i = .int .i64 k ∧ wr = W.grow ys e) (fun _ i _ => 2 - (intOf i).toNat)
      case atStart => exact ⟨0, #[], _, by omega, by rw [L0.out], rfl, World.grow_nil.symm⟩
      case round =>
        obtain ⟨k, ys, e1, hk, rfl, rfl, rfl⟩ := hrel
        have hk : k = 0 ∨ k = 1 ∨ k = 2 := by omega
        rcases hk with rfl | rfl | rfl
        · rw [L0.out]
          go_wp2_with fail
          · rename_i h
            go_roundw
            case rel => exact ⟨1, _, _, by omega, by rw [L1.out]; exact congrArg Value.string (dash_app a1 a2 (by simpa using h)), rfl, rfl⟩
            case measure => simp [intOf]
          · rename_i h
            go_roundw
            case rel => exact ⟨1, _, _, by omega, by rw [L1.out]; simp at h; simp [h, dashed], rfl, rfl⟩
            case measure => simp [intOf]
        · rw [L1.out]
          have b4 : (bs (a1 ++ dashed a2)).size ≤ 40 := by
            rw [bs_size] at b1 b2 ⊢
            have := dashed_len a2
            simp; omega
          go_wp2_with fail
          · rename_i h
            go_roundw
            case rel => exact ⟨2, _, _, by omega, by rw [L2.out]; exact congrArg Value.string (dash_app _ a3 (by simpa using h)), rfl, rfl⟩
            case measure => simp [intOf]
          · rename_i h
            go_roundw
            case rel => exact ⟨2, _, _, by omega, by rw [L2.out]; simp at h; simp [h, dashed], rfl, rfl⟩
            case measure => simp [intOf]
        · go_wp2_with fail
          go_ret
          exact ⟨by rw [E.out, L2.out]; rfl, HB.out.grow hs _ _⟩
end Go.Proofs.YtjdccgmoldmlmaaDoor

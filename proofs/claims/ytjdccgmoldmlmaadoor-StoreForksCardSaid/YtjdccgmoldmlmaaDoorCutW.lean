/- Layer 14's law: writes cut. -/
import Derived.Test.YtjdccgmoldmlmaaDoorRightS
import Derived.BigRegion
import Derived.Deep.CutBlock
namespace Go.Proofs.YtjdccgmoldmlmaaDoor
set_option maxRecDepth 100000
open Go.RowKit

def Rec.cut80 (r : Rec) : Rec := { r with text := ⟨r.text.val.take 80, by have := r.text.property; simp; omega⟩ }
def Wr.cut80 (x : Wr) : Wr := ⟨x.k, x.dead, x.r.cut80⟩
def cutW (l : List Wr) : List Wr := (l.take 20).map Wr.cut80
@[go_sem] theorem wrtA_34 (x : Wr) : (wrtA x)[34]? = some (.string (bs x.r.text.val)) := by
  unfold wrtA
  rw [List.getElem?_toArray, List.getElem?_append_right (by simp [keyL_len])]; simp [keyL_len, recL]
@[go_sem, simp] theorem wrtA_34E (x : Wr) (h : 34 < (wrtA x).size) : (wrtA x)[34]'h = .string (bs x.r.text.val) := by
  have := wrtA_34 x
  rw [Array.getElem?_eq_getElem h] at this
  exact Option.some.inj this
theorem wrtA_set34 (x : Wr) (t : Txt) : (wrtA x).setIfInBounds 34 (.string (bs t.val)) = wrtA ⟨x.k, x.dead, { x.r with text := t }⟩ := by
  unfold wrtA
  rw [List.setIfInBounds_toArray]
  congr 1
  rw [List.set_append_right _ _ (by simp [keyL_len])]
  simp [keyL_len, recL]
theorem store80w_long (x : Wr) : (wrtA x).setIfInBounds 34 (.string ((bs x.r.text.val).extract 0 80)) = wrtA x.cut80 := by
  rw [bs_cut]
  exact wrtA_set34 x ⟨x.r.text.val.take 80, by have := x.r.text.property; simp; omega⟩
theorem store80w_min (x : Wr) : (wrtA x).setIfInBounds 34 (.string ((bs x.r.text.val).extract 0 (min ((bs x.r.text.val).size : Int) 80).toNat)) = wrtA x.cut80 := by
  rw [← store80w_long]
  have e : (min ((bs x.r.text.val).size : Int) 80).toNat = min x.r.text.val.length 80 := by rw [bs_size]; omega
  rw [e, bs_cut, bs_cut]
  congr 3
  rw [List.take_eq_take_iff]
  omega
theorem cutW_succ (l : List Wr) (i : Nat) (h : i < l.length) (h2 : i < 20) : cutW (l.take (i + 1)) = cutW (l.take i) ++ [l[i].cut80] := by
  unfold cutW
  rw [List.take_take, List.take_take, Nat.min_eq_right (by omega), Nat.min_eq_right (by omega), List.take_succ_eq_append_getElem h, List.map_append]
  rfl
theorem row_wrt' : RowType Tryd.prog 29 46 35 72 := ⟨Tryd.underlying29, by kernel_rfl, by decide, by decide⟩
set_option maxHeartbeats 8000000 in
theorem cut_calls (l : List Wr) (v : Value) (w : World) (hv : SlA w w.heap.size 35 v (l.map wrtA)) :
    Calls Tryd.prog 6 #[v] w fun e w' => ∃ v', e = .returned v' ∧ Below w.heap.size w w' ∧ OwnA w' w.heap.size 35 46 v' ((cutW l).map wrtA) := by
  obtain ⟨a0, cap0, rfl, hcl, hcm⟩ := hv.form
  rw [List.length_map] at *
  have HV := Lib.hid hv
  unfold maxLen at hcm
  clear hv
  go_enter Tryd.func6, Tryd.ntmps6
  go_wp2_with fail
  go_loopw [3, 4] (fun s3 s4 wr => ∃ i : Nat, i ≤ l.length ∧ i ≤ 20 ∧ s4 = .int .i64 i ∧ Hid (Below w.heap.size w wr) ∧ Hid (OwnA wr w.heap.size 35 46 s3 ((cutW (l.take i)).map wrtA))) (fun _ s4 _ => 20 - (intOf s4).toNat)
  case atStart => exact ⟨0, Nat.zero_le _, Nat.zero_le _, rfl, Lib.hid (Below.refl _ _), Lib.hid (OwnA.nil _ _ _ _)⟩
  case round =>
    obtain ⟨i, hi, hi20, rfl, HB, HO⟩ := hrel
    by_cases hli : i < l.length
    · have hliI : (i : Int) < l.length := by omega
      by_cases h20 : i < 20
      · have h20I : (i : Int) < 20 := by omega
        obtain ⟨_, a3, cap3, he, _, _, hc⟩ := HV.out.below HB.out
        simp only [Value.slice.injEq, List.length_map, true_and] at he
        obtain ⟨rfl, rfl⟩ := he
        obtain ⟨g, q, rfl, hlb, hcut⟩ := hc (by simp; omega)
        have hcutk := hcut i (wrtA l[i]) (by simp [hli])
        have hsz := HB.out.size
        have hgr : g < wr.heap.size := by omega
        have hsu := cutW_succ l i hli h20
        have hlen : (cutW (l.take i)).length ≤ 20 := by unfold cutW; simp; omega
        generalize l[i] = x at *
        generalize cutW (l.take i) = R at *
        have HSU := Lib.hid hsu
        clear hcut hc hsu
        go_upto_region 6 with fail
        go_cut [28] (fun _ wx => wx = wr.alloc (.cells (wrtA x.cut80) 46))
        case first =>
          go_wp2_with fail
          all_goals
            go_meet
            rw [store80w_min]
        case rest =>
          subst hcut
          obtain ⟨y, hy⟩ : ∃ y, y = x.cut80 := ⟨_, rfl⟩
          rw [← hy] at HSU ⊢
          clear hy hcutk x
          go_wp2_with (at_builtin; refine wpList_append (B := w.heap.size) (xs := R.map wrtA) (ys := [wrtA y]) row_wrt' rfl (.tmp 31) (.tmp 33) rfl (v := u3) rfl ?_ rfl ?_ ?_ ?_ ?_ ?_)
          case refine_1 => exact (HO.out.alloc _).alloc _
          case refine_2 => exact ⟨_, sl_one (Nat.le_refl _) (by decide) (cut_heap ((heap_al _ _ _).trans (if_pos (by simp))) (by simp))⟩
          case refine_3 => intro z hz; obtain rfl : z = wrtA y := by simpa using hz
                           exact one_wrtA y
          case refine_4 => simp; omega
          case refine_5 => simp; omega
          intro v3 w3 ho hg _
          have hb3 : Below w.heap.size w w3 := Below.grown ((HB.out.alloc hsz _).alloc (by simp; omega) _) hg (by simp; omega) (fun q hq => by have := HO.out.lt q hq; simp; omega)
          have HB3 := Lib.hid hb3
          have HO3 := Lib.hid (show OwnA w3 w.heap.size 35 46 v3 ((R ++ [y]).map wrtA) by simpa using ho)
          clear hb3 ho hg HB HO
          go_wp2_with fail
          go_roundw
          case rel => exact ⟨i + 1, by omega, by omega, by go_num, HB3, Lib.hid (by rw [HSU.out]; exact HO3.out)⟩
          case measure => simp [intOf]; omega
      · have h20e : i = 20 := by omega
        have h20I : ¬ (i : Int) < 20 := by omega
        have ho := HO.out
        have hcc : cutW (l.take i) = cutW l := by unfold cutW; rw [List.take_take, h20e, Nat.min_self]
        rw [hcc] at ho
        have HO2 := Lib.hid ho
        clear ho hcc HO
        go_wp2_with fail
        go_ret
        exact ⟨_, rfl, HB.out, HO2.out⟩
    · have hie : i = l.length := by omega
      have hgn : ¬ (i : Int) < l.length := by omega
      have ho := HO.out
      rw [hie, List.take_length] at ho
      have HO2 := Lib.hid ho
      clear ho HO
      go_wp2_with fail
      go_ret
      exact ⟨_, rfl, HB.out, HO2.out⟩
end Go.Proofs.YtjdccgmoldmlmaaDoor

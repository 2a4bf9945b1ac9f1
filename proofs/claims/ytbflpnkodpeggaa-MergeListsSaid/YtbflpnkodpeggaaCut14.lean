/- Layer 14's law: a write as the document's; writes cut. -/
import Derived.Test.YtbflpnkodpeggaaRefOps
import Derived.Test.YtbflpnkodpeggaaRise
import Derived.BigRegion
import Derived.Deep.CutBlock
namespace Go.Proofs.Ytbflpnkodpeggaa
set_option maxRecDepth 100000
open Go.RowKit

set_option maxHeartbeats 4000000 in
theorem wrOf_gives (z : Wr) (w : World) : Gives Try.prog 14 #[.agg (wrtA z)] w (.agg (wrtD z)) := by
  have hof := fun W => lawOf_gives z.k.val z.k.len W
  have hrc := recOf_gives z.r
  have HOF := Lib.hid hof
  have HRC := Lib.hid hrc
  clear hof hrc
  unfold Gives
  go_enter Try.func14, Try.ntmps14
  go_wp2_with fail
  apply wp_region_specs (by rfl) [.val _, .val _, .val _, .val _, .val _, .val _, .val _, .val _, .val _] 9 (by rfl) [3, 4, 5, 6, 7, 8, 9, 10, 11] [] [] (by rfl) (by rfl) (by decide) (by decide +kernel) (fun _ _ _ _ _ h => h)
  case hF => intro x; simp only [over, List.foldl_cons, List.foldl_nil, List.setIfInBounds_toArray, List.set_cons_succ, List.set_cons_zero]; exact rfl
  case hops =>
    refine ⟨?o0, ?o1, ?o2, ?o3, ?o4, ?o5, ?o6, ?o7, ?o8, trivial⟩
    case o0 =>
      intro x w1 hH K hK
      obtain ⟨xs, d, rfl⟩ := grow_of_below hH.below
      clear hH
      try simp only [World.grow_drew] at hK ⊢
      try simp only [World.grow_grow] at hK ⊢
      go_simp
      go_wp2_with fail
      exact ⟨_, rfl, rfl, (by repeat (first | exact below_of_grow _ _ | exact Below.refl _ _ | exact below_more _ _ _ _ | (simp only [← Array.append_assoc]; first | exact below_more _ _ _ _ | exact below_same _ _ _ | exact Below.refl _ _) | exact below_same _ _ _ | (refine Below.alloc ?_ (by first | (simp; done) | (simp; omega)) _) | (refine Below.grow ?_ (by first | (simp; done) | (simp; omega)) _ _) | refine Below.drew ?_ | refine Below.drewN ?_ _ | (refine Below.putF ?_ (by first | (simp; done) | omega | (simp; omega)) _) | (refine Below.setCell ?_ (by first | (simp; done) | (simp; omega)) _))), fun h => by cases h⟩
    case o1 =>
      intro x w1 hH K hK
      have e3 : x 3 = _ := hH.holds 0 (by decide) (by decide +kernel) 3 rfl
      obtain ⟨xs, d, rfl⟩ := grow_of_below hH.below
      clear hH
      try simp only [World.grow_drew] at hK ⊢
      try simp only [World.grow_grow] at hK ⊢
      simp only [e3] at hK ⊢
      clear e3
      go_simp
      go_wp2_with fail
      exact ⟨_, rfl, rfl, (by repeat (first | exact below_of_grow _ _ | exact Below.refl _ _ | exact below_more _ _ _ _ | (simp only [← Array.append_assoc]; first | exact below_more _ _ _ _ | exact below_same _ _ _ | exact Below.refl _ _) | exact below_same _ _ _ | (refine Below.alloc ?_ (by first | (simp; done) | (simp; omega)) _) | (refine Below.grow ?_ (by first | (simp; done) | (simp; omega)) _ _) | refine Below.drew ?_ | refine Below.drewN ?_ _ | (refine Below.putF ?_ (by first | (simp; done) | omega | (simp; omega)) _) | (refine Below.setCell ?_ (by first | (simp; done) | (simp; omega)) _))), fun h => by cases h⟩
    case o2 =>
      intro x w1 hH K hK
      have e4 : x 4 = _ := hH.holds 1 (by decide) (by decide +kernel) 4 rfl
      obtain ⟨xs, d, rfl⟩ := grow_of_below hH.below
      clear hH
      try simp only [World.grow_drew] at hK ⊢
      try simp only [World.grow_grow] at hK ⊢
      simp only [e4] at hK ⊢
      clear e4
      go_simp
      go_wp2_with (refine Gives.use (HOF.out _) ?_; intro ys e)
      exact ⟨_, rfl, rfl, (by first | exact below_more _ _ _ _ | exact (by repeat (first | exact below_of_grow _ _ | exact Below.refl _ _ | exact below_more _ _ _ _ | (simp only [← Array.append_assoc]; first | exact below_more _ _ _ _ | exact below_same _ _ _ | exact Below.refl _ _) | exact below_same _ _ _ | (refine Below.alloc ?_ (by first | (simp; done) | (simp; omega)) _) | (refine Below.grow ?_ (by first | (simp; done) | (simp; omega)) _ _) | refine Below.drew ?_ | refine Below.drewN ?_ _ | (refine Below.putF ?_ (by first | (simp; done) | omega | (simp; omega)) _) | (refine Below.setCell ?_ (by first | (simp; done) | (simp; omega)) _)))), fun h => by cases h⟩
    case o3 =>
      intro x w1 hH K hK
      obtain ⟨xs, d, rfl⟩ := grow_of_below hH.below
      clear hH
      try simp only [World.grow_drew] at hK ⊢
      try simp only [World.grow_grow] at hK ⊢
      go_simp
      go_wp2_with fail
      exact ⟨_, rfl, rfl, (by repeat (first | exact below_of_grow _ _ | exact Below.refl _ _ | exact below_more _ _ _ _ | (simp only [← Array.append_assoc]; first | exact below_more _ _ _ _ | exact below_same _ _ _ | exact Below.refl _ _) | exact below_same _ _ _ | (refine Below.alloc ?_ (by first | (simp; done) | (simp; omega)) _) | (refine Below.grow ?_ (by first | (simp; done) | (simp; omega)) _ _) | refine Below.drew ?_ | refine Below.drewN ?_ _ | (refine Below.putF ?_ (by first | (simp; done) | omega | (simp; omega)) _) | (refine Below.setCell ?_ (by first | (simp; done) | (simp; omega)) _))), fun h => by cases h⟩
    case o4 =>
      intro x w1 hH K hK
      have e6 : x 6 = _ := hH.holds 3 (by decide) (by decide +kernel) 6 rfl
      obtain ⟨xs, d, rfl⟩ := grow_of_below hH.below
      clear hH
      try simp only [World.grow_drew] at hK ⊢
      try simp only [World.grow_grow] at hK ⊢
      simp only [e6] at hK ⊢
      clear e6
      go_simp
      go_wp2_with fail
      exact ⟨_, rfl, rfl, (by repeat (first | exact below_of_grow _ _ | exact Below.refl _ _ | exact below_more _ _ _ _ | (simp only [← Array.append_assoc]; first | exact below_more _ _ _ _ | exact below_same _ _ _ | exact Below.refl _ _) | exact below_same _ _ _ | (refine Below.alloc ?_ (by first | (simp; done) | (simp; omega)) _) | (refine Below.grow ?_ (by first | (simp; done) | (simp; omega)) _ _) | refine Below.drew ?_ | refine Below.drewN ?_ _ | (refine Below.putF ?_ (by first | (simp; done) | omega | (simp; omega)) _) | (refine Below.setCell ?_ (by first | (simp; done) | (simp; omega)) _))), fun h => by cases h⟩
    case o5 =>
      intro x w1 hH K hK
      obtain ⟨xs, d, rfl⟩ := grow_of_below hH.below
      clear hH
      try simp only [World.grow_drew] at hK ⊢
      try simp only [World.grow_grow] at hK ⊢
      go_simp
      go_wp2_with fail
      exact ⟨_, rfl, rfl, (by repeat (first | exact below_of_grow _ _ | exact Below.refl _ _ | exact below_more _ _ _ _ | (simp only [← Array.append_assoc]; first | exact below_more _ _ _ _ | exact below_same _ _ _ | exact Below.refl _ _) | exact below_same _ _ _ | (refine Below.alloc ?_ (by first | (simp; done) | (simp; omega)) _) | (refine Below.grow ?_ (by first | (simp; done) | (simp; omega)) _ _) | refine Below.drew ?_ | refine Below.drewN ?_ _ | (refine Below.putF ?_ (by first | (simp; done) | omega | (simp; omega)) _) | (refine Below.setCell ?_ (by first | (simp; done) | (simp; omega)) _))), fun h => by cases h⟩
    case o6 =>
      intro x w1 hH K hK
      have e8 : x 8 = _ := hH.holds 5 (by decide) (by decide +kernel) 8 rfl
      obtain ⟨xs, d, rfl⟩ := grow_of_below hH.below
      clear hH
      try simp only [World.grow_drew] at hK ⊢
      try simp only [World.grow_grow] at hK ⊢
      simp only [e8] at hK ⊢
      clear e8
      go_simp
      go_wp2_with fail
      exact ⟨_, rfl, rfl, (by repeat (first | exact below_of_grow _ _ | exact Below.refl _ _ | exact below_more _ _ _ _ | (simp only [← Array.append_assoc]; first | exact below_more _ _ _ _ | exact below_same _ _ _ | exact Below.refl _ _) | exact below_same _ _ _ | (refine Below.alloc ?_ (by first | (simp; done) | (simp; omega)) _) | (refine Below.grow ?_ (by first | (simp; done) | (simp; omega)) _ _) | refine Below.drew ?_ | refine Below.drewN ?_ _ | (refine Below.putF ?_ (by first | (simp; done) | omega | (simp; omega)) _) | (refine Below.setCell ?_ (by first | (simp; done) | (simp; omega)) _))), fun h => by cases h⟩
    case o7 =>
      intro x w1 hH K hK
      have e9 : x 9 = _ := hH.holds 6 (by decide) (by decide +kernel) 9 rfl
      obtain ⟨xs, d, rfl⟩ := grow_of_below hH.below
      clear hH
      try simp only [World.grow_drew] at hK ⊢
      try simp only [World.grow_grow] at hK ⊢
      simp only [e9] at hK ⊢
      clear e9
      go_simp
      go_wp2_with (refine Gives.use (HRC.out _) ?_; intro ys e)
      exact ⟨_, rfl, rfl, (by first | exact below_more _ _ _ _ | exact (by repeat (first | exact below_of_grow _ _ | exact Below.refl _ _ | exact below_more _ _ _ _ | (simp only [← Array.append_assoc]; first | exact below_more _ _ _ _ | exact below_same _ _ _ | exact Below.refl _ _) | exact below_same _ _ _ | (refine Below.alloc ?_ (by first | (simp; done) | (simp; omega)) _) | (refine Below.grow ?_ (by first | (simp; done) | (simp; omega)) _ _) | refine Below.drew ?_ | refine Below.drewN ?_ _ | (refine Below.putF ?_ (by first | (simp; done) | omega | (simp; omega)) _) | (refine Below.setCell ?_ (by first | (simp; done) | (simp; omega)) _)))), fun h => by cases h⟩
    case o8 =>
      intro x w1 hH K hK
      have e5 : x 5 = _ := hH.holds 2 (by decide) (by decide +kernel) 5 rfl
      have e7 : x 7 = _ := hH.holds 4 (by decide) (by decide +kernel) 7 rfl
      have e10 : x 10 = _ := hH.holds 7 (by decide) (by decide +kernel) 10 rfl
      obtain ⟨xs, d, rfl⟩ := grow_of_below hH.below
      clear hH
      try simp only [World.grow_drew] at hK ⊢
      try simp only [World.grow_grow] at hK ⊢
      simp only [e5, e7, e10] at hK ⊢
      clear e5 e7 e10
      go_simp
      go_wp2_with fail
      exact ⟨_, rfl, rfl, (by repeat (first | exact below_of_grow _ _ | exact Below.refl _ _ | exact below_more _ _ _ _ | (simp only [← Array.append_assoc]; first | exact below_more _ _ _ _ | exact below_same _ _ _ | exact Below.refl _ _) | exact below_same _ _ _ | (refine Below.alloc ?_ (by first | (simp; done) | (simp; omega)) _) | (refine Below.grow ?_ (by first | (simp; done) | (simp; omega)) _ _) | refine Below.drew ?_ | refine Below.drewN ?_ _ | (refine Below.putF ?_ (by first | (simp; done) | omega | (simp; omega)) _) | (refine Below.setCell ?_ (by first | (simp; done) | (simp; omega)) _))), fun h => by cases h⟩
  case hend =>
    intro x w1 hH
    have e3 : x 3 = _ := hH.holds 0 (by decide) trivial 3 rfl
    have e4 : x 4 = _ := hH.holds 1 (by decide) trivial 4 rfl
    have e5 : x 5 = _ := hH.holds 2 (by decide) trivial 5 rfl
    have e6 : x 6 = _ := hH.holds 3 (by decide) trivial 6 rfl
    have e7 : x 7 = _ := hH.holds 4 (by decide) trivial 7 rfl
    have e8 : x 8 = _ := hH.holds 5 (by decide) trivial 8 rfl
    have e9 : x 9 = _ := hH.holds 6 (by decide) trivial 9 rfl
    have e10 : x 10 = _ := hH.holds 7 (by decide) trivial 10 rfl
    have e11 : x 11 = _ := hH.holds 8 (by decide) trivial 11 rfl
    obtain ⟨xs, d, rfl⟩ := grow_of_below hH.below
    clear hH
    simp only [e3, e4, e5, e6, e7, e8, e9, e10, e11]; clear e3 e4 e5 e6 e7 e8 e9 e10 e11
    simp only [List.drop_succ_cons, List.drop_zero]
    go_wp2_with fail
    exact bodyPost_ret (v := .agg (wrtD z)) (results_one Try.results14 (ResIs.row rfl agg_wrtD (by simp [go_sem]))) rfl ⟨rfl, (by repeat (first | exact below_of_grow _ _ | exact Below.refl _ _ | exact below_more _ _ _ _ | (simp only [← Array.append_assoc]; first | exact below_more _ _ _ _ | exact below_same _ _ _ | exact Below.refl _ _) | exact below_same _ _ _ | (refine Below.alloc ?_ (by first | (simp; done) | (simp; omega)) _) | (refine Below.grow ?_ (by first | (simp; done) | (simp; omega)) _ _) | refine Below.drew ?_ | refine Below.drewN ?_ _ | (refine Below.putF ?_ (by first | (simp; done) | omega | (simp; omega)) _) | (refine Below.setCell ?_ (by first | (simp; done) | (simp; omega)) _)))⟩

/-! writes, cut -/
def Wr.cut80 (x : Wr) : Wr := ⟨x.k, x.dead, x.r.cut80⟩
def cutW (l : List Wr) : List Wr := (l.take 20).map Wr.cut80
@[go_sem] theorem wrtA_34 (x : Wr) : (wrtA x)[34]? = some (.string (bs x.r.text.val)) := by
  unfold wrtA
  rw [List.getElem?_toArray, List.getElem?_append_right (by simp [keyL_len])]; simp [keyL_len, recL]
@[go_sem, simp] theorem wrtA_34E (x : Wr) (h : 34 < (wrtA x).size) : (wrtA x)[34]'h = .string (bs x.r.text.val) := by
  have := wrtA_34 x
  rw [Array.getElem?_eq_getElem h] at this
  exact Option.some.inj this
theorem wrtA_set34 (x : Wr) (t : Txt) : (wrtA x).setIfInBounds 34 (.string (bs t.val)) = wrtA ⟨x.k, x.dead, { x.r with text := t }⟩ := by
  unfold wrtA
  rw [List.setIfInBounds_toArray]
  congr 1
  rw [List.set_append_right _ _ (by simp [keyL_len])]
  simp [keyL_len, recL]
theorem store80w_long (x : Wr) : (wrtA x).setIfInBounds 34 (.string ((bs x.r.text.val).extract 0 80)) = wrtA x.cut80 := by
  rw [bs_cut]
  exact wrtA_set34 x ⟨x.r.text.val.take 80, by have := x.r.text.property; simp; omega⟩
theorem store80w_short (x : Wr) (h : x.r.text.val.length ≤ 80) : (wrtA x).setIfInBounds 34 (.string (bs x.r.text.val)) = wrtA x.cut80 := by
  have := store80w_long x
  rw [bs_cut, List.take_of_length_le h] at this
  exact this
theorem cutW_succ (l : List Wr) (i : Nat) (h : i < l.length) (h2 : i < 20) : cutW (l.take (i + 1)) = cutW (l.take i) ++ [l[i].cut80] := by
  unfold cutW
  rw [List.take_take, List.take_take, Nat.min_eq_right (by omega), Nat.min_eq_right (by omega), List.take_succ_eq_append_getElem h, List.map_append]
  rfl
theorem row_wrt' : RowType Try.prog 25 67 35 72 := ⟨Try.underlying25, by kernel_rfl, by decide, by decide⟩
set_option maxHeartbeats 8000000 in
theorem cut_calls (l : List Wr) (v : Value) (w : World) (hv : SlA w w.heap.size 35 v (l.map wrtA)) :
    Calls Try.prog 16 #[v] w fun e w' => ∃ v', e = .returned v' ∧ Below w.heap.size w w' ∧ OwnA w' w.heap.size 35 67 v' ((cutW l).map wrtA) := by
  obtain ⟨a0, cap0, rfl, hcl, hcm⟩ := hv.form
  rw [List.length_map] at *
  have HV := Lib.hid hv
  unfold maxLen at hcm
  clear hv
  go_enter Try.func16, Try.ntmps16
  go_wp2_with fail
  go_loopw [3, 4] (fun s3 s4 wr => ∃ i : Nat, i ≤ l.length ∧ i ≤ 20 ∧ s4 = .int .i64 i ∧ Hid (Below w.heap.size w wr) ∧ Hid (OwnA wr w.heap.size 35 67 s3 ((cutW (l.take i)).map wrtA))) (fun _ s4 _ => 20 - (intOf s4).toNat)
  case atStart => exact ⟨0, Nat.zero_le _, Nat.zero_le _, rfl, Lib.hid (Below.refl _ _), Lib.hid (OwnA.nil _ _ _ _)⟩
  case round =>
    obtain ⟨i, hi, hi20, rfl, HB, HO⟩ := hrel
    by_cases hli : i < l.length
    · have hliI : (i : Int) < l.length := by omega
      by_cases h20 : i < 20
      · have h20I : (i : Int) < 20 := by omega
        obtain ⟨_, a3, cap3, he, _, _, hc⟩ := HV.out.below HB.out
        simp only [Value.slice.injEq, List.length_map, true_and] at he
        obtain ⟨rfl, rfl⟩ := he
        obtain ⟨g, q, rfl, hlb, hcut⟩ := hc (by simp; omega)
        have hcutk := hcut i (wrtA l[i]) (by simp [hli])
        have hsz := HB.out.size
        have hgr : g < wr.heap.size := by omega
        have hsu := cutW_succ l i hli h20
        have hlen : (cutW (l.take i)).length ≤ 20 := by unfold cutW; simp; omega
        generalize l[i] = x at *
        generalize cutW (l.take i) = R at *
        have HSU := Lib.hid hsu
        clear hcut hc hsu
        go_upto_region 6 with fail
        go_cut [28] (fun _ wx => wx = wr.alloc (.cells (wrtA x.cut80) 67))
        case first =>
          by_cases hc : 80 < ((bs x.r.text.val).size : Int)
          · go_wp2_with fail
            go_meet
            rw [store80w_long]
          · have hc2 := hc
            rw [bs_size] at hc2
            go_wp2_with fail
            go_meet
            rw [store80w_short x (by omega)]
        case rest =>
          subst hcut
          obtain ⟨y, hy⟩ : ∃ y, y = x.cut80 := ⟨_, rfl⟩
          rw [← hy] at HSU ⊢
          clear hy hcutk x
          go_wp2_with (at_builtin; refine wpList_append (B := w.heap.size) (xs := R.map wrtA) (ys := [wrtA y]) row_wrt' rfl (.tmp 31) (.tmp 33) rfl (v := u3) rfl ?_ rfl ?_ ?_ ?_ ?_ ?_)
          case refine_1 => exact (HO.out.alloc _).alloc _
          case refine_2 => exact ⟨_, sl_one (Nat.le_refl _) (by decide) (cut_heap ((heap_al _ _ _).trans (if_pos (by simp))) (by simp))⟩
          case refine_3 => intro z hz; obtain rfl : z = wrtA y := by simpa using hz
                           exact one_wrtA y
          case refine_4 => simp; omega
          case refine_5 => simp; omega
          intro v3 w3 ho hg _
          have hb3 : Below w.heap.size w w3 := Below.grown ((HB.out.alloc hsz _).alloc (by simp; omega) _) hg (by simp; omega) (fun q hq => by have := HO.out.lt q hq; simp; omega)
          have HB3 := Lib.hid hb3
          have HO3 := Lib.hid (show OwnA w3 w.heap.size 35 67 v3 ((R ++ [y]).map wrtA) by simpa using ho)
          clear hb3 ho hg HB HO
          go_wp2_with fail
          go_roundw
          case rel => exact ⟨i + 1, by omega, by omega, by go_num, HB3, Lib.hid (by rw [HSU.out]; exact HO3.out)⟩
          case measure => simp [intOf]; omega
      · have h20e : i = 20 := by omega
        have h20I : ¬ (i : Int) < 20 := by omega
        have ho := HO.out
        have hcc : cutW (l.take i) = cutW l := by unfold cutW; rw [List.take_take, h20e, Nat.min_self]
        rw [hcc] at ho
        have HO2 := Lib.hid ho
        clear ho hcc HO
        go_wp2_with fail
        go_ret
        exact ⟨_, rfl, HB.out, HO2.out⟩
    · have hie : i = l.length := by omega
      have hgn : ¬ (i : Int) < l.length := by omega
      have ho := HO.out
      rw [hie, List.take_length] at ho
      have HO2 := Lib.hid ho
      clear ho HO
      go_wp2_with fail
      go_ret
      exact ⟨_, rfl, HB.out, HO2.out⟩
end Go.Proofs.Ytbflpnkodpeggaa

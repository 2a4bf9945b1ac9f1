/- Layer 6's law KeyBytes, walked. -/
import Derived.Test.YtemnojlcgllcjaaGreatDoorQay
import Derived.Test.YtemnojlcgllcjaaGreatDoorQbe
import Derived.Test.YtemnojlcgllcjaaGreatDoorQbd
import Derived.Test.YtemnojlcgllcjaaGreatDoorQat
import Derived.Handy
import Derived.BigRegion
namespace Go.Proofs.YtemnojlcgllcjaaGreatDoor
set_option maxRecDepth 100000
open Go.RowKit

theorem flat_b25 : FlatType Tryz.prog 104 (byteKinds 25) := ⟨by kernel_rfl, by kernel_rfl, by kernel_rfl⟩
@[go_sem ↓ high] theorem eq_b25 (a b : List UInt8) (ha : a.length = 25) (hb : b.length = 25) (w : World) :
    (Op.equalIn 10000 104 (.agg (row8 a)) (.agg (row8 b))).run Tryz.prog w = .ok (a == b) w :=
  row8_eq (by rw [ha]; exact flat_b25) (by rw [ha, hb]) w
set_option maxHeartbeats 20000000 in
theorem keyBytes_walk (k b : List UInt8) (hk : k.length = 25) (hb : b.length = 25) (w : World) : Gives Tryz.prog 10 #[.agg (row8 k), .agg (row8 b)] w (.bool true) := by
  have HKN := Lib.hid known06_gives
  have HOF := Lib.hid (lawOf_gives k hk)
  have HRR := Lib.hid (refRight_gives k hk)
  have HBK := Lib.hid (keyBytes_gives k hk)
  have HRB := Lib.hid (refBytes_gives k hk)
  have HKR := Lib.hid (keyRight_gives k hk)
  have HTX := Lib.hid (keyText_gives k hk)
  have HRT := Lib.hid (refText6_gives k hk)
  have hrd := keyRead_gives b hb
  obtain ⟨rv, hrv⟩ : ∃ x, x = (if keyRight b = true then b else zeros 25) := ⟨_, rfl⟩
  obtain ⟨re, hre⟩ : ∃ x : Int, x = (if keyRight b = true then 0 else 3) := ⟨_, rfl⟩
  rw [← hrv, ← hre] at hrd
  have HRD := Lib.hid hrd
  have HV := Lib.hid (And.intro hrv hre)
  have hvl : rv.length = 25 := by rw [hrv]; split; exact hb; rfl
  clear hrd hrv hre
  have HRF := Lib.hid (refRead6_gives b hb)
  have HRY := Lib.hid (refRight_gives b hb)
  have HOB := Lib.hid (lawOf_gives b hb)
  have HBB := Lib.hid (keyBytes_gives b hb)
  have hzk := rkey_sz hk
  have hzb := rkey_sz hb
  unfold Gives
  go_enter Tryz.func10, Tryz.ntmps10
  go_wp2_with fail
  refine Gives.use (HOF.out _) ?_
  intro xs1 d1
  go_wp2_with fail
  refine Gives.use (HRR.out _) ?_
  intro xs2 d2
  go_upto_region 4 with fail
  obtain ⟨tx, htx⟩ : ∃ tx, tx = keyText k := ⟨_, rfl⟩
  have hno : keyRight k = false → tx = [] := fun h => by rw [htx]; unfold keyText; rw [h]; rfl
  rw [← htx] at HTX HRT
  clear htx
  refine wp_name ?_
  intro W hW
  obtain ⟨q, hq⟩ : ∃ q, q = w.heap.size := ⟨_, rfl⟩
  obtain ⟨b5, hb5⟩ : ∃ b5, b5 = w.heap.size + 1 + 1 + xs1.size := ⟨_, rfl⟩
  have hbl : Below w.heap.size w W := by rw [hW]; exact (by repeat (first | exact below_of_grow _ _ | exact Below.refl _ _ | exact below_more _ _ _ _ | (simp only [← Array.append_assoc]; first | exact below_more _ _ _ _ | exact below_same _ _ _ | exact Below.refl _ _) | exact below_same _ _ _ | (refine Below.alloc ?_ (by first | (simp; done) | (simp; omega)) _) | (refine Below.grow ?_ (by first | (simp; done) | (simp; omega)) _ _) | refine Below.drew ?_ | refine Below.drewN ?_ _ | (refine Below.putF ?_ (by first | (simp; done) | omega | (simp; omega)) _) | (refine Below.setCell ?_ (by first | (simp; done) | (simp; omega)) _)))
  have h2 : W.heap[q]? = some (.cells (row8 k) 39) := by
    rw [hW, World.grow_heap _ _ _ (by simp [World.grow_size]; omega), heap_al, if_neg (by simp [World.grow_size]; omega), World.grow_heap _ _ _ (by simp; omega), heap_al, if_neg (by simp; omega), heap_al, if_pos hq]
  have h3 : W.heap[q + 1]? = some (.cells (row8 b) 104) := by
    rw [hW, World.grow_heap _ _ _ (by simp [World.grow_size]; omega), heap_al, if_neg (by simp [World.grow_size]; omega), World.grow_heap _ _ _ (by simp; omega), heap_al, if_pos (by simp; omega)]
  have h5 : W.heap[b5]? = some (.cells (rkey k) 57) := by
    rw [hW, World.grow_heap _ _ _ (by simp [World.grow_size]; omega), heap_al, if_pos (by simp [World.grow_size]; omega)]
  simp only [← hb5]
  simp only [← hq]
  have l2 : q < W.heap.size := (Array.getElem?_eq_some_iff.1 h2).1
  have l3 : q + 1 < W.heap.size := (Array.getElem?_eq_some_iff.1 h3).1
  have l5 : b5 < W.heap.size := (Array.getElem?_eq_some_iff.1 h5).1
  have c2 := cut_heap h2 (sz := 25) (by simp [hk])
  have c3 := cut_heap h3 (sz := 25) (by simp [hb])
  have c5 := cut_heap h5 (sz := 25) hzk
  have HB := Lib.hid (And.intro hbl hq)
  have hrt : keyRight k = true → ∀ w, Gives Tryz.prog 51 #[.agg (rkey k)] w (.string (bs tx)) := fun h w => HRT.out h w
  generalize keyRight k = r at *
  have HNO := Lib.hid hno
  have HRU := Lib.hid hrt
  clear HRT hrt
  clear hW hbl hq hb5 h2 h3 h5 hno HOF HRR
  go_upto_if 15 with fail
  go_cut [7] (fun v7 wx => v7 = .string (bs tx) ∧ ∃ xs d, wx = W.grow xs d)
  case first =>
    cases r
    · have HT := Lib.hid (HNO.out rfl)
      clear HRU
      go_wp2_with fail
      go_meet
      exact ⟨by rw [HT.out]; rfl, #[], W.drawn, World.grow_nil.symm⟩
    · have HT := Lib.hid (HRU.out rfl)
      clear HRU
      go_wp2_with fail
      refine Gives.use (HT.out _) ?_
      intro ys e
      go_wp2_with fail
      go_meet
      exact ⟨rfl, ys, e, rfl⟩
  case rest =>
    obtain ⟨rfl, ys, e, rfl⟩ := hcut
    obtain ⟨W2, hW2⟩ : ∃ W2, W2 = W.grow ys e := ⟨_, rfl⟩
    have hb2 : Below W.heap.size W W2 := by rw [hW2]; exact below_of_grow _ _
    rw [← hW2]
    have d2' := (cut_of_heap (hb2.block q l2) 0 25).trans c2
    have d3' := (cut_of_heap (hb2.block (q + 1) l3) 0 25).trans c3
    have d5' := (cut_of_heap (hb2.block b5 l5) 0 25).trans c5
    have m2 : q < W2.heap.size := Nat.lt_of_lt_of_le l2 hb2.size
    have m3 : q + 1 < W2.heap.size := Nat.lt_of_lt_of_le l3 hb2.size
    have m5 : b5 < W2.heap.size := Nat.lt_of_lt_of_le l5 hb2.size
    have HB2 := Lib.hid (HB.out.1.trans (hb2.mono HB.out.1.size))
    clear hW2 hb2 c2 c3 c5 l2 l3 l5 HRU HNO
    go_upto_region 6 with fail
    apply wp_region_specs (by rfl) [.val _, .val _, .val _, .val _, .val _, .val _, .val _, .val _, .val _, .val _, .val _, .val _, .val _, .val _, .val _, .val _, .val _] 17 (by rfl) [18, 19, 20, 21, 22, 23, 24, 25, 26, 27, 28, 29, 30, 31, 32, 33, 34] [] [] (by rfl) (by rfl) (by decide) (by decide +kernel) (fun _ _ _ _ _ h => h)
    case hF => intro x; simp only [over, List.foldl_cons, List.foldl_nil, List.setIfInBounds_toArray, List.set_cons_succ, List.set_cons_zero]; exact rfl
    case hops =>
      refine ⟨?o0, ?o1, ?o2, ?o3, ?o4, ?o5, ?o6, ?o7, ?o8, ?o9, ?o10, ?o11, ?o12, ?o13, ?o14, ?o15, ?o16, trivial⟩
      case o0 =>
        intro x w1 hH K hK
        obtain ⟨xs, d, rfl⟩ := grow_of_below hH.below
        clear hH
        try simp only [World.grow_drew] at hK ⊢
        try simp only [World.grow_grow] at hK ⊢
        go_simp
        go_wp2_with fail
        exact ⟨_, rfl, rfl, (by first | exact Below.refl _ _ | exact below_same _ _ _ | exact below_more _ _ _ _ | exact below_of_grow _ _), fun h => by cases h⟩
      case o1 =>
        intro x w1 hH K hK
        have e18 : x 18 = _ := hH.holds 0 (by decide) (by decide +kernel) 18 rfl
        obtain ⟨xs, d, rfl⟩ := grow_of_below hH.below
        clear hH
        try simp only [World.grow_drew] at hK ⊢
        try simp only [World.grow_grow] at hK ⊢
        simp only [e18] at hK ⊢
        clear e18
        go_simp
        go_wp2_with (refine Gives.use (HBK.out _) ?_; intro ys e)
        exact ⟨_, rfl, rfl, (by first | exact below_more _ _ _ _ | exact (by repeat (first | exact below_of_grow _ _ | exact Below.refl _ _ | exact below_more _ _ _ _ | (simp only [← Array.append_assoc]; first | exact below_more _ _ _ _ | exact below_same _ _ _ | exact Below.refl _ _) | exact below_same _ _ _ | (refine Below.alloc ?_ (by first | (simp; done) | (simp; omega)) _) | (refine Below.grow ?_ (by first | (simp; done) | (simp; omega)) _ _) | refine Below.drew ?_ | refine Below.drewN ?_ _ | (refine Below.putF ?_ (by first | (simp; done) | omega | (simp; omega)) _) | (refine Below.setCell ?_ (by first | (simp; done) | (simp; omega)) _)))), fun h => by cases h⟩
      case o2 =>
        intro x w1 hH K hK
        obtain ⟨xs, d, rfl⟩ := grow_of_below hH.below
        clear hH
        try simp only [World.grow_drew] at hK ⊢
        try simp only [World.grow_grow] at hK ⊢
        go_simp
        go_wp2_with fail
        exact ⟨_, rfl, rfl, (by first | exact Below.refl _ _ | exact below_same _ _ _ | exact below_more _ _ _ _ | exact below_of_grow _ _), fun h => by cases h⟩
      case o3 =>
        intro x w1 hH K hK
        have e20 : x 20 = _ := hH.holds 2 (by decide) (by decide +kernel) 20 rfl
        obtain ⟨xs, d, rfl⟩ := grow_of_below hH.below
        clear hH
        try simp only [World.grow_drew] at hK ⊢
        try simp only [World.grow_grow] at hK ⊢
        simp only [e20] at hK ⊢
        clear e20
        go_simp
        go_wp2_with (refine Gives.use (HRB.out _) ?_; intro ys e)
        exact ⟨_, rfl, rfl, (by first | exact below_more _ _ _ _ | exact (by repeat (first | exact below_of_grow _ _ | exact Below.refl _ _ | exact below_more _ _ _ _ | (simp only [← Array.append_assoc]; first | exact below_more _ _ _ _ | exact below_same _ _ _ | exact Below.refl _ _) | exact below_same _ _ _ | (refine Below.alloc ?_ (by first | (simp; done) | (simp; omega)) _) | (refine Below.grow ?_ (by first | (simp; done) | (simp; omega)) _ _) | refine Below.drew ?_ | refine Below.drewN ?_ _ | (refine Below.putF ?_ (by first | (simp; done) | omega | (simp; omega)) _) | (refine Below.setCell ?_ (by first | (simp; done) | (simp; omega)) _)))), fun h => by cases h⟩
      case o4 =>
        intro x w1 hH K hK
        have e19 : x 19 = _ := hH.holds 1 (by decide) (by decide +kernel) 19 rfl
        have e21 : x 21 = _ := hH.holds 3 (by decide) (by decide +kernel) 21 rfl
        obtain ⟨xs, d, rfl⟩ := grow_of_below hH.below
        clear hH
        try simp only [World.grow_drew] at hK ⊢
        try simp only [World.grow_grow] at hK ⊢
        simp only [e19, e21] at hK ⊢
        clear e19 e21
        go_simp
        go_wp2_with fail
        exact ⟨_, rfl, rfl, (by first | exact Below.refl _ _ | exact below_same _ _ _ | exact below_more _ _ _ _ | exact below_of_grow _ _), fun h => by cases h⟩
      case o5 =>
        intro x w1 hH K hK
        have e22 : x 22 = _ := hH.holds 4 (by decide) (by decide +kernel) 22 rfl
        obtain ⟨xs, d, rfl⟩ := grow_of_below hH.below
        clear hH
        try simp only [World.grow_drew] at hK ⊢
        try simp only [World.grow_grow] at hK ⊢
        simp only [e22] at hK ⊢
        clear e22
        go_simp
        go_wp2_with fail
        exact ⟨_, rfl, rfl, (by first | exact Below.refl _ _ | exact below_same _ _ _ | exact below_more _ _ _ _ | exact below_of_grow _ _), fun h => by cases h⟩
      case o6 =>
        intro x w1 hH K hK
        have e23 : x 23 = _ := hH.holds 5 (by decide) (by decide +kernel) 23 rfl
        obtain ⟨xs, d, rfl⟩ := grow_of_below hH.below
        clear hH
        try simp only [World.grow_drew] at hK ⊢
        try simp only [World.grow_grow] at hK ⊢
        simp only [e23] at hK ⊢
        clear e23
        go_simp
        go_wp2_with fail
        exact ⟨_, rfl, rfl, (by first | exact Below.refl _ _ | exact below_same _ _ _ | exact below_more _ _ _ _ | exact below_of_grow _ _), fun h => by cases h⟩
      case o7 =>
        intro x w1 hH K hK
        have e23 : x 23 = _ := hH.holds 5 (by decide) (by decide +kernel) 23 rfl
        have e24 : x 24 = _ := hH.holds 6 (by decide) (by decide +kernel) 24 rfl
        obtain ⟨xs, d, rfl⟩ := grow_of_below hH.below
        clear hH
        try simp only [World.grow_drew] at hK ⊢
        try simp only [World.grow_grow] at hK ⊢
        simp only [e23, e24] at hK ⊢
        clear e23 e24
        go_simp
        go_wp2_with (refine Gives.use (HKR.out _) ?_; intro ys e)
        exact ⟨_, rfl, rfl, (by first | exact below_more _ _ _ _ | exact (by repeat (first | exact below_of_grow _ _ | exact Below.refl _ _ | exact below_more _ _ _ _ | (simp only [← Array.append_assoc]; first | exact below_more _ _ _ _ | exact below_same _ _ _ | exact Below.refl _ _) | exact below_same _ _ _ | (refine Below.alloc ?_ (by first | (simp; done) | (simp; omega)) _) | (refine Below.grow ?_ (by first | (simp; done) | (simp; omega)) _ _) | refine Below.drew ?_ | refine Below.drewN ?_ _ | (refine Below.putF ?_ (by first | (simp; done) | omega | (simp; omega)) _) | (refine Below.setCell ?_ (by first | (simp; done) | (simp; omega)) _)))), fun h => by cases h⟩
      case o8 =>
        intro x w1 hH K hK
        have e23 : x 23 = _ := hH.holds 5 (by decide) (by decide +kernel) 23 rfl
        obtain ⟨xs, d, rfl⟩ := grow_of_below hH.below
        clear hH
        try simp only [World.grow_drew] at hK ⊢
        try simp only [World.grow_grow] at hK ⊢
        simp only [e23] at hK ⊢
        clear e23
        go_simp
        go_wp2_with fail
        exact ⟨_, rfl, rfl, (by first | exact Below.refl _ _ | exact below_same _ _ _ | exact below_more _ _ _ _ | exact below_of_grow _ _), fun h => by cases h⟩
      case o9 =>
        intro x w1 hH K hK
        have e23 : x 23 = _ := hH.holds 5 (by decide) (by decide +kernel) 23 rfl
        have e25 : x 25 = _ := hH.holds 7 (by decide) (by decide +kernel) 25 rfl
        have e26 : x 26 = _ := hH.holds 8 (by decide) (by decide +kernel) 26 rfl
        obtain ⟨xs, d, rfl⟩ := grow_of_below hH.below
        clear hH
        try simp only [World.grow_drew] at hK ⊢
        try simp only [World.grow_grow] at hK ⊢
        simp only [e23, e25, e26] at hK ⊢
        clear e23 e25 e26
        go_simp
        go_wp2_with fail
        exact ⟨_, rfl, rfl, (by first | exact Below.refl _ _ | exact below_same _ _ _ | exact below_more _ _ _ _ | exact below_of_grow _ _), fun h => by cases h⟩
      case o10 =>
        intro x w1 hH K hK
        have e23 : x 23 = _ := hH.holds 5 (by decide) (by decide +kernel) 23 rfl
        have e27 : x 27 = _ := hH.holds 9 (by decide) (by decide +kernel) 27 rfl
        obtain ⟨xs, d, rfl⟩ := grow_of_below hH.below
        clear hH
        try simp only [World.grow_drew] at hK ⊢
        try simp only [World.grow_grow] at hK ⊢
        simp only [e23, e27] at hK ⊢
        clear e23 e27
        go_simp
        go_wp2_with fail
        exact ⟨_, rfl, rfl, (by first | exact Below.refl _ _ | exact below_same _ _ _ | exact below_more _ _ _ _ | exact below_of_grow _ _), fun h => by cases h⟩
      case o11 =>
        intro x w1 hH K hK
        have e28 : x 28 = _ := hH.holds 10 (by decide) (by decide +kernel) 28 rfl
        obtain ⟨xs, d, rfl⟩ := grow_of_below hH.below
        clear hH
        try simp only [World.grow_drew] at hK ⊢
        try simp only [World.grow_grow] at hK ⊢
        simp only [e28] at hK ⊢
        clear e28
        go_simp
        go_wp2_with fail
        exact ⟨_, rfl, rfl, (by first | exact Below.refl _ _ | exact below_same _ _ _ | exact below_more _ _ _ _ | exact below_of_grow _ _), fun h => by cases h⟩
      case o12 =>
        intro x w1 hH K hK
        have e29 : x 29 = _ := hH.holds 11 (by decide) (by decide +kernel) 29 rfl
        obtain ⟨xs, d, rfl⟩ := grow_of_below hH.below
        clear hH
        try simp only [World.grow_drew] at hK ⊢
        try simp only [World.grow_grow] at hK ⊢
        simp only [e29] at hK ⊢
        clear e29
        go_simp
        go_wp2_with fail
        exact ⟨_, rfl, rfl, (by first | exact Below.refl _ _ | exact below_same _ _ _ | exact below_more _ _ _ _ | exact below_of_grow _ _), fun h => by cases h⟩
      case o13 =>
        intro x w1 hH K hK
        have e29 : x 29 = _ := hH.holds 11 (by decide) (by decide +kernel) 29 rfl
        have e30 : x 30 = _ := hH.holds 12 (by decide) (by decide +kernel) 30 rfl
        obtain ⟨xs, d, rfl⟩ := grow_of_below hH.below
        clear hH
        try simp only [World.grow_drew] at hK ⊢
        try simp only [World.grow_grow] at hK ⊢
        simp only [e29, e30] at hK ⊢
        clear e29 e30
        go_simp
        go_wp2_with (refine Gives.use (HTX.out _) ?_; intro ys e)
        exact ⟨_, rfl, rfl, (by first | exact below_more _ _ _ _ | exact (by repeat (first | exact below_of_grow _ _ | exact Below.refl _ _ | exact below_more _ _ _ _ | (simp only [← Array.append_assoc]; first | exact below_more _ _ _ _ | exact below_same _ _ _ | exact Below.refl _ _) | exact below_same _ _ _ | (refine Below.alloc ?_ (by first | (simp; done) | (simp; omega)) _) | (refine Below.grow ?_ (by first | (simp; done) | (simp; omega)) _ _) | refine Below.drew ?_ | refine Below.drewN ?_ _ | (refine Below.putF ?_ (by first | (simp; done) | omega | (simp; omega)) _) | (refine Below.setCell ?_ (by first | (simp; done) | (simp; omega)) _)))), fun h => by cases h⟩
      case o14 =>
        intro x w1 hH K hK
        have e29 : x 29 = _ := hH.holds 11 (by decide) (by decide +kernel) 29 rfl
        obtain ⟨xs, d, rfl⟩ := grow_of_below hH.below
        clear hH
        try simp only [World.grow_drew] at hK ⊢
        try simp only [World.grow_grow] at hK ⊢
        simp only [e29] at hK ⊢
        clear e29
        go_simp
        go_wp2_with fail
        exact ⟨_, rfl, rfl, (by first | exact Below.refl _ _ | exact below_same _ _ _ | exact below_more _ _ _ _ | exact below_of_grow _ _), fun h => by cases h⟩
      case o15 =>
        intro x w1 hH K hK
        have e29 : x 29 = _ := hH.holds 11 (by decide) (by decide +kernel) 29 rfl
        have e31 : x 31 = _ := hH.holds 13 (by decide) (by decide +kernel) 31 rfl
        have e32 : x 32 = _ := hH.holds 14 (by decide) (by decide +kernel) 32 rfl
        obtain ⟨xs, d, rfl⟩ := grow_of_below hH.below
        clear hH
        try simp only [World.grow_drew] at hK ⊢
        try simp only [World.grow_grow] at hK ⊢
        simp only [e29, e31, e32] at hK ⊢
        clear e29 e31 e32
        go_simp
        go_wp2_with fail
        exact ⟨_, rfl, rfl, (by first | exact Below.refl _ _ | exact below_same _ _ _ | exact below_more _ _ _ _ | exact below_of_grow _ _), fun h => by cases h⟩
      case o16 =>
        intro x w1 hH K hK
        have e29 : x 29 = _ := hH.holds 11 (by decide) (by decide +kernel) 29 rfl
        have e33 : x 33 = _ := hH.holds 15 (by decide) (by decide +kernel) 33 rfl
        obtain ⟨xs, d, rfl⟩ := grow_of_below hH.below
        clear hH
        try simp only [World.grow_drew] at hK ⊢
        try simp only [World.grow_grow] at hK ⊢
        simp only [e29, e33] at hK ⊢
        clear e29 e33
        go_simp
        go_wp2_with fail
        exact ⟨_, rfl, rfl, (by first | exact Below.refl _ _ | exact below_same _ _ _ | exact below_more _ _ _ _ | exact below_of_grow _ _), fun h => by cases h⟩
    case hend =>
      intro x w1 hH
      have e18 : x 18 = _ := hH.holds 0 (by decide) trivial 18 rfl
      have e19 : x 19 = _ := hH.holds 1 (by decide) trivial 19 rfl
      have e20 : x 20 = _ := hH.holds 2 (by decide) trivial 20 rfl
      have e21 : x 21 = _ := hH.holds 3 (by decide) trivial 21 rfl
      have e22 : x 22 = _ := hH.holds 4 (by decide) trivial 22 rfl
      have e23 : x 23 = _ := hH.holds 5 (by decide) trivial 23 rfl
      have e24 : x 24 = _ := hH.holds 6 (by decide) trivial 24 rfl
      have e25 : x 25 = _ := hH.holds 7 (by decide) trivial 25 rfl
      have e26 : x 26 = _ := hH.holds 8 (by decide) trivial 26 rfl
      have e27 : x 27 = _ := hH.holds 9 (by decide) trivial 27 rfl
      have e28 : x 28 = _ := hH.holds 10 (by decide) trivial 28 rfl
      have e29 : x 29 = _ := hH.holds 11 (by decide) trivial 29 rfl
      have e30 : x 30 = _ := hH.holds 12 (by decide) trivial 30 rfl
      have e31 : x 31 = _ := hH.holds 13 (by decide) trivial 31 rfl
      have e32 : x 32 = _ := hH.holds 14 (by decide) trivial 32 rfl
      have e33 : x 33 = _ := hH.holds 15 (by decide) trivial 33 rfl
      have e34 : x 34 = _ := hH.holds 16 (by decide) trivial 34 rfl
      obtain ⟨xs, d, rfl⟩ := grow_of_below hH.below
      clear hH
      simp only [e18, e19, e20, e21, e22, e23, e24, e25, e26, e27, e28, e29, e30, e31, e32, e33, e34]; clear e18 e19 e20 e21 e22 e23 e24 e25 e26 e27 e28 e29 e30 e31 e32 e33 e34
      simp only [List.drop_succ_cons, List.drop_nil]
      go_upto_region 8 with fail
      refine wp_name ?_
      intro V hV
      have hbv : Below W2.heap.size W2 V := by rw [hV]; exact ((Below.refl _ W2).drew.grow (Nat.le_refl _) _ _)
      have e2 := (cut_of_heap (hbv.block q m2) 0 25).trans d2'
      have e3 := (cut_of_heap (hbv.block (q + 1) m3) 0 25).trans d3'
      have m3' : q + 1 < V.heap.size := Nat.lt_of_lt_of_le m3 hbv.size
      have HBV := Lib.hid (HB2.out.trans (hbv.mono HB2.out.size))
      clear hV hbv d2' d3' d5' m2 m3 m5 e2 HBK HRB HKR HTX
      go_wp2_with fail
      refine Gives.use (HRD.out _) ?_
      intro xs3 d3
      go_upto_region 9 with fail
      refine wp_name ?_
      intro W3 hW3
      obtain ⟨b8, hb8⟩ : ∃ b, b = V.heap.size + xs3.size := ⟨_, rfl⟩
      have hb3 : Below V.heap.size V W3 := by rw [hW3]; exact (by repeat (first | exact below_of_grow _ _ | exact Below.refl _ _ | exact below_more _ _ _ _ | (simp only [← Array.append_assoc]; first | exact below_more _ _ _ _ | exact below_same _ _ _ | exact Below.refl _ _) | exact below_same _ _ _ | (refine Below.alloc ?_ (by first | (simp; done) | (simp; omega)) _) | (refine Below.grow ?_ (by first | (simp; done) | (simp; omega)) _ _) | refine Below.drew ?_ | refine Below.drewN ?_ _ | (refine Below.putF ?_ (by first | (simp; done) | omega | (simp; omega)) _) | (refine Below.setCell ?_ (by first | (simp; done) | (simp; omega)) _)))
      have g8 : W3.heap[b8]? = some (.cells (row8 rv) 39) := by rw [hW3, heap_al, if_pos (by rw [hb8]; simp [World.grow_size])]
      have c8 := cut_heap g8 (sz := 25) (by simp [hvl])
      have m8 : b8 < W3.heap.size := (Array.getElem?_eq_some_iff.1 g8).1
      have f3 := (cut_of_heap (hb3.block (q + 1) m3') 0 25).trans e3
      have m4 : q + 1 < W3.heap.size := Nat.lt_of_lt_of_le m3' hb3.size
      simp only [← hb8]
      have HB3 := Lib.hid (HBV.out.trans (hb3.mono HBV.out.size))
      clear hW3 hb3 hb8 g8 e3 m3'
      go_wp2_with fail
      refine Gives.use (HRF.out _) ?_
      intro xs4 d4
      go_upto_region 10 with fail
      refine wp_name ?_
      intro W4 hW4
      obtain ⟨bA, hbA⟩ : ∃ b, b = W3.heap.size + xs4.size := ⟨_, rfl⟩
      have hb4 : Below W3.heap.size W3 W4 := by rw [hW4]; exact (by repeat (first | exact below_of_grow _ _ | exact Below.refl _ _ | exact below_more _ _ _ _ | (simp only [← Array.append_assoc]; first | exact below_more _ _ _ _ | exact below_same _ _ _ | exact Below.refl _ _) | exact below_same _ _ _ | (refine Below.alloc ?_ (by first | (simp; done) | (simp; omega)) _) | (refine Below.grow ?_ (by first | (simp; done) | (simp; omega)) _ _) | refine Below.drew ?_ | refine Below.drewN ?_ _ | (refine Below.putF ?_ (by first | (simp; done) | omega | (simp; omega)) _) | (refine Below.setCell ?_ (by first | (simp; done) | (simp; omega)) _)))
      have gA : W4.heap[bA]? = some (.cells (rkey b) 57) := by rw [hW4, heap_al, if_pos (by rw [hbA]; simp [World.grow_size])]
      have cA := cut_heap gA (sz := 25) hzb
      have mA : bA < W4.heap.size := (Array.getElem?_eq_some_iff.1 gA).1
      have f8 := (cut_of_heap (hb4.block b8 m8) 0 25).trans c8
      have f4 := (cut_of_heap (hb4.block (q + 1) m4) 0 25).trans f3
      have k8 : b8 < W4.heap.size := Nat.lt_of_lt_of_le m8 hb4.size
      have k4 : q + 1 < W4.heap.size := Nat.lt_of_lt_of_le m4 hb4.size
      simp only [← hbA]
      have HB4 := Lib.hid (HB3.out.trans (hb4.mono HB3.out.size))
      clear hW4 hb4 hbA gA c8 f3 m8 m4
      go_wp2_with fail
      refine Gives.use (HRY.out _) ?_
      intro xs5 d5
      obtain ⟨hv1, hv2⟩ := HV.out
      cases hr : keyRight b
      · rw [hr] at hv1 hv2
        rw [if_neg (by decide)] at hv1 hv2
        subst hv1 hv2
        clear HV hr
        go_wp2_with fail
        refine Gives.use (HKN.out _) ?_
        intro xs6 d6
        go_wp2_with fail
        go_ret
        exact ⟨rfl, HB4.out.trans ((show Below W4.heap.size W4 _ from (by repeat (first | exact below_of_grow _ _ | exact Below.refl _ _ | exact below_more _ _ _ _ | (simp only [← Array.append_assoc]; first | exact below_more _ _ _ _ | exact below_same _ _ _ | exact Below.refl _ _) | exact below_same _ _ _ | (refine Below.alloc ?_ (by first | (simp; done) | (simp; omega)) _) | (refine Below.grow ?_ (by first | (simp; done) | (simp; omega)) _ _) | refine Below.drew ?_ | refine Below.drewN ?_ _ | (refine Below.putF ?_ (by first | (simp; done) | omega | (simp; omega)) _) | (refine Below.setCell ?_ (by first | (simp; done) | (simp; omega)) _)))).mono HB4.out.size)⟩
      · rw [hr] at hv1 hv2
        rw [if_pos rfl] at hv1 hv2
        subst hv1 hv2
        clear HV hr
        go_upto_region 12 with fail
        apply wp_region_specs (by rfl) [.val _, .val _, .val _, .val _, .val _, .val _, .val _, .val _, .val _, .val _, .val _, .val _, .val _, .val _, .val _, .val _, .val _] 17 (by rfl) [55, 56, 57, 58, 59, 60, 61, 62, 63, 64, 65, 66, 67, 68, 69, 70, 71] [] [] (by rfl) (by rfl) (by decide) (by decide +kernel) (fun _ _ _ _ _ h => h)
        case hF => intro x; simp only [over, List.foldl_cons, List.foldl_nil, List.setIfInBounds_toArray, List.set_cons_succ, List.set_cons_zero]; exact rfl
        case hops =>
          refine ⟨?o0, ?o1, ?o2, ?o3, ?o4, ?o5, ?o6, ?o7, ?o8, ?o9, ?o10, ?o11, ?o12, ?o13, ?o14, ?o15, ?o16, trivial⟩
          case o0 =>
            intro x w1 hH K hK
            obtain ⟨xs, d, rfl⟩ := grow_of_below hH.below
            clear hH
            try simp only [World.grow_drew] at hK ⊢
            try simp only [World.grow_grow] at hK ⊢
            go_simp
            go_wp2_with (refine Gives.use (HKN.out _) ?_; intro ys e)
            exact ⟨_, rfl, rfl, (by first | exact below_more _ _ _ _ | exact (by repeat (first | exact below_of_grow _ _ | exact Below.refl _ _ | exact below_more _ _ _ _ | (simp only [← Array.append_assoc]; first | exact below_more _ _ _ _ | exact below_same _ _ _ | exact Below.refl _ _) | exact below_same _ _ _ | (refine Below.alloc ?_ (by first | (simp; done) | (simp; omega)) _) | (refine Below.grow ?_ (by first | (simp; done) | (simp; omega)) _ _) | refine Below.drew ?_ | refine Below.drewN ?_ _ | (refine Below.putF ?_ (by first | (simp; done) | omega | (simp; omega)) _) | (refine Below.setCell ?_ (by first | (simp; done) | (simp; omega)) _)))), fun h => by cases h⟩
          case o1 =>
            intro x w1 hH K hK
            have e55 : x 55 = _ := hH.holds 0 (by decide) (by decide +kernel) 55 rfl
            obtain ⟨xs, d, rfl⟩ := grow_of_below hH.below
            clear hH
            try simp only [World.grow_drew] at hK ⊢
            try simp only [World.grow_grow] at hK ⊢
            simp only [e55] at hK ⊢
            clear e55
            go_simp
            go_wp2_with fail
            exact ⟨_, rfl, rfl, (by first | exact Below.refl _ _ | exact below_same _ _ _ | exact below_more _ _ _ _ | exact below_of_grow _ _), fun h => by cases h⟩
          case o2 =>
            intro x w1 hH K hK
            have e56 : x 56 = _ := hH.holds 1 (by decide) (by decide +kernel) 56 rfl
            obtain ⟨xs, d, rfl⟩ := grow_of_below hH.below
            clear hH
            try simp only [World.grow_drew] at hK ⊢
            try simp only [World.grow_grow] at hK ⊢
            simp only [e56] at hK ⊢
            clear e56
            go_simp
            go_wp2_with fail
            exact ⟨_, rfl, rfl, (by first | exact Below.refl _ _ | exact below_same _ _ _ | exact below_more _ _ _ _ | exact below_of_grow _ _), fun h => by cases h⟩
          case o3 =>
            intro x w1 hH K hK
            have e56 : x 56 = _ := hH.holds 1 (by decide) (by decide +kernel) 56 rfl
            have e57 : x 57 = _ := hH.holds 2 (by decide) (by decide +kernel) 57 rfl
            obtain ⟨xs, d, rfl⟩ := grow_of_below hH.below
            clear hH
            try simp only [World.grow_drew] at hK ⊢
            try simp only [World.grow_grow] at hK ⊢
            simp only [e56, e57] at hK ⊢
            clear e56 e57
            go_simp
            go_wp2_with fail
            exact ⟨_, rfl, rfl, (by first | exact Below.refl _ _ | exact below_same _ _ _ | exact below_more _ _ _ _ | exact below_of_grow _ _), fun h => by cases h⟩
          case o4 =>
            intro x w1 hH K hK
            have e56 : x 56 = _ := hH.holds 1 (by decide) (by decide +kernel) 56 rfl
            have e58 : x 58 = _ := hH.holds 3 (by decide) (by decide +kernel) 58 rfl
            obtain ⟨xs, d, rfl⟩ := grow_of_below hH.below
            clear hH
            try simp only [World.grow_drew] at hK ⊢
            try simp only [World.grow_grow] at hK ⊢
            simp only [e56, e58] at hK ⊢
            clear e56 e58
            go_simp
            go_wp2_with fail
            exact ⟨_, rfl, rfl, (by first | exact Below.refl _ _ | exact below_same _ _ _ | exact below_more _ _ _ _ | exact below_of_grow _ _), fun h => by cases h⟩
          case o5 =>
            intro x w1 hH K hK
            have e59 : x 59 = _ := hH.holds 4 (by decide) (by decide +kernel) 59 rfl
            obtain ⟨xs, d, rfl⟩ := grow_of_below hH.below
            clear hH
            try simp only [World.grow_drew] at hK ⊢
            try simp only [World.grow_grow] at hK ⊢
            simp only [e59] at hK ⊢
            clear e59
            go_simp
            go_wp2_with fail
            exact ⟨_, rfl, rfl, (by first | exact Below.refl _ _ | exact below_same _ _ _ | exact below_more _ _ _ _ | exact below_of_grow _ _), fun h => by cases h⟩
          case o6 =>
            intro x w1 hH K hK
            have e60 : x 60 = _ := hH.holds 5 (by decide) (by decide +kernel) 60 rfl
            obtain ⟨xs, d, rfl⟩ := grow_of_below hH.below
            clear hH
            try simp only [World.grow_drew] at hK ⊢
            try simp only [World.grow_grow] at hK ⊢
            simp only [e60] at hK ⊢
            clear e60
            go_simp
            go_wp2_with fail
            exact ⟨_, rfl, rfl, (by first | exact Below.refl _ _ | exact below_same _ _ _ | exact below_more _ _ _ _ | exact below_of_grow _ _), fun h => by cases h⟩
          case o7 =>
            intro x w1 hH K hK
            have e60 : x 60 = _ := hH.holds 5 (by decide) (by decide +kernel) 60 rfl
            have e61 : x 61 = _ := hH.holds 6 (by decide) (by decide +kernel) 61 rfl
            obtain ⟨xs, d, rfl⟩ := grow_of_below hH.below
            clear hH
            try simp only [World.grow_drew] at hK ⊢
            try simp only [World.grow_grow] at hK ⊢
            simp only [e60, e61] at hK ⊢
            clear e60 e61
            go_simp
            go_wp2_with (refine Gives.use (HOB.out _) ?_; intro ys e)
            exact ⟨_, rfl, rfl, (by first | exact below_more _ _ _ _ | exact (by repeat (first | exact below_of_grow _ _ | exact Below.refl _ _ | exact below_more _ _ _ _ | (simp only [← Array.append_assoc]; first | exact below_more _ _ _ _ | exact below_same _ _ _ | exact Below.refl _ _) | exact below_same _ _ _ | (refine Below.alloc ?_ (by first | (simp; done) | (simp; omega)) _) | (refine Below.grow ?_ (by first | (simp; done) | (simp; omega)) _ _) | refine Below.drew ?_ | refine Below.drewN ?_ _ | (refine Below.putF ?_ (by first | (simp; done) | omega | (simp; omega)) _) | (refine Below.setCell ?_ (by first | (simp; done) | (simp; omega)) _)))), fun h => by cases h⟩
          case o8 =>
            intro x w1 hH K hK
            have e60 : x 60 = _ := hH.holds 5 (by decide) (by decide +kernel) 60 rfl
            obtain ⟨xs, d, rfl⟩ := grow_of_below hH.below
            clear hH
            try simp only [World.grow_drew] at hK ⊢
            try simp only [World.grow_grow] at hK ⊢
            simp only [e60] at hK ⊢
            clear e60
            go_simp
            go_wp2_with fail
            exact ⟨_, rfl, rfl, (by first | exact Below.refl _ _ | exact below_same _ _ _ | exact below_more _ _ _ _ | exact below_of_grow _ _), fun h => by cases h⟩
          case o9 =>
            intro x w1 hH K hK
            have e60 : x 60 = _ := hH.holds 5 (by decide) (by decide +kernel) 60 rfl
            have e62 : x 62 = _ := hH.holds 7 (by decide) (by decide +kernel) 62 rfl
            have e63 : x 63 = _ := hH.holds 8 (by decide) (by decide +kernel) 63 rfl
            obtain ⟨xs, d, rfl⟩ := grow_of_below hH.below
            clear hH
            try simp only [World.grow_drew] at hK ⊢
            try simp only [World.grow_grow] at hK ⊢
            simp only [e60, e62, e63] at hK ⊢
            clear e60 e62 e63
            go_simp
            go_wp2_with fail
            exact ⟨_, rfl, rfl, (by first | exact Below.refl _ _ | exact below_same _ _ _ | exact below_more _ _ _ _ | exact below_of_grow _ _), fun h => by cases h⟩
          case o10 =>
            intro x w1 hH K hK
            have e60 : x 60 = _ := hH.holds 5 (by decide) (by decide +kernel) 60 rfl
            have e64 : x 64 = _ := hH.holds 9 (by decide) (by decide +kernel) 64 rfl
            obtain ⟨xs, d, rfl⟩ := grow_of_below hH.below
            clear hH
            try simp only [World.grow_drew] at hK ⊢
            try simp only [World.grow_grow] at hK ⊢
            simp only [e60, e64] at hK ⊢
            clear e60 e64
            go_simp
            go_wp2_with fail
            exact ⟨_, rfl, rfl, (by first | exact Below.refl _ _ | exact below_same _ _ _ | exact below_more _ _ _ _ | exact below_of_grow _ _), fun h => by cases h⟩
          case o11 =>
            intro x w1 hH K hK
            have e65 : x 65 = _ := hH.holds 10 (by decide) (by decide +kernel) 65 rfl
            obtain ⟨xs, d, rfl⟩ := grow_of_below hH.below
            clear hH
            try simp only [World.grow_drew] at hK ⊢
            try simp only [World.grow_grow] at hK ⊢
            simp only [e65] at hK ⊢
            clear e65
            go_simp
            go_wp2_with fail
            exact ⟨_, rfl, rfl, (by first | exact Below.refl _ _ | exact below_same _ _ _ | exact below_more _ _ _ _ | exact below_of_grow _ _), fun h => by cases h⟩
          case o12 =>
            intro x w1 hH K hK
            have e66 : x 66 = _ := hH.holds 11 (by decide) (by decide +kernel) 66 rfl
            obtain ⟨xs, d, rfl⟩ := grow_of_below hH.below
            clear hH
            try simp only [World.grow_drew] at hK ⊢
            try simp only [World.grow_grow] at hK ⊢
            simp only [e66] at hK ⊢
            clear e66
            go_simp
            go_wp2_with fail
            exact ⟨_, rfl, rfl, (by first | exact Below.refl _ _ | exact below_same _ _ _ | exact below_more _ _ _ _ | exact below_of_grow _ _), fun h => by cases h⟩
          case o13 =>
            intro x w1 hH K hK
            have e66 : x 66 = _ := hH.holds 11 (by decide) (by decide +kernel) 66 rfl
            have e67 : x 67 = _ := hH.holds 12 (by decide) (by decide +kernel) 67 rfl
            obtain ⟨xs, d, rfl⟩ := grow_of_below hH.below
            clear hH
            try simp only [World.grow_drew] at hK ⊢
            try simp only [World.grow_grow] at hK ⊢
            simp only [e66, e67] at hK ⊢
            clear e66 e67
            go_simp
            go_wp2_with (refine Gives.use (HBB.out _) ?_; intro ys e)
            exact ⟨_, rfl, rfl, (by first | exact below_more _ _ _ _ | exact (by repeat (first | exact below_of_grow _ _ | exact Below.refl _ _ | exact below_more _ _ _ _ | (simp only [← Array.append_assoc]; first | exact below_more _ _ _ _ | exact below_same _ _ _ | exact Below.refl _ _) | exact below_same _ _ _ | (refine Below.alloc ?_ (by first | (simp; done) | (simp; omega)) _) | (refine Below.grow ?_ (by first | (simp; done) | (simp; omega)) _ _) | refine Below.drew ?_ | refine Below.drewN ?_ _ | (refine Below.putF ?_ (by first | (simp; done) | omega | (simp; omega)) _) | (refine Below.setCell ?_ (by first | (simp; done) | (simp; omega)) _)))), fun h => by cases h⟩
          case o14 =>
            intro x w1 hH K hK
            have e66 : x 66 = _ := hH.holds 11 (by decide) (by decide +kernel) 66 rfl
            obtain ⟨xs, d, rfl⟩ := grow_of_below hH.below
            clear hH
            try simp only [World.grow_drew] at hK ⊢
            try simp only [World.grow_grow] at hK ⊢
            simp only [e66] at hK ⊢
            clear e66
            go_simp
            go_wp2_with fail
            exact ⟨_, rfl, rfl, (by first | exact Below.refl _ _ | exact below_same _ _ _ | exact below_more _ _ _ _ | exact below_of_grow _ _), fun h => by cases h⟩
          case o15 =>
            intro x w1 hH K hK
            have e66 : x 66 = _ := hH.holds 11 (by decide) (by decide +kernel) 66 rfl
            have e68 : x 68 = _ := hH.holds 13 (by decide) (by decide +kernel) 68 rfl
            have e69 : x 69 = _ := hH.holds 14 (by decide) (by decide +kernel) 69 rfl
            obtain ⟨xs, d, rfl⟩ := grow_of_below hH.below
            clear hH
            try simp only [World.grow_drew] at hK ⊢
            try simp only [World.grow_grow] at hK ⊢
            simp only [e66, e68, e69] at hK ⊢
            clear e66 e68 e69
            go_simp
            go_wp2_with fail
            exact ⟨_, rfl, rfl, (by first | exact Below.refl _ _ | exact below_same _ _ _ | exact below_more _ _ _ _ | exact below_of_grow _ _), fun h => by cases h⟩
          case o16 =>
            intro x w1 hH K hK
            have e66 : x 66 = _ := hH.holds 11 (by decide) (by decide +kernel) 66 rfl
            have e70 : x 70 = _ := hH.holds 15 (by decide) (by decide +kernel) 70 rfl
            obtain ⟨xs, d, rfl⟩ := grow_of_below hH.below
            clear hH
            try simp only [World.grow_drew] at hK ⊢
            try simp only [World.grow_grow] at hK ⊢
            simp only [e66, e70] at hK ⊢
            clear e66 e70
            go_simp
            go_wp2_with fail
            exact ⟨_, rfl, rfl, (by first | exact Below.refl _ _ | exact below_same _ _ _ | exact below_more _ _ _ _ | exact below_of_grow _ _), fun h => by cases h⟩
        case hend =>
          intro x w1 hH
          have e55 : x 55 = _ := hH.holds 0 (by decide) trivial 55 rfl
          have e56 : x 56 = _ := hH.holds 1 (by decide) trivial 56 rfl
          have e57 : x 57 = _ := hH.holds 2 (by decide) trivial 57 rfl
          have e58 : x 58 = _ := hH.holds 3 (by decide) trivial 58 rfl
          have e59 : x 59 = _ := hH.holds 4 (by decide) trivial 59 rfl
          have e60 : x 60 = _ := hH.holds 5 (by decide) trivial 60 rfl
          have e61 : x 61 = _ := hH.holds 6 (by decide) trivial 61 rfl
          have e62 : x 62 = _ := hH.holds 7 (by decide) trivial 62 rfl
          have e63 : x 63 = _ := hH.holds 8 (by decide) trivial 63 rfl
          have e64 : x 64 = _ := hH.holds 9 (by decide) trivial 64 rfl
          have e65 : x 65 = _ := hH.holds 10 (by decide) trivial 65 rfl
          have e66 : x 66 = _ := hH.holds 11 (by decide) trivial 66 rfl
          have e67 : x 67 = _ := hH.holds 12 (by decide) trivial 67 rfl
          have e68 : x 68 = _ := hH.holds 13 (by decide) trivial 68 rfl
          have e69 : x 69 = _ := hH.holds 14 (by decide) trivial 69 rfl
          have e70 : x 70 = _ := hH.holds 15 (by decide) trivial 70 rfl
          have e71 : x 71 = _ := hH.holds 16 (by decide) trivial 71 rfl
          obtain ⟨xs, d, rfl⟩ := grow_of_below hH.below
          clear hH
          simp only [e55, e56, e57, e58, e59, e60, e61, e62, e63, e64, e65, e66, e67, e68, e69, e70, e71]; clear e55 e56 e57 e58 e59 e60 e61 e62 e63 e64 e65 e66 e67 e68 e69 e70 e71
          simp only [List.drop_succ_cons, List.drop_zero]
          go_wp2_with fail
          go_ret
          refine ⟨rfl, HB4.out.trans (Below.mono ?_ HB4.out.size)⟩
          exact (by repeat (first | exact below_of_grow _ _ | exact Below.refl _ _ | exact below_more _ _ _ _ | (simp only [← Array.append_assoc]; first | exact below_more _ _ _ _ | exact below_same _ _ _ | exact Below.refl _ _) | exact below_same _ _ _ | (refine Below.alloc ?_ (by first | (simp; done) | (simp; omega)) _) | (refine Below.grow ?_ (by first | (simp; done) | (simp; omega)) _ _) | refine Below.drew ?_ | refine Below.drewN ?_ _ | (refine Below.putF ?_ (by first | (simp; done) | omega | (simp; omega)) _) | (refine Below.setCell ?_ (by first | (simp; done) | (simp; omega)) _)))
end Go.Proofs.YtemnojlcgllcjaaGreatDoor

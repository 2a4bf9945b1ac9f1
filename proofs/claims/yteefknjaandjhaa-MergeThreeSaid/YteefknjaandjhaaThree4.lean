/- The walk of layer 24's law of three cells, where one counts. -/
import Derived.Test.YteefknjaandjhaaThree3
namespace Go.Proofs.Yteefknjaandjhaa
open Go.RowKit

set_option maxHeartbeats 3200000 in
theorem law_ok (a b c x1 y1 : C24) (m s u : Int) (hx : three a.cut b.cut c.cut m = (x1, s, 0)) (hy : three a.cut c.cut b.cut m = (y1, u, 0)) (t1 : ((s == 1) == (u == 2)) = true) (t2 : ((s == 3) == (u == 3)) = true) (hxy : s = 3 ∨ x1 = y1) (hok : x1.r.ok)
    (ha : a.cut.r.ok) (hb : b.cut.r.ok) (hc : c.cut.r.ok) (ta : a.r.text.size ≤ maxLen) (tb : b.r.text.size ≤ maxLen) (tc : c.r.text.size ≤ maxLen) (w : World) :
    Gives Try.prog 3 #[a.v, b.v, c.v, .int .i64 m] w (.bool true) := by
  unfold Gives
  have HXY := Lib.hid hxy
  clear hxy
  have eqc := eqCell
  have nec := neCellD
  have h1 := fun w => three_gives a.cut b.cut c.cut m w
  have h2 := fun w => refThree_gives a.cut b.cut c.cut m w
  have h3 := fun w => three_gives a.cut c.cut b.cut m w
  rw [hx] at h1 h2
  rw [hy] at h3
  have H1 := Lib.hid h1
  have H2 := Lib.hid h2
  have H3 := Lib.hid h3
  clear hx hy h1 h2 h3
  unfold C24.v
  go_enter Try.func3, Try.ntmps3
  go_wp2_with fail
  apply wp_region_specs (by rfl) [.val _, .val _, .val _, .val _, .val _, .val _, .new _, .new _, .new _] 9 (by rfl) [21, 22, 23, 24, 25, 26, 9, 10, 11] [6, 7, 8] [] (by rfl) (by rfl) (by decide) (by decide +kernel) (fun _ _ _ _ _ h => h)
  case hF => intro x; simp only [over, List.foldl_cons, List.foldl_nil, List.setIfInBounds_toArray, List.set_cons_succ, List.set_cons_zero]; exact rfl
  case hops =>
    refine ⟨?o0, ?o1, ?o2, ?o3, ?o4, ?o5, ?o6, ?o7, ?o8, trivial⟩
    case o0 =>
      intro x w1 hH K hK
      obtain ⟨xs, d, rfl⟩ := grow_of_below hH.below
      clear hH
      go_simp
      go_wp2_with fail
      exact ⟨_, rfl, rfl, (by repeat (first | exact Below.refl _ _ | exact below_of_grow _ _ | exact below_more _ _ _ _ | exact below_same _ _ _ | (refine Below.alloc ?_ (by first | (simp; done) | (simp; omega)) _) | (refine Below.grow ?_ (by first | (simp; done) | (simp; omega)) _ _) | refine Below.drew ?_ | (refine Below.putF ?_ (by first | (simp; done) | omega | (simp; omega)) _) | (refine Below.setCell ?_ (by first | (simp; done) | (simp; omega)) _))), fun h => by cases h⟩
    case o1 =>
      intro x w1 hH K hK
      have e21 : x 21 = _ := hH.holds 0 (by decide) (by decide +kernel) 21 rfl
      obtain ⟨xs, d, rfl⟩ := grow_of_below hH.below
      clear hH
      simp only [e21] at hK ⊢
      clear e21
      go_simp
      go_wp2_with (refine Gives.use (cut_gives a ta _) ?_; intro ys e)
      exact ⟨_, rfl, rfl, (by repeat (first | exact Below.refl _ _ | exact below_of_grow _ _ | exact below_more _ _ _ _ | exact below_same _ _ _ | (refine Below.alloc ?_ (by first | (simp; done) | (simp; omega)) _) | (refine Below.grow ?_ (by first | (simp; done) | (simp; omega)) _ _) | refine Below.drew ?_ | (refine Below.putF ?_ (by first | (simp; done) | omega | (simp; omega)) _) | (refine Below.setCell ?_ (by first | (simp; done) | (simp; omega)) _))), fun h => by cases h⟩
    case o2 =>
      intro x w1 hH K hK
      obtain ⟨xs, d, rfl⟩ := grow_of_below hH.below
      clear hH
      go_simp
      go_wp2_with fail
      exact ⟨_, rfl, rfl, (by repeat (first | exact Below.refl _ _ | exact below_of_grow _ _ | exact below_more _ _ _ _ | exact below_same _ _ _ | (refine Below.alloc ?_ (by first | (simp; done) | (simp; omega)) _) | (refine Below.grow ?_ (by first | (simp; done) | (simp; omega)) _ _) | refine Below.drew ?_ | (refine Below.putF ?_ (by first | (simp; done) | omega | (simp; omega)) _) | (refine Below.setCell ?_ (by first | (simp; done) | (simp; omega)) _))), fun h => by cases h⟩
    case o3 =>
      intro x w1 hH K hK
      have e23 : x 23 = _ := hH.holds 2 (by decide) (by decide +kernel) 23 rfl
      obtain ⟨xs, d, rfl⟩ := grow_of_below hH.below
      clear hH
      simp only [e23] at hK ⊢
      clear e23
      go_simp
      go_wp2_with (refine Gives.use (cut_gives b tb _) ?_; intro ys e)
      exact ⟨_, rfl, rfl, (by repeat (first | exact Below.refl _ _ | exact below_of_grow _ _ | exact below_more _ _ _ _ | exact below_same _ _ _ | (refine Below.alloc ?_ (by first | (simp; done) | (simp; omega)) _) | (refine Below.grow ?_ (by first | (simp; done) | (simp; omega)) _ _) | refine Below.drew ?_ | (refine Below.putF ?_ (by first | (simp; done) | omega | (simp; omega)) _) | (refine Below.setCell ?_ (by first | (simp; done) | (simp; omega)) _))), fun h => by cases h⟩
    case o4 =>
      intro x w1 hH K hK
      obtain ⟨xs, d, rfl⟩ := grow_of_below hH.below
      clear hH
      go_simp
      go_wp2_with fail
      exact ⟨_, rfl, rfl, (by repeat (first | exact Below.refl _ _ | exact below_of_grow _ _ | exact below_more _ _ _ _ | exact below_same _ _ _ | (refine Below.alloc ?_ (by first | (simp; done) | (simp; omega)) _) | (refine Below.grow ?_ (by first | (simp; done) | (simp; omega)) _ _) | refine Below.drew ?_ | (refine Below.putF ?_ (by first | (simp; done) | omega | (simp; omega)) _) | (refine Below.setCell ?_ (by first | (simp; done) | (simp; omega)) _))), fun h => by cases h⟩
    case o5 =>
      intro x w1 hH K hK
      have e25 : x 25 = _ := hH.holds 4 (by decide) (by decide +kernel) 25 rfl
      obtain ⟨xs, d, rfl⟩ := grow_of_below hH.below
      clear hH
      simp only [e25] at hK ⊢
      clear e25
      go_simp
      go_wp2_with (refine Gives.use (cut_gives c tc _) ?_; intro ys e)
      exact ⟨_, rfl, rfl, (by repeat (first | exact Below.refl _ _ | exact below_of_grow _ _ | exact below_more _ _ _ _ | exact below_same _ _ _ | (refine Below.alloc ?_ (by first | (simp; done) | (simp; omega)) _) | (refine Below.grow ?_ (by first | (simp; done) | (simp; omega)) _ _) | refine Below.drew ?_ | (refine Below.putF ?_ (by first | (simp; done) | omega | (simp; omega)) _) | (refine Below.setCell ?_ (by first | (simp; done) | (simp; omega)) _))), fun h => by cases h⟩
    case o6 =>
      intro x w1 hH K hK
      obtain ⟨xs, d, rfl⟩ := grow_of_below hH.below
      clear hH
      go_simp
      go_wp2_with fail
      exact left_new rfl (by simp) (by first | (simp; done) | (simp; omega))
    case o7 =>
      intro x w1 hH K hK
      obtain ⟨xs, d, rfl⟩ := grow_of_below hH.below
      clear hH
      go_simp
      go_wp2_with fail
      exact left_new rfl (by simp) (by first | (simp; done) | (simp; omega))
    case o8 =>
      intro x w1 hH K hK
      obtain ⟨xs, d, rfl⟩ := grow_of_below hH.below
      clear hH
      go_simp
      go_wp2_with fail
      exact left_new rfl (by simp) (by first | (simp; done) | (simp; omega))
  case hend =>
    intro x w1 hH
    have e21 : x 21 = _ := hH.holds 0 (by decide) trivial 21 rfl
    have e22 : x 22 = _ := hH.holds 1 (by decide) trivial 22 rfl
    have e23 : x 23 = _ := hH.holds 2 (by decide) trivial 23 rfl
    have e24 : x 24 = _ := hH.holds 3 (by decide) trivial 24 rfl
    have e25 : x 25 = _ := hH.holds 4 (by decide) trivial 25 rfl
    have e26 : x 26 = _ := hH.holds 5 (by decide) trivial 26 rfl
    obtain ⟨b9, e9, l9, u9, o9⟩ := hH.holds 6 (by decide) trivial 9 rfl
    obtain ⟨b10, e10, l10, u10, o10⟩ := hH.holds 7 (by decide) trivial 10 rfl
    obtain ⟨b11, e11, l11, u11, o11⟩ := hH.holds 8 (by decide) trivial 11 rfl
    have n9_10 : b9 ≠ b10 := fun h => hH.apart 6 (by decide) 7 (by decide) (by decide) (by decide) trivial trivial (by decide) 9 10 rfl rfl (by rw [e9, e10, h])
    have n10_9 := n9_10.symm
    have n9_11 : b9 ≠ b11 := fun h => hH.apart 6 (by decide) 8 (by decide) (by decide) (by decide) trivial trivial (by decide) 9 11 rfl rfl (by rw [e9, e11, h])
    have n11_9 := n9_11.symm
    have n10_11 : b10 ≠ b11 := fun h => hH.apart 7 (by decide) 8 (by decide) (by decide) (by decide) trivial trivial (by decide) 10 11 rfl rfl (by rw [e10, e11, h])
    have n11_10 := n10_11.symm
    obtain ⟨xs, d, rfl⟩ := grow_of_below hH.below
    clear hH
    simp only [e21, e22, e23, e24, e25, e26, e9, e10, e11]; clear e21 e22 e23 e24 e25 e26 e9 e10 e11
    refine new_known3 o9 l9 u9 o10 l10 u10 o11 l11 u11 ?_
    clear o9 o10 o11
    simp [go_sem] at l9 u9 l10 u10 l11 u11
    simp only [List.drop_succ_cons, List.drop_zero]
    go_wp2_with (go_at_call 7; refine Gives.use (H1.out _) ?_; intro ys e2)
    apply wp_region_specs (by rfl) [.val _, .val _, .val _, .val _, .val _, .val _, .val _, .val _, .val _, .val _, .pure _, .pure _, .new _] 13 (by rfl) [37, 38, 39, 40, 41, 42, 43, 44, 36, 45, 46, 47, 15] [12] [10, 11] (by rfl) (by rfl) (by decide) (by decide +kernel) (fun _ _ _ _ _ h => h)
    case hF => intro x; simp only [over, List.foldl_cons, List.foldl_nil, List.setIfInBounds_toArray, List.set_cons_succ, List.set_cons_zero]; exact rfl
    case hops =>
      refine ⟨?o0, ?o1, ?o2, ?o3, ?o4, ?o5, ?o6, ?o7, ?o8, ?o9, ?o10, ?o11, ?o12, trivial⟩
      case o0 =>
        intro x w1 hH K hK
        obtain ⟨xs, d, rfl⟩ := grow_of_below hH.below
        clear hH
        go_simp
        go_wp2_with fail
        exact ⟨_, rfl, rfl, (by repeat (first | exact Below.refl _ _ | exact below_of_grow _ _ | exact below_more _ _ _ _ | exact below_same _ _ _ | (refine Below.alloc ?_ (by first | (simp; done) | (simp; omega)) _) | (refine Below.grow ?_ (by first | (simp; done) | (simp; omega)) _ _) | refine Below.drew ?_ | (refine Below.putF ?_ (by first | (simp; done) | omega | (simp; omega)) _) | (refine Below.setCell ?_ (by first | (simp; done) | (simp; omega)) _))), fun h => by cases h⟩
      case o1 =>
        intro x w1 hH K hK
        have e37 : x 37 = _ := hH.holds 0 (by decide) (by decide +kernel) 37 rfl
        obtain ⟨xs, d, rfl⟩ := grow_of_below hH.below
        clear hH
        simp only [e37] at hK ⊢
        clear e37
        go_simp
        go_wp2_with (refine Gives.use (of24 a.cut ha _) ?_; intro ys e)
        exact ⟨_, rfl, rfl, (by repeat (first | exact Below.refl _ _ | exact below_of_grow _ _ | exact below_more _ _ _ _ | exact below_same _ _ _ | (refine Below.alloc ?_ (by first | (simp; done) | (simp; omega)) _) | (refine Below.grow ?_ (by first | (simp; done) | (simp; omega)) _ _) | refine Below.drew ?_ | (refine Below.putF ?_ (by first | (simp; done) | omega | (simp; omega)) _) | (refine Below.setCell ?_ (by first | (simp; done) | (simp; omega)) _))), fun h => by cases h⟩
      case o2 =>
        intro x w1 hH K hK
        obtain ⟨xs, d, rfl⟩ := grow_of_below hH.below
        clear hH
        go_simp
        go_wp2_with fail
        exact ⟨_, rfl, rfl, (by repeat (first | exact Below.refl _ _ | exact below_of_grow _ _ | exact below_more _ _ _ _ | exact below_same _ _ _ | (refine Below.alloc ?_ (by first | (simp; done) | (simp; omega)) _) | (refine Below.grow ?_ (by first | (simp; done) | (simp; omega)) _ _) | refine Below.drew ?_ | (refine Below.putF ?_ (by first | (simp; done) | omega | (simp; omega)) _) | (refine Below.setCell ?_ (by first | (simp; done) | (simp; omega)) _))), fun h => by cases h⟩
      case o3 =>
        intro x w1 hH K hK
        have e39 : x 39 = _ := hH.holds 2 (by decide) (by decide +kernel) 39 rfl
        obtain ⟨xs, d, rfl⟩ := grow_of_below hH.below
        clear hH
        simp only [e39] at hK ⊢
        clear e39
        go_simp
        go_wp2_with (refine Gives.use (of24 b.cut hb _) ?_; intro ys e)
        exact ⟨_, rfl, rfl, (by repeat (first | exact Below.refl _ _ | exact below_of_grow _ _ | exact below_more _ _ _ _ | exact below_same _ _ _ | (refine Below.alloc ?_ (by first | (simp; done) | (simp; omega)) _) | (refine Below.grow ?_ (by first | (simp; done) | (simp; omega)) _ _) | refine Below.drew ?_ | (refine Below.putF ?_ (by first | (simp; done) | omega | (simp; omega)) _) | (refine Below.setCell ?_ (by first | (simp; done) | (simp; omega)) _))), fun h => by cases h⟩
      case o4 =>
        intro x w1 hH K hK
        obtain ⟨xs, d, rfl⟩ := grow_of_below hH.below
        clear hH
        go_simp
        go_wp2_with fail
        exact ⟨_, rfl, rfl, (by repeat (first | exact Below.refl _ _ | exact below_of_grow _ _ | exact below_more _ _ _ _ | exact below_same _ _ _ | (refine Below.alloc ?_ (by first | (simp; done) | (simp; omega)) _) | (refine Below.grow ?_ (by first | (simp; done) | (simp; omega)) _ _) | refine Below.drew ?_ | (refine Below.putF ?_ (by first | (simp; done) | omega | (simp; omega)) _) | (refine Below.setCell ?_ (by first | (simp; done) | (simp; omega)) _))), fun h => by cases h⟩
      case o5 =>
        intro x w1 hH K hK
        have e41 : x 41 = _ := hH.holds 4 (by decide) (by decide +kernel) 41 rfl
        obtain ⟨xs, d, rfl⟩ := grow_of_below hH.below
        clear hH
        simp only [e41] at hK ⊢
        clear e41
        go_simp
        go_wp2_with (refine Gives.use (of24 c.cut hc _) ?_; intro ys e)
        exact ⟨_, rfl, rfl, (by repeat (first | exact Below.refl _ _ | exact below_of_grow _ _ | exact below_more _ _ _ _ | exact below_same _ _ _ | (refine Below.alloc ?_ (by first | (simp; done) | (simp; omega)) _) | (refine Below.grow ?_ (by first | (simp; done) | (simp; omega)) _ _) | refine Below.drew ?_ | (refine Below.putF ?_ (by first | (simp; done) | omega | (simp; omega)) _) | (refine Below.setCell ?_ (by first | (simp; done) | (simp; omega)) _))), fun h => by cases h⟩
      case o6 =>
        intro x w1 hH K hK
        obtain ⟨xs, d, rfl⟩ := grow_of_below hH.below
        clear hH
        go_simp
        go_wp2_with fail
        exact ⟨_, rfl, rfl, (by repeat (first | exact Below.refl _ _ | exact below_of_grow _ _ | exact below_more _ _ _ _ | exact below_same _ _ _ | (refine Below.alloc ?_ (by first | (simp; done) | (simp; omega)) _) | (refine Below.grow ?_ (by first | (simp; done) | (simp; omega)) _ _) | refine Below.drew ?_ | (refine Below.putF ?_ (by first | (simp; done) | omega | (simp; omega)) _) | (refine Below.setCell ?_ (by first | (simp; done) | (simp; omega)) _))), fun h => by cases h⟩
      case o7 =>
        intro x w1 hH K hK
        have e38 : x 38 = _ := hH.holds 1 (by decide) (by decide +kernel) 38 rfl
        have e40 : x 40 = _ := hH.holds 3 (by decide) (by decide +kernel) 40 rfl
        have e42 : x 42 = _ := hH.holds 5 (by decide) (by decide +kernel) 42 rfl
        have e43 : x 43 = _ := hH.holds 6 (by decide) (by decide +kernel) 43 rfl
        obtain ⟨xs, d, rfl⟩ := grow_of_below hH.below
        clear hH
        simp only [e38, e40, e42, e43] at hK ⊢
        clear e38 e40 e42 e43
        go_simp
        go_wp2_with (refine Gives.use (H2.out _) ?_; intro ys e)
        exact ⟨_, rfl, rfl, (by repeat (first | exact Below.refl _ _ | exact below_of_grow _ _ | exact below_more _ _ _ _ | exact below_same _ _ _ | (refine Below.alloc ?_ (by first | (simp; done) | (simp; omega)) _) | (refine Below.grow ?_ (by first | (simp; done) | (simp; omega)) _ _) | refine Below.drew ?_ | (refine Below.putF ?_ (by first | (simp; done) | omega | (simp; omega)) _) | (refine Below.setCell ?_ (by first | (simp; done) | (simp; omega)) _))), fun h => by cases h⟩
      case o8 =>
        intro x w1 hH K hK
        have e44 : x 44 = _ := hH.holds 7 (by decide) (by decide +kernel) 44 rfl
        obtain ⟨xs, d, rfl⟩ := grow_of_below hH.below
        clear hH
        simp only [e44] at hK ⊢
        clear e44
        go_simp
        go_wp2_with fail
        exact ⟨_, rfl, rfl, (by repeat (first | exact Below.refl _ _ | exact below_of_grow _ _ | exact below_more _ _ _ _ | exact below_same _ _ _ | (refine Below.alloc ?_ (by first | (simp; done) | (simp; omega)) _) | (refine Below.grow ?_ (by first | (simp; done) | (simp; omega)) _ _) | refine Below.drew ?_ | (refine Below.putF ?_ (by first | (simp; done) | omega | (simp; omega)) _) | (refine Below.setCell ?_ (by first | (simp; done) | (simp; omega)) _))), fun h => by cases h⟩
      case o9 =>
        intro x w1 hH K hK
        have e36 : x 36 = _ := hH.holds 8 (by decide) (by decide +kernel) 36 rfl
        obtain ⟨xs, d, rfl⟩ := grow_of_below hH.below
        clear hH
        simp only [e36] at hK ⊢
        clear e36
        go_simp
        go_wp2_with fail
        exact ⟨_, rfl, rfl, (by repeat (first | exact Below.refl _ _ | exact below_of_grow _ _ | exact below_more _ _ _ _ | exact below_same _ _ _ | (refine Below.alloc ?_ (by first | (simp; done) | (simp; omega)) _) | (refine Below.grow ?_ (by first | (simp; done) | (simp; omega)) _ _) | refine Below.drew ?_ | (refine Below.putF ?_ (by first | (simp; done) | omega | (simp; omega)) _) | (refine Below.setCell ?_ (by first | (simp; done) | (simp; omega)) _))), fun h => by cases h⟩
      case o10 =>
        intro x w1 hH
        have e36 : x 36 = _ := hH.holds 8 (by decide) (by decide +kernel) 36 rfl
        clear hH
        simp only [e36]
        exact Or.inl ⟨rfl, fun _ => rfl⟩
      case o11 =>
        intro x w1 hH
        have e36 : x 36 = _ := hH.holds 8 (by decide) (by decide +kernel) 36 rfl
        clear hH
        simp only [e36]
        exact Or.inl ⟨rfl, fun _ => rfl⟩
      case o12 =>
        intro x w1 hH K hK
        obtain ⟨xs, d, rfl⟩ := grow_of_below hH.below
        clear hH
        go_simp
        go_wp2_with fail
        exact left_new rfl (by simp) (by first | (simp; done) | (simp; omega))
    case hend =>
      intro x w1 hH
      have e37 : x 37 = _ := hH.holds 0 (by decide) trivial 37 rfl
      have e38 : x 38 = _ := hH.holds 1 (by decide) trivial 38 rfl
      have e39 : x 39 = _ := hH.holds 2 (by decide) trivial 39 rfl
      have e40 : x 40 = _ := hH.holds 3 (by decide) trivial 40 rfl
      have e41 : x 41 = _ := hH.holds 4 (by decide) trivial 41 rfl
      have e42 : x 42 = _ := hH.holds 5 (by decide) trivial 42 rfl
      have e43 : x 43 = _ := hH.holds 6 (by decide) trivial 43 rfl
      have e44 : x 44 = _ := hH.holds 7 (by decide) trivial 44 rfl
      have e36 : x 36 = _ := hH.holds 8 (by decide) trivial 36 rfl
      have e45 : x 45 = _ := hH.holds 9 (by decide) trivial 45 rfl
      have e46 : x 46 = _ := hH.holds 10 (by decide) trivial 46 rfl
      have e47 : x 47 = _ := hH.holds 11 (by decide) trivial 47 rfl
      obtain ⟨b15, e15, l15, u15, o15⟩ := hH.holds 12 (by decide) trivial 15 rfl
      obtain ⟨xs, d, rfl⟩ := grow_of_below hH.below
      clear hH
      simp only [e37, e38, e39, e40, e41, e42, e43, e44, e36, e45, e46, e47, e15]; clear e37 e38 e39 e40 e41 e42 e43 e44 e36 e45 e46 e47 e15
      refine new_known1 o15 l15 u15 ?_
      clear o15
      simp [go_sem] at l15 u15
      simp only [List.drop_succ_cons, List.drop_zero]
      go_wp2_with fail
      apply wp_region_specs (by rfl) [.val _, .val _, .val _, .val _, .val _, .val _, .val _, .val _, .val _, .val _, .val _, .val _, .val _, .val _] 14 (by rfl) [48, 49, 50, 51, 52, 53, 54, 55, 56, 57, 58, 59, 60, 61] [] [] (by rfl) (by rfl) (by decide) (by decide +kernel) (fun _ _ _ _ _ h => h)
      case hF => intro x; simp only [over, List.foldl_cons, List.foldl_nil, List.setIfInBounds_toArray, List.set_cons_succ, List.set_cons_zero]; exact rfl
      case hops =>
        refine ⟨?o0, ?o1, ?o2, ?o3, ?o4, ?o5, ?o6, ?o7, ?o8, ?o9, ?o10, ?o11, ?o12, ?o13, trivial⟩
        case o0 =>
          intro x w1 hH K hK
          obtain ⟨xs, d, rfl⟩ := grow_of_below hH.below
          clear hH
          go_simp
          go_wp2_with fail
          exact ⟨_, rfl, rfl, (by repeat (first | exact Below.refl _ _ | exact below_of_grow _ _ | exact below_more _ _ _ _ | exact below_same _ _ _ | (refine Below.alloc ?_ (by first | (simp; done) | (simp; omega)) _) | (refine Below.grow ?_ (by first | (simp; done) | (simp; omega)) _ _) | refine Below.drew ?_ | (refine Below.putF ?_ (by first | (simp; done) | omega | (simp; omega)) _) | (refine Below.setCell ?_ (by first | (simp; done) | (simp; omega)) _))), fun h => by cases h⟩
        case o1 =>
          intro x w1 hH K hK
          have e48 : x 48 = _ := hH.holds 0 (by decide) (by decide +kernel) 48 rfl
          obtain ⟨xs, d, rfl⟩ := grow_of_below hH.below
          clear hH
          simp only [e48] at hK ⊢
          clear e48
          go_simp
          go_wp2_with (refine Gives.use (of24 x1 hok _) ?_; intro ys e)
          exact ⟨_, rfl, rfl, (by repeat (first | exact Below.refl _ _ | exact below_of_grow _ _ | exact below_more _ _ _ _ | exact below_same _ _ _ | (refine Below.alloc ?_ (by first | (simp; done) | (simp; omega)) _) | (refine Below.grow ?_ (by first | (simp; done) | (simp; omega)) _ _) | refine Below.drew ?_ | (refine Below.putF ?_ (by first | (simp; done) | omega | (simp; omega)) _) | (refine Below.setCell ?_ (by first | (simp; done) | (simp; omega)) _))), fun h => by cases h⟩
        case o2 =>
          intro x w1 hH K hK
          obtain ⟨xs, d, rfl⟩ := grow_of_below hH.below
          clear hH
          go_simp
          go_wp2_with fail
          exact ⟨_, rfl, rfl, (by repeat (first | exact Below.refl _ _ | exact below_of_grow _ _ | exact below_more _ _ _ _ | exact below_same _ _ _ | (refine Below.alloc ?_ (by first | (simp; done) | (simp; omega)) _) | (refine Below.grow ?_ (by first | (simp; done) | (simp; omega)) _ _) | refine Below.drew ?_ | (refine Below.putF ?_ (by first | (simp; done) | omega | (simp; omega)) _) | (refine Below.setCell ?_ (by first | (simp; done) | (simp; omega)) _))), fun h => by cases h⟩
        case o3 =>
          intro x w1 hH K hK
          have e49 : x 49 = _ := hH.holds 1 (by decide) (by decide +kernel) 49 rfl
          have e50 : x 50 = _ := hH.holds 2 (by decide) (by decide +kernel) 50 rfl
          obtain ⟨xs, d, rfl⟩ := grow_of_below hH.below
          clear hH
          simp only [e49, e50] at hK ⊢
          clear e49 e50
          go_simp
          go_wp2_with fail
          exact ⟨_, rfl, rfl, (by repeat (first | exact Below.refl _ _ | exact below_of_grow _ _ | exact below_more _ _ _ _ | exact below_same _ _ _ | (refine Below.alloc ?_ (by first | (simp; done) | (simp; omega)) _) | (refine Below.grow ?_ (by first | (simp; done) | (simp; omega)) _ _) | refine Below.drew ?_ | (refine Below.putF ?_ (by first | (simp; done) | omega | (simp; omega)) _) | (refine Below.setCell ?_ (by first | (simp; done) | (simp; omega)) _))), fun h => by cases h⟩
        case o4 =>
          intro x w1 hH K hK
          have e51 : x 51 = _ := hH.holds 3 (by decide) (by decide +kernel) 51 rfl
          obtain ⟨xs, d, rfl⟩ := grow_of_below hH.below
          clear hH
          simp only [e51] at hK ⊢
          clear e51
          go_simp
          go_wp2_with fail
          exact ⟨_, rfl, rfl, (by repeat (first | exact Below.refl _ _ | exact below_of_grow _ _ | exact below_more _ _ _ _ | exact below_same _ _ _ | (refine Below.alloc ?_ (by first | (simp; done) | (simp; omega)) _) | (refine Below.grow ?_ (by first | (simp; done) | (simp; omega)) _ _) | refine Below.drew ?_ | (refine Below.putF ?_ (by first | (simp; done) | omega | (simp; omega)) _) | (refine Below.setCell ?_ (by first | (simp; done) | (simp; omega)) _))), fun h => by cases h⟩
        case o5 =>
          intro x w1 hH K hK
          have e52 : x 52 = _ := hH.holds 4 (by decide) (by decide +kernel) 52 rfl
          obtain ⟨xs, d, rfl⟩ := grow_of_below hH.below
          clear hH
          simp only [e52] at hK ⊢
          clear e52
          go_simp
          go_wp2_with fail
          exact ⟨_, rfl, rfl, (by repeat (first | exact Below.refl _ _ | exact below_of_grow _ _ | exact below_more _ _ _ _ | exact below_same _ _ _ | (refine Below.alloc ?_ (by first | (simp; done) | (simp; omega)) _) | (refine Below.grow ?_ (by first | (simp; done) | (simp; omega)) _ _) | refine Below.drew ?_ | (refine Below.putF ?_ (by first | (simp; done) | omega | (simp; omega)) _) | (refine Below.setCell ?_ (by first | (simp; done) | (simp; omega)) _))), fun h => by cases h⟩
        case o6 =>
          intro x w1 hH K hK
          have e52 : x 52 = _ := hH.holds 4 (by decide) (by decide +kernel) 52 rfl
          obtain ⟨xs, d, rfl⟩ := grow_of_below hH.below
          clear hH
          simp only [e52] at hK ⊢
          clear e52
          go_simp
          go_wp2_with fail
          exact ⟨_, rfl, rfl, (by repeat (first | exact Below.refl _ _ | exact below_of_grow _ _ | exact below_more _ _ _ _ | exact below_same _ _ _ | (refine Below.alloc ?_ (by first | (simp; done) | (simp; omega)) _) | (refine Below.grow ?_ (by first | (simp; done) | (simp; omega)) _ _) | refine Below.drew ?_ | (refine Below.putF ?_ (by first | (simp; done) | omega | (simp; omega)) _) | (refine Below.setCell ?_ (by first | (simp; done) | (simp; omega)) _))), fun h => by cases h⟩
        case o7 =>
          intro x w1 hH K hK
          have e52 : x 52 = _ := hH.holds 4 (by decide) (by decide +kernel) 52 rfl
          have e53 : x 53 = _ := hH.holds 5 (by decide) (by decide +kernel) 53 rfl
          have e54 : x 54 = _ := hH.holds 6 (by decide) (by decide +kernel) 54 rfl
          obtain ⟨xs, d, rfl⟩ := grow_of_below hH.below
          clear hH
          simp only [e52, e53, e54] at hK ⊢
          clear e52 e53 e54
          go_simp
          go_wp2_with fail
          exact ⟨_, rfl, rfl, (by repeat (first | exact Below.refl _ _ | exact below_of_grow _ _ | exact below_more _ _ _ _ | exact below_same _ _ _ | (refine Below.alloc ?_ (by first | (simp; done) | (simp; omega)) _) | (refine Below.grow ?_ (by first | (simp; done) | (simp; omega)) _ _) | refine Below.drew ?_ | (refine Below.putF ?_ (by first | (simp; done) | omega | (simp; omega)) _) | (refine Below.setCell ?_ (by first | (simp; done) | (simp; omega)) _))), fun h => by cases h⟩
        case o8 =>
          intro x w1 hH K hK
          have e52 : x 52 = _ := hH.holds 4 (by decide) (by decide +kernel) 52 rfl
          have e55 : x 55 = _ := hH.holds 7 (by decide) (by decide +kernel) 55 rfl
          obtain ⟨xs, d, rfl⟩ := grow_of_below hH.below
          clear hH
          simp only [e52, e55] at hK ⊢
          clear e52 e55
          go_simp
          go_wp2_with fail
          exact ⟨_, rfl, rfl, (by repeat (first | exact Below.refl _ _ | exact below_of_grow _ _ | exact below_more _ _ _ _ | exact below_same _ _ _ | (refine Below.alloc ?_ (by first | (simp; done) | (simp; omega)) _) | (refine Below.grow ?_ (by first | (simp; done) | (simp; omega)) _ _) | refine Below.drew ?_ | (refine Below.putF ?_ (by first | (simp; done) | omega | (simp; omega)) _) | (refine Below.setCell ?_ (by first | (simp; done) | (simp; omega)) _))), fun h => by cases h⟩
        case o9 =>
          intro x w1 hH K hK
          have e56 : x 56 = _ := hH.holds 8 (by decide) (by decide +kernel) 56 rfl
          obtain ⟨xs, d, rfl⟩ := grow_of_below hH.below
          clear hH
          simp only [e56] at hK ⊢
          clear e56
          go_simp
          go_wp2_with fail
          exact ⟨_, rfl, rfl, (by repeat (first | exact Below.refl _ _ | exact below_of_grow _ _ | exact below_more _ _ _ _ | exact below_same _ _ _ | (refine Below.alloc ?_ (by first | (simp; done) | (simp; omega)) _) | (refine Below.grow ?_ (by first | (simp; done) | (simp; omega)) _ _) | refine Below.drew ?_ | (refine Below.putF ?_ (by first | (simp; done) | omega | (simp; omega)) _) | (refine Below.setCell ?_ (by first | (simp; done) | (simp; omega)) _))), fun h => by cases h⟩
        case o10 =>
          intro x w1 hH K hK
          have e57 : x 57 = _ := hH.holds 9 (by decide) (by decide +kernel) 57 rfl
          obtain ⟨xs, d, rfl⟩ := grow_of_below hH.below
          clear hH
          simp only [e57] at hK ⊢
          clear e57
          go_simp
          go_wp2_with fail
          exact ⟨_, rfl, rfl, (by repeat (first | exact Below.refl _ _ | exact below_of_grow _ _ | exact below_more _ _ _ _ | exact below_same _ _ _ | (refine Below.alloc ?_ (by first | (simp; done) | (simp; omega)) _) | (refine Below.grow ?_ (by first | (simp; done) | (simp; omega)) _ _) | refine Below.drew ?_ | (refine Below.putF ?_ (by first | (simp; done) | omega | (simp; omega)) _) | (refine Below.setCell ?_ (by first | (simp; done) | (simp; omega)) _))), fun h => by cases h⟩
        case o11 =>
          intro x w1 hH K hK
          have e57 : x 57 = _ := hH.holds 9 (by decide) (by decide +kernel) 57 rfl
          obtain ⟨xs, d, rfl⟩ := grow_of_below hH.below
          clear hH
          simp only [e57] at hK ⊢
          clear e57
          go_simp
          go_wp2_with fail
          exact ⟨_, rfl, rfl, (by repeat (first | exact Below.refl _ _ | exact below_of_grow _ _ | exact below_more _ _ _ _ | exact below_same _ _ _ | (refine Below.alloc ?_ (by first | (simp; done) | (simp; omega)) _) | (refine Below.grow ?_ (by first | (simp; done) | (simp; omega)) _ _) | refine Below.drew ?_ | (refine Below.putF ?_ (by first | (simp; done) | omega | (simp; omega)) _) | (refine Below.setCell ?_ (by first | (simp; done) | (simp; omega)) _))), fun h => by cases h⟩
        case o12 =>
          intro x w1 hH K hK
          have e57 : x 57 = _ := hH.holds 9 (by decide) (by decide +kernel) 57 rfl
          have e58 : x 58 = _ := hH.holds 10 (by decide) (by decide +kernel) 58 rfl
          have e59 : x 59 = _ := hH.holds 11 (by decide) (by decide +kernel) 59 rfl
          obtain ⟨xs, d, rfl⟩ := grow_of_below hH.below
          clear hH
          simp only [e57, e58, e59] at hK ⊢
          clear e57 e58 e59
          go_simp
          go_wp2_with fail
          exact ⟨_, rfl, rfl, (by repeat (first | exact Below.refl _ _ | exact below_of_grow _ _ | exact below_more _ _ _ _ | exact below_same _ _ _ | (refine Below.alloc ?_ (by first | (simp; done) | (simp; omega)) _) | (refine Below.grow ?_ (by first | (simp; done) | (simp; omega)) _ _) | refine Below.drew ?_ | (refine Below.putF ?_ (by first | (simp; done) | omega | (simp; omega)) _) | (refine Below.setCell ?_ (by first | (simp; done) | (simp; omega)) _))), fun h => by cases h⟩
        case o13 =>
          intro x w1 hH K hK
          have e57 : x 57 = _ := hH.holds 9 (by decide) (by decide +kernel) 57 rfl
          have e60 : x 60 = _ := hH.holds 12 (by decide) (by decide +kernel) 60 rfl
          obtain ⟨xs, d, rfl⟩ := grow_of_below hH.below
          clear hH
          simp only [e57, e60] at hK ⊢
          clear e57 e60
          go_simp
          go_wp2_with fail
          exact ⟨_, rfl, rfl, (by repeat (first | exact Below.refl _ _ | exact below_of_grow _ _ | exact below_more _ _ _ _ | exact below_same _ _ _ | (refine Below.alloc ?_ (by first | (simp; done) | (simp; omega)) _) | (refine Below.grow ?_ (by first | (simp; done) | (simp; omega)) _ _) | refine Below.drew ?_ | (refine Below.putF ?_ (by first | (simp; done) | omega | (simp; omega)) _) | (refine Below.setCell ?_ (by first | (simp; done) | (simp; omega)) _))), fun h => by cases h⟩
      case hend =>
        intro x w1 hH
        have e48 : x 48 = _ := hH.holds 0 (by decide) trivial 48 rfl
        have e49 : x 49 = _ := hH.holds 1 (by decide) trivial 49 rfl
        have e50 : x 50 = _ := hH.holds 2 (by decide) trivial 50 rfl
        have e51 : x 51 = _ := hH.holds 3 (by decide) trivial 51 rfl
        have e52 : x 52 = _ := hH.holds 4 (by decide) trivial 52 rfl
        have e53 : x 53 = _ := hH.holds 5 (by decide) trivial 53 rfl
        have e54 : x 54 = _ := hH.holds 6 (by decide) trivial 54 rfl
        have e55 : x 55 = _ := hH.holds 7 (by decide) trivial 55 rfl
        have e56 : x 56 = _ := hH.holds 8 (by decide) trivial 56 rfl
        have e57 : x 57 = _ := hH.holds 9 (by decide) trivial 57 rfl
        have e58 : x 58 = _ := hH.holds 10 (by decide) trivial 58 rfl
        have e59 : x 59 = _ := hH.holds 11 (by decide) trivial 59 rfl
        have e60 : x 60 = _ := hH.holds 12 (by decide) trivial 60 rfl
        have e61 : x 61 = _ := hH.holds 13 (by decide) trivial 61 rfl
        obtain ⟨xs, d, rfl⟩ := grow_of_below hH.below
        clear hH
        simp only [e48, e49, e50, e51, e52, e53, e54, e55, e56, e57, e58, e59, e60, e61]; clear e48 e49 e50 e51 e52 e53 e54 e55 e56 e57 e58 e59 e60 e61
        simp only [List.drop_succ_cons, List.drop_nil]
        go_wp2_with (first | (go_at_call 7; refine Gives.use (H3.out _) ?_; intro zs e3) | (go_at_call 10; refine Gives.use (known24 _) ?_; intro vs e4))
        all_goals (go_ret; refine ⟨ret_bool ?_, (by repeat (first | exact Below.refl _ _ | exact below_of_grow _ _ | exact below_more _ _ _ _ | exact below_same _ _ _ | (refine Below.alloc ?_ (by first | (simp; done) | (simp; omega)) _) | (refine Below.grow ?_ (by first | (simp; done) | (simp; omega)) _ _) | refine Below.drew ?_ | (refine Below.putF ?_ (by first | (simp; done) | omega | (simp; omega)) _) | (refine Below.setCell ?_ (by first | (simp; done) | (simp; omega)) _)))⟩)
        all_goals go_light
        all_goals first | rfl | (have := HXY.out; simp_all)
end Go.Proofs.Yteefknjaandjhaa

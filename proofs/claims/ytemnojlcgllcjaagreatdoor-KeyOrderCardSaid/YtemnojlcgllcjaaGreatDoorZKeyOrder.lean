/- Layer 6's law KeyOrder, for every input: which of any two keys comes first is the document's, as their bytes do; the Go function returns true, and each argument reads behind the call as it read before. Condition: the tables that the row lists (tied to the program's text by the card); the proof does not use what they hold. -/
import Derived.Test.YtemnojlcgllcjaaGreatDoorQay
import Derived.Test.YtemnojlcgllcjaaGreatDoorQaz
import Derived.Test.YtemnojlcgllcjaaGreatDoorQat
import Derived.ProofKit
import Derived.Test.YtemnojlcgllcjaaGreatDoorCards
import Derived.Test.YtemnojlcgllcjaaGreatDoorTie
import Derived.LaidMore
import Derived.Lay
import Derived.OpenShut
import Derived.ShutString
namespace Go.Proofs.YtemnojlcgllcjaaGreatDoor
set_option maxRecDepth 100000
open Go.RowKit

@[go_sem ↓ high] theorem ld_b25' (a : Addr) : loadVar 104 a = rowLoad 104 a := rfl
set_option maxHeartbeats 8000000 in
theorem keyOrder_walk (a b : K25) (w : World) : Gives Tryz.prog 8 #[.agg (row8 a.val), .agg (row8 b.val)] w (.bool true) := by
  have HKN := Lib.hid known06_gives
  have HBA := Lib.hid (keyBytes_gives a.val a.property)
  have HBB := Lib.hid (keyBytes_gives b.val b.property)
  have HL := Lib.hid (keyLess_gives a.val b.val a.property b.property)
  have hla := keyLess_gives a.val a.val a.property a.property
  rw [lessL_self] at hla
  have HLA := Lib.hid hla
  have HRL := Lib.hid (refLess_gives a.val b.val a.property b.property)
  have HOA := Lib.hid (lawOf_gives a.val a.property)
  have HOB := Lib.hid (lawOf_gives b.val b.property)
  have pa := a.property
  have pb := b.property
  clear hla
  unfold Gives
  go_enter Tryz.func8, Tryz.ntmps8
  go_wp2_with fail
  apply wp_region_specs (by rfl) [.val _, .val _, .val _, .val _, .new _, .new _] 6 (by rfl) [7, 8, 9, 10, 5, 6] [4, 5] [] (by rfl) (by rfl) (by decide) (by decide +kernel) (fun _ _ _ _ _ h => h)
  case hF => intro x; simp only [over, List.foldl_cons, List.foldl_nil, List.setIfInBounds_toArray, List.set_cons_succ, List.set_cons_zero]; exact rfl
  case hops =>
    refine ⟨?o0, ?o1, ?o2, ?o3, ?o4, ?o5, trivial⟩
    case o0 =>
      intro x w1 hH K hK
      obtain ⟨xs, d, rfl⟩ := grow_of_below hH.below
      clear hH
      try simp only [World.grow_drew] at hK ⊢
      try simp only [World.grow_grow] at hK ⊢
      go_simp
      go_wp2_with fail
      exact ⟨_, rfl, rfl, (by repeat (first | exact below_of_grow _ _ | exact Below.refl _ _ | exact below_more _ _ _ _ | (simp only [← Array.append_assoc]; first | exact below_more _ _ _ _ | exact below_same _ _ _ | exact Below.refl _ _) | exact below_same _ _ _ | (refine Below.alloc ?_ (by first | (simp; done) | (simp; omega)) _) | (refine Below.grow ?_ (by first | (simp; done) | (simp; omega)) _ _) | refine Below.drew ?_ | refine Below.drewN ?_ _ | (refine Below.putF ?_ (by first | (simp; done) | omega | (simp; omega)) _) | (refine Below.setCell ?_ (by first | (simp; done) | (simp; omega)) _))), fun h => by cases h⟩
    case o1 =>
      intro x w1 hH K hK
      have e7 : x 7 = _ := hH.holds 0 (by decide) (by decide +kernel) 7 rfl
      obtain ⟨xs, d, rfl⟩ := grow_of_below hH.below
      clear hH
      try simp only [World.grow_drew] at hK ⊢
      try simp only [World.grow_grow] at hK ⊢
      simp only [e7] at hK ⊢
      clear e7
      go_simp
      go_wp2_with (refine Gives.use (HBA.out _) ?_; intro ys e)
      exact ⟨_, rfl, rfl, (by first | exact below_more _ _ _ _ | exact (by repeat (first | exact below_of_grow _ _ | exact Below.refl _ _ | exact below_more _ _ _ _ | (simp only [← Array.append_assoc]; first | exact below_more _ _ _ _ | exact below_same _ _ _ | exact Below.refl _ _) | exact below_same _ _ _ | (refine Below.alloc ?_ (by first | (simp; done) | (simp; omega)) _) | (refine Below.grow ?_ (by first | (simp; done) | (simp; omega)) _ _) | refine Below.drew ?_ | refine Below.drewN ?_ _ | (refine Below.putF ?_ (by first | (simp; done) | omega | (simp; omega)) _) | (refine Below.setCell ?_ (by first | (simp; done) | (simp; omega)) _)))), fun h => by cases h⟩
    case o2 =>
      intro x w1 hH K hK
      obtain ⟨xs, d, rfl⟩ := grow_of_below hH.below
      clear hH
      try simp only [World.grow_drew] at hK ⊢
      try simp only [World.grow_grow] at hK ⊢
      go_simp
      go_wp2_with fail
      exact ⟨_, rfl, rfl, (by repeat (first | exact below_of_grow _ _ | exact Below.refl _ _ | exact below_more _ _ _ _ | (simp only [← Array.append_assoc]; first | exact below_more _ _ _ _ | exact below_same _ _ _ | exact Below.refl _ _) | exact below_same _ _ _ | (refine Below.alloc ?_ (by first | (simp; done) | (simp; omega)) _) | (refine Below.grow ?_ (by first | (simp; done) | (simp; omega)) _ _) | refine Below.drew ?_ | refine Below.drewN ?_ _ | (refine Below.putF ?_ (by first | (simp; done) | omega | (simp; omega)) _) | (refine Below.setCell ?_ (by first | (simp; done) | (simp; omega)) _))), fun h => by cases h⟩
    case o3 =>
      intro x w1 hH K hK
      have e9 : x 9 = _ := hH.holds 2 (by decide) (by decide +kernel) 9 rfl
      obtain ⟨xs, d, rfl⟩ := grow_of_below hH.below
      clear hH
      try simp only [World.grow_drew] at hK ⊢
      try simp only [World.grow_grow] at hK ⊢
      simp only [e9] at hK ⊢
      clear e9
      go_simp
      go_wp2_with (refine Gives.use (HBB.out _) ?_; intro ys e)
      exact ⟨_, rfl, rfl, (by first | exact below_more _ _ _ _ | exact (by repeat (first | exact below_of_grow _ _ | exact Below.refl _ _ | exact below_more _ _ _ _ | (simp only [← Array.append_assoc]; first | exact below_more _ _ _ _ | exact below_same _ _ _ | exact Below.refl _ _) | exact below_same _ _ _ | (refine Below.alloc ?_ (by first | (simp; done) | (simp; omega)) _) | (refine Below.grow ?_ (by first | (simp; done) | (simp; omega)) _ _) | refine Below.drew ?_ | refine Below.drewN ?_ _ | (refine Below.putF ?_ (by first | (simp; done) | omega | (simp; omega)) _) | (refine Below.setCell ?_ (by first | (simp; done) | (simp; omega)) _)))), fun h => by cases h⟩
    case o4 =>
      intro x w1 hH K hK
      obtain ⟨xs, d, rfl⟩ := grow_of_below hH.below
      clear hH
      try simp only [World.grow_drew] at hK ⊢
      try simp only [World.grow_grow] at hK ⊢
      go_simp
      go_wp2_with fail
      exact left_new rfl (by simp) (by first | (simp; done) | (simp; omega))
    case o5 =>
      intro x w1 hH K hK
      obtain ⟨xs, d, rfl⟩ := grow_of_below hH.below
      clear hH
      try simp only [World.grow_drew] at hK ⊢
      try simp only [World.grow_grow] at hK ⊢
      go_simp
      go_wp2_with fail
      exact left_new rfl (by simp) (by first | (simp; done) | (simp; omega))
  case hend =>
    intro x w1 hH
    have e7 : x 7 = _ := hH.holds 0 (by decide) trivial 7 rfl
    have e8 : x 8 = _ := hH.holds 1 (by decide) trivial 8 rfl
    have e9 : x 9 = _ := hH.holds 2 (by decide) trivial 9 rfl
    have e10 : x 10 = _ := hH.holds 3 (by decide) trivial 10 rfl
    obtain ⟨b5, e5, l5, u5, o5⟩ := hH.holds 4 (by decide) trivial 5 rfl
    obtain ⟨b6, e6, l6, u6, o6⟩ := hH.holds 5 (by decide) trivial 6 rfl
    have n5_6 : b5 ≠ b6 := fun h => hH.apart 4 (by decide) 5 (by decide) (by decide) (by decide) trivial trivial (by decide) 5 6 rfl rfl (by rw [e5, e6, h])
    have n6_5 := n5_6.symm
    obtain ⟨xs, d, rfl⟩ := grow_of_below hH.below
    clear hH
    simp only [e7, e8, e9, e10, e5, e6]; clear e7 e8 e9 e10 e5 e6
    refine new_known2 o5 l5 u5 o6 l6 u6 ?_
    clear o5 o6
    simp [go_sem] at l5 u5 l6 u6
    simp only [List.drop_succ_cons, List.drop_zero]
    go_upto_region 2 with fail
    refine wp_name ?_
    intro W hW
    have h2 : W.cut? w.heap.size 0 25 = some (row8 a.val) := by rw [hW]; simp [go_sem, *]
    have h3 : W.cut? (w.heap.size + 1) 0 25 = some (row8 b.val) := by rw [hW]; simp [go_sem, *]
    have h5 : W.cut? b5 0 25 = some (row8 a.val) := by rw [hW]; simp [go_sem, *]
    have h6 : W.cut? b6 0 25 = some (row8 b.val) := by rw [hW]; simp [go_sem, *]
    have hsz : W.heap.size = w.heap.size + 1 + 1 + xs.size := by rw [hW]; simp
    have hbl : Below w.heap.size w W := by rw [hW]; exact (by repeat (first | exact below_of_grow _ _ | exact Below.refl _ _ | exact below_more _ _ _ _ | (simp only [← Array.append_assoc]; first | exact below_more _ _ _ _ | exact below_same _ _ _ | exact Below.refl _ _) | exact below_same _ _ _ | (refine Below.alloc ?_ (by first | (simp; done) | (simp; omega)) _) | (refine Below.grow ?_ (by first | (simp; done) | (simp; omega)) _ _) | refine Below.drew ?_ | refine Below.drewN ?_ _ | (refine Below.putF ?_ (by first | (simp; done) | omega | (simp; omega)) _) | (refine Below.setCell ?_ (by first | (simp; done) | (simp; omega)) _)))
    have l2 : w.heap.size < W.heap.size := by omega
    have l3 : w.heap.size + 1 < W.heap.size := by omega
    have l5' : b5 < W.heap.size := by omega
    have l6' : b6 < W.heap.size := by omega
    have hsa := sl_fixed (k := 25) (cap := 25) pa h5 (by decide) (by decide) (by unfold maxLen; decide)
    have hsb := sl_fixed (k := 25) (cap := 25) pb h6 (by decide) (by decide) (by unfold maxLen; decide)
    rw [List.take_of_length_le (by omega)] at hsa hsb
    have HSA := Lib.hid (show ∀ W', Below W.heap.size W W' → SlB W' (b5 + 1) (.slice (some ⟨b5, 0, none⟩) 25 25) a.val from fun W' h => hsa.keep fun b hb => h.block b (by omega))
    have HSB := Lib.hid (show ∀ W', Below W.heap.size W W' → SlB W' (b6 + 1) (.slice (some ⟨b6, 0, none⟩) 25 25) b.val from fun W' h => hsb.keep fun b hb => h.block b (by omega))
    have hz := hsz
    clear hW hsa hsb
    have HZ := Lib.hid (And.intro hbl hsz)
    obtain ⟨q, hq⟩ : ∃ q, q = w.heap.size := ⟨_, rfl⟩
    simp only [← hq] at h2 h3 l2 l3 ⊢
    have HQ := Lib.hid hq
    clear hz hsz hbl hq l5 u5 l6 u6 n5_6 n6_5
    have e1 : ∀ x : Bool, (x == x) = true := fun x => by cases x <;> rfl
    apply wp_region_specs (by rfl) [.val _, .val _, .val _, .val _, .val _, .val _, .val _, .val _, .val _, .val _, .val _, .val _, .val _, .val _, .val _, .val _, .val _, .val _, .val _, .val _, .val _, .val _, .val _, .val _, .val _, .val _, .val _] 27 (by rfl) [11, 12, 13, 14, 15, 16, 17, 18, 19, 20, 21, 22, 23, 24, 25, 26, 27, 28, 29, 30, 31, 32, 33, 34, 35, 36, 37] [] [] (by rfl) (by rfl) (by decide) (by decide +kernel) (fun _ _ _ _ _ h => h)
    case hF => intro x; simp only [over, List.foldl_cons, List.foldl_nil, List.setIfInBounds_toArray, List.set_cons_succ, List.set_cons_zero]; exact rfl
    case hops =>
      refine ⟨?o0, ?o1, ?o2, ?o3, ?o4, ?o5, ?o6, ?o7, ?o8, ?o9, ?o10, ?o11, ?o12, ?o13, ?o14, ?o15, ?o16, ?o17, ?o18, ?o19, ?o20, ?o21, ?o22, ?o23, ?o24, ?o25, ?o26, trivial⟩
      case o0 =>
        intro x w1 hH K hK
        obtain ⟨xs, d, rfl⟩ := grow_of_below hH.below
        clear hH
        try simp only [World.grow_drew] at hK ⊢
        try simp only [World.grow_grow] at hK ⊢
        go_simp
        go_wp2_with (refine Gives.use (HKN.out _) ?_; intro ys e)
        exact ⟨_, rfl, rfl, (by first | exact below_more _ _ _ _ | exact (by repeat (first | exact below_of_grow _ _ | exact Below.refl _ _ | exact below_more _ _ _ _ | (simp only [← Array.append_assoc]; first | exact below_more _ _ _ _ | exact below_same _ _ _ | exact Below.refl _ _) | exact below_same _ _ _ | (refine Below.alloc ?_ (by first | (simp; done) | (simp; omega)) _) | (refine Below.grow ?_ (by first | (simp; done) | (simp; omega)) _ _) | refine Below.drew ?_ | refine Below.drewN ?_ _ | (refine Below.putF ?_ (by first | (simp; done) | omega | (simp; omega)) _) | (refine Below.setCell ?_ (by first | (simp; done) | (simp; omega)) _)))), fun h => by cases h⟩
      case o1 =>
        intro x w1 hH K hK
        have e11 : x 11 = _ := hH.holds 0 (by decide) (by decide +kernel) 11 rfl
        obtain ⟨xs, d, rfl⟩ := grow_of_below hH.below
        clear hH
        try simp only [World.grow_drew] at hK ⊢
        try simp only [World.grow_grow] at hK ⊢
        simp only [e11] at hK ⊢
        clear e11
        go_simp
        go_wp2_with fail
        exact ⟨_, rfl, rfl, (by first | exact Below.refl _ _ | exact below_same _ _ _ | exact below_more _ _ _ _ | exact below_of_grow _ _), fun h => by cases h⟩
      case o2 =>
        intro x w1 hH K hK
        have e12 : x 12 = _ := hH.holds 1 (by decide) (by decide +kernel) 12 rfl
        obtain ⟨xs, d, rfl⟩ := grow_of_below hH.below
        clear hH
        try simp only [World.grow_drew] at hK ⊢
        try simp only [World.grow_grow] at hK ⊢
        simp only [e12] at hK ⊢
        clear e12
        go_simp
        go_wp2_with fail
        exact ⟨_, rfl, rfl, (by first | exact Below.refl _ _ | exact below_same _ _ _ | exact below_more _ _ _ _ | exact below_of_grow _ _), fun h => by cases h⟩
      case o3 =>
        intro x w1 hH K hK
        have e12 : x 12 = _ := hH.holds 1 (by decide) (by decide +kernel) 12 rfl
        obtain ⟨xs, d, rfl⟩ := grow_of_below hH.below
        clear hH
        try simp only [World.grow_drew] at hK ⊢
        try simp only [World.grow_grow] at hK ⊢
        simp only [e12] at hK ⊢
        clear e12
        go_simp
        go_wp2_with fail
        exact ⟨_, rfl, rfl, (by first | exact Below.refl _ _ | exact below_same _ _ _ | exact below_more _ _ _ _ | exact below_of_grow _ _), fun h => by cases h⟩
      case o4 =>
        intro x w1 hH K hK
        have e12 : x 12 = _ := hH.holds 1 (by decide) (by decide +kernel) 12 rfl
        have e13 : x 13 = _ := hH.holds 2 (by decide) (by decide +kernel) 13 rfl
        have e14 : x 14 = _ := hH.holds 3 (by decide) (by decide +kernel) 14 rfl
        obtain ⟨xs, d, rfl⟩ := grow_of_below hH.below
        clear hH
        try simp only [World.grow_drew] at hK ⊢
        try simp only [World.grow_grow] at hK ⊢
        simp only [e12, e13, e14] at hK ⊢
        clear e12 e13 e14
        go_simp
        go_wp2_with (refine Gives.use (HL.out _) ?_; intro ys e)
        exact ⟨_, rfl, rfl, (by first | exact below_more _ _ _ _ | exact (by repeat (first | exact below_of_grow _ _ | exact Below.refl _ _ | exact below_more _ _ _ _ | (simp only [← Array.append_assoc]; first | exact below_more _ _ _ _ | exact below_same _ _ _ | exact Below.refl _ _) | exact below_same _ _ _ | (refine Below.alloc ?_ (by first | (simp; done) | (simp; omega)) _) | (refine Below.grow ?_ (by first | (simp; done) | (simp; omega)) _ _) | refine Below.drew ?_ | refine Below.drewN ?_ _ | (refine Below.putF ?_ (by first | (simp; done) | omega | (simp; omega)) _) | (refine Below.setCell ?_ (by first | (simp; done) | (simp; omega)) _)))), fun h => by cases h⟩
      case o5 =>
        intro x w1 hH K hK
        have e12 : x 12 = _ := hH.holds 1 (by decide) (by decide +kernel) 12 rfl
        obtain ⟨xs, d, rfl⟩ := grow_of_below hH.below
        clear hH
        try simp only [World.grow_drew] at hK ⊢
        try simp only [World.grow_grow] at hK ⊢
        simp only [e12] at hK ⊢
        clear e12
        go_simp
        go_wp2_with fail
        exact ⟨_, rfl, rfl, (by first | exact Below.refl _ _ | exact below_same _ _ _ | exact below_more _ _ _ _ | exact below_of_grow _ _), fun h => by cases h⟩
      case o6 =>
        intro x w1 hH K hK
        have e12 : x 12 = _ := hH.holds 1 (by decide) (by decide +kernel) 12 rfl
        have e16 : x 16 = _ := hH.holds 5 (by decide) (by decide +kernel) 16 rfl
        obtain ⟨xs, d, rfl⟩ := grow_of_below hH.below
        clear hH
        try simp only [World.grow_drew] at hK ⊢
        try simp only [World.grow_grow] at hK ⊢
        simp only [e12, e16] at hK ⊢
        clear e12 e16
        go_simp
        go_wp2_with (refine Gives.use (HOA.out _) ?_; intro ys e)
        exact ⟨_, rfl, rfl, (by first | exact below_more _ _ _ _ | exact (by repeat (first | exact below_of_grow _ _ | exact Below.refl _ _ | exact below_more _ _ _ _ | (simp only [← Array.append_assoc]; first | exact below_more _ _ _ _ | exact below_same _ _ _ | exact Below.refl _ _) | exact below_same _ _ _ | (refine Below.alloc ?_ (by first | (simp; done) | (simp; omega)) _) | (refine Below.grow ?_ (by first | (simp; done) | (simp; omega)) _ _) | refine Below.drew ?_ | refine Below.drewN ?_ _ | (refine Below.putF ?_ (by first | (simp; done) | omega | (simp; omega)) _) | (refine Below.setCell ?_ (by first | (simp; done) | (simp; omega)) _)))), fun h => by cases h⟩
      case o7 =>
        intro x w1 hH K hK
        have e12 : x 12 = _ := hH.holds 1 (by decide) (by decide +kernel) 12 rfl
        obtain ⟨xs, d, rfl⟩ := grow_of_below hH.below
        clear hH
        try simp only [World.grow_drew] at hK ⊢
        try simp only [World.grow_grow] at hK ⊢
        simp only [e12] at hK ⊢
        clear e12
        go_simp
        go_wp2_with fail
        exact ⟨_, rfl, rfl, (by first | exact Below.refl _ _ | exact below_same _ _ _ | exact below_more _ _ _ _ | exact below_of_grow _ _), fun h => by cases h⟩
      case o8 =>
        intro x w1 hH K hK
        have e12 : x 12 = _ := hH.holds 1 (by decide) (by decide +kernel) 12 rfl
        have e18 : x 18 = _ := hH.holds 7 (by decide) (by decide +kernel) 18 rfl
        obtain ⟨xs, d, rfl⟩ := grow_of_below hH.below
        clear hH
        try simp only [World.grow_drew] at hK ⊢
        try simp only [World.grow_grow] at hK ⊢
        simp only [e12, e18] at hK ⊢
        clear e12 e18
        go_simp
        go_wp2_with (refine Gives.use (HOB.out _) ?_; intro ys e)
        exact ⟨_, rfl, rfl, (by first | exact below_more _ _ _ _ | exact (by repeat (first | exact below_of_grow _ _ | exact Below.refl _ _ | exact below_more _ _ _ _ | (simp only [← Array.append_assoc]; first | exact below_more _ _ _ _ | exact below_same _ _ _ | exact Below.refl _ _) | exact below_same _ _ _ | (refine Below.alloc ?_ (by first | (simp; done) | (simp; omega)) _) | (refine Below.grow ?_ (by first | (simp; done) | (simp; omega)) _ _) | refine Below.drew ?_ | refine Below.drewN ?_ _ | (refine Below.putF ?_ (by first | (simp; done) | omega | (simp; omega)) _) | (refine Below.setCell ?_ (by first | (simp; done) | (simp; omega)) _)))), fun h => by cases h⟩
      case o9 =>
        intro x w1 hH K hK
        have e12 : x 12 = _ := hH.holds 1 (by decide) (by decide +kernel) 12 rfl
        have e17 : x 17 = _ := hH.holds 6 (by decide) (by decide +kernel) 17 rfl
        have e19 : x 19 = _ := hH.holds 8 (by decide) (by decide +kernel) 19 rfl
        obtain ⟨xs, d, rfl⟩ := grow_of_below hH.below
        clear hH
        try simp only [World.grow_drew] at hK ⊢
        try simp only [World.grow_grow] at hK ⊢
        simp only [e12, e17, e19] at hK ⊢
        clear e12 e17 e19
        go_simp
        go_wp2_with (refine Gives.use (HRL.out _) ?_; intro ys e)
        exact ⟨_, rfl, rfl, (by first | exact below_more _ _ _ _ | exact (by repeat (first | exact below_of_grow _ _ | exact Below.refl _ _ | exact below_more _ _ _ _ | (simp only [← Array.append_assoc]; first | exact below_more _ _ _ _ | exact below_same _ _ _ | exact Below.refl _ _) | exact below_same _ _ _ | (refine Below.alloc ?_ (by first | (simp; done) | (simp; omega)) _) | (refine Below.grow ?_ (by first | (simp; done) | (simp; omega)) _ _) | refine Below.drew ?_ | refine Below.drewN ?_ _ | (refine Below.putF ?_ (by first | (simp; done) | omega | (simp; omega)) _) | (refine Below.setCell ?_ (by first | (simp; done) | (simp; omega)) _)))), fun h => by cases h⟩
      case o10 =>
        intro x w1 hH K hK
        have e12 : x 12 = _ := hH.holds 1 (by decide) (by decide +kernel) 12 rfl
        have e15 : x 15 = _ := hH.holds 4 (by decide) (by decide +kernel) 15 rfl
        have e20 : x 20 = _ := hH.holds 9 (by decide) (by decide +kernel) 20 rfl
        obtain ⟨xs, d, rfl⟩ := grow_of_below hH.below
        clear hH
        try simp only [World.grow_drew] at hK ⊢
        try simp only [World.grow_grow] at hK ⊢
        simp only [e12, e15, e20] at hK ⊢
        clear e12 e15 e20
        go_simp
        go_wp2_with fail
        exact ⟨_, rfl, rfl, (by first | exact Below.refl _ _ | exact below_same _ _ _ | exact below_more _ _ _ _ | exact below_of_grow _ _), fun h => by cases h⟩
      case o11 =>
        intro x w1 hH K hK
        have e12 : x 12 = _ := hH.holds 1 (by decide) (by decide +kernel) 12 rfl
        have e21 : x 21 = _ := hH.holds 10 (by decide) (by decide +kernel) 21 rfl
        obtain ⟨xs, d, rfl⟩ := grow_of_below hH.below
        clear hH
        try simp only [World.grow_drew] at hK ⊢
        try simp only [World.grow_grow] at hK ⊢
        simp only [e12, e21] at hK ⊢
        clear e12 e21
        go_simp
        go_wp2_with fail
        exact ⟨_, rfl, rfl, (by first | exact Below.refl _ _ | exact below_same _ _ _ | exact below_more _ _ _ _ | exact below_of_grow _ _), fun h => by cases h⟩
      case o12 =>
        intro x w1 hH K hK
        have e22 : x 22 = _ := hH.holds 11 (by decide) (by decide +kernel) 22 rfl
        obtain ⟨xs, d, rfl⟩ := grow_of_below hH.below
        clear hH
        try simp only [World.grow_drew] at hK ⊢
        try simp only [World.grow_grow] at hK ⊢
        simp only [e22] at hK ⊢
        clear e22
        go_simp
        go_wp2_with fail
        exact ⟨_, rfl, rfl, (by first | exact Below.refl _ _ | exact below_same _ _ _ | exact below_more _ _ _ _ | exact below_of_grow _ _), fun h => by cases h⟩
      case o13 =>
        intro x w1 hH K hK
        have e23 : x 23 = _ := hH.holds 12 (by decide) (by decide +kernel) 23 rfl
        obtain ⟨xs, d, rfl⟩ := grow_of_below hH.below
        clear hH
        try simp only [World.grow_drew] at hK ⊢
        try simp only [World.grow_grow] at hK ⊢
        simp only [e23] at hK ⊢
        clear e23
        go_simp
        go_wp2_with fail
        exact ⟨_, rfl, rfl, (by first | exact Below.refl _ _ | exact below_same _ _ _ | exact below_more _ _ _ _ | exact below_of_grow _ _), fun h => by cases h⟩
      case o14 =>
        intro x w1 hH K hK
        have e23 : x 23 = _ := hH.holds 12 (by decide) (by decide +kernel) 23 rfl
        obtain ⟨xs, d, rfl⟩ := grow_of_below hH.below
        clear hH
        try simp only [World.grow_drew] at hK ⊢
        try simp only [World.grow_grow] at hK ⊢
        simp only [e23] at hK ⊢
        clear e23
        go_simp
        go_wp2_with fail
        exact ⟨_, rfl, rfl, (by first | exact Below.refl _ _ | exact below_same _ _ _ | exact below_more _ _ _ _ | exact below_of_grow _ _), fun h => by cases h⟩
      case o15 =>
        intro x w1 hH K hK
        have e23 : x 23 = _ := hH.holds 12 (by decide) (by decide +kernel) 23 rfl
        have e24 : x 24 = _ := hH.holds 13 (by decide) (by decide +kernel) 24 rfl
        have e25 : x 25 = _ := hH.holds 14 (by decide) (by decide +kernel) 25 rfl
        obtain ⟨xs, d, rfl⟩ := grow_of_below hH.below
        clear hH
        try simp only [World.grow_drew] at hK ⊢
        try simp only [World.grow_grow] at hK ⊢
        simp only [e23, e24, e25] at hK ⊢
        clear e23 e24 e25
        go_simp
        go_wp2_with (refine Gives.use (HL.out _) ?_; intro ys e)
        exact ⟨_, rfl, rfl, (by first | exact below_more _ _ _ _ | exact (by repeat (first | exact below_of_grow _ _ | exact Below.refl _ _ | exact below_more _ _ _ _ | (simp only [← Array.append_assoc]; first | exact below_more _ _ _ _ | exact below_same _ _ _ | exact Below.refl _ _) | exact below_same _ _ _ | (refine Below.alloc ?_ (by first | (simp; done) | (simp; omega)) _) | (refine Below.grow ?_ (by first | (simp; done) | (simp; omega)) _ _) | refine Below.drew ?_ | refine Below.drewN ?_ _ | (refine Below.putF ?_ (by first | (simp; done) | omega | (simp; omega)) _) | (refine Below.setCell ?_ (by first | (simp; done) | (simp; omega)) _)))), fun h => by cases h⟩
      case o16 =>
        intro x w1 hH K hK
        have e23 : x 23 = _ := hH.holds 12 (by decide) (by decide +kernel) 23 rfl
        obtain ⟨xs, d, rfl⟩ := grow_of_below hH.below
        clear hH
        try simp only [World.grow_drew] at hK ⊢
        try simp only [World.grow_grow] at hK ⊢
        simp only [e23] at hK ⊢
        clear e23
        go_simp
        go_wp2_with fail
        exact ⟨_, rfl, rfl, (by first | exact Below.refl _ _ | exact below_same _ _ _ | exact below_more _ _ _ _ | exact below_of_grow _ _), fun h => by cases h⟩
      case o17 =>
        intro x w1 hH K hK
        have e23 : x 23 = _ := hH.holds 12 (by decide) (by decide +kernel) 23 rfl
        obtain ⟨xs, d, rfl⟩ := grow_of_below hH.below
        clear hH
        try simp only [World.grow_drew] at hK ⊢
        try simp only [World.grow_grow] at hK ⊢
        simp only [e23] at hK ⊢
        clear e23
        go_simp
        go_wp2_with fail
        exact ⟨_, rfl, rfl, (by first | exact Below.refl _ _ | exact below_same _ _ _ | exact below_more _ _ _ _ | exact below_of_grow _ _), fun h => by cases h⟩
      case o18 =>
        intro x w1 hH K hK
        have e23 : x 23 = _ := hH.holds 12 (by decide) (by decide +kernel) 23 rfl
        have e27 : x 27 = _ := hH.holds 16 (by decide) (by decide +kernel) 27 rfl
        have e28 : x 28 = _ := hH.holds 17 (by decide) (by decide +kernel) 28 rfl
        obtain ⟨xs, d, rfl⟩ := grow_of_below hH.below
        clear hH
        try simp only [World.grow_drew] at hK ⊢
        try simp only [World.grow_grow] at hK ⊢
        simp only [e23, e27, e28] at hK ⊢
        clear e23 e27 e28
        go_simp
        go_wp2_with (refine Gives.use (ref2Less_gives _ _ (HSA.out _ (by first | exact below_of_grow _ _ | exact Below.refl _ _ | exact (by repeat (first | exact below_of_grow _ _ | exact Below.refl _ _ | exact below_more _ _ _ _ | (simp only [← Array.append_assoc]; first | exact below_more _ _ _ _ | exact below_same _ _ _ | exact Below.refl _ _) | exact below_same _ _ _ | (refine Below.alloc ?_ (by first | (simp; done) | (simp; omega)) _) | (refine Below.grow ?_ (by first | (simp; done) | (simp; omega)) _ _) | refine Below.drew ?_ | refine Below.drewN ?_ _ | (refine Below.putF ?_ (by first | (simp; done) | omega | (simp; omega)) _) | (refine Below.setCell ?_ (by first | (simp; done) | (simp; omega)) _))))) (HSB.out _ (by first | exact below_of_grow _ _ | exact Below.refl _ _ | exact (by repeat (first | exact below_of_grow _ _ | exact Below.refl _ _ | exact below_more _ _ _ _ | (simp only [← Array.append_assoc]; first | exact below_more _ _ _ _ | exact below_same _ _ _ | exact Below.refl _ _) | exact below_same _ _ _ | (refine Below.alloc ?_ (by first | (simp; done) | (simp; omega)) _) | (refine Below.grow ?_ (by first | (simp; done) | (simp; omega)) _ _) | refine Below.drew ?_ | refine Below.drewN ?_ _ | (refine Below.putF ?_ (by first | (simp; done) | omega | (simp; omega)) _) | (refine Below.setCell ?_ (by first | (simp; done) | (simp; omega)) _)))))) ?_; intro ys e)
        exact ⟨_, rfl, rfl, (by first | exact below_more _ _ _ _ | exact (by repeat (first | exact below_of_grow _ _ | exact Below.refl _ _ | exact below_more _ _ _ _ | (simp only [← Array.append_assoc]; first | exact below_more _ _ _ _ | exact below_same _ _ _ | exact Below.refl _ _) | exact below_same _ _ _ | (refine Below.alloc ?_ (by first | (simp; done) | (simp; omega)) _) | (refine Below.grow ?_ (by first | (simp; done) | (simp; omega)) _ _) | refine Below.drew ?_ | refine Below.drewN ?_ _ | (refine Below.putF ?_ (by first | (simp; done) | omega | (simp; omega)) _) | (refine Below.setCell ?_ (by first | (simp; done) | (simp; omega)) _)))), fun h => by cases h⟩
      case o19 =>
        intro x w1 hH K hK
        have e23 : x 23 = _ := hH.holds 12 (by decide) (by decide +kernel) 23 rfl
        have e26 : x 26 = _ := hH.holds 15 (by decide) (by decide +kernel) 26 rfl
        have e29 : x 29 = _ := hH.holds 18 (by decide) (by decide +kernel) 29 rfl
        obtain ⟨xs, d, rfl⟩ := grow_of_below hH.below
        clear hH
        try simp only [World.grow_drew] at hK ⊢
        try simp only [World.grow_grow] at hK ⊢
        simp only [e23, e26, e29] at hK ⊢
        clear e23 e26 e29
        go_simp
        go_wp2_with fail
        exact ⟨_, rfl, rfl, (by first | exact Below.refl _ _ | exact below_same _ _ _ | exact below_more _ _ _ _ | exact below_of_grow _ _), fun h => by cases h⟩
      case o20 =>
        intro x w1 hH K hK
        have e23 : x 23 = _ := hH.holds 12 (by decide) (by decide +kernel) 23 rfl
        have e30 : x 30 = _ := hH.holds 19 (by decide) (by decide +kernel) 30 rfl
        obtain ⟨xs, d, rfl⟩ := grow_of_below hH.below
        clear hH
        try simp only [World.grow_drew] at hK ⊢
        try simp only [World.grow_grow] at hK ⊢
        simp only [e23, e30] at hK ⊢
        clear e23 e30
        go_simp
        go_wp2_with fail
        exact ⟨_, rfl, rfl, (by first | exact Below.refl _ _ | exact below_same _ _ _ | exact below_more _ _ _ _ | exact below_of_grow _ _), fun h => by cases h⟩
      case o21 =>
        intro x w1 hH K hK
        have e31 : x 31 = _ := hH.holds 20 (by decide) (by decide +kernel) 31 rfl
        obtain ⟨xs, d, rfl⟩ := grow_of_below hH.below
        clear hH
        try simp only [World.grow_drew] at hK ⊢
        try simp only [World.grow_grow] at hK ⊢
        simp only [e31] at hK ⊢
        clear e31
        go_simp
        go_wp2_with fail
        exact ⟨_, rfl, rfl, (by first | exact Below.refl _ _ | exact below_same _ _ _ | exact below_more _ _ _ _ | exact below_of_grow _ _), fun h => by cases h⟩
      case o22 =>
        intro x w1 hH K hK
        have e32 : x 32 = _ := hH.holds 21 (by decide) (by decide +kernel) 32 rfl
        obtain ⟨xs, d, rfl⟩ := grow_of_below hH.below
        clear hH
        try simp only [World.grow_drew] at hK ⊢
        try simp only [World.grow_grow] at hK ⊢
        simp only [e32] at hK ⊢
        clear e32
        go_simp
        go_wp2_with fail
        exact ⟨_, rfl, rfl, (by first | exact Below.refl _ _ | exact below_same _ _ _ | exact below_more _ _ _ _ | exact below_of_grow _ _), fun h => by cases h⟩
      case o23 =>
        intro x w1 hH K hK
        have e32 : x 32 = _ := hH.holds 21 (by decide) (by decide +kernel) 32 rfl
        obtain ⟨xs, d, rfl⟩ := grow_of_below hH.below
        clear hH
        try simp only [World.grow_drew] at hK ⊢
        try simp only [World.grow_grow] at hK ⊢
        simp only [e32] at hK ⊢
        clear e32
        go_simp
        go_wp2_with fail
        exact ⟨_, rfl, rfl, (by first | exact Below.refl _ _ | exact below_same _ _ _ | exact below_more _ _ _ _ | exact below_of_grow _ _), fun h => by cases h⟩
      case o24 =>
        intro x w1 hH K hK
        have e32 : x 32 = _ := hH.holds 21 (by decide) (by decide +kernel) 32 rfl
        have e33 : x 33 = _ := hH.holds 22 (by decide) (by decide +kernel) 33 rfl
        have e34 : x 34 = _ := hH.holds 23 (by decide) (by decide +kernel) 34 rfl
        obtain ⟨xs, d, rfl⟩ := grow_of_below hH.below
        clear hH
        try simp only [World.grow_drew] at hK ⊢
        try simp only [World.grow_grow] at hK ⊢
        simp only [e32, e33, e34] at hK ⊢
        clear e32 e33 e34
        go_simp
        go_wp2_with (refine Gives.use (HLA.out _) ?_; intro ys e)
        exact ⟨_, rfl, rfl, (by first | exact below_more _ _ _ _ | exact (by repeat (first | exact below_of_grow _ _ | exact Below.refl _ _ | exact below_more _ _ _ _ | (simp only [← Array.append_assoc]; first | exact below_more _ _ _ _ | exact below_same _ _ _ | exact Below.refl _ _) | exact below_same _ _ _ | (refine Below.alloc ?_ (by first | (simp; done) | (simp; omega)) _) | (refine Below.grow ?_ (by first | (simp; done) | (simp; omega)) _ _) | refine Below.drew ?_ | refine Below.drewN ?_ _ | (refine Below.putF ?_ (by first | (simp; done) | omega | (simp; omega)) _) | (refine Below.setCell ?_ (by first | (simp; done) | (simp; omega)) _)))), fun h => by cases h⟩
      case o25 =>
        intro x w1 hH K hK
        have e32 : x 32 = _ := hH.holds 21 (by decide) (by decide +kernel) 32 rfl
        have e35 : x 35 = _ := hH.holds 24 (by decide) (by decide +kernel) 35 rfl
        obtain ⟨xs, d, rfl⟩ := grow_of_below hH.below
        clear hH
        try simp only [World.grow_drew] at hK ⊢
        try simp only [World.grow_grow] at hK ⊢
        simp only [e32, e35] at hK ⊢
        clear e32 e35
        go_simp
        go_wp2_with fail
        exact ⟨_, rfl, rfl, (by first | exact Below.refl _ _ | exact below_same _ _ _ | exact below_more _ _ _ _ | exact below_of_grow _ _), fun h => by cases h⟩
      case o26 =>
        intro x w1 hH K hK
        have e32 : x 32 = _ := hH.holds 21 (by decide) (by decide +kernel) 32 rfl
        have e36 : x 36 = _ := hH.holds 25 (by decide) (by decide +kernel) 36 rfl
        obtain ⟨xs, d, rfl⟩ := grow_of_below hH.below
        clear hH
        try simp only [World.grow_drew] at hK ⊢
        try simp only [World.grow_grow] at hK ⊢
        simp only [e32, e36] at hK ⊢
        clear e32 e36
        go_simp
        go_wp2_with fail
        exact ⟨_, rfl, rfl, (by first | exact Below.refl _ _ | exact below_same _ _ _ | exact below_more _ _ _ _ | exact below_of_grow _ _), fun h => by cases h⟩
    case hend =>
      intro x w1 hH
      have e11 : x 11 = _ := hH.holds 0 (by decide) trivial 11 rfl
      have e12 : x 12 = _ := hH.holds 1 (by decide) trivial 12 rfl
      have e13 : x 13 = _ := hH.holds 2 (by decide) trivial 13 rfl
      have e14 : x 14 = _ := hH.holds 3 (by decide) trivial 14 rfl
      have e15 : x 15 = _ := hH.holds 4 (by decide) trivial 15 rfl
      have e16 : x 16 = _ := hH.holds 5 (by decide) trivial 16 rfl
      have e17 : x 17 = _ := hH.holds 6 (by decide) trivial 17 rfl
      have e18 : x 18 = _ := hH.holds 7 (by decide) trivial 18 rfl
      have e19 : x 19 = _ := hH.holds 8 (by decide) trivial 19 rfl
      have e20 : x 20 = _ := hH.holds 9 (by decide) trivial 20 rfl
      have e21 : x 21 = _ := hH.holds 10 (by decide) trivial 21 rfl
      have e22 : x 22 = _ := hH.holds 11 (by decide) trivial 22 rfl
      have e23 : x 23 = _ := hH.holds 12 (by decide) trivial 23 rfl
      have e24 : x 24 = _ := hH.holds 13 (by decide) trivial 24 rfl
      have e25 : x 25 = _ := hH.holds 14 (by decide) trivial 25 rfl
      have e26 : x 26 = _ := hH.holds 15 (by decide) trivial 26 rfl
      have e27 : x 27 = _ := hH.holds 16 (by decide) trivial 27 rfl
      have e28 : x 28 = _ := hH.holds 17 (by decide) trivial 28 rfl
      have e29 : x 29 = _ := hH.holds 18 (by decide) trivial 29 rfl
      have e30 : x 30 = _ := hH.holds 19 (by decide) trivial 30 rfl
      have e31 : x 31 = _ := hH.holds 20 (by decide) trivial 31 rfl
      have e32 : x 32 = _ := hH.holds 21 (by decide) trivial 32 rfl
      have e33 : x 33 = _ := hH.holds 22 (by decide) trivial 33 rfl
      have e34 : x 34 = _ := hH.holds 23 (by decide) trivial 34 rfl
      have e35 : x 35 = _ := hH.holds 24 (by decide) trivial 35 rfl
      have e36 : x 36 = _ := hH.holds 25 (by decide) trivial 36 rfl
      have e37 : x 37 = _ := hH.holds 26 (by decide) trivial 37 rfl
      obtain ⟨xs, d, rfl⟩ := grow_of_below hH.below
      clear hH
      simp only [e11, e12, e13, e14, e15, e16, e17, e18, e19, e20, e21, e22, e23, e24, e25, e26, e27, e28, e29, e30, e31, e32, e33, e34, e35, e36, e37]; clear e11 e12 e13 e14 e15 e16 e17 e18 e19 e20 e21 e22 e23 e24 e25 e26 e27 e28 e29 e30 e31 e32 e33 e34 e35 e36 e37
      simp only [List.drop_succ_cons, List.drop_zero]
      go_wp2_with fail
      go_ret
      exact ⟨rfl, (HZ.out.1.drew).grow (by show w.heap.size ≤ W.heap.size; rw [HZ.out.2]; omega) _ _⟩
end Go.Proofs.YtemnojlcgllcjaaGreatDoor
namespace Go.Proofs.YtemnojlcgllcjaaGreatDoor
set_option maxRecDepth 100000
open Go.RowKit

theorem keyOrder_law (w : World) (v0 v1 : Value) (h0 : Reads Tryz.prog w 39 v0) (h1 : Reads Tryz.prog w 39 v1) : Gives Tryz.prog 8 #[v0, v1] w (.bool true) := by
  obtain ⟨a, rfl⟩ := keyRd h0
  obtain ⟨b, rfl⟩ := keyRd h1
  exact keyOrder_walk a b w

namespace keyOrder
open Go.ChangeShapes Go.WideShapes Go.ChangeAt Go.RowKit
open Go.ChangeMaps (open_string shut_string)
theorem own : ownKnob Tryz.prog.godebug = none := by kernel_rfl
theorem laidOut : laidOutB Tryz.prog = true := by kernel_rfl
/-- a world in which the listed variables hold what the row says -/
noncomputable def laidW (os : Os) : World := World.laidAll Tryz.prog os Rows.keyOrderRow.laid
set_option maxRecDepth 100000 in
theorem door_met (os : Os) (args : Array Value) : laidMetH Tryz.prog Rows.keyOrderRow.laid ((laidW os).forCall (fun _ _ => 0) ⟨#[], args, []⟩).memory := by
  rw [MakeChecks.laidMetH_plain _ _ _ (by kernel_rfl)]
  exact laidMet_laidAll args (by kernel_rfl) (by kernel_rfl)
set_option maxRecDepth 100000 in
theorem lifted (os : Os) (started : os.Started) (H : Type) (enc : TypeId × Value → H) :
    ReturnsInHanded {} Tryz.checked os 8 .any (fun w args => (Rows.keyOrderSpec.pre enc Tryz.prog Tryz.f8 Rows.keyOrderRow.domain false w args ∧ laidMetH Tryz.prog Rows.keyOrderRow.laid w) ∧ sizedMet enc Tryz.prog Tryz.f8 (OpenSpec.ofChange Rows.keyOrderSpec) false w args) (Rows.keyOrderSpec.post enc Tryz.prog Tryz.f8 false true false false) := by
  refine returnsInHanded_of_change_and (C := Tryz.checked) (X := fun w _ => laidMetH Tryz.prog Rows.keyOrderRow.laid w) (fun _ _ _ hh h => h.of_heap hh) own started (by kernel_rfl) Tryz.func8
    (ChangeSpec.witness_shaped (enc := enc) (C := Tryz.checked) (os := os) (X := fun w _ => laidMetH Tryz.prog Rows.keyOrderRow.laid w) false (laidW os) #[.agg #[.int .u8 0, .int .u8 0, .int .u8 0, .int .u8 0, .int .u8 0, .int .u8 0, .int .u8 0, .int .u8 0, .int .u8 0, .int .u8 0, .int .u8 0, .int .u8 0, .int .u8 0, .int .u8 0, .int .u8 0, .int .u8 0, .int .u8 0, .int .u8 0, .int .u8 0, .int .u8 0, .int .u8 0, .int .u8 0, .int .u8 0, .int .u8 0, .int .u8 0], .agg #[.int .u8 0, .int .u8 0, .int .u8 0, .int .u8 0, .int .u8 0, .int .u8 0, .int .u8 0, .int .u8 0, .int .u8 0, .int .u8 0, .int .u8 0, .int .u8 0, .int .u8 0, .int .u8 0, .int .u8 0, .int .u8 0, .int .u8 0, .int .u8 0, .int .u8 0, .int .u8 0, .int .u8 0, .int .u8 0, .int .u8 0, .int .u8 0, .int .u8 0]] 8 (World.laidAll_os _ _ _) (World.shaped_of_ZipB (by kernel_rfl) (by kernel_rfl)) (by kernel_rfl) (by kernel_rfl) (by kernel_rfl) (door_met os _)) ?_
  intro W base args ds gs before hval0 hW _ _ _ _
  have hval : ∀ (j : Nat) t v, Tryz.f8.params[j]? = some t → args[j]? = some v → Value.okWide Tryz.prog W .any base t v := hval0
  have hW' := hW
  obtain ⟨p, q, hA0, hV, rfl, hfz, hnd⟩ := hW
  have hA : DataW.TrodAll enc Tryz.prog W 0 (fun _ => true) true Tryz.f8.params.toList args.toList ds p := hA0
  rw [Tryz.params8] at hA hval
  obtain ⟨v0, vs0, d0, ds0, p0, q0, hargs, rfl, rfl, h0, r0⟩ := trodAll_cons hA
  obtain ⟨v1, vs1, d1, ds1, p1, q1, rfl, rfl, rfl, h1, r1⟩ := trodAll_cons r0
  obtain ⟨rfl, rfl, rfl⟩ := trodAll_nil r1
  obtain rfl : args = #[v0, v1] := by cases args; simp_all
  obtain ⟨rfl, rfl⟩ := trodVars_none hV
  have lt0 : ∀ x ∈ p0, x.block < W.heap.size := by obtain ⟨m, hm⟩ := h0; exact DataW.trod_lt m _ _ _ hm
  have lt1 : ∀ x ∈ p1, x.block < W.heap.size := by obtain ⟨m, hm⟩ := h1; exact DataW.trod_lt m _ _ _ hm
  clear hA0 hval0
  refine Calls.mono (keyOrder_law W v0 v1 ⟨⟨_, hval 0 39 v0 rfl rfl⟩, H, enc, _, _, h0⟩ ⟨⟨_, hval 1 39 v1 rfl rfl⟩, H, enc, _, _, h1⟩) fun e W' ⟨he, bel⟩ => ?_
  subst he
  exact ⟨_, rfl, _, _, _, [], _, [], hW', trodAll_mk1 (shut_bool Tryz.underlying4 _), (trodAll_cons_mk (Below.trod laidOut (by kernel_rfl) (of_decide_eq_true (by kernel_rfl)) h0 bel lt0) (trodAll_cons_mk (Below.trod laidOut (by kernel_rfl) (of_decide_eq_true (by kernel_rfl)) h1 bel lt1) trodAll_mk0)), rfl, bel.frame _, fun h => by cases h⟩
theorem fact0 : (Rows.keyOrderRow.inPlace == Program.inPlace Tryz.pinned.checked.prog 8) = true := by kernel_rfl
theorem fact1 : (Rows.keyOrderRow.unfollowed == Program.unfollowed Tryz.pinned.checked.prog 8) = true := by kernel_rfl
theorem fact2 : (Rows.keyOrderRow.recurses == Program.recurses Tryz.pinned.checked.prog 8) = true := by kernel_rfl
theorem fact3 : (Rows.keyOrderRow.named == Program.varsNamed Tryz.pinned.checked.prog 8) = true := by kernel_rfl
theorem closed : joinedFacts Tryz.pinned.checked.prog 8 Tryz.f8 Rows.keyOrderSpec Rows.keyOrderRow = true := by
  unfold joinedFacts
  rw [fact0, fact1, fact2, fact3]
  refine Eq.trans (b := true) ?_ rfl
  kernel_rfl
theorem said : Rows.KeyOrderSaid :=
  OpenClaim.holds_of_wide 8 Tryz.f8 rfl rfl rfl rfl rfl rfl rfl ⟨rfl, rfl, rfl, rfl, rfl⟩ rfl rfl rfl rfl rfl (by kernel_rfl) Tryz.func8 closed
    (of_decide_eq_true (by kernel_rfl)) (by unfold Func.isWrapper; first | (rw [if_pos (by decide +kernel)]; kernel_rfl) | (rw [if_neg (by decide +kernel)]; exact ⟨rfl, rfl⟩))
    (fun os started H enc _ => lifted os started H enc)
/-- no parameter wants a stand-in; the program's own looks are off -/
theorem plain (f : FuncId) (fn : Func) (hf : Tryz.pinned.checked.prog.funcNamed "vulgate/vulgatelaw06.KeyOrder" = some f) (hfn : Tryz.pinned.checked.prog.funcs[f]? = some fn) :
    true = Tryz.pinned.checked.prog.looks [] ∧ ∀ (j : Nat) t, fn.params[j]? = some t → Tryz.pinned.checked.prog.wantsStandIn t = false := by
  obtain rfl : f = 8 := Option.some.inj ((show Tryz.prog.funcNamed "vulgate/vulgatelaw06.KeyOrder" = some 8 by kernel_rfl).symm.trans hf) |>.symm
  obtain rfl : fn = Tryz.f8 := (Option.some.inj (Tryz.func8.symm.trans hfn)).symm
  refine ⟨by kernel_rfl, fun j t ht => ?_⟩
  rw [Tryz.params8] at ht
  have hm : t ∈ [39, 39] := by simpa using Array.mem_of_getElem? ht
  have hall : ([39, 39].all fun u => !Tryz.prog.wantsStandIn u) = true := by kernel_rfl
  exact (show Tryz.prog.wantsStandIn t = false by simpa using List.all_eq_true.1 hall t hm)
theorem proved : Rows.KeyOrderCardSaid :=
  Claim7.holds_tied_plain_at .later [] _ _ _ _ said (fun _ h => by cases h) (by kernel_rfl) (fun _ h => by cases h) keyOrder_row_tie rfl ⟨rfl, rfl⟩ (by kernel_rfl) rfl plain (by kernel_rfl)
#print axioms proved
end keyOrder
end Go.Proofs.YtemnojlcgllcjaaGreatDoor

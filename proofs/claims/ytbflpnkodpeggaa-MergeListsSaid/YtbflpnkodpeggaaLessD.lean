/- The order of keys once more: nothing is drawn back. -/
import Derived.Test.YtbflpnkodpeggaaDrawn
import Derived.Test.YtbflpnkodpeggaaLess
import Derived.Test.YtbflpnkodpeggaaEntOps
namespace Go.Proofs.Ytbflpnkodpeggaa.Dr
open Go.RowKit

set_option maxRecDepth 100000 in
set_option maxHeartbeats 800000 in
theorem tagBytes_gives (t : List UInt8) (ht : t.length = 10) (w : World) : Gives Try.prog 48 #[.agg (row8 t)] w (.agg (row8 t)) := by
  have hs := tag_spl t ht
  have HS := Lib.hid hs
  clear hs
  unfold Gives
  go_enter Try.func48, Try.ntmps48
  go_wp2_with fail
  apply wp_region_specs (by rfl) [.val _, .val _, .val _] 3 (by rfl) [4, 5, 6] [] [] (by rfl) (by rfl) (by decide) (by decide +kernel) (fun _ _ _ _ _ h => h)
  case hF => intro x; simp only [over, List.foldl_cons, List.foldl_nil, List.setIfInBounds_toArray, List.set_cons_succ, List.set_cons_zero]; exact rfl
  case hops =>
    refine ⟨?o0, ?o1, ?o2, trivial⟩
    case o0 =>
      intro x w1 hH K hK
      obtain ⟨xs, d, rfl⟩ := grow_of_below hH.below
      clear hH
      try simp only [World.grow_drew] at hK ⊢
      try simp only [World.grow_grow] at hK ⊢
      go_simp
      go_wp2_with fail
      exact ⟨_, rfl, rfl, ⟨(by repeat (first | exact below_of_grow _ _ | exact Go.RowKit.Below.refl _ _ | exact below_more _ _ _ _ | (simp only [← Array.append_assoc]; first | exact below_more _ _ _ _ | exact below_same _ _ _ | exact Go.RowKit.Below.refl _ _) | exact below_same _ _ _ | (refine Go.RowKit.Below.alloc ?_ (by first | (simp; done) | (simp; omega)) _) | (refine Go.RowKit.Below.grow ?_ (by first | (simp; done) | (simp; omega)) _ _) | refine Go.RowKit.Below.drew ?_ | refine Go.RowKit.Below.drewN ?_ _ | (refine Go.RowKit.Below.putF ?_ (by first | (simp; done) | omega | (simp; omega)) _) | (refine Go.RowKit.Below.setCell ?_ (by first | (simp; done) | (simp; omega)) _))), (by first | (simp; done) | (simp; omega) | omega)⟩, fun h => by cases h⟩
    case o1 =>
      intro x w1 hH K hK
      obtain ⟨xs, d, rfl⟩ := grow_of_below hH.below
      clear hH
      try simp only [World.grow_drew] at hK ⊢
      try simp only [World.grow_grow] at hK ⊢
      go_simp
      go_wp2_with fail
      exact ⟨_, rfl, rfl, ⟨(by repeat (first | exact below_of_grow _ _ | exact Go.RowKit.Below.refl _ _ | exact below_more _ _ _ _ | (simp only [← Array.append_assoc]; first | exact below_more _ _ _ _ | exact below_same _ _ _ | exact Go.RowKit.Below.refl _ _) | exact below_same _ _ _ | (refine Go.RowKit.Below.alloc ?_ (by first | (simp; done) | (simp; omega)) _) | (refine Go.RowKit.Below.grow ?_ (by first | (simp; done) | (simp; omega)) _ _) | refine Go.RowKit.Below.drew ?_ | refine Go.RowKit.Below.drewN ?_ _ | (refine Go.RowKit.Below.putF ?_ (by first | (simp; done) | omega | (simp; omega)) _) | (refine Go.RowKit.Below.setCell ?_ (by first | (simp; done) | (simp; omega)) _))), (by first | (simp; done) | (simp; omega) | omega)⟩, fun h => by cases h⟩
    case o2 =>
      intro x w1 hH K hK
      have e5 : x 5 = _ := hH.holds 1 (by decide) (by decide +kernel) 5 rfl
      obtain ⟨xs, d, rfl⟩ := grow_of_below hH.below
      clear hH
      try simp only [World.grow_drew] at hK ⊢
      try simp only [World.grow_grow] at hK ⊢
      simp only [e5] at hK ⊢
      clear e5
      go_simp
      go_wp2_with fail
      exact ⟨_, rfl, rfl, ⟨(by repeat (first | exact below_of_grow _ _ | exact Go.RowKit.Below.refl _ _ | exact below_more _ _ _ _ | (simp only [← Array.append_assoc]; first | exact below_more _ _ _ _ | exact below_same _ _ _ | exact Go.RowKit.Below.refl _ _) | exact below_same _ _ _ | (refine Go.RowKit.Below.alloc ?_ (by first | (simp; done) | (simp; omega)) _) | (refine Go.RowKit.Below.grow ?_ (by first | (simp; done) | (simp; omega)) _ _) | refine Go.RowKit.Below.drew ?_ | refine Go.RowKit.Below.drewN ?_ _ | (refine Go.RowKit.Below.putF ?_ (by first | (simp; done) | omega | (simp; omega)) _) | (refine Go.RowKit.Below.setCell ?_ (by first | (simp; done) | (simp; omega)) _))), (by first | (simp; done) | (simp; omega) | omega)⟩, fun h => by cases h⟩
  case hend =>
    intro x w1 hH
    have e4 : x 4 = _ := hH.holds 0 (by decide) trivial 4 rfl
    have e5 : x 5 = _ := hH.holds 1 (by decide) trivial 5 rfl
    have e6 : x 6 = _ := hH.holds 2 (by decide) trivial 6 rfl
    obtain ⟨xs, d, rfl⟩ := grow_of_below hH.below
    clear hH
    simp only [e4, e5, e6]; clear e4 e5 e6
    simp only [List.drop_succ_cons, List.drop_zero]
    go_wp2_with fail
    apply wp_region_specs (by rfl) [.val _, .val _, .val _] 3 (by rfl) [8, 9, 10] [] [] (by rfl) (by rfl) (by decide) (by decide +kernel) (fun _ _ _ _ _ h => h)
    case hF => intro x; simp only [over, List.foldl_cons, List.foldl_nil, List.setIfInBounds_toArray, List.set_cons_succ, List.set_cons_zero]; exact rfl
    case hops =>
      refine ⟨?o0, ?o1, ?o2, trivial⟩
      case o0 =>
        intro x w1 hH K hK
        obtain ⟨xs, d, rfl⟩ := grow_of_below hH.below
        clear hH
        try simp only [World.grow_drew] at hK ⊢
        try simp only [World.grow_grow] at hK ⊢
        go_simp
        go_wp2_with fail
        exact ⟨_, rfl, rfl, ⟨(by repeat (first | exact below_of_grow _ _ | exact Go.RowKit.Below.refl _ _ | exact below_more _ _ _ _ | (simp only [← Array.append_assoc]; first | exact below_more _ _ _ _ | exact below_same _ _ _ | exact Go.RowKit.Below.refl _ _) | exact below_same _ _ _ | (refine Go.RowKit.Below.alloc ?_ (by first | (simp; done) | (simp; omega)) _) | (refine Go.RowKit.Below.grow ?_ (by first | (simp; done) | (simp; omega)) _ _) | refine Go.RowKit.Below.drew ?_ | refine Go.RowKit.Below.drewN ?_ _ | (refine Go.RowKit.Below.putF ?_ (by first | (simp; done) | omega | (simp; omega)) _) | (refine Go.RowKit.Below.setCell ?_ (by first | (simp; done) | (simp; omega)) _))), (by first | (simp; done) | (simp; omega) | omega)⟩, fun h => by cases h⟩
      case o1 =>
        intro x w1 hH K hK
        obtain ⟨xs, d, rfl⟩ := grow_of_below hH.below
        clear hH
        try simp only [World.grow_drew] at hK ⊢
        try simp only [World.grow_grow] at hK ⊢
        go_simp
        go_wp2_with fail
        exact ⟨_, rfl, rfl, ⟨(by repeat (first | exact below_of_grow _ _ | exact Go.RowKit.Below.refl _ _ | exact below_more _ _ _ _ | (simp only [← Array.append_assoc]; first | exact below_more _ _ _ _ | exact below_same _ _ _ | exact Go.RowKit.Below.refl _ _) | exact below_same _ _ _ | (refine Go.RowKit.Below.alloc ?_ (by first | (simp; done) | (simp; omega)) _) | (refine Go.RowKit.Below.grow ?_ (by first | (simp; done) | (simp; omega)) _ _) | refine Go.RowKit.Below.drew ?_ | refine Go.RowKit.Below.drewN ?_ _ | (refine Go.RowKit.Below.putF ?_ (by first | (simp; done) | omega | (simp; omega)) _) | (refine Go.RowKit.Below.setCell ?_ (by first | (simp; done) | (simp; omega)) _))), (by first | (simp; done) | (simp; omega) | omega)⟩, fun h => by cases h⟩
      case o2 =>
        intro x w1 hH K hK
        have e9 : x 9 = _ := hH.holds 1 (by decide) (by decide +kernel) 9 rfl
        obtain ⟨xs, d, rfl⟩ := grow_of_below hH.below
        clear hH
        try simp only [World.grow_drew] at hK ⊢
        try simp only [World.grow_grow] at hK ⊢
        simp only [e9] at hK ⊢
        clear e9
        go_simp
        go_wp2_with fail
        exact ⟨_, rfl, rfl, ⟨(by repeat (first | exact below_of_grow _ _ | exact Go.RowKit.Below.refl _ _ | exact below_more _ _ _ _ | (simp only [← Array.append_assoc]; first | exact below_more _ _ _ _ | exact below_same _ _ _ | exact Go.RowKit.Below.refl _ _) | exact below_same _ _ _ | (refine Go.RowKit.Below.alloc ?_ (by first | (simp; done) | (simp; omega)) _) | (refine Go.RowKit.Below.grow ?_ (by first | (simp; done) | (simp; omega)) _ _) | refine Go.RowKit.Below.drew ?_ | refine Go.RowKit.Below.drewN ?_ _ | (refine Go.RowKit.Below.putF ?_ (by first | (simp; done) | omega | (simp; omega)) _) | (refine Go.RowKit.Below.setCell ?_ (by first | (simp; done) | (simp; omega)) _))), (by first | (simp; done) | (simp; omega) | omega)⟩, fun h => by cases h⟩
    case hend =>
      intro x w1 hH
      have e8 : x 8 = _ := hH.holds 0 (by decide) trivial 8 rfl
      have e9 : x 9 = _ := hH.holds 1 (by decide) trivial 9 rfl
      have e10 : x 10 = _ := hH.holds 2 (by decide) trivial 10 rfl
      obtain ⟨xs, d, rfl⟩ := grow_of_below hH.below
      clear hH
      simp only [e8, e9, e10]; clear e8 e9 e10
      simp only [List.drop_succ_cons, List.drop_zero]
      go_wp2_with fail
      apply wp_region_specs (by rfl) [.val _, .val _, .val _] 3 (by rfl) [12, 13, 14] [] [] (by rfl) (by rfl) (by decide) (by decide +kernel) (fun _ _ _ _ _ h => h)
      case hF => intro x; simp only [over, List.foldl_cons, List.foldl_nil, List.setIfInBounds_toArray, List.set_cons_succ, List.set_cons_zero]; exact rfl
      case hops =>
        refine ⟨?o0, ?o1, ?o2, trivial⟩
        case o0 =>
          intro x w1 hH K hK
          obtain ⟨xs, d, rfl⟩ := grow_of_below hH.below
          clear hH
          try simp only [World.grow_drew] at hK ⊢
          try simp only [World.grow_grow] at hK ⊢
          go_simp
          go_wp2_with fail
          exact ⟨_, rfl, rfl, ⟨(by repeat (first | exact below_of_grow _ _ | exact Go.RowKit.Below.refl _ _ | exact below_more _ _ _ _ | (simp only [← Array.append_assoc]; first | exact below_more _ _ _ _ | exact below_same _ _ _ | exact Go.RowKit.Below.refl _ _) | exact below_same _ _ _ | (refine Go.RowKit.Below.alloc ?_ (by first | (simp; done) | (simp; omega)) _) | (refine Go.RowKit.Below.grow ?_ (by first | (simp; done) | (simp; omega)) _ _) | refine Go.RowKit.Below.drew ?_ | refine Go.RowKit.Below.drewN ?_ _ | (refine Go.RowKit.Below.putF ?_ (by first | (simp; done) | omega | (simp; omega)) _) | (refine Go.RowKit.Below.setCell ?_ (by first | (simp; done) | (simp; omega)) _))), (by first | (simp; done) | (simp; omega) | omega)⟩, fun h => by cases h⟩
        case o1 =>
          intro x w1 hH K hK
          obtain ⟨xs, d, rfl⟩ := grow_of_below hH.below
          clear hH
          try simp only [World.grow_drew] at hK ⊢
          try simp only [World.grow_grow] at hK ⊢
          go_simp
          go_wp2_with fail
          exact ⟨_, rfl, rfl, ⟨(by repeat (first | exact below_of_grow _ _ | exact Go.RowKit.Below.refl _ _ | exact below_more _ _ _ _ | (simp only [← Array.append_assoc]; first | exact below_more _ _ _ _ | exact below_same _ _ _ | exact Go.RowKit.Below.refl _ _) | exact below_same _ _ _ | (refine Go.RowKit.Below.alloc ?_ (by first | (simp; done) | (simp; omega)) _) | (refine Go.RowKit.Below.grow ?_ (by first | (simp; done) | (simp; omega)) _ _) | refine Go.RowKit.Below.drew ?_ | refine Go.RowKit.Below.drewN ?_ _ | (refine Go.RowKit.Below.putF ?_ (by first | (simp; done) | omega | (simp; omega)) _) | (refine Go.RowKit.Below.setCell ?_ (by first | (simp; done) | (simp; omega)) _))), (by first | (simp; done) | (simp; omega) | omega)⟩, fun h => by cases h⟩
        case o2 =>
          intro x w1 hH K hK
          have e13 : x 13 = _ := hH.holds 1 (by decide) (by decide +kernel) 13 rfl
          obtain ⟨xs, d, rfl⟩ := grow_of_below hH.below
          clear hH
          try simp only [World.grow_drew] at hK ⊢
          try simp only [World.grow_grow] at hK ⊢
          simp only [e13] at hK ⊢
          clear e13
          go_simp
          go_wp2_with fail
          exact ⟨_, rfl, rfl, ⟨(by repeat (first | exact below_of_grow _ _ | exact Go.RowKit.Below.refl _ _ | exact below_more _ _ _ _ | (simp only [← Array.append_assoc]; first | exact below_more _ _ _ _ | exact below_same _ _ _ | exact Go.RowKit.Below.refl _ _) | exact below_same _ _ _ | (refine Go.RowKit.Below.alloc ?_ (by first | (simp; done) | (simp; omega)) _) | (refine Go.RowKit.Below.grow ?_ (by first | (simp; done) | (simp; omega)) _ _) | refine Go.RowKit.Below.drew ?_ | refine Go.RowKit.Below.drewN ?_ _ | (refine Go.RowKit.Below.putF ?_ (by first | (simp; done) | omega | (simp; omega)) _) | (refine Go.RowKit.Below.setCell ?_ (by first | (simp; done) | (simp; omega)) _))), (by first | (simp; done) | (simp; omega) | omega)⟩, fun h => by cases h⟩
      case hend =>
        intro x w1 hH
        have e12 : x 12 = _ := hH.holds 0 (by decide) trivial 12 rfl
        have e13 : x 13 = _ := hH.holds 1 (by decide) trivial 13 rfl
        have e14 : x 14 = _ := hH.holds 2 (by decide) trivial 14 rfl
        obtain ⟨xs, d, rfl⟩ := grow_of_below hH.below
        clear hH
        simp only [e12, e13, e14]; clear e12 e13 e14
        simp only [List.drop_succ_cons, List.drop_zero]
        go_wp2_with fail
        refine bodyPost_ret (v := .agg (row8 t)) (results_one Try.results48 (ResIs.row rfl agg_b10 ?_)) rfl ⟨rfl, ⟨(by repeat (first | exact below_of_grow _ _ | exact Go.RowKit.Below.refl _ _ | exact below_more _ _ _ _ | (simp only [← Array.append_assoc]; first | exact below_more _ _ _ _ | exact below_same _ _ _ | exact Go.RowKit.Below.refl _ _) | exact below_same _ _ _ | (refine Go.RowKit.Below.alloc ?_ (by first | (simp; done) | (simp; omega)) _) | (refine Go.RowKit.Below.grow ?_ (by first | (simp; done) | (simp; omega)) _ _) | refine Go.RowKit.Below.drew ?_ | refine Go.RowKit.Below.drewN ?_ _ | (refine Go.RowKit.Below.putF ?_ (by first | (simp; done) | omega | (simp; omega)) _) | (refine Go.RowKit.Below.setCell ?_ (by first | (simp; done) | (simp; omega)) _))), (by first | (simp; done) | (simp; omega) | omega)⟩⟩
        simp [go_sem, HS.out, ht]

set_option maxRecDepth 100000 in
set_option maxHeartbeats 800000 in
theorem keyBytes_gives (k : List UInt8) (hk : k.length = 25) (w : World) : Gives Try.prog 36 #[.agg (row8 k)] w (.agg (row8 k)) := by
  have hs := key_spl k hk
  have HS := Lib.hid hs
  clear hs
  have ht := tagBytes_gives (k.drop 15) (by simp; omega)
  have HT := Lib.hid ht
  clear ht
  unfold Gives
  go_enter Try.func36, Try.ntmps36
  go_wp2_with (go_at_call 48; refine Gives.use (HT.out _) ?_; intro xs0 d0)
  apply wp_region_specs (by rfl) [.val _, .val _, .val _] 3 (by rfl) [15, 16, 17] [] [] (by rfl) (by rfl) (by decide) (by decide +kernel) (fun _ _ _ _ _ h => h)
  case hF => intro x; simp only [over, List.foldl_cons, List.foldl_nil, List.setIfInBounds_toArray, List.set_cons_succ, List.set_cons_zero]; exact rfl
  case hops =>
    refine ⟨?o0, ?o1, ?o2, trivial⟩
    case o0 =>
      intro x w1 hH K hK
      obtain ⟨xs, d, rfl⟩ := grow_of_below hH.below
      clear hH
      try simp only [World.grow_drew] at hK ⊢
      try simp only [World.grow_grow] at hK ⊢
      go_simp
      go_wp2_with fail
      exact ⟨_, rfl, rfl, ⟨(by repeat (first | exact below_of_grow _ _ | exact Go.RowKit.Below.refl _ _ | exact below_more _ _ _ _ | (simp only [← Array.append_assoc]; first | exact below_more _ _ _ _ | exact below_same _ _ _ | exact Go.RowKit.Below.refl _ _) | exact below_same _ _ _ | (refine Go.RowKit.Below.alloc ?_ (by first | (simp; done) | (simp; omega)) _) | (refine Go.RowKit.Below.grow ?_ (by first | (simp; done) | (simp; omega)) _ _) | refine Go.RowKit.Below.drew ?_ | refine Go.RowKit.Below.drewN ?_ _ | (refine Go.RowKit.Below.putF ?_ (by first | (simp; done) | omega | (simp; omega)) _) | (refine Go.RowKit.Below.setCell ?_ (by first | (simp; done) | (simp; omega)) _))), (by first | (simp; done) | (simp; omega) | omega)⟩, fun h => by cases h⟩
    case o1 =>
      intro x w1 hH K hK
      obtain ⟨xs, d, rfl⟩ := grow_of_below hH.below
      clear hH
      try simp only [World.grow_drew] at hK ⊢
      try simp only [World.grow_grow] at hK ⊢
      go_simp
      go_wp2_with fail
      exact ⟨_, rfl, rfl, ⟨(by repeat (first | exact below_of_grow _ _ | exact Go.RowKit.Below.refl _ _ | exact below_more _ _ _ _ | (simp only [← Array.append_assoc]; first | exact below_more _ _ _ _ | exact below_same _ _ _ | exact Go.RowKit.Below.refl _ _) | exact below_same _ _ _ | (refine Go.RowKit.Below.alloc ?_ (by first | (simp; done) | (simp; omega)) _) | (refine Go.RowKit.Below.grow ?_ (by first | (simp; done) | (simp; omega)) _ _) | refine Go.RowKit.Below.drew ?_ | refine Go.RowKit.Below.drewN ?_ _ | (refine Go.RowKit.Below.putF ?_ (by first | (simp; done) | omega | (simp; omega)) _) | (refine Go.RowKit.Below.setCell ?_ (by first | (simp; done) | (simp; omega)) _))), (by first | (simp; done) | (simp; omega) | omega)⟩, fun h => by cases h⟩
    case o2 =>
      intro x w1 hH K hK
      have e16 : x 16 = _ := hH.holds 1 (by decide) (by decide +kernel) 16 rfl
      obtain ⟨xs, d, rfl⟩ := grow_of_below hH.below
      clear hH
      try simp only [World.grow_drew] at hK ⊢
      try simp only [World.grow_grow] at hK ⊢
      simp only [e16] at hK ⊢
      clear e16
      go_simp
      go_wp2_with fail
      exact ⟨_, rfl, rfl, ⟨(by repeat (first | exact below_of_grow _ _ | exact Go.RowKit.Below.refl _ _ | exact below_more _ _ _ _ | (simp only [← Array.append_assoc]; first | exact below_more _ _ _ _ | exact below_same _ _ _ | exact Go.RowKit.Below.refl _ _) | exact below_same _ _ _ | (refine Go.RowKit.Below.alloc ?_ (by first | (simp; done) | (simp; omega)) _) | (refine Go.RowKit.Below.grow ?_ (by first | (simp; done) | (simp; omega)) _ _) | refine Go.RowKit.Below.drew ?_ | refine Go.RowKit.Below.drewN ?_ _ | (refine Go.RowKit.Below.putF ?_ (by first | (simp; done) | omega | (simp; omega)) _) | (refine Go.RowKit.Below.setCell ?_ (by first | (simp; done) | (simp; omega)) _))), (by first | (simp; done) | (simp; omega) | omega)⟩, fun h => by cases h⟩
  case hend =>
    intro x w1 hH
    have e15 : x 15 = _ := hH.holds 0 (by decide) trivial 15 rfl
    have e16 : x 16 = _ := hH.holds 1 (by decide) trivial 16 rfl
    have e17 : x 17 = _ := hH.holds 2 (by decide) trivial 17 rfl
    obtain ⟨xs, d, rfl⟩ := grow_of_below hH.below
    clear hH
    simp only [e15, e16, e17]; clear e15 e16 e17
    simp only [List.drop_succ_cons, List.drop_zero]
    go_wp2_with fail
    apply wp_region_specs (by rfl) [.val _, .val _] 2 (by rfl) [19, 20] [] [] (by rfl) (by rfl) (by decide) (by decide +kernel) (fun _ _ _ _ _ h => h)
    case hF => intro x; simp only [over, List.foldl_cons, List.foldl_nil, List.setIfInBounds_toArray, List.set_cons_succ, List.set_cons_zero]; exact rfl
    case hops =>
      refine ⟨?o0, ?o1, trivial⟩
      case o0 =>
        intro x w1 hH K hK
        obtain ⟨xs, d, rfl⟩ := grow_of_below hH.below
        clear hH
        try simp only [World.grow_drew] at hK ⊢
        try simp only [World.grow_grow] at hK ⊢
        go_simp
        go_wp2_with fail
        exact ⟨_, rfl, rfl, ⟨(by repeat (first | exact below_of_grow _ _ | exact Go.RowKit.Below.refl _ _ | exact below_more _ _ _ _ | (simp only [← Array.append_assoc]; first | exact below_more _ _ _ _ | exact below_same _ _ _ | exact Go.RowKit.Below.refl _ _) | exact below_same _ _ _ | (refine Go.RowKit.Below.alloc ?_ (by first | (simp; done) | (simp; omega)) _) | (refine Go.RowKit.Below.grow ?_ (by first | (simp; done) | (simp; omega)) _ _) | refine Go.RowKit.Below.drew ?_ | refine Go.RowKit.Below.drewN ?_ _ | (refine Go.RowKit.Below.putF ?_ (by first | (simp; done) | omega | (simp; omega)) _) | (refine Go.RowKit.Below.setCell ?_ (by first | (simp; done) | (simp; omega)) _))), (by first | (simp; done) | (simp; omega) | omega)⟩, fun h => by cases h⟩
      case o1 =>
        intro x w1 hH K hK
        obtain ⟨xs, d, rfl⟩ := grow_of_below hH.below
        clear hH
        try simp only [World.grow_drew] at hK ⊢
        try simp only [World.grow_grow] at hK ⊢
        go_simp
        go_wp2_with fail
        exact ⟨_, rfl, rfl, ⟨(by repeat (first | exact below_of_grow _ _ | exact Go.RowKit.Below.refl _ _ | exact below_more _ _ _ _ | (simp only [← Array.append_assoc]; first | exact below_more _ _ _ _ | exact below_same _ _ _ | exact Go.RowKit.Below.refl _ _) | exact below_same _ _ _ | (refine Go.RowKit.Below.alloc ?_ (by first | (simp; done) | (simp; omega)) _) | (refine Go.RowKit.Below.grow ?_ (by first | (simp; done) | (simp; omega)) _ _) | refine Go.RowKit.Below.drew ?_ | refine Go.RowKit.Below.drewN ?_ _ | (refine Go.RowKit.Below.putF ?_ (by first | (simp; done) | omega | (simp; omega)) _) | (refine Go.RowKit.Below.setCell ?_ (by first | (simp; done) | (simp; omega)) _))), (by first | (simp; done) | (simp; omega) | omega)⟩, fun h => by cases h⟩
    case hend =>
      intro x w1 hH
      have e19 : x 19 = _ := hH.holds 0 (by decide) trivial 19 rfl
      have e20 : x 20 = _ := hH.holds 1 (by decide) trivial 20 rfl
      obtain ⟨xs, d, rfl⟩ := grow_of_below hH.below
      clear hH
      simp only [e19, e20]; clear e19 e20
      simp only [List.drop_succ_cons, List.drop_zero]
      go_wp2_with fail
      refine bodyPost_ret (v := .agg (row8 k)) (results_one Try.results36 (ResIs.row rfl agg_b25 ?_)) rfl ⟨rfl, ⟨(by repeat (first | exact below_of_grow _ _ | exact Go.RowKit.Below.refl _ _ | exact below_more _ _ _ _ | (simp only [← Array.append_assoc]; first | exact below_more _ _ _ _ | exact below_same _ _ _ | exact Go.RowKit.Below.refl _ _) | exact below_same _ _ _ | (refine Go.RowKit.Below.alloc ?_ (by first | (simp; done) | (simp; omega)) _) | (refine Go.RowKit.Below.grow ?_ (by first | (simp; done) | (simp; omega)) _ _) | refine Go.RowKit.Below.drew ?_ | refine Go.RowKit.Below.drewN ?_ _ | (refine Go.RowKit.Below.putF ?_ (by first | (simp; done) | omega | (simp; omega)) _) | (refine Go.RowKit.Below.setCell ?_ (by first | (simp; done) | (simp; omega)) _))), (by first | (simp; done) | (simp; omega) | omega)⟩⟩
      simp [go_sem, HS.out, hk]
theorem compare_gives {w : World} {b o cap b' o' cap' n : Nat} (l l' : List UInt8) (hn : l.length = n) (hn' : l'.length = n) (h : w.cut? b o n = some (row8 l)) (h' : w.cut? b' o' n = some (row8 l')) :
    Gives Try.prog 37 #[.slice (some ⟨b, o, none⟩) n cap, .slice (some ⟨b', o', none⟩) n cap'] w (.int .i64 (Lib.compareBytes l l')) := by
  subst hn
  have hr := run_compare_rows (P := Try.prog) (cap := cap) (cap' := cap') h (l' := l') (by rw [hn']; exact h')
  rw [hn'] at hr
  unfold Gives
  go_enter Try.func37, Try.ntmps37
  go_wp2
  rw [run_callFunc_extern Try.func49 (by kernel_rfl) (by kernel_rfl) (by kernel_rfl) (e := Extern.BytealgCompare.compare) (by kernel_rfl), hr]
  simp only [Result.andThen]
  rw [Oper.upon_value]
  go_wp2
  go_ret
  exact ⟨rfl, Below.refl _ _⟩

set_option maxRecDepth 100000 in
set_option maxHeartbeats 1600000 in
theorem keyLess_gives (a b : List UInt8) (ha : a.length = 25) (hb : b.length = 25) (w : World) : Gives Try.prog 33 #[.agg (row8 a), .agg (row8 b)] w (.bool (lessL a b)) := by
  have hl := lessL_compare a b (by omega)
  have HL := Lib.hid hl
  clear hl
  unfold Gives
  go_enter Try.func33, Try.ntmps33
  go_wp2_with fail
  apply wp_region_specs (by rfl) [.val _, .val _, .val _, .val _, .new _, .new _] 6 (by rfl) [7, 8, 9, 10, 5, 6] [4, 5] [] (by rfl) (by rfl) (by decide) (by decide +kernel) (fun _ _ _ _ _ h => h)
  case hF => intro x; simp only [over, List.foldl_cons, List.foldl_nil, List.setIfInBounds_toArray, List.set_cons_succ, List.set_cons_zero]; exact rfl
  case hops =>
    refine ⟨?o0, ?o1, ?o2, ?o3, ?o4, ?o5, trivial⟩
    case o0 =>
      intro x w1 hH K hK
      obtain ⟨xs, d, rfl⟩ := grow_of_below hH.below
      clear hH
      try simp only [World.grow_drew] at hK ⊢
      try simp only [World.grow_grow] at hK ⊢
      go_simp
      go_wp2_with fail
      exact ⟨_, rfl, rfl, ⟨(by repeat (first | exact below_of_grow _ _ | exact Go.RowKit.Below.refl _ _ | exact below_more _ _ _ _ | (simp only [← Array.append_assoc]; first | exact below_more _ _ _ _ | exact below_same _ _ _ | exact Go.RowKit.Below.refl _ _) | exact below_same _ _ _ | (refine Go.RowKit.Below.alloc ?_ (by first | (simp; done) | (simp; omega)) _) | (refine Go.RowKit.Below.grow ?_ (by first | (simp; done) | (simp; omega)) _ _) | refine Go.RowKit.Below.drew ?_ | refine Go.RowKit.Below.drewN ?_ _ | (refine Go.RowKit.Below.putF ?_ (by first | (simp; done) | omega | (simp; omega)) _) | (refine Go.RowKit.Below.setCell ?_ (by first | (simp; done) | (simp; omega)) _))), (by first | (simp; done) | (simp; omega) | omega)⟩, fun h => by cases h⟩
    case o1 =>
      intro x w1 hH K hK
      have e7 : x 7 = _ := hH.holds 0 (by decide) (by decide +kernel) 7 rfl
      obtain ⟨xs, d, rfl⟩ := grow_of_below hH.below
      clear hH
      try simp only [World.grow_drew] at hK ⊢
      try simp only [World.grow_grow] at hK ⊢
      simp only [e7] at hK ⊢
      clear e7
      go_simp
      go_wp2_with (refine Gives.use (keyBytes_gives a ha _) ?_; intro ys e)
      exact ⟨_, rfl, rfl, ⟨(by repeat (first | exact below_of_grow _ _ | exact Go.RowKit.Below.refl _ _ | exact below_more _ _ _ _ | (simp only [← Array.append_assoc]; first | exact below_more _ _ _ _ | exact below_same _ _ _ | exact Go.RowKit.Below.refl _ _) | exact below_same _ _ _ | (refine Go.RowKit.Below.alloc ?_ (by first | (simp; done) | (simp; omega)) _) | (refine Go.RowKit.Below.grow ?_ (by first | (simp; done) | (simp; omega)) _ _) | refine Go.RowKit.Below.drew ?_ | refine Go.RowKit.Below.drewN ?_ _ | (refine Go.RowKit.Below.putF ?_ (by first | (simp; done) | omega | (simp; omega)) _) | (refine Go.RowKit.Below.setCell ?_ (by first | (simp; done) | (simp; omega)) _))), (by first | (simp; done) | (simp; omega) | omega)⟩, fun h => by cases h⟩
    case o2 =>
      intro x w1 hH K hK
      obtain ⟨xs, d, rfl⟩ := grow_of_below hH.below
      clear hH
      try simp only [World.grow_drew] at hK ⊢
      try simp only [World.grow_grow] at hK ⊢
      go_simp
      go_wp2_with fail
      exact ⟨_, rfl, rfl, ⟨(by repeat (first | exact below_of_grow _ _ | exact Go.RowKit.Below.refl _ _ | exact below_more _ _ _ _ | (simp only [← Array.append_assoc]; first | exact below_more _ _ _ _ | exact below_same _ _ _ | exact Go.RowKit.Below.refl _ _) | exact below_same _ _ _ | (refine Go.RowKit.Below.alloc ?_ (by first | (simp; done) | (simp; omega)) _) | (refine Go.RowKit.Below.grow ?_ (by first | (simp; done) | (simp; omega)) _ _) | refine Go.RowKit.Below.drew ?_ | refine Go.RowKit.Below.drewN ?_ _ | (refine Go.RowKit.Below.putF ?_ (by first | (simp; done) | omega | (simp; omega)) _) | (refine Go.RowKit.Below.setCell ?_ (by first | (simp; done) | (simp; omega)) _))), (by first | (simp; done) | (simp; omega) | omega)⟩, fun h => by cases h⟩
    case o3 =>
      intro x w1 hH K hK
      have e9 : x 9 = _ := hH.holds 2 (by decide) (by decide +kernel) 9 rfl
      obtain ⟨xs, d, rfl⟩ := grow_of_below hH.below
      clear hH
      try simp only [World.grow_drew] at hK ⊢
      try simp only [World.grow_grow] at hK ⊢
      simp only [e9] at hK ⊢
      clear e9
      go_simp
      go_wp2_with (refine Gives.use (keyBytes_gives b hb _) ?_; intro ys e)
      exact ⟨_, rfl, rfl, ⟨(by repeat (first | exact below_of_grow _ _ | exact Go.RowKit.Below.refl _ _ | exact below_more _ _ _ _ | (simp only [← Array.append_assoc]; first | exact below_more _ _ _ _ | exact below_same _ _ _ | exact Go.RowKit.Below.refl _ _) | exact below_same _ _ _ | (refine Go.RowKit.Below.alloc ?_ (by first | (simp; done) | (simp; omega)) _) | (refine Go.RowKit.Below.grow ?_ (by first | (simp; done) | (simp; omega)) _ _) | refine Go.RowKit.Below.drew ?_ | refine Go.RowKit.Below.drewN ?_ _ | (refine Go.RowKit.Below.putF ?_ (by first | (simp; done) | omega | (simp; omega)) _) | (refine Go.RowKit.Below.setCell ?_ (by first | (simp; done) | (simp; omega)) _))), (by first | (simp; done) | (simp; omega) | omega)⟩, fun h => by cases h⟩
    case o4 =>
      intro x w1 hH K hK
      obtain ⟨xs, d, rfl⟩ := grow_of_below hH.below
      clear hH
      try simp only [World.grow_drew] at hK ⊢
      try simp only [World.grow_grow] at hK ⊢
      go_simp
      go_wp2_with fail
      exact left_new rfl (by simp) (by first | (simp; done) | (simp; omega))
    case o5 =>
      intro x w1 hH K hK
      obtain ⟨xs, d, rfl⟩ := grow_of_below hH.below
      clear hH
      try simp only [World.grow_drew] at hK ⊢
      try simp only [World.grow_grow] at hK ⊢
      go_simp
      go_wp2_with fail
      exact left_new rfl (by simp) (by first | (simp; done) | (simp; omega))
  case hend =>
    intro x w1 hH
    have e7 : x 7 = _ := hH.holds 0 (by decide) trivial 7 rfl
    have e8 : x 8 = _ := hH.holds 1 (by decide) trivial 8 rfl
    have e9 : x 9 = _ := hH.holds 2 (by decide) trivial 9 rfl
    have e10 : x 10 = _ := hH.holds 3 (by decide) trivial 10 rfl
    obtain ⟨b5, e5, l5, u5, o5⟩ := hH.holds 4 (by decide) trivial 5 rfl
    obtain ⟨b6, e6, l6, u6, o6⟩ := hH.holds 5 (by decide) trivial 6 rfl
    have n5_6 : b5 ≠ b6 := fun h => hH.apart 4 (by decide) 5 (by decide) (by decide) (by decide) trivial trivial (by decide) 5 6 rfl rfl (by rw [e5, e6, h])
    have n6_5 := n5_6.symm
    obtain ⟨xs, d, rfl⟩ := grow_of_below hH.below
    clear hH
    simp only [e7, e8, e9, e10, e5, e6]; clear e7 e8 e9 e10 e5 e6
    refine new_known2 o5 l5 u5 o6 l6 u6 ?_
    clear o5 o6
    simp [go_sem] at l5 u5 l6 u6
    simp only [List.drop_succ_cons, List.drop_zero]
    go_wp2_with fail
    apply wp_region_specs (by rfl) [.val _, .val _, .val _, .val _] 4 (by rfl) [11, 12, 13, 14] [] [] (by rfl) (by rfl) (by decide) (by decide +kernel) (fun _ _ _ _ _ h => h)
    case hF => intro x; simp only [over, List.foldl_cons, List.foldl_nil, List.setIfInBounds_toArray, List.set_cons_succ, List.set_cons_zero]; exact rfl
    case hops =>
      refine ⟨?o0, ?o1, ?o2, ?o3, trivial⟩
      case o0 =>
        intro x w1 hH K hK
        obtain ⟨xs, d, rfl⟩ := grow_of_below hH.below
        clear hH
        try simp only [World.grow_drew] at hK ⊢
        try simp only [World.grow_grow] at hK ⊢
        go_simp
        go_wp2_with fail
        exact ⟨_, rfl, rfl, ⟨(by repeat (first | exact below_of_grow _ _ | exact Go.RowKit.Below.refl _ _ | exact below_more _ _ _ _ | (simp only [← Array.append_assoc]; first | exact below_more _ _ _ _ | exact below_same _ _ _ | exact Go.RowKit.Below.refl _ _) | exact below_same _ _ _ | (refine Go.RowKit.Below.alloc ?_ (by first | (simp; done) | (simp; omega)) _) | (refine Go.RowKit.Below.grow ?_ (by first | (simp; done) | (simp; omega)) _ _) | refine Go.RowKit.Below.drew ?_ | refine Go.RowKit.Below.drewN ?_ _ | (refine Go.RowKit.Below.putF ?_ (by first | (simp; done) | omega | (simp; omega)) _) | (refine Go.RowKit.Below.setCell ?_ (by first | (simp; done) | (simp; omega)) _))), (by first | (simp; done) | (simp; omega) | omega)⟩, fun h => by cases h⟩
      case o1 =>
        intro x w1 hH K hK
        obtain ⟨xs, d, rfl⟩ := grow_of_below hH.below
        clear hH
        try simp only [World.grow_drew] at hK ⊢
        try simp only [World.grow_grow] at hK ⊢
        go_simp
        go_wp2_with fail
        exact ⟨_, rfl, rfl, ⟨(by repeat (first | exact below_of_grow _ _ | exact Go.RowKit.Below.refl _ _ | exact below_more _ _ _ _ | (simp only [← Array.append_assoc]; first | exact below_more _ _ _ _ | exact below_same _ _ _ | exact Go.RowKit.Below.refl _ _) | exact below_same _ _ _ | (refine Go.RowKit.Below.alloc ?_ (by first | (simp; done) | (simp; omega)) _) | (refine Go.RowKit.Below.grow ?_ (by first | (simp; done) | (simp; omega)) _ _) | refine Go.RowKit.Below.drew ?_ | refine Go.RowKit.Below.drewN ?_ _ | (refine Go.RowKit.Below.putF ?_ (by first | (simp; done) | omega | (simp; omega)) _) | (refine Go.RowKit.Below.setCell ?_ (by first | (simp; done) | (simp; omega)) _))), (by first | (simp; done) | (simp; omega) | omega)⟩, fun h => by cases h⟩
      case o2 =>
        intro x w1 hH K hK
        have e11 : x 11 = _ := hH.holds 0 (by decide) (by decide +kernel) 11 rfl
        have e12 : x 12 = _ := hH.holds 1 (by decide) (by decide +kernel) 12 rfl
        obtain ⟨xs, d, rfl⟩ := grow_of_below hH.below
        clear hH
        try simp only [World.grow_drew] at hK ⊢
        try simp only [World.grow_grow] at hK ⊢
        simp only [e11, e12] at hK ⊢
        clear e11 e12
        go_simp
        go_wp2_with (refine Gives.use (compare_gives a b ha hb (by simp [go_sem, ha, *]) (by simp [go_sem, hb, *])) ?_; intro ys e)
        exact ⟨_, rfl, rfl, ⟨(by repeat (first | exact below_of_grow _ _ | exact Go.RowKit.Below.refl _ _ | exact below_more _ _ _ _ | (simp only [← Array.append_assoc]; first | exact below_more _ _ _ _ | exact below_same _ _ _ | exact Go.RowKit.Below.refl _ _) | exact below_same _ _ _ | (refine Go.RowKit.Below.alloc ?_ (by first | (simp; done) | (simp; omega)) _) | (refine Go.RowKit.Below.grow ?_ (by first | (simp; done) | (simp; omega)) _ _) | refine Go.RowKit.Below.drew ?_ | refine Go.RowKit.Below.drewN ?_ _ | (refine Go.RowKit.Below.putF ?_ (by first | (simp; done) | omega | (simp; omega)) _) | (refine Go.RowKit.Below.setCell ?_ (by first | (simp; done) | (simp; omega)) _))), (by first | (simp; done) | (simp; omega) | omega)⟩, fun h => by cases h⟩
      case o3 =>
        intro x w1 hH K hK
        have e13 : x 13 = _ := hH.holds 2 (by decide) (by decide +kernel) 13 rfl
        obtain ⟨xs, d, rfl⟩ := grow_of_below hH.below
        clear hH
        try simp only [World.grow_drew] at hK ⊢
        try simp only [World.grow_grow] at hK ⊢
        simp only [e13] at hK ⊢
        clear e13
        go_simp
        go_wp2_with fail
        exact ⟨_, rfl, rfl, ⟨(by repeat (first | exact below_of_grow _ _ | exact Go.RowKit.Below.refl _ _ | exact below_more _ _ _ _ | (simp only [← Array.append_assoc]; first | exact below_more _ _ _ _ | exact below_same _ _ _ | exact Go.RowKit.Below.refl _ _) | exact below_same _ _ _ | (refine Go.RowKit.Below.alloc ?_ (by first | (simp; done) | (simp; omega)) _) | (refine Go.RowKit.Below.grow ?_ (by first | (simp; done) | (simp; omega)) _ _) | refine Go.RowKit.Below.drew ?_ | refine Go.RowKit.Below.drewN ?_ _ | (refine Go.RowKit.Below.putF ?_ (by first | (simp; done) | omega | (simp; omega)) _) | (refine Go.RowKit.Below.setCell ?_ (by first | (simp; done) | (simp; omega)) _))), (by first | (simp; done) | (simp; omega) | omega)⟩, fun h => by cases h⟩
    case hend =>
      intro x w1 hH
      have e11 : x 11 = _ := hH.holds 0 (by decide) trivial 11 rfl
      have e12 : x 12 = _ := hH.holds 1 (by decide) trivial 12 rfl
      have e13 : x 13 = _ := hH.holds 2 (by decide) trivial 13 rfl
      have e14 : x 14 = _ := hH.holds 3 (by decide) trivial 14 rfl
      obtain ⟨xs, d, rfl⟩ := grow_of_below hH.below
      clear hH
      simp only [e11, e12, e13, e14]; clear e11 e12 e13 e14
      simp only [List.drop_succ_cons, List.drop_zero]
      go_wp2_with fail
      go_ret
      exact ⟨congrArg Ending.returned (congrArg Value.bool HL.out), ⟨(by repeat (first | exact below_of_grow _ _ | exact Go.RowKit.Below.refl _ _ | exact below_more _ _ _ _ | (simp only [← Array.append_assoc]; first | exact below_more _ _ _ _ | exact below_same _ _ _ | exact Go.RowKit.Below.refl _ _) | exact below_same _ _ _ | (refine Go.RowKit.Below.alloc ?_ (by first | (simp; done) | (simp; omega)) _) | (refine Go.RowKit.Below.grow ?_ (by first | (simp; done) | (simp; omega)) _ _) | refine Go.RowKit.Below.drew ?_ | refine Go.RowKit.Below.drewN ?_ _ | (refine Go.RowKit.Below.putF ?_ (by first | (simp; done) | omega | (simp; omega)) _) | (refine Go.RowKit.Below.setCell ?_ (by first | (simp; done) | (simp; omega)) _))), (by first | (simp; done) | (simp; omega) | omega)⟩⟩

/-- what tells the order of two entries -/
def entCf (a b : Ent) : Int := if lessL a.k.val b.k.val = true then -1 else 1
set_option maxRecDepth 100000 in
theorem entCmp_gives (a b : Ent) (w : World) : Gives Try.prog 32 #[.agg (entA a), .agg (entA b)] w (.int .i64 (entCf a b)) := by
  unfold entCf
  have hl := keyLess_gives a.k.val b.k.val a.k.len b.k.len
  have HL := Lib.hid hl
  clear hl
  cases hbb : lessL a.k.val b.k.val
  · rw [if_neg (by decide)]
    rw [hbb] at HL
    unfold Gives
    go_enter Try.func32, Try.ntmps32
    go_wp2_with (go_at_call 33; refine Gives.use (HL.out _) ?_; intro xs0 d0)
    go_ret
    exact ⟨rfl, ⟨(by repeat (first | exact below_of_grow _ _ | exact Go.RowKit.Below.refl _ _ | exact below_more _ _ _ _ | (simp only [← Array.append_assoc]; first | exact below_more _ _ _ _ | exact below_same _ _ _ | exact Go.RowKit.Below.refl _ _) | exact below_same _ _ _ | (refine Go.RowKit.Below.alloc ?_ (by first | (simp; done) | (simp; omega)) _) | (refine Go.RowKit.Below.grow ?_ (by first | (simp; done) | (simp; omega)) _ _) | refine Go.RowKit.Below.drew ?_ | refine Go.RowKit.Below.drewN ?_ _ | (refine Go.RowKit.Below.putF ?_ (by first | (simp; done) | omega | (simp; omega)) _) | (refine Go.RowKit.Below.setCell ?_ (by first | (simp; done) | (simp; omega)) _))), (by first | (simp; done) | (simp; omega) | omega)⟩⟩
  · rw [if_pos rfl]
    rw [hbb] at HL
    unfold Gives
    go_enter Try.func32, Try.ntmps32
    go_wp2_with (go_at_call 33; refine Gives.use (HL.out _) ?_; intro xs0 d0)
    go_ret
    exact ⟨rfl, ⟨(by repeat (first | exact below_of_grow _ _ | exact Go.RowKit.Below.refl _ _ | exact below_more _ _ _ _ | (simp only [← Array.append_assoc]; first | exact below_more _ _ _ _ | exact below_same _ _ _ | exact Go.RowKit.Below.refl _ _) | exact below_same _ _ _ | (refine Go.RowKit.Below.alloc ?_ (by first | (simp; done) | (simp; omega)) _) | (refine Go.RowKit.Below.grow ?_ (by first | (simp; done) | (simp; omega)) _ _) | refine Go.RowKit.Below.drew ?_ | refine Go.RowKit.Below.drewN ?_ _ | (refine Go.RowKit.Below.putF ?_ (by first | (simp; done) | omega | (simp; omega)) _) | (refine Go.RowKit.Below.setCell ?_ (by first | (simp; done) | (simp; omega)) _))), (by first | (simp; done) | (simp; omega) | omega)⟩⟩
end Go.Proofs.Ytbflpnkodpeggaa.Dr

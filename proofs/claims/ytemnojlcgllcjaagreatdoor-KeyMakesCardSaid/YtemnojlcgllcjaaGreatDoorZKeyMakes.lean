/- Layer 6's law KeyMakes, for every input: the key of any parts, or what is wrong with them, is the document's, and what its kind doesn't use is left out; the Go function returns true, and each argument reads behind the call as it read before. Condition: the tables that the row lists (tied to the program's text by the card); the proof does not use what they hold. -/
import Derived.Test.YtemnojlcgllcjaaGreatDoorQay
import Derived.Test.YtemnojlcgllcjaaGreatDoorQaw
import Derived.Test.YtemnojlcgllcjaaGreatDoorQat
import Derived.Test.YtemnojlcgllcjaaGreatDoorQax
import Derived.Handy
import Derived.Test.YtemnojlcgllcjaaGreatDoorCards
import Derived.Test.YtemnojlcgllcjaaGreatDoorTie
import Derived.ProofKit
import Derived.LaidMore
import Derived.Lay
import Derived.OpenShut
import Derived.ShutString
namespace Go.Proofs.YtemnojlcgllcjaaGreatDoor
set_option maxRecDepth 100000
open Go.RowKit

theorem spl_nt (n t : List UInt8) (hn : n.length = 12) (ht : t.length = 10) : spl (spl (zeros 25) 3 n) 15 t = zeros 3 ++ n ++ t := by
  have h1 : spl (zeros 25) 3 n = zeros 3 ++ n ++ zeros 10 := by
    unfold spl
    rw [hn, List.take_of_length_le (by simp [zeros, hn])]
    simp [zeros]
  rw [h1]
  unfold spl
  rw [ht, show (zeros 3 ++ n ++ zeros 10).take 15 = zeros 3 ++ n from by rw [List.take_append_of_le_length (by simp [zeros, hn]), List.take_of_length_le (by simp [zeros, hn])], List.drop_of_length_le (by simp [zeros, hn]), List.append_nil, List.take_of_length_le (by simp [zeros, hn, ht])]
/-- the document's key of parts is the key of parts, as the document has it -/
theorem rkOf_key (k p a : Int) (n t : List UInt8) (hn : n.length = 12) (ht : t.length = 10) : rkOf k p a n t = rkey (keyOf k p a n t) := by
  unfold rkOf keyOf
  by_cases h : keyErr k p a n t = 0
  · rw [if_pos h, if_pos h]
    obtain ⟨k1, k6, p0, p4, ha⟩ := keyErr_range h
    obtain ⟨e1, e2, e3, _, _⟩ := made_parts k p a n t hn ht
    have hu := usedAt_le k
    unfold rkey
    rw [show byt (keyMade k p a n t) 0 = byteOf k from e1, show byt (keyMade k p a n t) 1 = byteOf p from e2, show byt (keyMade k p a n t) 2 = _ from e3, byteOf_id (by omega) (by omega), byteOf_id p0 (by omega)]
    have ea : ((if 0 < usedAt k then byteOf a else 0 : UInt8).toNat : Int) = if 0 < usedAt k then a else 0 := by
      by_cases hc : 0 < usedAt k
      · rw [if_pos hc, if_pos hc]; exact byteOf_id (ha hc).1 (by have := (ha hc).2; omega)
      · rw [if_neg hc, if_neg hc]; rfl
    rw [ea]
    rfl
  · rw [if_neg h, if_neg h]; rfl
set_option maxHeartbeats 8000000 in
theorem keyMakes_walk (k p a : Int) (n t : List UInt8) (hn : n.length = 12) (ht : t.length = 10) (w : World) : Gives Tryz.prog 7 #[.int .i64 k, .int .i64 p, .int .i64 a, .agg (row8 n), .agg (row8 t)] w (.bool true) := by
  have HKN := Lib.hid known06_gives
  have hlk : (zeros 3 ++ n ++ t).length = 25 := by simp [zeros, hn, ht]
  have hlo := lawOf_gives (zeros 3 ++ n ++ t) hlk
  rw [show rkey (zeros 3 ++ n ++ t) = rk 0 0 0 (n ++ t) from by unfold rkey; simp [zeros, byt]] at hlo
  rw [← spl_nt n t hn ht] at hlo hlk
  have hro := refOf6_gives k p a n t hn ht
  have hof := keyOf_gives k p a n t hn ht
  rw [rkOf_key k p a n t hn ht] at hro
  have hkl := keyOf_len k p a n t hn ht
  have hk0 : keyErr k p a n t = 0 → keyRight (keyOf k p a n t) = true := fun h => by
    rw [show keyOf k p a n t = keyMade k p a n t from if_pos h]; exact made_right hn ht h
  have hk1 : keyErr k p a n t ≠ 0 → keyOf k p a n t = zeros 25 := fun h => if_neg h
  have hlk2 := lawOf_gives _ hkl
  have hrt := keyRight_gives _ hkl
  generalize keyOf k p a n t = ko at *
  generalize keyErr k p a n t = ke at *
  have HK0 := Lib.hid hk0
  have HK1 := Lib.hid hk1
  have HL2 := Lib.hid hlk2
  have HRT := Lib.hid hrt
  clear hk0 hk1 hlk2 hrt
  have hnt : (n ++ t).length = 22 := by simp [hn, ht]
  obtain ⟨nt, hnte⟩ : ∃ nt, nt = n ++ t := ⟨_, rfl⟩
  rw [← hnte] at hlo hro hnt
  have HLO := Lib.hid hlo
  have HOF := Lib.hid hof
  have HRO := Lib.hid hro
  clear hlo hro hof hnte hlk
  unfold Gives
  go_enter Tryz.func7, Tryz.ntmps7
  go_upto_region 1 with fail
  refine wp_name ?_
  intro W hW
  obtain ⟨q, hq⟩ : ∃ q, q = w.heap.size := ⟨_, rfl⟩
  have c1 : W.cut? q 0 12 = some (row8 n) := by rw [hW, hq]; simp [go_sem, *]
  have c2 : W.cut? (q + 1) 0 10 = some (row8 t) := by rw [hW, hq]; simp [go_sem, *]
  have hbl : Below w.heap.size w W := by rw [hW]; exact (by repeat (first | exact below_of_grow _ _ | exact Below.refl _ _ | exact below_more _ _ _ _ | (simp only [← Array.append_assoc]; first | exact below_more _ _ _ _ | exact below_same _ _ _ | exact Below.refl _ _) | exact below_same _ _ _ | (refine Below.alloc ?_ (by first | (simp; done) | (simp; omega)) _) | (refine Below.grow ?_ (by first | (simp; done) | (simp; omega)) _ _) | refine Below.drew ?_ | refine Below.drewN ?_ _ | (refine Below.putF ?_ (by first | (simp; done) | omega | (simp; omega)) _) | (refine Below.setCell ?_ (by first | (simp; done) | (simp; omega)) _)))
  have hs : W.heap.size = q + 2 := by rw [hW, hq]; simp
  have l1 : q < W.heap.size := by omega
  have l2 : q + 1 < W.heap.size := by omega
  simp only [← hq]
  have HB := Lib.hid (And.intro hbl (And.intro hq hs))
  clear hW hbl hq hs
  go_wp2_with fail
  refine Gives.use (HLO.out _) ?_
  intro xs1 d1
  go_wp2_with fail
  refine Gives.use (HRO.out _) ?_
  intro xs2 d2
  go_upto_region 4 with fail
  refine wp_name ?_
  intro W2 hW2
  have hb2 : Below W.heap.size W W2 := by rw [hW2]; exact (by repeat (first | exact below_of_grow _ _ | exact Below.refl _ _ | exact below_more _ _ _ _ | (simp only [← Array.append_assoc]; first | exact below_more _ _ _ _ | exact below_same _ _ _ | exact Below.refl _ _) | exact below_same _ _ _ | (refine Below.alloc ?_ (by first | (simp; done) | (simp; omega)) _) | (refine Below.grow ?_ (by first | (simp; done) | (simp; omega)) _ _) | refine Below.drew ?_ | refine Below.drewN ?_ _ | (refine Below.putF ?_ (by first | (simp; done) | omega | (simp; omega)) _) | (refine Below.setCell ?_ (by first | (simp; done) | (simp; omega)) _)))
  have d1' := (cut_of_heap (hb2.block q l1) 0 12).trans c1
  have d2' := (cut_of_heap (hb2.block (q + 1) l2) 0 10).trans c2
  have m1 : q < W2.heap.size := Nat.lt_of_lt_of_le l1 hb2.size
  have m2 : q + 1 < W2.heap.size := Nat.lt_of_lt_of_le l2 hb2.size
  obtain ⟨b12, hb12⟩ : ∃ b, b = W.heap.size + xs1.size + 1 + xs2.size := ⟨_, rfl⟩
  have h12 : W2.heap[b12]? = some (.cells (rkey ko) 57) := by
    rw [hW2, heap_al, if_pos (by rw [hb12]; simp [World.grow_size]), splice_full (by rw [rkey_sz hkl]; simp [rk, zeros])]
  have c12 := cut_heap h12 (sz := 25) (rkey_sz hkl)
  have m12 : b12 < W2.heap.size := (Array.getElem?_eq_some_iff.1 h12).1
  simp only [← hb12]
  have HB2 := Lib.hid (And.intro hb2 (And.intro l1 l2))
  clear hW2 hb2 hb12 h12 c1 c2 l1 l2
  go_wp2_with fail
  refine Gives.use (HOF.out _) ?_
  intro xs3 d3
  rcases (show ke = 0 ∨ ke ≠ 0 by omega) with h0 | h0
  · subst h0
    have hr := HK0.out rfl
    rw [hr] at HRT
    clear HK0 HK1 hr HLO HRO HOF
    go_upto_region 7 with fail
    refine wp_name ?_
    intro W3 hW3
    have hb3 : Below W2.heap.size W2 W3 := by rw [hW3]; exact (by repeat (first | exact below_of_grow _ _ | exact Below.refl _ _ | exact below_more _ _ _ _ | (simp only [← Array.append_assoc]; first | exact below_more _ _ _ _ | exact below_same _ _ _ | exact Below.refl _ _) | exact below_same _ _ _ | (refine Below.alloc ?_ (by first | (simp; done) | (simp; omega)) _) | (refine Below.grow ?_ (by first | (simp; done) | (simp; omega)) _ _) | refine Below.drew ?_ | refine Below.drewN ?_ _ | (refine Below.putF ?_ (by first | (simp; done) | omega | (simp; omega)) _) | (refine Below.setCell ?_ (by first | (simp; done) | (simp; omega)) _)))
    obtain ⟨b14, hb14⟩ : ∃ b, b = W2.heap.size + xs3.size := ⟨_, rfl⟩
    have h14 : W3.heap[b14]? = some (.cells (row8 ko) 39) := by rw [hW3, heap_al, if_pos (by rw [hb14]; simp [World.grow_size])]
    have c14 := cut_heap h14 (sz := 25) (by simp [hkl])
    have m14 : b14 < W3.heap.size := (Array.getElem?_eq_some_iff.1 h14).1
    have c12' := (cut_of_heap (hb3.block b12 m12) 0 25).trans c12
    have m12' : b12 < W3.heap.size := Nat.lt_of_lt_of_le m12 hb3.size
    simp only [← hb14]
    have HB3 := Lib.hid hb3
    clear hW3 hb3 hb14 h14 c12 m12 d1' d2' m1 m2
    apply wp_region_specs (by rfl) [.val _, .val _, .val _, .val _, .val _, .val _, .val _, .val _, .val _, .val _, .val _, .val _, .val _, .val _, .val _] 15 (by rfl) [53, 54, 55, 56, 57, 58, 59, 60, 61, 62, 63, 64, 65, 66, 67] [] [] (by rfl) (by rfl) (by decide) (by decide +kernel) (fun _ _ _ _ _ h => h)
    case hF => intro x; simp only [over, List.foldl_cons, List.foldl_nil, List.setIfInBounds_toArray, List.set_cons_succ, List.set_cons_zero]; exact rfl
    case hops =>
      refine ⟨?o0, ?o1, ?o2, ?o3, ?o4, ?o5, ?o6, ?o7, ?o8, ?o9, ?o10, ?o11, ?o12, ?o13, ?o14, trivial⟩
      case o0 =>
        intro x w1 hH K hK
        obtain ⟨xs, d, rfl⟩ := grow_of_below hH.below
        clear hH
        try simp only [World.grow_drew] at hK ⊢
        try simp only [World.grow_grow] at hK ⊢
        go_simp
        go_wp2_with (refine Gives.use (HKN.out _) ?_; intro ys e)
        exact ⟨_, rfl, rfl, (by first | exact below_more _ _ _ _ | exact (by repeat (first | exact below_of_grow _ _ | exact Below.refl _ _ | exact below_more _ _ _ _ | (simp only [← Array.append_assoc]; first | exact below_more _ _ _ _ | exact below_same _ _ _ | exact Below.refl _ _) | exact below_same _ _ _ | (refine Below.alloc ?_ (by first | (simp; done) | (simp; omega)) _) | (refine Below.grow ?_ (by first | (simp; done) | (simp; omega)) _ _) | refine Below.drew ?_ | refine Below.drewN ?_ _ | (refine Below.putF ?_ (by first | (simp; done) | omega | (simp; omega)) _) | (refine Below.setCell ?_ (by first | (simp; done) | (simp; omega)) _)))), fun h => by cases h⟩
      case o1 =>
        intro x w1 hH K hK
        have e53 : x 53 = _ := hH.holds 0 (by decide) (by decide +kernel) 53 rfl
        obtain ⟨xs, d, rfl⟩ := grow_of_below hH.below
        clear hH
        try simp only [World.grow_drew] at hK ⊢
        try simp only [World.grow_grow] at hK ⊢
        simp only [e53] at hK ⊢
        clear e53
        go_simp
        go_wp2_with fail
        exact ⟨_, rfl, rfl, (by first | exact Below.refl _ _ | exact below_same _ _ _ | exact below_more _ _ _ _ | exact below_of_grow _ _), fun h => by cases h⟩
      case o2 =>
        intro x w1 hH K hK
        have e54 : x 54 = _ := hH.holds 1 (by decide) (by decide +kernel) 54 rfl
        obtain ⟨xs, d, rfl⟩ := grow_of_below hH.below
        clear hH
        try simp only [World.grow_drew] at hK ⊢
        try simp only [World.grow_grow] at hK ⊢
        simp only [e54] at hK ⊢
        clear e54
        go_simp
        go_wp2_with fail
        exact ⟨_, rfl, rfl, (by first | exact Below.refl _ _ | exact below_same _ _ _ | exact below_more _ _ _ _ | exact below_of_grow _ _), fun h => by cases h⟩
      case o3 =>
        intro x w1 hH K hK
        have e54 : x 54 = _ := hH.holds 1 (by decide) (by decide +kernel) 54 rfl
        have e55 : x 55 = _ := hH.holds 2 (by decide) (by decide +kernel) 55 rfl
        obtain ⟨xs, d, rfl⟩ := grow_of_below hH.below
        clear hH
        try simp only [World.grow_drew] at hK ⊢
        try simp only [World.grow_grow] at hK ⊢
        simp only [e54, e55] at hK ⊢
        clear e54 e55
        go_simp
        go_wp2_with fail
        exact ⟨_, rfl, rfl, (by first | exact Below.refl _ _ | exact below_same _ _ _ | exact below_more _ _ _ _ | exact below_of_grow _ _), fun h => by cases h⟩
      case o4 =>
        intro x w1 hH K hK
        have e54 : x 54 = _ := hH.holds 1 (by decide) (by decide +kernel) 54 rfl
        have e56 : x 56 = _ := hH.holds 3 (by decide) (by decide +kernel) 56 rfl
        obtain ⟨xs, d, rfl⟩ := grow_of_below hH.below
        clear hH
        try simp only [World.grow_drew] at hK ⊢
        try simp only [World.grow_grow] at hK ⊢
        simp only [e54, e56] at hK ⊢
        clear e54 e56
        go_simp
        go_wp2_with fail
        exact ⟨_, rfl, rfl, (by first | exact Below.refl _ _ | exact below_same _ _ _ | exact below_more _ _ _ _ | exact below_of_grow _ _), fun h => by cases h⟩
      case o5 =>
        intro x w1 hH K hK
        have e57 : x 57 = _ := hH.holds 4 (by decide) (by decide +kernel) 57 rfl
        obtain ⟨xs, d, rfl⟩ := grow_of_below hH.below
        clear hH
        try simp only [World.grow_drew] at hK ⊢
        try simp only [World.grow_grow] at hK ⊢
        simp only [e57] at hK ⊢
        clear e57
        go_simp
        go_wp2_with fail
        exact ⟨_, rfl, rfl, (by first | exact Below.refl _ _ | exact below_same _ _ _ | exact below_more _ _ _ _ | exact below_of_grow _ _), fun h => by cases h⟩
      case o6 =>
        intro x w1 hH K hK
        have e58 : x 58 = _ := hH.holds 5 (by decide) (by decide +kernel) 58 rfl
        obtain ⟨xs, d, rfl⟩ := grow_of_below hH.below
        clear hH
        try simp only [World.grow_drew] at hK ⊢
        try simp only [World.grow_grow] at hK ⊢
        simp only [e58] at hK ⊢
        clear e58
        go_simp
        go_wp2_with fail
        exact ⟨_, rfl, rfl, (by first | exact Below.refl _ _ | exact below_same _ _ _ | exact below_more _ _ _ _ | exact below_of_grow _ _), fun h => by cases h⟩
      case o7 =>
        intro x w1 hH K hK
        have e58 : x 58 = _ := hH.holds 5 (by decide) (by decide +kernel) 58 rfl
        have e59 : x 59 = _ := hH.holds 6 (by decide) (by decide +kernel) 59 rfl
        obtain ⟨xs, d, rfl⟩ := grow_of_below hH.below
        clear hH
        try simp only [World.grow_drew] at hK ⊢
        try simp only [World.grow_grow] at hK ⊢
        simp only [e58, e59] at hK ⊢
        clear e58 e59
        go_simp
        go_wp2_with (refine Gives.use (HL2.out _) ?_; intro ys e)
        exact ⟨_, rfl, rfl, (by first | exact below_more _ _ _ _ | exact (by repeat (first | exact below_of_grow _ _ | exact Below.refl _ _ | exact below_more _ _ _ _ | (simp only [← Array.append_assoc]; first | exact below_more _ _ _ _ | exact below_same _ _ _ | exact Below.refl _ _) | exact below_same _ _ _ | (refine Below.alloc ?_ (by first | (simp; done) | (simp; omega)) _) | (refine Below.grow ?_ (by first | (simp; done) | (simp; omega)) _ _) | refine Below.drew ?_ | refine Below.drewN ?_ _ | (refine Below.putF ?_ (by first | (simp; done) | omega | (simp; omega)) _) | (refine Below.setCell ?_ (by first | (simp; done) | (simp; omega)) _)))), fun h => by cases h⟩
      case o8 =>
        intro x w1 hH K hK
        have e58 : x 58 = _ := hH.holds 5 (by decide) (by decide +kernel) 58 rfl
        obtain ⟨xs, d, rfl⟩ := grow_of_below hH.below
        clear hH
        try simp only [World.grow_drew] at hK ⊢
        try simp only [World.grow_grow] at hK ⊢
        simp only [e58] at hK ⊢
        clear e58
        go_simp
        go_wp2_with fail
        exact ⟨_, rfl, rfl, (by first | exact Below.refl _ _ | exact below_same _ _ _ | exact below_more _ _ _ _ | exact below_of_grow _ _), fun h => by cases h⟩
      case o9 =>
        intro x w1 hH K hK
        have e58 : x 58 = _ := hH.holds 5 (by decide) (by decide +kernel) 58 rfl
        have e60 : x 60 = _ := hH.holds 7 (by decide) (by decide +kernel) 60 rfl
        have e61 : x 61 = _ := hH.holds 8 (by decide) (by decide +kernel) 61 rfl
        obtain ⟨xs, d, rfl⟩ := grow_of_below hH.below
        clear hH
        try simp only [World.grow_drew] at hK ⊢
        try simp only [World.grow_grow] at hK ⊢
        simp only [e58, e60, e61] at hK ⊢
        clear e58 e60 e61
        go_simp
        go_wp2_with fail
        exact ⟨_, rfl, rfl, (by first | exact Below.refl _ _ | exact below_same _ _ _ | exact below_more _ _ _ _ | exact below_of_grow _ _), fun h => by cases h⟩
      case o10 =>
        intro x w1 hH K hK
        have e58 : x 58 = _ := hH.holds 5 (by decide) (by decide +kernel) 58 rfl
        have e62 : x 62 = _ := hH.holds 9 (by decide) (by decide +kernel) 62 rfl
        obtain ⟨xs, d, rfl⟩ := grow_of_below hH.below
        clear hH
        try simp only [World.grow_drew] at hK ⊢
        try simp only [World.grow_grow] at hK ⊢
        simp only [e58, e62] at hK ⊢
        clear e58 e62
        go_simp
        go_wp2_with fail
        exact ⟨_, rfl, rfl, (by first | exact Below.refl _ _ | exact below_same _ _ _ | exact below_more _ _ _ _ | exact below_of_grow _ _), fun h => by cases h⟩
      case o11 =>
        intro x w1 hH K hK
        have e63 : x 63 = _ := hH.holds 10 (by decide) (by decide +kernel) 63 rfl
        obtain ⟨xs, d, rfl⟩ := grow_of_below hH.below
        clear hH
        try simp only [World.grow_drew] at hK ⊢
        try simp only [World.grow_grow] at hK ⊢
        simp only [e63] at hK ⊢
        clear e63
        go_simp
        go_wp2_with fail
        exact ⟨_, rfl, rfl, (by first | exact Below.refl _ _ | exact below_same _ _ _ | exact below_more _ _ _ _ | exact below_of_grow _ _), fun h => by cases h⟩
      case o12 =>
        intro x w1 hH K hK
        have e64 : x 64 = _ := hH.holds 11 (by decide) (by decide +kernel) 64 rfl
        obtain ⟨xs, d, rfl⟩ := grow_of_below hH.below
        clear hH
        try simp only [World.grow_drew] at hK ⊢
        try simp only [World.grow_grow] at hK ⊢
        simp only [e64] at hK ⊢
        clear e64
        go_simp
        go_wp2_with fail
        exact ⟨_, rfl, rfl, (by first | exact Below.refl _ _ | exact below_same _ _ _ | exact below_more _ _ _ _ | exact below_of_grow _ _), fun h => by cases h⟩
      case o13 =>
        intro x w1 hH K hK
        have e64 : x 64 = _ := hH.holds 11 (by decide) (by decide +kernel) 64 rfl
        have e65 : x 65 = _ := hH.holds 12 (by decide) (by decide +kernel) 65 rfl
        obtain ⟨xs, d, rfl⟩ := grow_of_below hH.below
        clear hH
        try simp only [World.grow_drew] at hK ⊢
        try simp only [World.grow_grow] at hK ⊢
        simp only [e64, e65] at hK ⊢
        clear e64 e65
        go_simp
        go_wp2_with (refine Gives.use (HRT.out _) ?_; intro ys e)
        exact ⟨_, rfl, rfl, (by first | exact below_more _ _ _ _ | exact (by repeat (first | exact below_of_grow _ _ | exact Below.refl _ _ | exact below_more _ _ _ _ | (simp only [← Array.append_assoc]; first | exact below_more _ _ _ _ | exact below_same _ _ _ | exact Below.refl _ _) | exact below_same _ _ _ | (refine Below.alloc ?_ (by first | (simp; done) | (simp; omega)) _) | (refine Below.grow ?_ (by first | (simp; done) | (simp; omega)) _ _) | refine Below.drew ?_ | refine Below.drewN ?_ _ | (refine Below.putF ?_ (by first | (simp; done) | omega | (simp; omega)) _) | (refine Below.setCell ?_ (by first | (simp; done) | (simp; omega)) _)))), fun h => by cases h⟩
      case o14 =>
        intro x w1 hH K hK
        have e64 : x 64 = _ := hH.holds 11 (by decide) (by decide +kernel) 64 rfl
        have e66 : x 66 = _ := hH.holds 13 (by decide) (by decide +kernel) 66 rfl
        obtain ⟨xs, d, rfl⟩ := grow_of_below hH.below
        clear hH
        try simp only [World.grow_drew] at hK ⊢
        try simp only [World.grow_grow] at hK ⊢
        simp only [e64, e66] at hK ⊢
        clear e64 e66
        go_simp
        go_wp2_with fail
        exact ⟨_, rfl, rfl, (by first | exact Below.refl _ _ | exact below_same _ _ _ | exact below_more _ _ _ _ | exact below_of_grow _ _), fun h => by cases h⟩
    case hend =>
      intro x w1 hH
      have e53 : x 53 = _ := hH.holds 0 (by decide) trivial 53 rfl
      have e54 : x 54 = _ := hH.holds 1 (by decide) trivial 54 rfl
      have e55 : x 55 = _ := hH.holds 2 (by decide) trivial 55 rfl
      have e56 : x 56 = _ := hH.holds 3 (by decide) trivial 56 rfl
      have e57 : x 57 = _ := hH.holds 4 (by decide) trivial 57 rfl
      have e58 : x 58 = _ := hH.holds 5 (by decide) trivial 58 rfl
      have e59 : x 59 = _ := hH.holds 6 (by decide) trivial 59 rfl
      have e60 : x 60 = _ := hH.holds 7 (by decide) trivial 60 rfl
      have e61 : x 61 = _ := hH.holds 8 (by decide) trivial 61 rfl
      have e62 : x 62 = _ := hH.holds 9 (by decide) trivial 62 rfl
      have e63 : x 63 = _ := hH.holds 10 (by decide) trivial 63 rfl
      have e64 : x 64 = _ := hH.holds 11 (by decide) trivial 64 rfl
      have e65 : x 65 = _ := hH.holds 12 (by decide) trivial 65 rfl
      have e66 : x 66 = _ := hH.holds 13 (by decide) trivial 66 rfl
      have e67 : x 67 = _ := hH.holds 14 (by decide) trivial 67 rfl
      obtain ⟨xs, d, rfl⟩ := grow_of_below hH.below
      clear hH
      simp only [e53, e54, e55, e56, e57, e58, e59, e60, e61, e62, e63, e64, e65, e66, e67]; clear e53 e54 e55 e56 e57 e58 e59 e60 e61 e62 e63 e64 e65 e66 e67
      simp only [List.drop_succ_cons, List.drop_zero]
      go_wp2_with fail
      go_ret
      refine ⟨rfl, ?_⟩
      have b3 : Below W2.heap.size W2 ((W3.drew).grow xs d) := (HB3.out.drew).grow (HB3.out.size) _ _
      exact HB.out.1.trans ((HB2.out.1.trans (b3.mono HB2.out.1.size)).mono (by have := HB.out.2; omega))
  · have hz := HK1.out h0
    subst hz
    have hne : (ke != 0) = true := by simpa using h0
    have hne2 : (ke == 0) = false := by simpa using h0
    clear HK0 HK1 h0 HLO HRO HOF HL2 HRT
    go_wp2_with fail
    refine Gives.use (HKN.out _) ?_
    intro xs4 d4
    go_wp2_with fail
    go_ret
    refine ⟨rfl, ?_⟩
    have b3 : Below W2.heap.size W2 (((W2.grow xs3 d3).alloc (.cells (row8 (zeros 25)) 39)).grow xs4 d4) := (by repeat (first | exact below_of_grow _ _ | exact Below.refl _ _ | exact below_more _ _ _ _ | (simp only [← Array.append_assoc]; first | exact below_more _ _ _ _ | exact below_same _ _ _ | exact Below.refl _ _) | exact below_same _ _ _ | (refine Below.alloc ?_ (by first | (simp; done) | (simp; omega)) _) | (refine Below.grow ?_ (by first | (simp; done) | (simp; omega)) _ _) | refine Below.drew ?_ | refine Below.drewN ?_ _ | (refine Below.putF ?_ (by first | (simp; done) | omega | (simp; omega)) _) | (refine Below.setCell ?_ (by first | (simp; done) | (simp; omega)) _)))
    exact HB.out.1.trans ((HB2.out.1.trans (b3.mono HB2.out.1.size)).mono (by have := HB.out.2; omega))
end Go.Proofs.YtemnojlcgllcjaaGreatDoor
namespace Go.Proofs.YtemnojlcgllcjaaGreatDoor
set_option maxRecDepth 100000
open Go.RowKit

theorem keyMakes_law (w : World) (v0 v1 v2 v3 v4 : Value) (h0 : Reads Tryz.prog w 3 v0) (h1 : Reads Tryz.prog w 3 v1) (h2 : Reads Tryz.prog w 3 v2) (h3 : Reads Tryz.prog w 33 v3) (h4 : Reads Tryz.prog w 37 v4) : Gives Tryz.prog 7 #[v0, v1, v2, v3, v4] w (.bool true) := by
  obtain ⟨a, rfl, _⟩ := h0.int Tryz.underlying3
  obtain ⟨b, rfl, _⟩ := h1.int Tryz.underlying3
  obtain ⟨c, rfl, _⟩ := h2.int Tryz.underlying3
  obtain ⟨n, hn, rfl⟩ := nameRd h3
  obtain ⟨t, ht, rfl⟩ := tagRd h4
  exact keyMakes_walk a b c n t hn ht w

namespace keyMakes
open Go.ChangeShapes Go.WideShapes Go.ChangeAt Go.RowKit
open Go.ChangeMaps (open_string shut_string)
theorem own : ownKnob Tryz.prog.godebug = none := by kernel_rfl
theorem laidOut : laidOutB Tryz.prog = true := by kernel_rfl
/-- a world in which the listed variables hold what the row says -/
noncomputable def laidW (os : Os) : World := World.laidAll Tryz.prog os Rows.keyMakesRow.laid
set_option maxRecDepth 100000 in
theorem door_met (os : Os) (args : Array Value) : laidMetH Tryz.prog Rows.keyMakesRow.laid ((laidW os).forCall (fun _ _ => 0) ⟨#[], args, []⟩).memory := by
  rw [MakeChecks.laidMetH_plain _ _ _ (by kernel_rfl)]
  exact laidMet_laidAll args (by kernel_rfl) (by kernel_rfl)
set_option maxRecDepth 100000 in
theorem lifted (os : Os) (started : os.Started) (H : Type) (enc : TypeId × Value → H) :
    ReturnsInHanded {} Tryz.checked os 7 .any (fun w args => (Rows.keyMakesSpec.pre enc Tryz.prog Tryz.f7 Rows.keyMakesRow.domain false w args ∧ laidMetH Tryz.prog Rows.keyMakesRow.laid w) ∧ sizedMet enc Tryz.prog Tryz.f7 (OpenSpec.ofChange Rows.keyMakesSpec) false w args) (Rows.keyMakesSpec.post enc Tryz.prog Tryz.f7 false true false false) := by
  refine returnsInHanded_of_change_and (C := Tryz.checked) (X := fun w _ => laidMetH Tryz.prog Rows.keyMakesRow.laid w) (fun _ _ _ hh h => h.of_heap hh) own started (by kernel_rfl) Tryz.func7
    (ChangeSpec.witness_shaped (enc := enc) (C := Tryz.checked) (os := os) (X := fun w _ => laidMetH Tryz.prog Rows.keyMakesRow.laid w) false (laidW os) #[.int .i64 0, .int .i64 0, .int .i64 0, .agg #[.int .u8 0, .int .u8 0, .int .u8 0, .int .u8 0, .int .u8 0, .int .u8 0, .int .u8 0, .int .u8 0, .int .u8 0, .int .u8 0, .int .u8 0, .int .u8 0], .agg #[.int .u8 0, .int .u8 0, .int .u8 0, .int .u8 0, .int .u8 0, .int .u8 0, .int .u8 0, .int .u8 0, .int .u8 0, .int .u8 0]] 8 (World.laidAll_os _ _ _) (World.shaped_of_ZipB (by kernel_rfl) (by kernel_rfl)) (by kernel_rfl) (by kernel_rfl) (by kernel_rfl) (door_met os _)) ?_
  intro W base args ds gs before hval0 hW _ _ _ _
  have hval : ∀ (j : Nat) t v, Tryz.f7.params[j]? = some t → args[j]? = some v → Value.okWide Tryz.prog W .any base t v := hval0
  have hW' := hW
  obtain ⟨p, q, hA0, hV, rfl, hfz, hnd⟩ := hW
  have hA : DataW.TrodAll enc Tryz.prog W 0 (fun _ => true) true Tryz.f7.params.toList args.toList ds p := hA0
  rw [Tryz.params7] at hA hval
  obtain ⟨v0, vs0, d0, ds0, p0, q0, hargs, rfl, rfl, h0, r0⟩ := trodAll_cons hA
  obtain ⟨v1, vs1, d1, ds1, p1, q1, rfl, rfl, rfl, h1, r1⟩ := trodAll_cons r0
  obtain ⟨v2, vs2, d2, ds2, p2, q2, rfl, rfl, rfl, h2, r2⟩ := trodAll_cons r1
  obtain ⟨v3, vs3, d3, ds3, p3, q3, rfl, rfl, rfl, h3, r3⟩ := trodAll_cons r2
  obtain ⟨v4, vs4, d4, ds4, p4, q4, rfl, rfl, rfl, h4, r4⟩ := trodAll_cons r3
  obtain ⟨rfl, rfl, rfl⟩ := trodAll_nil r4
  obtain rfl : args = #[v0, v1, v2, v3, v4] := by cases args; simp_all
  obtain ⟨rfl, rfl⟩ := trodVars_none hV
  have lt0 : ∀ x ∈ p0, x.block < W.heap.size := by obtain ⟨m, hm⟩ := h0; exact DataW.trod_lt m _ _ _ hm
  have lt1 : ∀ x ∈ p1, x.block < W.heap.size := by obtain ⟨m, hm⟩ := h1; exact DataW.trod_lt m _ _ _ hm
  have lt2 : ∀ x ∈ p2, x.block < W.heap.size := by obtain ⟨m, hm⟩ := h2; exact DataW.trod_lt m _ _ _ hm
  have lt3 : ∀ x ∈ p3, x.block < W.heap.size := by obtain ⟨m, hm⟩ := h3; exact DataW.trod_lt m _ _ _ hm
  have lt4 : ∀ x ∈ p4, x.block < W.heap.size := by obtain ⟨m, hm⟩ := h4; exact DataW.trod_lt m _ _ _ hm
  clear hA0 hval0
  refine Calls.mono (keyMakes_law W v0 v1 v2 v3 v4 ⟨⟨_, hval 0 3 v0 rfl rfl⟩, H, enc, _, _, h0⟩ ⟨⟨_, hval 1 3 v1 rfl rfl⟩, H, enc, _, _, h1⟩ ⟨⟨_, hval 2 3 v2 rfl rfl⟩, H, enc, _, _, h2⟩ ⟨⟨_, hval 3 33 v3 rfl rfl⟩, H, enc, _, _, h3⟩ ⟨⟨_, hval 4 37 v4 rfl rfl⟩, H, enc, _, _, h4⟩) fun e W' ⟨he, bel⟩ => ?_
  subst he
  exact ⟨_, rfl, _, _, _, [], _, [], hW', trodAll_mk1 (shut_bool Tryz.underlying4 _), (trodAll_cons_mk (Below.trod laidOut (by kernel_rfl) (of_decide_eq_true (by kernel_rfl)) h0 bel lt0) (trodAll_cons_mk (Below.trod laidOut (by kernel_rfl) (of_decide_eq_true (by kernel_rfl)) h1 bel lt1) (trodAll_cons_mk (Below.trod laidOut (by kernel_rfl) (of_decide_eq_true (by kernel_rfl)) h2 bel lt2) (trodAll_cons_mk (Below.trod laidOut (by kernel_rfl) (of_decide_eq_true (by kernel_rfl)) h3 bel lt3) (trodAll_cons_mk (Below.trod laidOut (by kernel_rfl) (of_decide_eq_true (by kernel_rfl)) h4 bel lt4) trodAll_mk0))))), rfl, bel.frame _, fun h => by cases h⟩
theorem fact0 : (Rows.keyMakesRow.inPlace == Program.inPlace Tryz.pinned.checked.prog 7) = true := by kernel_rfl
theorem fact1 : (Rows.keyMakesRow.unfollowed == Program.unfollowed Tryz.pinned.checked.prog 7) = true := by kernel_rfl
theorem fact2 : (Rows.keyMakesRow.recurses == Program.recurses Tryz.pinned.checked.prog 7) = true := by kernel_rfl
theorem fact3 : (Rows.keyMakesRow.named == Program.varsNamed Tryz.pinned.checked.prog 7) = true := by kernel_rfl
theorem closed : joinedFacts Tryz.pinned.checked.prog 7 Tryz.f7 Rows.keyMakesSpec Rows.keyMakesRow = true := by
  unfold joinedFacts
  rw [fact0, fact1, fact2, fact3]
  refine Eq.trans (b := true) ?_ rfl
  kernel_rfl
theorem said : Rows.KeyMakesSaid :=
  OpenClaim.holds_of_wide 7 Tryz.f7 rfl rfl rfl rfl rfl rfl rfl ⟨rfl, rfl, rfl, rfl, rfl⟩ rfl rfl rfl rfl rfl (by kernel_rfl) Tryz.func7 closed
    (of_decide_eq_true (by kernel_rfl)) (by unfold Func.isWrapper; first | (rw [if_pos (by decide +kernel)]; kernel_rfl) | (rw [if_neg (by decide +kernel)]; exact ⟨rfl, rfl⟩))
    (fun os started H enc _ => lifted os started H enc)
/-- no parameter wants a stand-in; the program's own looks are off -/
theorem plain (f : FuncId) (fn : Func) (hf : Tryz.pinned.checked.prog.funcNamed "vulgate/vulgatelaw06.KeyMakes" = some f) (hfn : Tryz.pinned.checked.prog.funcs[f]? = some fn) :
    true = Tryz.pinned.checked.prog.looks [] ∧ ∀ (j : Nat) t, fn.params[j]? = some t → Tryz.pinned.checked.prog.wantsStandIn t = false := by
  obtain rfl : f = 7 := Option.some.inj ((show Tryz.prog.funcNamed "vulgate/vulgatelaw06.KeyMakes" = some 7 by kernel_rfl).symm.trans hf) |>.symm
  obtain rfl : fn = Tryz.f7 := (Option.some.inj (Tryz.func7.symm.trans hfn)).symm
  refine ⟨by kernel_rfl, fun j t ht => ?_⟩
  rw [Tryz.params7] at ht
  have hm : t ∈ [3, 3, 3, 33, 37] := by simpa using Array.mem_of_getElem? ht
  have hall : ([3, 3, 3, 33, 37].all fun u => !Tryz.prog.wantsStandIn u) = true := by kernel_rfl
  exact (show Tryz.prog.wantsStandIn t = false by simpa using List.all_eq_true.1 hall t hm)
theorem proved : Rows.KeyMakesCardSaid :=
  Claim7.holds_tied_plain_at .later [] _ _ _ _ said (fun _ h => by cases h) (by kernel_rfl) (fun _ h => by cases h) keyMakes_row_tie rfl ⟨rfl, rfl⟩ (by kernel_rfl) rfl plain (by kernel_rfl)
#print axioms proved
end keyMakes
end Go.Proofs.YtemnojlcgllcjaaGreatDoor

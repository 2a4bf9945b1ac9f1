/- The document's text of a key. -/
import Derived.Test.YtemnojlcgllcjaaGreatDoorQbd
import Derived.Test.YtemnojlcgllcjaaGreatDoorQaw
import Derived.BigRegion
namespace Go.Proofs.YtemnojlcgllcjaaGreatDoor
set_option maxRecDepth 100000
open Go.RowKit

theorem slash : (ByteArray.mk #[47] : ByteArray) = bs [47] := rfl
theorem refOf_ok {t : List UInt8} (ht : t.length = 10) : OkT (refOf t).1 := by
  unfold refOf
  split
  · exact ⟨by simp, by simp, by simp⟩
  · split
    · exact split_ok ht
    · exact ⟨by simp, by simp, by simp⟩
theorem tag_text {t : List UInt8} (ht : t.length = 10) (hr : tagRight t = true) : refText (refOf t).1 = tagText t := by
  have h2 : (refOf t).2 = true := (refOf_right ht).trans hr
  unfold tagText
  rw [if_pos hr]
  by_cases hz : t = zeros 10
  · subst hz; decide +kernel
  · unfold refOf at h2 ⊢
    by_cases h0 : (splitT t).1 = []
    · rw [if_pos h0] at h2
      have hs : splitT t = ([], [], []) := of_decide_eq_true h2
      exact absurd (by rw [← pad_split ht, hs]; rfl) hz
    · rw [if_neg h0] at h2 ⊢
      by_cases hq : refTag (refText (splitT t)) = some (splitT t)
      · rw [if_pos hq]
        unfold refText tagPlain
        rw [if_neg h0, if_neg hz]; rfl
      · rw [if_neg hq] at h2; cases h2
set_option maxHeartbeats 20000000 in
theorem refText6_1 (k : List UInt8) (hk : k.length = 25) (hk0 : byt k 0 = 1) (hr : keyRight k = true) (w : World) : Gives Tryz.prog 51 #[.agg (rkey k)] w (.string (bs (keyText k))) := by
  have hp1 : (byt k 1).toNat < 100 := (k_le100 hr).1
  have htx : keyText k = Lib.join [[112], Lib.decDigits (byt k 1).toNat] [47] := by
    unfold keyText
    rw [if_pos hr]
    unfold keyParts kKind kProj kAt kName kTag
    rw [hk0]
    try rw [take_two]
    rfl
  rw [htx]
  have HU := Lib.hid (show ∀ w, Gives Tryz.prog 89 #[.int .i64 1] w (.tuple #[.int .i64 0, .bool false, .bool false]) from refUses_gives 1)
  have HP := Lib.hid (digits_gives _ hp1)
  have h01 : ((byt k 0).toNat : Int) = 1 := by rw [hk0]; rfl
  have hz := rkey_sz hk
  clear hr htx hk0
  unfold Gives
  go_enter Tryz.func51, Tryz.ntmps51
  go_upto_region 1 with fail
  refine wp_name ?_
  intro W hW
  obtain ⟨q, hq⟩ : ∃ q, q = w.heap.size := ⟨_, rfl⟩
  have hbl : Below w.heap.size w W := by rw [hW]; exact (by repeat (first | exact below_of_grow _ _ | exact Below.refl _ _ | exact below_more _ _ _ _ | (simp only [← Array.append_assoc]; first | exact below_more _ _ _ _ | exact below_same _ _ _ | exact Below.refl _ _) | exact below_same _ _ _ | (refine Below.alloc ?_ (by first | (simp; done) | (simp; omega)) _) | (refine Below.grow ?_ (by first | (simp; done) | (simp; omega)) _ _) | refine Below.drew ?_ | refine Below.drewN ?_ _ | (refine Below.putF ?_ (by first | (simp; done) | omega | (simp; omega)) _) | (refine Below.setCell ?_ (by first | (simp; done) | (simp; omega)) _)))
  have hkk : W.heap[q]? = some (.cells (rkey k) 57) := by rw [hW, heap_al, if_pos hq]
  have lq : q < W.heap.size := (Array.getElem?_eq_some_iff.1 hkk).1
  have a0 : W.cell? ⟨q, 0, none⟩ = some (.int .i64 1) := (cellsK hkk 0).1.trans ((rk_0 _ _ _ _).trans (by rw [h01]))
  have a1 : W.cell? ⟨q, 1, none⟩ = some (.int .i64 ((byt k 1).toNat : Int)) := (cellsK hkk 1).1.trans (rk_1 _ _ _ _)
  have a2 : W.cell? ⟨q, 2, none⟩ = some (.int .i64 ((byt k 2).toNat : Int)) := (cellsK hkk 2).1.trans (rk_2 _ _ _ _)
  have a3 : W.cut? q 3 12 = some (row8 ((k.take 15).drop 3)) := by
    have := cut_sub (cut_heap hkk (sz := 25) hz) (i := 3) (m := 12) (by decide)
    rw [Nat.zero_add] at this
    rw [this]
    unfold rkey
    rw [rk_extract _ _ _ _ _ _ (by decide)]
    simp [List.drop_take]
  have a4 : W.cut? q 15 10 = some (row8 (k.drop 15)) := by
    have := cut_sub (cut_heap hkk (sz := 25) hz) (i := 15) (m := 10) (by decide)
    rw [Nat.zero_add] at this
    rw [this]
    unfold rkey
    rw [rk_extract _ _ _ _ _ _ (by decide), List.take_of_length_le (by simp; omega)]
    simp
  simp only [← hq]
  have HB := Lib.hid (And.intro hbl hq)
  clear hW hbl hkk hz h01 hq
  go_wp2_with fail
  refine Gives.use (HU.out _) ?_
  intro xs1 d1
  have s1 : ¬ 9223372036854775807 < (({ data := #[112, 103, 108, 98, 115, 116] } : ByteArray).extract 0 1).size + (ByteArray.mk #[47]).size := by decide
  have s2 : ¬ 9223372036854775807 < (({ data := #[112, 103, 108, 98, 115, 116] } : ByteArray).extract 0 1 ++ ByteArray.mk #[47]).size + (bs (Lib.decDigits (byt k 1).toNat)).size := by
    have h1 := dec_len _ hp1
    rw [bs_size]
    have : (({ data := #[112, 103, 108, 98, 115, 116] } : ByteArray).extract 0 1 ++ ByteArray.mk #[47]).size = 2 := by decide
    omega
  go_upto_region 2 with fail
  apply wp_region_specs (by rfl) [.val _, .val _, .val _, .val _, .val _, .val _, .val _, .val _, .val _, .val _, .val _] 11 (by rfl) [16, 17, 18, 19, 20, 21, 22, 23, 24, 25, 26] [] [] (by rfl) (by rfl) (by decide) (by decide +kernel) (fun _ _ _ _ _ h => h)
  case hF => intro x; simp only [over, List.foldl_cons, List.foldl_nil, List.setIfInBounds_toArray, List.set_cons_succ, List.set_cons_zero]; exact rfl
  case hops =>
    refine ⟨?o0, ?o1, ?o2, ?o3, ?o4, ?o5, ?o6, ?o7, ?o8, ?o9, ?o10, trivial⟩
    case o0 =>
      intro x w1 hH K hK
      obtain ⟨xs, d, rfl⟩ := grow_of_below hH.below
      clear hH
      try simp only [World.grow_drew] at hK ⊢
      try simp only [World.grow_grow] at hK ⊢
      go_simp
      go_wp2_with fail
      exact ⟨_, rfl, rfl, (by repeat (first | exact below_of_grow _ _ | exact Below.refl _ _ | exact below_more _ _ _ _ | (simp only [← Array.append_assoc]; first | exact below_more _ _ _ _ | exact below_same _ _ _ | exact Below.refl _ _) | exact below_same _ _ _ | (refine Below.alloc ?_ (by first | (simp; done) | (simp; omega)) _) | (refine Below.grow ?_ (by first | (simp; done) | (simp; omega)) _ _) | refine Below.drew ?_ | refine Below.drewN ?_ _ | (refine Below.putF ?_ (by first | (simp; done) | omega | (simp; omega)) _) | (refine Below.setCell ?_ (by first | (simp; done) | (simp; omega)) _))), fun h => by cases h⟩
    case o1 =>
      intro x w1 hH K hK
      have e16 : x 16 = _ := hH.holds 0 (by decide) (by decide +kernel) 16 rfl
      obtain ⟨xs, d, rfl⟩ := grow_of_below hH.below
      clear hH
      try simp only [World.grow_drew] at hK ⊢
      try simp only [World.grow_grow] at hK ⊢
      simp only [e16] at hK ⊢
      clear e16
      go_simp
      go_wp2_with fail
      exact ⟨_, rfl, rfl, (by repeat (first | exact below_of_grow _ _ | exact Below.refl _ _ | exact below_more _ _ _ _ | (simp only [← Array.append_assoc]; first | exact below_more _ _ _ _ | exact below_same _ _ _ | exact Below.refl _ _) | exact below_same _ _ _ | (refine Below.alloc ?_ (by first | (simp; done) | (simp; omega)) _) | (refine Below.grow ?_ (by first | (simp; done) | (simp; omega)) _ _) | refine Below.drew ?_ | refine Below.drewN ?_ _ | (refine Below.putF ?_ (by first | (simp; done) | omega | (simp; omega)) _) | (refine Below.setCell ?_ (by first | (simp; done) | (simp; omega)) _))), fun h => by cases h⟩
    case o2 =>
      intro x w1 hH K hK
      have e17 : x 17 = _ := hH.holds 1 (by decide) (by decide +kernel) 17 rfl
      obtain ⟨xs, d, rfl⟩ := grow_of_below hH.below
      clear hH
      try simp only [World.grow_drew] at hK ⊢
      try simp only [World.grow_grow] at hK ⊢
      simp only [e17] at hK ⊢
      clear e17
      go_simp
      go_wp2_with fail
      exact ⟨_, rfl, rfl, (by repeat (first | exact below_of_grow _ _ | exact Below.refl _ _ | exact below_more _ _ _ _ | (simp only [← Array.append_assoc]; first | exact below_more _ _ _ _ | exact below_same _ _ _ | exact Below.refl _ _) | exact below_same _ _ _ | (refine Below.alloc ?_ (by first | (simp; done) | (simp; omega)) _) | (refine Below.grow ?_ (by first | (simp; done) | (simp; omega)) _ _) | refine Below.drew ?_ | refine Below.drewN ?_ _ | (refine Below.putF ?_ (by first | (simp; done) | omega | (simp; omega)) _) | (refine Below.setCell ?_ (by first | (simp; done) | (simp; omega)) _))), fun h => by cases h⟩
    case o3 =>
      intro x w1 hH K hK
      obtain ⟨xs, d, rfl⟩ := grow_of_below hH.below
      clear hH
      try simp only [World.grow_drew] at hK ⊢
      try simp only [World.grow_grow] at hK ⊢
      go_simp
      go_wp2_with fail
      exact ⟨_, rfl, rfl, (by repeat (first | exact below_of_grow _ _ | exact Below.refl _ _ | exact below_more _ _ _ _ | (simp only [← Array.append_assoc]; first | exact below_more _ _ _ _ | exact below_same _ _ _ | exact Below.refl _ _) | exact below_same _ _ _ | (refine Below.alloc ?_ (by first | (simp; done) | (simp; omega)) _) | (refine Below.grow ?_ (by first | (simp; done) | (simp; omega)) _ _) | refine Below.drew ?_ | refine Below.drewN ?_ _ | (refine Below.putF ?_ (by first | (simp; done) | omega | (simp; omega)) _) | (refine Below.setCell ?_ (by first | (simp; done) | (simp; omega)) _))), fun h => by cases h⟩
    case o4 =>
      intro x w1 hH K hK
      have e19 : x 19 = _ := hH.holds 3 (by decide) (by decide +kernel) 19 rfl
      obtain ⟨xs, d, rfl⟩ := grow_of_below hH.below
      clear hH
      try simp only [World.grow_drew] at hK ⊢
      try simp only [World.grow_grow] at hK ⊢
      simp only [e19] at hK ⊢
      clear e19
      go_simp
      go_wp2_with fail
      exact ⟨_, rfl, rfl, (by repeat (first | exact below_of_grow _ _ | exact Below.refl _ _ | exact below_more _ _ _ _ | (simp only [← Array.append_assoc]; first | exact below_more _ _ _ _ | exact below_same _ _ _ | exact Below.refl _ _) | exact below_same _ _ _ | (refine Below.alloc ?_ (by first | (simp; done) | (simp; omega)) _) | (refine Below.grow ?_ (by first | (simp; done) | (simp; omega)) _ _) | refine Below.drew ?_ | refine Below.drewN ?_ _ | (refine Below.putF ?_ (by first | (simp; done) | omega | (simp; omega)) _) | (refine Below.setCell ?_ (by first | (simp; done) | (simp; omega)) _))), fun h => by cases h⟩
    case o5 =>
      intro x w1 hH K hK
      have e18 : x 18 = _ := hH.holds 2 (by decide) (by decide +kernel) 18 rfl
      have e20 : x 20 = _ := hH.holds 4 (by decide) (by decide +kernel) 20 rfl
      obtain ⟨xs, d, rfl⟩ := grow_of_below hH.below
      clear hH
      try simp only [World.grow_drew] at hK ⊢
      try simp only [World.grow_grow] at hK ⊢
      simp only [e18, e20] at hK ⊢
      clear e18 e20
      go_simp
      go_wp2_with fail
      exact ⟨_, rfl, rfl, (by repeat (first | exact below_of_grow _ _ | exact Below.refl _ _ | exact below_more _ _ _ _ | (simp only [← Array.append_assoc]; first | exact below_more _ _ _ _ | exact below_same _ _ _ | exact Below.refl _ _) | exact below_same _ _ _ | (refine Below.alloc ?_ (by first | (simp; done) | (simp; omega)) _) | (refine Below.grow ?_ (by first | (simp; done) | (simp; omega)) _ _) | refine Below.drew ?_ | refine Below.drewN ?_ _ | (refine Below.putF ?_ (by first | (simp; done) | omega | (simp; omega)) _) | (refine Below.setCell ?_ (by first | (simp; done) | (simp; omega)) _))), fun h => by cases h⟩
    case o6 =>
      intro x w1 hH K hK
      have e21 : x 21 = _ := hH.holds 5 (by decide) (by decide +kernel) 21 rfl
      obtain ⟨xs, d, rfl⟩ := grow_of_below hH.below
      clear hH
      try simp only [World.grow_drew] at hK ⊢
      try simp only [World.grow_grow] at hK ⊢
      simp only [e21] at hK ⊢
      clear e21
      go_simp
      go_wp2_with fail
      exact ⟨_, rfl, rfl, (by repeat (first | exact below_of_grow _ _ | exact Below.refl _ _ | exact below_more _ _ _ _ | (simp only [← Array.append_assoc]; first | exact below_more _ _ _ _ | exact below_same _ _ _ | exact Below.refl _ _) | exact below_same _ _ _ | (refine Below.alloc ?_ (by first | (simp; done) | (simp; omega)) _) | (refine Below.grow ?_ (by first | (simp; done) | (simp; omega)) _ _) | refine Below.drew ?_ | refine Below.drewN ?_ _ | (refine Below.putF ?_ (by first | (simp; done) | omega | (simp; omega)) _) | (refine Below.setCell ?_ (by first | (simp; done) | (simp; omega)) _))), fun h => by cases h⟩
    case o7 =>
      intro x w1 hH K hK
      obtain ⟨xs, d, rfl⟩ := grow_of_below hH.below
      clear hH
      try simp only [World.grow_drew] at hK ⊢
      try simp only [World.grow_grow] at hK ⊢
      go_simp
      go_wp2_with fail
      exact ⟨_, rfl, rfl, (by repeat (first | exact below_of_grow _ _ | exact Below.refl _ _ | exact below_more _ _ _ _ | (simp only [← Array.append_assoc]; first | exact below_more _ _ _ _ | exact below_same _ _ _ | exact Below.refl _ _) | exact below_same _ _ _ | (refine Below.alloc ?_ (by first | (simp; done) | (simp; omega)) _) | (refine Below.grow ?_ (by first | (simp; done) | (simp; omega)) _ _) | refine Below.drew ?_ | refine Below.drewN ?_ _ | (refine Below.putF ?_ (by first | (simp; done) | omega | (simp; omega)) _) | (refine Below.setCell ?_ (by first | (simp; done) | (simp; omega)) _))), fun h => by cases h⟩
    case o8 =>
      intro x w1 hH K hK
      have e23 : x 23 = _ := hH.holds 7 (by decide) (by decide +kernel) 23 rfl
      obtain ⟨xs, d, rfl⟩ := grow_of_below hH.below
      clear hH
      try simp only [World.grow_drew] at hK ⊢
      try simp only [World.grow_grow] at hK ⊢
      simp only [e23] at hK ⊢
      clear e23
      go_simp
      go_wp2_with fail
      exact ⟨_, rfl, rfl, (by repeat (first | exact below_of_grow _ _ | exact Below.refl _ _ | exact below_more _ _ _ _ | (simp only [← Array.append_assoc]; first | exact below_more _ _ _ _ | exact below_same _ _ _ | exact Below.refl _ _) | exact below_same _ _ _ | (refine Below.alloc ?_ (by first | (simp; done) | (simp; omega)) _) | (refine Below.grow ?_ (by first | (simp; done) | (simp; omega)) _ _) | refine Below.drew ?_ | refine Below.drewN ?_ _ | (refine Below.putF ?_ (by first | (simp; done) | omega | (simp; omega)) _) | (refine Below.setCell ?_ (by first | (simp; done) | (simp; omega)) _))), fun h => by cases h⟩
    case o9 =>
      intro x w1 hH K hK
      have e24 : x 24 = _ := hH.holds 8 (by decide) (by decide +kernel) 24 rfl
      obtain ⟨xs, d, rfl⟩ := grow_of_below hH.below
      clear hH
      try simp only [World.grow_drew] at hK ⊢
      try simp only [World.grow_grow] at hK ⊢
      simp only [e24] at hK ⊢
      clear e24
      go_simp
      go_wp2_with (refine Gives.use (HP.out _) ?_; intro ys e)
      exact ⟨_, rfl, rfl, (by first | exact below_more _ _ _ _ | exact (by repeat (first | exact below_of_grow _ _ | exact Below.refl _ _ | exact below_more _ _ _ _ | (simp only [← Array.append_assoc]; first | exact below_more _ _ _ _ | exact below_same _ _ _ | exact Below.refl _ _) | exact below_same _ _ _ | (refine Below.alloc ?_ (by first | (simp; done) | (simp; omega)) _) | (refine Below.grow ?_ (by first | (simp; done) | (simp; omega)) _ _) | refine Below.drew ?_ | refine Below.drewN ?_ _ | (refine Below.putF ?_ (by first | (simp; done) | omega | (simp; omega)) _) | (refine Below.setCell ?_ (by first | (simp; done) | (simp; omega)) _)))), fun h => by cases h⟩
    case o10 =>
      intro x w1 hH K hK
      have e22 : x 22 = _ := hH.holds 6 (by decide) (by decide +kernel) 22 rfl
      have e25 : x 25 = _ := hH.holds 9 (by decide) (by decide +kernel) 25 rfl
      obtain ⟨xs, d, rfl⟩ := grow_of_below hH.below
      clear hH
      try simp only [World.grow_drew] at hK ⊢
      try simp only [World.grow_grow] at hK ⊢
      simp only [e22, e25] at hK ⊢
      clear e22 e25
      go_simp
      go_wp2_with fail
      exact ⟨_, rfl, rfl, (by repeat (first | exact below_of_grow _ _ | exact Below.refl _ _ | exact below_more _ _ _ _ | (simp only [← Array.append_assoc]; first | exact below_more _ _ _ _ | exact below_same _ _ _ | exact Below.refl _ _) | exact below_same _ _ _ | (refine Below.alloc ?_ (by first | (simp; done) | (simp; omega)) _) | (refine Below.grow ?_ (by first | (simp; done) | (simp; omega)) _ _) | refine Below.drew ?_ | refine Below.drewN ?_ _ | (refine Below.putF ?_ (by first | (simp; done) | omega | (simp; omega)) _) | (refine Below.setCell ?_ (by first | (simp; done) | (simp; omega)) _))), fun h => by cases h⟩
  case hend =>
    intro x w1 hH
    have e16 : x 16 = _ := hH.holds 0 (by decide) trivial 16 rfl
    have e17 : x 17 = _ := hH.holds 1 (by decide) trivial 17 rfl
    have e18 : x 18 = _ := hH.holds 2 (by decide) trivial 18 rfl
    have e19 : x 19 = _ := hH.holds 3 (by decide) trivial 19 rfl
    have e20 : x 20 = _ := hH.holds 4 (by decide) trivial 20 rfl
    have e21 : x 21 = _ := hH.holds 5 (by decide) trivial 21 rfl
    have e22 : x 22 = _ := hH.holds 6 (by decide) trivial 22 rfl
    have e23 : x 23 = _ := hH.holds 7 (by decide) trivial 23 rfl
    have e24 : x 24 = _ := hH.holds 8 (by decide) trivial 24 rfl
    have e25 : x 25 = _ := hH.holds 9 (by decide) trivial 25 rfl
    have e26 : x 26 = _ := hH.holds 10 (by decide) trivial 26 rfl
    obtain ⟨xs, d, rfl⟩ := grow_of_below hH.below
    clear hH
    simp only [e16, e17, e18, e19, e20, e21, e22, e23, e24, e25, e26]; clear e16 e17 e18 e19 e20 e21 e22 e23 e24 e25 e26
    simp only [List.drop_succ_cons, List.drop_zero]
    go_upto_region 3 with fail
    obtain ⟨S0, hS0⟩ : ∃ S, S = [112, 47] ++ Lib.decDigits (byt k 1).toNat := ⟨_, rfl⟩
    have e0 : (({ data := #[112, 103, 108, 98, 115, 116] } : ByteArray).extract 0 1 ++ ByteArray.mk #[47]) ++ bs (Lib.decDigits (byt k 1).toNat) = bs S0 := by
      rw [show (({ data := #[112, 103, 108, 98, 115, 116] } : ByteArray).extract 0 1 ++ ByteArray.mk #[47]) = bs [112, 47] from rfl, bs_append, hS0]
    have n0 : S0.length ≤ 2000000 := by rw [hS0]; have := dec_len _ hp1; simp; omega
    generalize hz6 : (_ : ByteArray) ++ bs (Lib.decDigits (byt k 1).toNat) = Z
    obtain rfl : Z = bs S0 := hz6.symm.trans e0
    clear hz6
    have HS0 := Lib.hid hS0
    clear e0 hS0 s1 s2 a0 a1 HP

    go_wp2_with fail
    go_ret
    refine ⟨congrArg (fun l => Ending.returned (Value.string (bs l))) ?_, HB.out.1.trans ((show Below W.heap.size W _ from (by repeat (first | exact below_of_grow _ _ | exact Below.refl _ _ | exact below_more _ _ _ _ | (simp only [← Array.append_assoc]; first | exact below_more _ _ _ _ | exact below_same _ _ _ | exact Below.refl _ _) | exact below_same _ _ _ | (refine Below.alloc ?_ (by first | (simp; done) | (simp; omega)) _) | (refine Below.grow ?_ (by first | (simp; done) | (simp; omega)) _ _) | refine Below.drew ?_ | refine Below.drewN ?_ _ | (refine Below.putF ?_ (by first | (simp; done) | omega | (simp; omega)) _) | (refine Below.setCell ?_ (by first | (simp; done) | (simp; omega)) _)))).mono HB.out.1.size)⟩
    rw [HS0.out]
    simp [join_two, Lib.join_one]

set_option maxHeartbeats 20000000 in
theorem refText6_2 (k : List UInt8) (hk : k.length = 25) (hk0 : byt k 0 = 2) (hr : keyRight k = true) (w : World) : Gives Tryz.prog 51 #[.agg (rkey k)] w (.string (bs (keyText k))) := by
  have hp1 : (byt k 1).toNat < 100 := (k_le100 hr).1
  have hp2 : (byt k 2).toNat < 100 := (k_le100 hr).2 (by rw [hk0]; decide)
  have htx : keyText k = Lib.join [[103], Lib.decDigits (byt k 1).toNat, Lib.decDigits (byt k 2).toNat] [47] := by
    unfold keyText
    rw [if_pos hr]
    unfold keyParts kKind kProj kAt kName kTag
    rw [hk0]
    try rw [take_two]
    rfl
  rw [htx]
  have HU := Lib.hid (show ∀ w, Gives Tryz.prog 89 #[.int .i64 2] w (.tuple #[.int .i64 16, .bool false, .bool false]) from refUses_gives 2)
  have HP := Lib.hid (digits_gives _ hp1)
  have HA := Lib.hid (digits_gives _ hp2)
  have h01 : ((byt k 0).toNat : Int) = 2 := by rw [hk0]; rfl
  have hz := rkey_sz hk
  clear hr htx hk0
  unfold Gives
  go_enter Tryz.func51, Tryz.ntmps51
  go_upto_region 1 with fail
  refine wp_name ?_
  intro W hW
  obtain ⟨q, hq⟩ : ∃ q, q = w.heap.size := ⟨_, rfl⟩
  have hbl : Below w.heap.size w W := by rw [hW]; exact (by repeat (first | exact below_of_grow _ _ | exact Below.refl _ _ | exact below_more _ _ _ _ | (simp only [← Array.append_assoc]; first | exact below_more _ _ _ _ | exact below_same _ _ _ | exact Below.refl _ _) | exact below_same _ _ _ | (refine Below.alloc ?_ (by first | (simp; done) | (simp; omega)) _) | (refine Below.grow ?_ (by first | (simp; done) | (simp; omega)) _ _) | refine Below.drew ?_ | refine Below.drewN ?_ _ | (refine Below.putF ?_ (by first | (simp; done) | omega | (simp; omega)) _) | (refine Below.setCell ?_ (by first | (simp; done) | (simp; omega)) _)))
  have hkk : W.heap[q]? = some (.cells (rkey k) 57) := by rw [hW, heap_al, if_pos hq]
  have lq : q < W.heap.size := (Array.getElem?_eq_some_iff.1 hkk).1
  have a0 : W.cell? ⟨q, 0, none⟩ = some (.int .i64 2) := (cellsK hkk 0).1.trans ((rk_0 _ _ _ _).trans (by rw [h01]))
  have a1 : W.cell? ⟨q, 1, none⟩ = some (.int .i64 ((byt k 1).toNat : Int)) := (cellsK hkk 1).1.trans (rk_1 _ _ _ _)
  have a2 : W.cell? ⟨q, 2, none⟩ = some (.int .i64 ((byt k 2).toNat : Int)) := (cellsK hkk 2).1.trans (rk_2 _ _ _ _)
  have a3 : W.cut? q 3 12 = some (row8 ((k.take 15).drop 3)) := by
    have := cut_sub (cut_heap hkk (sz := 25) hz) (i := 3) (m := 12) (by decide)
    rw [Nat.zero_add] at this
    rw [this]
    unfold rkey
    rw [rk_extract _ _ _ _ _ _ (by decide)]
    simp [List.drop_take]
  have a4 : W.cut? q 15 10 = some (row8 (k.drop 15)) := by
    have := cut_sub (cut_heap hkk (sz := 25) hz) (i := 15) (m := 10) (by decide)
    rw [Nat.zero_add] at this
    rw [this]
    unfold rkey
    rw [rk_extract _ _ _ _ _ _ (by decide), List.take_of_length_le (by simp; omega)]
    simp
  simp only [← hq]
  have HB := Lib.hid (And.intro hbl hq)
  clear hW hbl hkk hz h01 hq
  go_wp2_with fail
  refine Gives.use (HU.out _) ?_
  intro xs1 d1
  have s1 : ¬ 9223372036854775807 < (({ data := #[112, 103, 108, 98, 115, 116] } : ByteArray).extract 1 2).size + (ByteArray.mk #[47]).size := by decide
  have s2 : ¬ 9223372036854775807 < (({ data := #[112, 103, 108, 98, 115, 116] } : ByteArray).extract 1 2 ++ ByteArray.mk #[47]).size + (bs (Lib.decDigits (byt k 1).toNat)).size := by
    have h1 := dec_len _ hp1
    rw [bs_size]
    have : (({ data := #[112, 103, 108, 98, 115, 116] } : ByteArray).extract 1 2 ++ ByteArray.mk #[47]).size = 2 := by decide
    omega
  go_upto_region 2 with fail
  apply wp_region_specs (by rfl) [.val _, .val _, .val _, .val _, .val _, .val _, .val _, .val _, .val _, .val _, .val _] 11 (by rfl) [16, 17, 18, 19, 20, 21, 22, 23, 24, 25, 26] [] [] (by rfl) (by rfl) (by decide) (by decide +kernel) (fun _ _ _ _ _ h => h)
  case hF => intro x; simp only [over, List.foldl_cons, List.foldl_nil, List.setIfInBounds_toArray, List.set_cons_succ, List.set_cons_zero]; exact rfl
  case hops =>
    refine ⟨?o0, ?o1, ?o2, ?o3, ?o4, ?o5, ?o6, ?o7, ?o8, ?o9, ?o10, trivial⟩
    case o0 =>
      intro x w1 hH K hK
      obtain ⟨xs, d, rfl⟩ := grow_of_below hH.below
      clear hH
      try simp only [World.grow_drew] at hK ⊢
      try simp only [World.grow_grow] at hK ⊢
      go_simp
      go_wp2_with fail
      exact ⟨_, rfl, rfl, (by repeat (first | exact below_of_grow _ _ | exact Below.refl _ _ | exact below_more _ _ _ _ | (simp only [← Array.append_assoc]; first | exact below_more _ _ _ _ | exact below_same _ _ _ | exact Below.refl _ _) | exact below_same _ _ _ | (refine Below.alloc ?_ (by first | (simp; done) | (simp; omega)) _) | (refine Below.grow ?_ (by first | (simp; done) | (simp; omega)) _ _) | refine Below.drew ?_ | refine Below.drewN ?_ _ | (refine Below.putF ?_ (by first | (simp; done) | omega | (simp; omega)) _) | (refine Below.setCell ?_ (by first | (simp; done) | (simp; omega)) _))), fun h => by cases h⟩
    case o1 =>
      intro x w1 hH K hK
      have e16 : x 16 = _ := hH.holds 0 (by decide) (by decide +kernel) 16 rfl
      obtain ⟨xs, d, rfl⟩ := grow_of_below hH.below
      clear hH
      try simp only [World.grow_drew] at hK ⊢
      try simp only [World.grow_grow] at hK ⊢
      simp only [e16] at hK ⊢
      clear e16
      go_simp
      go_wp2_with fail
      exact ⟨_, rfl, rfl, (by repeat (first | exact below_of_grow _ _ | exact Below.refl _ _ | exact below_more _ _ _ _ | (simp only [← Array.append_assoc]; first | exact below_more _ _ _ _ | exact below_same _ _ _ | exact Below.refl _ _) | exact below_same _ _ _ | (refine Below.alloc ?_ (by first | (simp; done) | (simp; omega)) _) | (refine Below.grow ?_ (by first | (simp; done) | (simp; omega)) _ _) | refine Below.drew ?_ | refine Below.drewN ?_ _ | (refine Below.putF ?_ (by first | (simp; done) | omega | (simp; omega)) _) | (refine Below.setCell ?_ (by first | (simp; done) | (simp; omega)) _))), fun h => by cases h⟩
    case o2 =>
      intro x w1 hH K hK
      have e17 : x 17 = _ := hH.holds 1 (by decide) (by decide +kernel) 17 rfl
      obtain ⟨xs, d, rfl⟩ := grow_of_below hH.below
      clear hH
      try simp only [World.grow_drew] at hK ⊢
      try simp only [World.grow_grow] at hK ⊢
      simp only [e17] at hK ⊢
      clear e17
      go_simp
      go_wp2_with fail
      exact ⟨_, rfl, rfl, (by repeat (first | exact below_of_grow _ _ | exact Below.refl _ _ | exact below_more _ _ _ _ | (simp only [← Array.append_assoc]; first | exact below_more _ _ _ _ | exact below_same _ _ _ | exact Below.refl _ _) | exact below_same _ _ _ | (refine Below.alloc ?_ (by first | (simp; done) | (simp; omega)) _) | (refine Below.grow ?_ (by first | (simp; done) | (simp; omega)) _ _) | refine Below.drew ?_ | refine Below.drewN ?_ _ | (refine Below.putF ?_ (by first | (simp; done) | omega | (simp; omega)) _) | (refine Below.setCell ?_ (by first | (simp; done) | (simp; omega)) _))), fun h => by cases h⟩
    case o3 =>
      intro x w1 hH K hK
      obtain ⟨xs, d, rfl⟩ := grow_of_below hH.below
      clear hH
      try simp only [World.grow_drew] at hK ⊢
      try simp only [World.grow_grow] at hK ⊢
      go_simp
      go_wp2_with fail
      exact ⟨_, rfl, rfl, (by repeat (first | exact below_of_grow _ _ | exact Below.refl _ _ | exact below_more _ _ _ _ | (simp only [← Array.append_assoc]; first | exact below_more _ _ _ _ | exact below_same _ _ _ | exact Below.refl _ _) | exact below_same _ _ _ | (refine Below.alloc ?_ (by first | (simp; done) | (simp; omega)) _) | (refine Below.grow ?_ (by first | (simp; done) | (simp; omega)) _ _) | refine Below.drew ?_ | refine Below.drewN ?_ _ | (refine Below.putF ?_ (by first | (simp; done) | omega | (simp; omega)) _) | (refine Below.setCell ?_ (by first | (simp; done) | (simp; omega)) _))), fun h => by cases h⟩
    case o4 =>
      intro x w1 hH K hK
      have e19 : x 19 = _ := hH.holds 3 (by decide) (by decide +kernel) 19 rfl
      obtain ⟨xs, d, rfl⟩ := grow_of_below hH.below
      clear hH
      try simp only [World.grow_drew] at hK ⊢
      try simp only [World.grow_grow] at hK ⊢
      simp only [e19] at hK ⊢
      clear e19
      go_simp
      go_wp2_with fail
      exact ⟨_, rfl, rfl, (by repeat (first | exact below_of_grow _ _ | exact Below.refl _ _ | exact below_more _ _ _ _ | (simp only [← Array.append_assoc]; first | exact below_more _ _ _ _ | exact below_same _ _ _ | exact Below.refl _ _) | exact below_same _ _ _ | (refine Below.alloc ?_ (by first | (simp; done) | (simp; omega)) _) | (refine Below.grow ?_ (by first | (simp; done) | (simp; omega)) _ _) | refine Below.drew ?_ | refine Below.drewN ?_ _ | (refine Below.putF ?_ (by first | (simp; done) | omega | (simp; omega)) _) | (refine Below.setCell ?_ (by first | (simp; done) | (simp; omega)) _))), fun h => by cases h⟩
    case o5 =>
      intro x w1 hH K hK
      have e18 : x 18 = _ := hH.holds 2 (by decide) (by decide +kernel) 18 rfl
      have e20 : x 20 = _ := hH.holds 4 (by decide) (by decide +kernel) 20 rfl
      obtain ⟨xs, d, rfl⟩ := grow_of_below hH.below
      clear hH
      try simp only [World.grow_drew] at hK ⊢
      try simp only [World.grow_grow] at hK ⊢
      simp only [e18, e20] at hK ⊢
      clear e18 e20
      go_simp
      go_wp2_with fail
      exact ⟨_, rfl, rfl, (by repeat (first | exact below_of_grow _ _ | exact Below.refl _ _ | exact below_more _ _ _ _ | (simp only [← Array.append_assoc]; first | exact below_more _ _ _ _ | exact below_same _ _ _ | exact Below.refl _ _) | exact below_same _ _ _ | (refine Below.alloc ?_ (by first | (simp; done) | (simp; omega)) _) | (refine Below.grow ?_ (by first | (simp; done) | (simp; omega)) _ _) | refine Below.drew ?_ | refine Below.drewN ?_ _ | (refine Below.putF ?_ (by first | (simp; done) | omega | (simp; omega)) _) | (refine Below.setCell ?_ (by first | (simp; done) | (simp; omega)) _))), fun h => by cases h⟩
    case o6 =>
      intro x w1 hH K hK
      have e21 : x 21 = _ := hH.holds 5 (by decide) (by decide +kernel) 21 rfl
      obtain ⟨xs, d, rfl⟩ := grow_of_below hH.below
      clear hH
      try simp only [World.grow_drew] at hK ⊢
      try simp only [World.grow_grow] at hK ⊢
      simp only [e21] at hK ⊢
      clear e21
      go_simp
      go_wp2_with fail
      exact ⟨_, rfl, rfl, (by repeat (first | exact below_of_grow _ _ | exact Below.refl _ _ | exact below_more _ _ _ _ | (simp only [← Array.append_assoc]; first | exact below_more _ _ _ _ | exact below_same _ _ _ | exact Below.refl _ _) | exact below_same _ _ _ | (refine Below.alloc ?_ (by first | (simp; done) | (simp; omega)) _) | (refine Below.grow ?_ (by first | (simp; done) | (simp; omega)) _ _) | refine Below.drew ?_ | refine Below.drewN ?_ _ | (refine Below.putF ?_ (by first | (simp; done) | omega | (simp; omega)) _) | (refine Below.setCell ?_ (by first | (simp; done) | (simp; omega)) _))), fun h => by cases h⟩
    case o7 =>
      intro x w1 hH K hK
      obtain ⟨xs, d, rfl⟩ := grow_of_below hH.below
      clear hH
      try simp only [World.grow_drew] at hK ⊢
      try simp only [World.grow_grow] at hK ⊢
      go_simp
      go_wp2_with fail
      exact ⟨_, rfl, rfl, (by repeat (first | exact below_of_grow _ _ | exact Below.refl _ _ | exact below_more _ _ _ _ | (simp only [← Array.append_assoc]; first | exact below_more _ _ _ _ | exact below_same _ _ _ | exact Below.refl _ _) | exact below_same _ _ _ | (refine Below.alloc ?_ (by first | (simp; done) | (simp; omega)) _) | (refine Below.grow ?_ (by first | (simp; done) | (simp; omega)) _ _) | refine Below.drew ?_ | refine Below.drewN ?_ _ | (refine Below.putF ?_ (by first | (simp; done) | omega | (simp; omega)) _) | (refine Below.setCell ?_ (by first | (simp; done) | (simp; omega)) _))), fun h => by cases h⟩
    case o8 =>
      intro x w1 hH K hK
      have e23 : x 23 = _ := hH.holds 7 (by decide) (by decide +kernel) 23 rfl
      obtain ⟨xs, d, rfl⟩ := grow_of_below hH.below
      clear hH
      try simp only [World.grow_drew] at hK ⊢
      try simp only [World.grow_grow] at hK ⊢
      simp only [e23] at hK ⊢
      clear e23
      go_simp
      go_wp2_with fail
      exact ⟨_, rfl, rfl, (by repeat (first | exact below_of_grow _ _ | exact Below.refl _ _ | exact below_more _ _ _ _ | (simp only [← Array.append_assoc]; first | exact below_more _ _ _ _ | exact below_same _ _ _ | exact Below.refl _ _) | exact below_same _ _ _ | (refine Below.alloc ?_ (by first | (simp; done) | (simp; omega)) _) | (refine Below.grow ?_ (by first | (simp; done) | (simp; omega)) _ _) | refine Below.drew ?_ | refine Below.drewN ?_ _ | (refine Below.putF ?_ (by first | (simp; done) | omega | (simp; omega)) _) | (refine Below.setCell ?_ (by first | (simp; done) | (simp; omega)) _))), fun h => by cases h⟩
    case o9 =>
      intro x w1 hH K hK
      have e24 : x 24 = _ := hH.holds 8 (by decide) (by decide +kernel) 24 rfl
      obtain ⟨xs, d, rfl⟩ := grow_of_below hH.below
      clear hH
      try simp only [World.grow_drew] at hK ⊢
      try simp only [World.grow_grow] at hK ⊢
      simp only [e24] at hK ⊢
      clear e24
      go_simp
      go_wp2_with (refine Gives.use (HP.out _) ?_; intro ys e)
      exact ⟨_, rfl, rfl, (by first | exact below_more _ _ _ _ | exact (by repeat (first | exact below_of_grow _ _ | exact Below.refl _ _ | exact below_more _ _ _ _ | (simp only [← Array.append_assoc]; first | exact below_more _ _ _ _ | exact below_same _ _ _ | exact Below.refl _ _) | exact below_same _ _ _ | (refine Below.alloc ?_ (by first | (simp; done) | (simp; omega)) _) | (refine Below.grow ?_ (by first | (simp; done) | (simp; omega)) _ _) | refine Below.drew ?_ | refine Below.drewN ?_ _ | (refine Below.putF ?_ (by first | (simp; done) | omega | (simp; omega)) _) | (refine Below.setCell ?_ (by first | (simp; done) | (simp; omega)) _)))), fun h => by cases h⟩
    case o10 =>
      intro x w1 hH K hK
      have e22 : x 22 = _ := hH.holds 6 (by decide) (by decide +kernel) 22 rfl
      have e25 : x 25 = _ := hH.holds 9 (by decide) (by decide +kernel) 25 rfl
      obtain ⟨xs, d, rfl⟩ := grow_of_below hH.below
      clear hH
      try simp only [World.grow_drew] at hK ⊢
      try simp only [World.grow_grow] at hK ⊢
      simp only [e22, e25] at hK ⊢
      clear e22 e25
      go_simp
      go_wp2_with fail
      exact ⟨_, rfl, rfl, (by repeat (first | exact below_of_grow _ _ | exact Below.refl _ _ | exact below_more _ _ _ _ | (simp only [← Array.append_assoc]; first | exact below_more _ _ _ _ | exact below_same _ _ _ | exact Below.refl _ _) | exact below_same _ _ _ | (refine Below.alloc ?_ (by first | (simp; done) | (simp; omega)) _) | (refine Below.grow ?_ (by first | (simp; done) | (simp; omega)) _ _) | refine Below.drew ?_ | refine Below.drewN ?_ _ | (refine Below.putF ?_ (by first | (simp; done) | omega | (simp; omega)) _) | (refine Below.setCell ?_ (by first | (simp; done) | (simp; omega)) _))), fun h => by cases h⟩
  case hend =>
    intro x w1 hH
    have e16 : x 16 = _ := hH.holds 0 (by decide) trivial 16 rfl
    have e17 : x 17 = _ := hH.holds 1 (by decide) trivial 17 rfl
    have e18 : x 18 = _ := hH.holds 2 (by decide) trivial 18 rfl
    have e19 : x 19 = _ := hH.holds 3 (by decide) trivial 19 rfl
    have e20 : x 20 = _ := hH.holds 4 (by decide) trivial 20 rfl
    have e21 : x 21 = _ := hH.holds 5 (by decide) trivial 21 rfl
    have e22 : x 22 = _ := hH.holds 6 (by decide) trivial 22 rfl
    have e23 : x 23 = _ := hH.holds 7 (by decide) trivial 23 rfl
    have e24 : x 24 = _ := hH.holds 8 (by decide) trivial 24 rfl
    have e25 : x 25 = _ := hH.holds 9 (by decide) trivial 25 rfl
    have e26 : x 26 = _ := hH.holds 10 (by decide) trivial 26 rfl
    obtain ⟨xs, d, rfl⟩ := grow_of_below hH.below
    clear hH
    simp only [e16, e17, e18, e19, e20, e21, e22, e23, e24, e25, e26]; clear e16 e17 e18 e19 e20 e21 e22 e23 e24 e25 e26
    simp only [List.drop_succ_cons, List.drop_zero]
    go_upto_region 3 with fail
    obtain ⟨S0, hS0⟩ : ∃ S, S = [103, 47] ++ Lib.decDigits (byt k 1).toNat := ⟨_, rfl⟩
    have e0 : (({ data := #[112, 103, 108, 98, 115, 116] } : ByteArray).extract 1 2 ++ ByteArray.mk #[47]) ++ bs (Lib.decDigits (byt k 1).toNat) = bs S0 := by
      rw [show (({ data := #[112, 103, 108, 98, 115, 116] } : ByteArray).extract 1 2 ++ ByteArray.mk #[47]) = bs [103, 47] from rfl, bs_append, hS0]
    have n0 : S0.length ≤ 2000000 := by rw [hS0]; have := dec_len _ hp1; simp; omega
    generalize hz6 : (_ : ByteArray) ++ bs (Lib.decDigits (byt k 1).toNat) = Z
    obtain rfl : Z = bs S0 := hz6.symm.trans e0
    clear hz6
    have HS0 := Lib.hid hS0
    clear e0 hS0 s1 s2 a0 a1 HP

    obtain ⟨S1, hS1⟩ : ∃ S, S = S0 ++ 47 :: Lib.decDigits (byt k 2).toNat := ⟨_, rfl⟩
    have g1 : ¬ 9223372036854775807 < (bs S0).size + (ByteArray.mk #[47]).size := by rw [bs_size]; show ¬ 9223372036854775807 < S0.length + 1; omega
    have g2 : ¬ 9223372036854775807 < (bs S0 ++ ByteArray.mk #[47]).size + (bs (Lib.decDigits (byt k 2).toNat)).size := by
      have h1 := dec_len _ hp2
      rw [slash, bs_append, bs_size, bs_size]
      simp; omega
    have e1 : bs S0 ++ ByteArray.mk #[47] ++ bs (Lib.decDigits (byt k 2).toNat) = bs S1 := by rw [slash, bs_append, bs_append, hS1]; simp
    have n1 : S1.length ≤ 4000000 := by have h1 := dec_len _ hp2; rw [hS1]; simp; omega
    have HS1 := Lib.hid hS1
    clear hS1
    go_wp2_with fail
    refine Gives.use (HA.out _) ?_
    intro ya da
    go_upto_region 5 with fail
    generalize hz6 : (_ : ByteArray) ++ bs (Lib.decDigits (byt k 2).toNat) = Z
    obtain rfl : Z = bs S1 := hz6.symm.trans e1
    clear hz6
    clear e1 g1 g2 n0
    go_wp2_with fail
    go_ret
    refine ⟨congrArg (fun l => Ending.returned (Value.string (bs l))) ?_, HB.out.1.trans ((show Below W.heap.size W _ from (by repeat (first | exact below_of_grow _ _ | exact Below.refl _ _ | exact below_more _ _ _ _ | (simp only [← Array.append_assoc]; first | exact below_more _ _ _ _ | exact below_same _ _ _ | exact Below.refl _ _) | exact below_same _ _ _ | (refine Below.alloc ?_ (by first | (simp; done) | (simp; omega)) _) | (refine Below.grow ?_ (by first | (simp; done) | (simp; omega)) _ _) | refine Below.drew ?_ | refine Below.drewN ?_ _ | (refine Below.putF ?_ (by first | (simp; done) | omega | (simp; omega)) _) | (refine Below.setCell ?_ (by first | (simp; done) | (simp; omega)) _)))).mono HB.out.1.size)⟩
    rw [HS1.out, HS0.out]
    simp [join_two, Lib.join_one]

set_option maxHeartbeats 20000000 in
theorem refText6_3 (k : List UInt8) (hk : k.length = 25) (hk0 : byt k 0 = 3) (hr : keyRight k = true) (w : World) : Gives Tryz.prog 51 #[.agg (rkey k)] w (.string (bs (keyText k))) := by
  have hp1 : (byt k 1).toNat < 100 := (k_le100 hr).1
  have htr := right_tag hk hr
  have htx : keyText k = Lib.join [[108], Lib.decDigits (byt k 1).toNat, tagText (k.drop 15)] [47] := by
    unfold keyText
    rw [if_pos hr]
    unfold keyParts kKind kProj kAt kName kTag
    rw [hk0]
    try rw [take_two]
    rfl
  rw [htx]
  have HU := Lib.hid (show ∀ w, Gives Tryz.prog 89 #[.int .i64 3] w (.tuple #[.int .i64 0, .bool false, .bool true]) from refUses_gives 3)
  have HP := Lib.hid (digits_gives _ hp1)
  have h01 : ((byt k 0).toNat : Int) = 3 := by rw [hk0]; rfl
  have hz := rkey_sz hk
  clear hr htx hk0
  unfold Gives
  go_enter Tryz.func51, Tryz.ntmps51
  go_upto_region 1 with fail
  refine wp_name ?_
  intro W hW
  obtain ⟨q, hq⟩ : ∃ q, q = w.heap.size := ⟨_, rfl⟩
  have hbl : Below w.heap.size w W := by rw [hW]; exact (by repeat (first | exact below_of_grow _ _ | exact Below.refl _ _ | exact below_more _ _ _ _ | (simp only [← Array.append_assoc]; first | exact below_more _ _ _ _ | exact below_same _ _ _ | exact Below.refl _ _) | exact below_same _ _ _ | (refine Below.alloc ?_ (by first | (simp; done) | (simp; omega)) _) | (refine Below.grow ?_ (by first | (simp; done) | (simp; omega)) _ _) | refine Below.drew ?_ | refine Below.drewN ?_ _ | (refine Below.putF ?_ (by first | (simp; done) | omega | (simp; omega)) _) | (refine Below.setCell ?_ (by first | (simp; done) | (simp; omega)) _)))
  have hkk : W.heap[q]? = some (.cells (rkey k) 57) := by rw [hW, heap_al, if_pos hq]
  have lq : q < W.heap.size := (Array.getElem?_eq_some_iff.1 hkk).1
  have a0 : W.cell? ⟨q, 0, none⟩ = some (.int .i64 3) := (cellsK hkk 0).1.trans ((rk_0 _ _ _ _).trans (by rw [h01]))
  have a1 : W.cell? ⟨q, 1, none⟩ = some (.int .i64 ((byt k 1).toNat : Int)) := (cellsK hkk 1).1.trans (rk_1 _ _ _ _)
  have a2 : W.cell? ⟨q, 2, none⟩ = some (.int .i64 ((byt k 2).toNat : Int)) := (cellsK hkk 2).1.trans (rk_2 _ _ _ _)
  have a3 : W.cut? q 3 12 = some (row8 ((k.take 15).drop 3)) := by
    have := cut_sub (cut_heap hkk (sz := 25) hz) (i := 3) (m := 12) (by decide)
    rw [Nat.zero_add] at this
    rw [this]
    unfold rkey
    rw [rk_extract _ _ _ _ _ _ (by decide)]
    simp [List.drop_take]
  have a4 : W.cut? q 15 10 = some (row8 (k.drop 15)) := by
    have := cut_sub (cut_heap hkk (sz := 25) hz) (i := 15) (m := 10) (by decide)
    rw [Nat.zero_add] at this
    rw [this]
    unfold rkey
    rw [rk_extract _ _ _ _ _ _ (by decide), List.take_of_length_le (by simp; omega)]
    simp
  simp only [← hq]
  have HB := Lib.hid (And.intro hbl hq)
  clear hW hbl hkk hz h01 hq
  go_wp2_with fail
  refine Gives.use (HU.out _) ?_
  intro xs1 d1
  have s1 : ¬ 9223372036854775807 < (({ data := #[112, 103, 108, 98, 115, 116] } : ByteArray).extract 2 3).size + (ByteArray.mk #[47]).size := by decide
  have s2 : ¬ 9223372036854775807 < (({ data := #[112, 103, 108, 98, 115, 116] } : ByteArray).extract 2 3 ++ ByteArray.mk #[47]).size + (bs (Lib.decDigits (byt k 1).toNat)).size := by
    have h1 := dec_len _ hp1
    rw [bs_size]
    have : (({ data := #[112, 103, 108, 98, 115, 116] } : ByteArray).extract 2 3 ++ ByteArray.mk #[47]).size = 2 := by decide
    omega
  go_upto_region 2 with fail
  apply wp_region_specs (by rfl) [.val _, .val _, .val _, .val _, .val _, .val _, .val _, .val _, .val _, .val _, .val _] 11 (by rfl) [16, 17, 18, 19, 20, 21, 22, 23, 24, 25, 26] [] [] (by rfl) (by rfl) (by decide) (by decide +kernel) (fun _ _ _ _ _ h => h)
  case hF => intro x; simp only [over, List.foldl_cons, List.foldl_nil, List.setIfInBounds_toArray, List.set_cons_succ, List.set_cons_zero]; exact rfl
  case hops =>
    refine ⟨?o0, ?o1, ?o2, ?o3, ?o4, ?o5, ?o6, ?o7, ?o8, ?o9, ?o10, trivial⟩
    case o0 =>
      intro x w1 hH K hK
      obtain ⟨xs, d, rfl⟩ := grow_of_below hH.below
      clear hH
      try simp only [World.grow_drew] at hK ⊢
      try simp only [World.grow_grow] at hK ⊢
      go_simp
      go_wp2_with fail
      exact ⟨_, rfl, rfl, (by repeat (first | exact below_of_grow _ _ | exact Below.refl _ _ | exact below_more _ _ _ _ | (simp only [← Array.append_assoc]; first | exact below_more _ _ _ _ | exact below_same _ _ _ | exact Below.refl _ _) | exact below_same _ _ _ | (refine Below.alloc ?_ (by first | (simp; done) | (simp; omega)) _) | (refine Below.grow ?_ (by first | (simp; done) | (simp; omega)) _ _) | refine Below.drew ?_ | refine Below.drewN ?_ _ | (refine Below.putF ?_ (by first | (simp; done) | omega | (simp; omega)) _) | (refine Below.setCell ?_ (by first | (simp; done) | (simp; omega)) _))), fun h => by cases h⟩
    case o1 =>
      intro x w1 hH K hK
      have e16 : x 16 = _ := hH.holds 0 (by decide) (by decide +kernel) 16 rfl
      obtain ⟨xs, d, rfl⟩ := grow_of_below hH.below
      clear hH
      try simp only [World.grow_drew] at hK ⊢
      try simp only [World.grow_grow] at hK ⊢
      simp only [e16] at hK ⊢
      clear e16
      go_simp
      go_wp2_with fail
      exact ⟨_, rfl, rfl, (by repeat (first | exact below_of_grow _ _ | exact Below.refl _ _ | exact below_more _ _ _ _ | (simp only [← Array.append_assoc]; first | exact below_more _ _ _ _ | exact below_same _ _ _ | exact Below.refl _ _) | exact below_same _ _ _ | (refine Below.alloc ?_ (by first | (simp; done) | (simp; omega)) _) | (refine Below.grow ?_ (by first | (simp; done) | (simp; omega)) _ _) | refine Below.drew ?_ | refine Below.drewN ?_ _ | (refine Below.putF ?_ (by first | (simp; done) | omega | (simp; omega)) _) | (refine Below.setCell ?_ (by first | (simp; done) | (simp; omega)) _))), fun h => by cases h⟩
    case o2 =>
      intro x w1 hH K hK
      have e17 : x 17 = _ := hH.holds 1 (by decide) (by decide +kernel) 17 rfl
      obtain ⟨xs, d, rfl⟩ := grow_of_below hH.below
      clear hH
      try simp only [World.grow_drew] at hK ⊢
      try simp only [World.grow_grow] at hK ⊢
      simp only [e17] at hK ⊢
      clear e17
      go_simp
      go_wp2_with fail
      exact ⟨_, rfl, rfl, (by repeat (first | exact below_of_grow _ _ | exact Below.refl _ _ | exact below_more _ _ _ _ | (simp only [← Array.append_assoc]; first | exact below_more _ _ _ _ | exact below_same _ _ _ | exact Below.refl _ _) | exact below_same _ _ _ | (refine Below.alloc ?_ (by first | (simp; done) | (simp; omega)) _) | (refine Below.grow ?_ (by first | (simp; done) | (simp; omega)) _ _) | refine Below.drew ?_ | refine Below.drewN ?_ _ | (refine Below.putF ?_ (by first | (simp; done) | omega | (simp; omega)) _) | (refine Below.setCell ?_ (by first | (simp; done) | (simp; omega)) _))), fun h => by cases h⟩
    case o3 =>
      intro x w1 hH K hK
      obtain ⟨xs, d, rfl⟩ := grow_of_below hH.below
      clear hH
      try simp only [World.grow_drew] at hK ⊢
      try simp only [World.grow_grow] at hK ⊢
      go_simp
      go_wp2_with fail
      exact ⟨_, rfl, rfl, (by repeat (first | exact below_of_grow _ _ | exact Below.refl _ _ | exact below_more _ _ _ _ | (simp only [← Array.append_assoc]; first | exact below_more _ _ _ _ | exact below_same _ _ _ | exact Below.refl _ _) | exact below_same _ _ _ | (refine Below.alloc ?_ (by first | (simp; done) | (simp; omega)) _) | (refine Below.grow ?_ (by first | (simp; done) | (simp; omega)) _ _) | refine Below.drew ?_ | refine Below.drewN ?_ _ | (refine Below.putF ?_ (by first | (simp; done) | omega | (simp; omega)) _) | (refine Below.setCell ?_ (by first | (simp; done) | (simp; omega)) _))), fun h => by cases h⟩
    case o4 =>
      intro x w1 hH K hK
      have e19 : x 19 = _ := hH.holds 3 (by decide) (by decide +kernel) 19 rfl
      obtain ⟨xs, d, rfl⟩ := grow_of_below hH.below
      clear hH
      try simp only [World.grow_drew] at hK ⊢
      try simp only [World.grow_grow] at hK ⊢
      simp only [e19] at hK ⊢
      clear e19
      go_simp
      go_wp2_with fail
      exact ⟨_, rfl, rfl, (by repeat (first | exact below_of_grow _ _ | exact Below.refl _ _ | exact below_more _ _ _ _ | (simp only [← Array.append_assoc]; first | exact below_more _ _ _ _ | exact below_same _ _ _ | exact Below.refl _ _) | exact below_same _ _ _ | (refine Below.alloc ?_ (by first | (simp; done) | (simp; omega)) _) | (refine Below.grow ?_ (by first | (simp; done) | (simp; omega)) _ _) | refine Below.drew ?_ | refine Below.drewN ?_ _ | (refine Below.putF ?_ (by first | (simp; done) | omega | (simp; omega)) _) | (refine Below.setCell ?_ (by first | (simp; done) | (simp; omega)) _))), fun h => by cases h⟩
    case o5 =>
      intro x w1 hH K hK
      have e18 : x 18 = _ := hH.holds 2 (by decide) (by decide +kernel) 18 rfl
      have e20 : x 20 = _ := hH.holds 4 (by decide) (by decide +kernel) 20 rfl
      obtain ⟨xs, d, rfl⟩ := grow_of_below hH.below
      clear hH
      try simp only [World.grow_drew] at hK ⊢
      try simp only [World.grow_grow] at hK ⊢
      simp only [e18, e20] at hK ⊢
      clear e18 e20
      go_simp
      go_wp2_with fail
      exact ⟨_, rfl, rfl, (by repeat (first | exact below_of_grow _ _ | exact Below.refl _ _ | exact below_more _ _ _ _ | (simp only [← Array.append_assoc]; first | exact below_more _ _ _ _ | exact below_same _ _ _ | exact Below.refl _ _) | exact below_same _ _ _ | (refine Below.alloc ?_ (by first | (simp; done) | (simp; omega)) _) | (refine Below.grow ?_ (by first | (simp; done) | (simp; omega)) _ _) | refine Below.drew ?_ | refine Below.drewN ?_ _ | (refine Below.putF ?_ (by first | (simp; done) | omega | (simp; omega)) _) | (refine Below.setCell ?_ (by first | (simp; done) | (simp; omega)) _))), fun h => by cases h⟩
    case o6 =>
      intro x w1 hH K hK
      have e21 : x 21 = _ := hH.holds 5 (by decide) (by decide +kernel) 21 rfl
      obtain ⟨xs, d, rfl⟩ := grow_of_below hH.below
      clear hH
      try simp only [World.grow_drew] at hK ⊢
      try simp only [World.grow_grow] at hK ⊢
      simp only [e21] at hK ⊢
      clear e21
      go_simp
      go_wp2_with fail
      exact ⟨_, rfl, rfl, (by repeat (first | exact below_of_grow _ _ | exact Below.refl _ _ | exact below_more _ _ _ _ | (simp only [← Array.append_assoc]; first | exact below_more _ _ _ _ | exact below_same _ _ _ | exact Below.refl _ _) | exact below_same _ _ _ | (refine Below.alloc ?_ (by first | (simp; done) | (simp; omega)) _) | (refine Below.grow ?_ (by first | (simp; done) | (simp; omega)) _ _) | refine Below.drew ?_ | refine Below.drewN ?_ _ | (refine Below.putF ?_ (by first | (simp; done) | omega | (simp; omega)) _) | (refine Below.setCell ?_ (by first | (simp; done) | (simp; omega)) _))), fun h => by cases h⟩
    case o7 =>
      intro x w1 hH K hK
      obtain ⟨xs, d, rfl⟩ := grow_of_below hH.below
      clear hH
      try simp only [World.grow_drew] at hK ⊢
      try simp only [World.grow_grow] at hK ⊢
      go_simp
      go_wp2_with fail
      exact ⟨_, rfl, rfl, (by repeat (first | exact below_of_grow _ _ | exact Below.refl _ _ | exact below_more _ _ _ _ | (simp only [← Array.append_assoc]; first | exact below_more _ _ _ _ | exact below_same _ _ _ | exact Below.refl _ _) | exact below_same _ _ _ | (refine Below.alloc ?_ (by first | (simp; done) | (simp; omega)) _) | (refine Below.grow ?_ (by first | (simp; done) | (simp; omega)) _ _) | refine Below.drew ?_ | refine Below.drewN ?_ _ | (refine Below.putF ?_ (by first | (simp; done) | omega | (simp; omega)) _) | (refine Below.setCell ?_ (by first | (simp; done) | (simp; omega)) _))), fun h => by cases h⟩
    case o8 =>
      intro x w1 hH K hK
      have e23 : x 23 = _ := hH.holds 7 (by decide) (by decide +kernel) 23 rfl
      obtain ⟨xs, d, rfl⟩ := grow_of_below hH.below
      clear hH
      try simp only [World.grow_drew] at hK ⊢
      try simp only [World.grow_grow] at hK ⊢
      simp only [e23] at hK ⊢
      clear e23
      go_simp
      go_wp2_with fail
      exact ⟨_, rfl, rfl, (by repeat (first | exact below_of_grow _ _ | exact Below.refl _ _ | exact below_more _ _ _ _ | (simp only [← Array.append_assoc]; first | exact below_more _ _ _ _ | exact below_same _ _ _ | exact Below.refl _ _) | exact below_same _ _ _ | (refine Below.alloc ?_ (by first | (simp; done) | (simp; omega)) _) | (refine Below.grow ?_ (by first | (simp; done) | (simp; omega)) _ _) | refine Below.drew ?_ | refine Below.drewN ?_ _ | (refine Below.putF ?_ (by first | (simp; done) | omega | (simp; omega)) _) | (refine Below.setCell ?_ (by first | (simp; done) | (simp; omega)) _))), fun h => by cases h⟩
    case o9 =>
      intro x w1 hH K hK
      have e24 : x 24 = _ := hH.holds 8 (by decide) (by decide +kernel) 24 rfl
      obtain ⟨xs, d, rfl⟩ := grow_of_below hH.below
      clear hH
      try simp only [World.grow_drew] at hK ⊢
      try simp only [World.grow_grow] at hK ⊢
      simp only [e24] at hK ⊢
      clear e24
      go_simp
      go_wp2_with (refine Gives.use (HP.out _) ?_; intro ys e)
      exact ⟨_, rfl, rfl, (by first | exact below_more _ _ _ _ | exact (by repeat (first | exact below_of_grow _ _ | exact Below.refl _ _ | exact below_more _ _ _ _ | (simp only [← Array.append_assoc]; first | exact below_more _ _ _ _ | exact below_same _ _ _ | exact Below.refl _ _) | exact below_same _ _ _ | (refine Below.alloc ?_ (by first | (simp; done) | (simp; omega)) _) | (refine Below.grow ?_ (by first | (simp; done) | (simp; omega)) _ _) | refine Below.drew ?_ | refine Below.drewN ?_ _ | (refine Below.putF ?_ (by first | (simp; done) | omega | (simp; omega)) _) | (refine Below.setCell ?_ (by first | (simp; done) | (simp; omega)) _)))), fun h => by cases h⟩
    case o10 =>
      intro x w1 hH K hK
      have e22 : x 22 = _ := hH.holds 6 (by decide) (by decide +kernel) 22 rfl
      have e25 : x 25 = _ := hH.holds 9 (by decide) (by decide +kernel) 25 rfl
      obtain ⟨xs, d, rfl⟩ := grow_of_below hH.below
      clear hH
      try simp only [World.grow_drew] at hK ⊢
      try simp only [World.grow_grow] at hK ⊢
      simp only [e22, e25] at hK ⊢
      clear e22 e25
      go_simp
      go_wp2_with fail
      exact ⟨_, rfl, rfl, (by repeat (first | exact below_of_grow _ _ | exact Below.refl _ _ | exact below_more _ _ _ _ | (simp only [← Array.append_assoc]; first | exact below_more _ _ _ _ | exact below_same _ _ _ | exact Below.refl _ _) | exact below_same _ _ _ | (refine Below.alloc ?_ (by first | (simp; done) | (simp; omega)) _) | (refine Below.grow ?_ (by first | (simp; done) | (simp; omega)) _ _) | refine Below.drew ?_ | refine Below.drewN ?_ _ | (refine Below.putF ?_ (by first | (simp; done) | omega | (simp; omega)) _) | (refine Below.setCell ?_ (by first | (simp; done) | (simp; omega)) _))), fun h => by cases h⟩
  case hend =>
    intro x w1 hH
    have e16 : x 16 = _ := hH.holds 0 (by decide) trivial 16 rfl
    have e17 : x 17 = _ := hH.holds 1 (by decide) trivial 17 rfl
    have e18 : x 18 = _ := hH.holds 2 (by decide) trivial 18 rfl
    have e19 : x 19 = _ := hH.holds 3 (by decide) trivial 19 rfl
    have e20 : x 20 = _ := hH.holds 4 (by decide) trivial 20 rfl
    have e21 : x 21 = _ := hH.holds 5 (by decide) trivial 21 rfl
    have e22 : x 22 = _ := hH.holds 6 (by decide) trivial 22 rfl
    have e23 : x 23 = _ := hH.holds 7 (by decide) trivial 23 rfl
    have e24 : x 24 = _ := hH.holds 8 (by decide) trivial 24 rfl
    have e25 : x 25 = _ := hH.holds 9 (by decide) trivial 25 rfl
    have e26 : x 26 = _ := hH.holds 10 (by decide) trivial 26 rfl
    obtain ⟨xs, d, rfl⟩ := grow_of_below hH.below
    clear hH
    simp only [e16, e17, e18, e19, e20, e21, e22, e23, e24, e25, e26]; clear e16 e17 e18 e19 e20 e21 e22 e23 e24 e25 e26
    simp only [List.drop_succ_cons, List.drop_zero]
    go_upto_region 3 with fail
    obtain ⟨S0, hS0⟩ : ∃ S, S = [108, 47] ++ Lib.decDigits (byt k 1).toNat := ⟨_, rfl⟩
    have e0 : (({ data := #[112, 103, 108, 98, 115, 116] } : ByteArray).extract 2 3 ++ ByteArray.mk #[47]) ++ bs (Lib.decDigits (byt k 1).toNat) = bs S0 := by
      rw [show (({ data := #[112, 103, 108, 98, 115, 116] } : ByteArray).extract 2 3 ++ ByteArray.mk #[47]) = bs [108, 47] from rfl, bs_append, hS0]
    have n0 : S0.length ≤ 2000000 := by rw [hS0]; have := dec_len _ hp1; simp; omega
    generalize hz6 : (_ : ByteArray) ++ bs (Lib.decDigits (byt k 1).toNat) = Z
    obtain rfl : Z = bs S0 := hz6.symm.trans e0
    clear hz6
    have HS0 := Lib.hid hS0
    clear e0 hS0 s1 s2 a0 a1 HP

    have htl : (k.drop 15).length = 10 := by simp [hk]
    have HO := Lib.hid (refTagOf_gives (k.drop 15) htl)
    have hok : OkT (refOf (k.drop 15)).1 := refOf_ok htl
    have hxt := refTextT_gives (refOf (k.drop 15)).1 hok
    rw [tag_text htl htr] at hxt
    have HX := Lib.hid hxt
    clear hxt htr
    generalize (refOf (k.drop 15)).1 = x3 at *
    generalize (refOf (k.drop 15)).2 = x4 at *
    obtain ⟨S1, hS1⟩ : ∃ S, S = S0 ++ 47 :: tagText (k.drop 15) := ⟨_, rfl⟩
    have g1 : ¬ 9223372036854775807 < (bs S0).size + (ByteArray.mk #[47]).size := by rw [bs_size]; show ¬ 9223372036854775807 < S0.length + 1; omega
    have g2 : ¬ 9223372036854775807 < (bs S0 ++ ByteArray.mk #[47]).size + (bs (tagText (k.drop 15))).size := by
      have h1 := tagText_len htl
      rw [slash, bs_append, bs_size, bs_size]
      simp; omega
    have e1 : bs S0 ++ ByteArray.mk #[47] ++ bs (tagText (k.drop 15)) = bs S1 := by rw [slash, bs_append, bs_append, hS1]; simp
    have n1 : S1.length ≤ 4000000 := by have h1 := tagText_len htl; rw [hS1]; simp; omega
    have HS1 := Lib.hid hS1
    clear hS1
    go_wp2_with fail
    refine Gives.use (HO.out _) ?_
    intro ya da
    go_wp2_with fail
    refine Gives.use (HX.out _) ?_
    intro yb db
    go_upto_region 10 with fail
    generalize hz6 : (_ : ByteArray) ++ bs (tagText (k.drop 15)) = Z
    obtain rfl : Z = bs S1 := hz6.symm.trans e1
    clear hz6
    clear e1 g1 g2 n0
    go_wp2_with fail
    go_ret
    refine ⟨congrArg (fun l => Ending.returned (Value.string (bs l))) ?_, HB.out.1.trans ((show Below W.heap.size W _ from (by repeat (first | exact below_of_grow _ _ | exact Below.refl _ _ | exact below_more _ _ _ _ | (simp only [← Array.append_assoc]; first | exact below_more _ _ _ _ | exact below_same _ _ _ | exact Below.refl _ _) | exact below_same _ _ _ | (refine Below.alloc ?_ (by first | (simp; done) | (simp; omega)) _) | (refine Below.grow ?_ (by first | (simp; done) | (simp; omega)) _ _) | refine Below.drew ?_ | refine Below.drewN ?_ _ | (refine Below.putF ?_ (by first | (simp; done) | omega | (simp; omega)) _) | (refine Below.setCell ?_ (by first | (simp; done) | (simp; omega)) _)))).mono HB.out.1.size)⟩
    rw [HS1.out, HS0.out]
    simp [join_two, Lib.join_one]

set_option maxHeartbeats 20000000 in
theorem refText6_4 (k : List UInt8) (hk : k.length = 25) (hk0 : byt k 0 = 4) (hr : keyRight k = true) (w : World) : Gives Tryz.prog 51 #[.agg (rkey k)] w (.string (bs (keyText k))) := by
  have hp1 : (byt k 1).toNat < 100 := (k_le100 hr).1
  have hp2 : (byt k 2).toNat < 100 := (k_le100 hr).2 (by rw [hk0]; decide)
  have htx : keyText k = Lib.join [[98], Lib.decDigits (byt k 1).toNat, Lib.decDigits (byt k 2).toNat] [47] := by
    unfold keyText
    rw [if_pos hr]
    unfold keyParts kKind kProj kAt kName kTag
    rw [hk0]
    try rw [take_two]
    rfl
  rw [htx]
  have HU := Lib.hid (show ∀ w, Gives Tryz.prog 89 #[.int .i64 4] w (.tuple #[.int .i64 4, .bool false, .bool false]) from refUses_gives 4)
  have HP := Lib.hid (digits_gives _ hp1)
  have HA := Lib.hid (digits_gives _ hp2)
  have h01 : ((byt k 0).toNat : Int) = 4 := by rw [hk0]; rfl
  have hz := rkey_sz hk
  clear hr htx hk0
  unfold Gives
  go_enter Tryz.func51, Tryz.ntmps51
  go_upto_region 1 with fail
  refine wp_name ?_
  intro W hW
  obtain ⟨q, hq⟩ : ∃ q, q = w.heap.size := ⟨_, rfl⟩
  have hbl : Below w.heap.size w W := by rw [hW]; exact (by repeat (first | exact below_of_grow _ _ | exact Below.refl _ _ | exact below_more _ _ _ _ | (simp only [← Array.append_assoc]; first | exact below_more _ _ _ _ | exact below_same _ _ _ | exact Below.refl _ _) | exact below_same _ _ _ | (refine Below.alloc ?_ (by first | (simp; done) | (simp; omega)) _) | (refine Below.grow ?_ (by first | (simp; done) | (simp; omega)) _ _) | refine Below.drew ?_ | refine Below.drewN ?_ _ | (refine Below.putF ?_ (by first | (simp; done) | omega | (simp; omega)) _) | (refine Below.setCell ?_ (by first | (simp; done) | (simp; omega)) _)))
  have hkk : W.heap[q]? = some (.cells (rkey k) 57) := by rw [hW, heap_al, if_pos hq]
  have lq : q < W.heap.size := (Array.getElem?_eq_some_iff.1 hkk).1
  have a0 : W.cell? ⟨q, 0, none⟩ = some (.int .i64 4) := (cellsK hkk 0).1.trans ((rk_0 _ _ _ _).trans (by rw [h01]))
  have a1 : W.cell? ⟨q, 1, none⟩ = some (.int .i64 ((byt k 1).toNat : Int)) := (cellsK hkk 1).1.trans (rk_1 _ _ _ _)
  have a2 : W.cell? ⟨q, 2, none⟩ = some (.int .i64 ((byt k 2).toNat : Int)) := (cellsK hkk 2).1.trans (rk_2 _ _ _ _)
  have a3 : W.cut? q 3 12 = some (row8 ((k.take 15).drop 3)) := by
    have := cut_sub (cut_heap hkk (sz := 25) hz) (i := 3) (m := 12) (by decide)
    rw [Nat.zero_add] at this
    rw [this]
    unfold rkey
    rw [rk_extract _ _ _ _ _ _ (by decide)]
    simp [List.drop_take]
  have a4 : W.cut? q 15 10 = some (row8 (k.drop 15)) := by
    have := cut_sub (cut_heap hkk (sz := 25) hz) (i := 15) (m := 10) (by decide)
    rw [Nat.zero_add] at this
    rw [this]
    unfold rkey
    rw [rk_extract _ _ _ _ _ _ (by decide), List.take_of_length_le (by simp; omega)]
    simp
  simp only [← hq]
  have HB := Lib.hid (And.intro hbl hq)
  clear hW hbl hkk hz h01 hq
  go_wp2_with fail
  refine Gives.use (HU.out _) ?_
  intro xs1 d1
  have s1 : ¬ 9223372036854775807 < (({ data := #[112, 103, 108, 98, 115, 116] } : ByteArray).extract 3 4).size + (ByteArray.mk #[47]).size := by decide
  have s2 : ¬ 9223372036854775807 < (({ data := #[112, 103, 108, 98, 115, 116] } : ByteArray).extract 3 4 ++ ByteArray.mk #[47]).size + (bs (Lib.decDigits (byt k 1).toNat)).size := by
    have h1 := dec_len _ hp1
    rw [bs_size]
    have : (({ data := #[112, 103, 108, 98, 115, 116] } : ByteArray).extract 3 4 ++ ByteArray.mk #[47]).size = 2 := by decide
    omega
  go_upto_region 2 with fail
  apply wp_region_specs (by rfl) [.val _, .val _, .val _, .val _, .val _, .val _, .val _, .val _, .val _, .val _, .val _] 11 (by rfl) [16, 17, 18, 19, 20, 21, 22, 23, 24, 25, 26] [] [] (by rfl) (by rfl) (by decide) (by decide +kernel) (fun _ _ _ _ _ h => h)
  case hF => intro x; simp only [over, List.foldl_cons, List.foldl_nil, List.setIfInBounds_toArray, List.set_cons_succ, List.set_cons_zero]; exact rfl
  case hops =>
    refine ⟨?o0, ?o1, ?o2, ?o3, ?o4, ?o5, ?o6, ?o7, ?o8, ?o9, ?o10, trivial⟩
    case o0 =>
      intro x w1 hH K hK
      obtain ⟨xs, d, rfl⟩ := grow_of_below hH.below
      clear hH
      try simp only [World.grow_drew] at hK ⊢
      try simp only [World.grow_grow] at hK ⊢
      go_simp
      go_wp2_with fail
      exact ⟨_, rfl, rfl, (by repeat (first | exact below_of_grow _ _ | exact Below.refl _ _ | exact below_more _ _ _ _ | (simp only [← Array.append_assoc]; first | exact below_more _ _ _ _ | exact below_same _ _ _ | exact Below.refl _ _) | exact below_same _ _ _ | (refine Below.alloc ?_ (by first | (simp; done) | (simp; omega)) _) | (refine Below.grow ?_ (by first | (simp; done) | (simp; omega)) _ _) | refine Below.drew ?_ | refine Below.drewN ?_ _ | (refine Below.putF ?_ (by first | (simp; done) | omega | (simp; omega)) _) | (refine Below.setCell ?_ (by first | (simp; done) | (simp; omega)) _))), fun h => by cases h⟩
    case o1 =>
      intro x w1 hH K hK
      have e16 : x 16 = _ := hH.holds 0 (by decide) (by decide +kernel) 16 rfl
      obtain ⟨xs, d, rfl⟩ := grow_of_below hH.below
      clear hH
      try simp only [World.grow_drew] at hK ⊢
      try simp only [World.grow_grow] at hK ⊢
      simp only [e16] at hK ⊢
      clear e16
      go_simp
      go_wp2_with fail
      exact ⟨_, rfl, rfl, (by repeat (first | exact below_of_grow _ _ | exact Below.refl _ _ | exact below_more _ _ _ _ | (simp only [← Array.append_assoc]; first | exact below_more _ _ _ _ | exact below_same _ _ _ | exact Below.refl _ _) | exact below_same _ _ _ | (refine Below.alloc ?_ (by first | (simp; done) | (simp; omega)) _) | (refine Below.grow ?_ (by first | (simp; done) | (simp; omega)) _ _) | refine Below.drew ?_ | refine Below.drewN ?_ _ | (refine Below.putF ?_ (by first | (simp; done) | omega | (simp; omega)) _) | (refine Below.setCell ?_ (by first | (simp; done) | (simp; omega)) _))), fun h => by cases h⟩
    case o2 =>
      intro x w1 hH K hK
      have e17 : x 17 = _ := hH.holds 1 (by decide) (by decide +kernel) 17 rfl
      obtain ⟨xs, d, rfl⟩ := grow_of_below hH.below
      clear hH
      try simp only [World.grow_drew] at hK ⊢
      try simp only [World.grow_grow] at hK ⊢
      simp only [e17] at hK ⊢
      clear e17
      go_simp
      go_wp2_with fail
      exact ⟨_, rfl, rfl, (by repeat (first | exact below_of_grow _ _ | exact Below.refl _ _ | exact below_more _ _ _ _ | (simp only [← Array.append_assoc]; first | exact below_more _ _ _ _ | exact below_same _ _ _ | exact Below.refl _ _) | exact below_same _ _ _ | (refine Below.alloc ?_ (by first | (simp; done) | (simp; omega)) _) | (refine Below.grow ?_ (by first | (simp; done) | (simp; omega)) _ _) | refine Below.drew ?_ | refine Below.drewN ?_ _ | (refine Below.putF ?_ (by first | (simp; done) | omega | (simp; omega)) _) | (refine Below.setCell ?_ (by first | (simp; done) | (simp; omega)) _))), fun h => by cases h⟩
    case o3 =>
      intro x w1 hH K hK
      obtain ⟨xs, d, rfl⟩ := grow_of_below hH.below
      clear hH
      try simp only [World.grow_drew] at hK ⊢
      try simp only [World.grow_grow] at hK ⊢
      go_simp
      go_wp2_with fail
      exact ⟨_, rfl, rfl, (by repeat (first | exact below_of_grow _ _ | exact Below.refl _ _ | exact below_more _ _ _ _ | (simp only [← Array.append_assoc]; first | exact below_more _ _ _ _ | exact below_same _ _ _ | exact Below.refl _ _) | exact below_same _ _ _ | (refine Below.alloc ?_ (by first | (simp; done) | (simp; omega)) _) | (refine Below.grow ?_ (by first | (simp; done) | (simp; omega)) _ _) | refine Below.drew ?_ | refine Below.drewN ?_ _ | (refine Below.putF ?_ (by first | (simp; done) | omega | (simp; omega)) _) | (refine Below.setCell ?_ (by first | (simp; done) | (simp; omega)) _))), fun h => by cases h⟩
    case o4 =>
      intro x w1 hH K hK
      have e19 : x 19 = _ := hH.holds 3 (by decide) (by decide +kernel) 19 rfl
      obtain ⟨xs, d, rfl⟩ := grow_of_below hH.below
      clear hH
      try simp only [World.grow_drew] at hK ⊢
      try simp only [World.grow_grow] at hK ⊢
      simp only [e19] at hK ⊢
      clear e19
      go_simp
      go_wp2_with fail
      exact ⟨_, rfl, rfl, (by repeat (first | exact below_of_grow _ _ | exact Below.refl _ _ | exact below_more _ _ _ _ | (simp only [← Array.append_assoc]; first | exact below_more _ _ _ _ | exact below_same _ _ _ | exact Below.refl _ _) | exact below_same _ _ _ | (refine Below.alloc ?_ (by first | (simp; done) | (simp; omega)) _) | (refine Below.grow ?_ (by first | (simp; done) | (simp; omega)) _ _) | refine Below.drew ?_ | refine Below.drewN ?_ _ | (refine Below.putF ?_ (by first | (simp; done) | omega | (simp; omega)) _) | (refine Below.setCell ?_ (by first | (simp; done) | (simp; omega)) _))), fun h => by cases h⟩
    case o5 =>
      intro x w1 hH K hK
      have e18 : x 18 = _ := hH.holds 2 (by decide) (by decide +kernel) 18 rfl
      have e20 : x 20 = _ := hH.holds 4 (by decide) (by decide +kernel) 20 rfl
      obtain ⟨xs, d, rfl⟩ := grow_of_below hH.below
      clear hH
      try simp only [World.grow_drew] at hK ⊢
      try simp only [World.grow_grow] at hK ⊢
      simp only [e18, e20] at hK ⊢
      clear e18 e20
      go_simp
      go_wp2_with fail
      exact ⟨_, rfl, rfl, (by repeat (first | exact below_of_grow _ _ | exact Below.refl _ _ | exact below_more _ _ _ _ | (simp only [← Array.append_assoc]; first | exact below_more _ _ _ _ | exact below_same _ _ _ | exact Below.refl _ _) | exact below_same _ _ _ | (refine Below.alloc ?_ (by first | (simp; done) | (simp; omega)) _) | (refine Below.grow ?_ (by first | (simp; done) | (simp; omega)) _ _) | refine Below.drew ?_ | refine Below.drewN ?_ _ | (refine Below.putF ?_ (by first | (simp; done) | omega | (simp; omega)) _) | (refine Below.setCell ?_ (by first | (simp; done) | (simp; omega)) _))), fun h => by cases h⟩
    case o6 =>
      intro x w1 hH K hK
      have e21 : x 21 = _ := hH.holds 5 (by decide) (by decide +kernel) 21 rfl
      obtain ⟨xs, d, rfl⟩ := grow_of_below hH.below
      clear hH
      try simp only [World.grow_drew] at hK ⊢
      try simp only [World.grow_grow] at hK ⊢
      simp only [e21] at hK ⊢
      clear e21
      go_simp
      go_wp2_with fail
      exact ⟨_, rfl, rfl, (by repeat (first | exact below_of_grow _ _ | exact Below.refl _ _ | exact below_more _ _ _ _ | (simp only [← Array.append_assoc]; first | exact below_more _ _ _ _ | exact below_same _ _ _ | exact Below.refl _ _) | exact below_same _ _ _ | (refine Below.alloc ?_ (by first | (simp; done) | (simp; omega)) _) | (refine Below.grow ?_ (by first | (simp; done) | (simp; omega)) _ _) | refine Below.drew ?_ | refine Below.drewN ?_ _ | (refine Below.putF ?_ (by first | (simp; done) | omega | (simp; omega)) _) | (refine Below.setCell ?_ (by first | (simp; done) | (simp; omega)) _))), fun h => by cases h⟩
    case o7 =>
      intro x w1 hH K hK
      obtain ⟨xs, d, rfl⟩ := grow_of_below hH.below
      clear hH
      try simp only [World.grow_drew] at hK ⊢
      try simp only [World.grow_grow] at hK ⊢
      go_simp
      go_wp2_with fail
      exact ⟨_, rfl, rfl, (by repeat (first | exact below_of_grow _ _ | exact Below.refl _ _ | exact below_more _ _ _ _ | (simp only [← Array.append_assoc]; first | exact below_more _ _ _ _ | exact below_same _ _ _ | exact Below.refl _ _) | exact below_same _ _ _ | (refine Below.alloc ?_ (by first | (simp; done) | (simp; omega)) _) | (refine Below.grow ?_ (by first | (simp; done) | (simp; omega)) _ _) | refine Below.drew ?_ | refine Below.drewN ?_ _ | (refine Below.putF ?_ (by first | (simp; done) | omega | (simp; omega)) _) | (refine Below.setCell ?_ (by first | (simp; done) | (simp; omega)) _))), fun h => by cases h⟩
    case o8 =>
      intro x w1 hH K hK
      have e23 : x 23 = _ := hH.holds 7 (by decide) (by decide +kernel) 23 rfl
      obtain ⟨xs, d, rfl⟩ := grow_of_below hH.below
      clear hH
      try simp only [World.grow_drew] at hK ⊢
      try simp only [World.grow_grow] at hK ⊢
      simp only [e23] at hK ⊢
      clear e23
      go_simp
      go_wp2_with fail
      exact ⟨_, rfl, rfl, (by repeat (first | exact below_of_grow _ _ | exact Below.refl _ _ | exact below_more _ _ _ _ | (simp only [← Array.append_assoc]; first | exact below_more _ _ _ _ | exact below_same _ _ _ | exact Below.refl _ _) | exact below_same _ _ _ | (refine Below.alloc ?_ (by first | (simp; done) | (simp; omega)) _) | (refine Below.grow ?_ (by first | (simp; done) | (simp; omega)) _ _) | refine Below.drew ?_ | refine Below.drewN ?_ _ | (refine Below.putF ?_ (by first | (simp; done) | omega | (simp; omega)) _) | (refine Below.setCell ?_ (by first | (simp; done) | (simp; omega)) _))), fun h => by cases h⟩
    case o9 =>
      intro x w1 hH K hK
      have e24 : x 24 = _ := hH.holds 8 (by decide) (by decide +kernel) 24 rfl
      obtain ⟨xs, d, rfl⟩ := grow_of_below hH.below
      clear hH
      try simp only [World.grow_drew] at hK ⊢
      try simp only [World.grow_grow] at hK ⊢
      simp only [e24] at hK ⊢
      clear e24
      go_simp
      go_wp2_with (refine Gives.use (HP.out _) ?_; intro ys e)
      exact ⟨_, rfl, rfl, (by first | exact below_more _ _ _ _ | exact (by repeat (first | exact below_of_grow _ _ | exact Below.refl _ _ | exact below_more _ _ _ _ | (simp only [← Array.append_assoc]; first | exact below_more _ _ _ _ | exact below_same _ _ _ | exact Below.refl _ _) | exact below_same _ _ _ | (refine Below.alloc ?_ (by first | (simp; done) | (simp; omega)) _) | (refine Below.grow ?_ (by first | (simp; done) | (simp; omega)) _ _) | refine Below.drew ?_ | refine Below.drewN ?_ _ | (refine Below.putF ?_ (by first | (simp; done) | omega | (simp; omega)) _) | (refine Below.setCell ?_ (by first | (simp; done) | (simp; omega)) _)))), fun h => by cases h⟩
    case o10 =>
      intro x w1 hH K hK
      have e22 : x 22 = _ := hH.holds 6 (by decide) (by decide +kernel) 22 rfl
      have e25 : x 25 = _ := hH.holds 9 (by decide) (by decide +kernel) 25 rfl
      obtain ⟨xs, d, rfl⟩ := grow_of_below hH.below
      clear hH
      try simp only [World.grow_drew] at hK ⊢
      try simp only [World.grow_grow] at hK ⊢
      simp only [e22, e25] at hK ⊢
      clear e22 e25
      go_simp
      go_wp2_with fail
      exact ⟨_, rfl, rfl, (by repeat (first | exact below_of_grow _ _ | exact Below.refl _ _ | exact below_more _ _ _ _ | (simp only [← Array.append_assoc]; first | exact below_more _ _ _ _ | exact below_same _ _ _ | exact Below.refl _ _) | exact below_same _ _ _ | (refine Below.alloc ?_ (by first | (simp; done) | (simp; omega)) _) | (refine Below.grow ?_ (by first | (simp; done) | (simp; omega)) _ _) | refine Below.drew ?_ | refine Below.drewN ?_ _ | (refine Below.putF ?_ (by first | (simp; done) | omega | (simp; omega)) _) | (refine Below.setCell ?_ (by first | (simp; done) | (simp; omega)) _))), fun h => by cases h⟩
  case hend =>
    intro x w1 hH
    have e16 : x 16 = _ := hH.holds 0 (by decide) trivial 16 rfl
    have e17 : x 17 = _ := hH.holds 1 (by decide) trivial 17 rfl
    have e18 : x 18 = _ := hH.holds 2 (by decide) trivial 18 rfl
    have e19 : x 19 = _ := hH.holds 3 (by decide) trivial 19 rfl
    have e20 : x 20 = _ := hH.holds 4 (by decide) trivial 20 rfl
    have e21 : x 21 = _ := hH.holds 5 (by decide) trivial 21 rfl
    have e22 : x 22 = _ := hH.holds 6 (by decide) trivial 22 rfl
    have e23 : x 23 = _ := hH.holds 7 (by decide) trivial 23 rfl
    have e24 : x 24 = _ := hH.holds 8 (by decide) trivial 24 rfl
    have e25 : x 25 = _ := hH.holds 9 (by decide) trivial 25 rfl
    have e26 : x 26 = _ := hH.holds 10 (by decide) trivial 26 rfl
    obtain ⟨xs, d, rfl⟩ := grow_of_below hH.below
    clear hH
    simp only [e16, e17, e18, e19, e20, e21, e22, e23, e24, e25, e26]; clear e16 e17 e18 e19 e20 e21 e22 e23 e24 e25 e26
    simp only [List.drop_succ_cons, List.drop_zero]
    go_upto_region 3 with fail
    obtain ⟨S0, hS0⟩ : ∃ S, S = [98, 47] ++ Lib.decDigits (byt k 1).toNat := ⟨_, rfl⟩
    have e0 : (({ data := #[112, 103, 108, 98, 115, 116] } : ByteArray).extract 3 4 ++ ByteArray.mk #[47]) ++ bs (Lib.decDigits (byt k 1).toNat) = bs S0 := by
      rw [show (({ data := #[112, 103, 108, 98, 115, 116] } : ByteArray).extract 3 4 ++ ByteArray.mk #[47]) = bs [98, 47] from rfl, bs_append, hS0]
    have n0 : S0.length ≤ 2000000 := by rw [hS0]; have := dec_len _ hp1; simp; omega
    generalize hz6 : (_ : ByteArray) ++ bs (Lib.decDigits (byt k 1).toNat) = Z
    obtain rfl : Z = bs S0 := hz6.symm.trans e0
    clear hz6
    have HS0 := Lib.hid hS0
    clear e0 hS0 s1 s2 a0 a1 HP

    obtain ⟨S1, hS1⟩ : ∃ S, S = S0 ++ 47 :: Lib.decDigits (byt k 2).toNat := ⟨_, rfl⟩
    have g1 : ¬ 9223372036854775807 < (bs S0).size + (ByteArray.mk #[47]).size := by rw [bs_size]; show ¬ 9223372036854775807 < S0.length + 1; omega
    have g2 : ¬ 9223372036854775807 < (bs S0 ++ ByteArray.mk #[47]).size + (bs (Lib.decDigits (byt k 2).toNat)).size := by
      have h1 := dec_len _ hp2
      rw [slash, bs_append, bs_size, bs_size]
      simp; omega
    have e1 : bs S0 ++ ByteArray.mk #[47] ++ bs (Lib.decDigits (byt k 2).toNat) = bs S1 := by rw [slash, bs_append, bs_append, hS1]; simp
    have n1 : S1.length ≤ 4000000 := by have h1 := dec_len _ hp2; rw [hS1]; simp; omega
    have HS1 := Lib.hid hS1
    clear hS1
    go_wp2_with fail
    refine Gives.use (HA.out _) ?_
    intro ya da
    go_upto_region 5 with fail
    generalize hz6 : (_ : ByteArray) ++ bs (Lib.decDigits (byt k 2).toNat) = Z
    obtain rfl : Z = bs S1 := hz6.symm.trans e1
    clear hz6
    clear e1 g1 g2 n0
    go_wp2_with fail
    go_ret
    refine ⟨congrArg (fun l => Ending.returned (Value.string (bs l))) ?_, HB.out.1.trans ((show Below W.heap.size W _ from (by repeat (first | exact below_of_grow _ _ | exact Below.refl _ _ | exact below_more _ _ _ _ | (simp only [← Array.append_assoc]; first | exact below_more _ _ _ _ | exact below_same _ _ _ | exact Below.refl _ _) | exact below_same _ _ _ | (refine Below.alloc ?_ (by first | (simp; done) | (simp; omega)) _) | (refine Below.grow ?_ (by first | (simp; done) | (simp; omega)) _ _) | refine Below.drew ?_ | refine Below.drewN ?_ _ | (refine Below.putF ?_ (by first | (simp; done) | omega | (simp; omega)) _) | (refine Below.setCell ?_ (by first | (simp; done) | (simp; omega)) _)))).mono HB.out.1.size)⟩
    rw [HS1.out, HS0.out]
    simp [join_two, Lib.join_one]

set_option maxHeartbeats 20000000 in
theorem refText6_5 (k : List UInt8) (hk : k.length = 25) (hk0 : byt k 0 = 5) (hr : keyRight k = true) (w : World) : Gives Tryz.prog 51 #[.agg (rkey k)] w (.string (bs (keyText k))) := by
  have hp1 : (byt k 1).toNat < 100 := (k_le100 hr).1
  have hp2 : (byt k 2).toNat < 100 := (k_le100 hr).2 (by rw [hk0]; decide)
  have htx : keyText k = Lib.join [[115], Lib.decDigits (byt k 1).toNat, Lib.decDigits (byt k 2).toNat, nameText ((k.take 15).drop 3)] [47] := by
    unfold keyText
    rw [if_pos hr]
    unfold keyParts kKind kProj kAt kName kTag
    rw [hk0]
    try rw [take_two]
    rfl
  rw [htx]
  have HU := Lib.hid (show ∀ w, Gives Tryz.prog 89 #[.int .i64 5] w (.tuple #[.int .i64 4, .bool true, .bool false]) from refUses_gives 5)
  have HP := Lib.hid (digits_gives _ hp1)
  have HA := Lib.hid (digits_gives _ hp2)
  have h01 : ((byt k 0).toNat : Int) = 5 := by rw [hk0]; rfl
  have hz := rkey_sz hk
  clear hr htx hk0
  unfold Gives
  go_enter Tryz.func51, Tryz.ntmps51
  go_upto_region 1 with fail
  refine wp_name ?_
  intro W hW
  obtain ⟨q, hq⟩ : ∃ q, q = w.heap.size := ⟨_, rfl⟩
  have hbl : Below w.heap.size w W := by rw [hW]; exact (by repeat (first | exact below_of_grow _ _ | exact Below.refl _ _ | exact below_more _ _ _ _ | (simp only [← Array.append_assoc]; first | exact below_more _ _ _ _ | exact below_same _ _ _ | exact Below.refl _ _) | exact below_same _ _ _ | (refine Below.alloc ?_ (by first | (simp; done) | (simp; omega)) _) | (refine Below.grow ?_ (by first | (simp; done) | (simp; omega)) _ _) | refine Below.drew ?_ | refine Below.drewN ?_ _ | (refine Below.putF ?_ (by first | (simp; done) | omega | (simp; omega)) _) | (refine Below.setCell ?_ (by first | (simp; done) | (simp; omega)) _)))
  have hkk : W.heap[q]? = some (.cells (rkey k) 57) := by rw [hW, heap_al, if_pos hq]
  have lq : q < W.heap.size := (Array.getElem?_eq_some_iff.1 hkk).1
  have a0 : W.cell? ⟨q, 0, none⟩ = some (.int .i64 5) := (cellsK hkk 0).1.trans ((rk_0 _ _ _ _).trans (by rw [h01]))
  have a1 : W.cell? ⟨q, 1, none⟩ = some (.int .i64 ((byt k 1).toNat : Int)) := (cellsK hkk 1).1.trans (rk_1 _ _ _ _)
  have a2 : W.cell? ⟨q, 2, none⟩ = some (.int .i64 ((byt k 2).toNat : Int)) := (cellsK hkk 2).1.trans (rk_2 _ _ _ _)
  have a3 : W.cut? q 3 12 = some (row8 ((k.take 15).drop 3)) := by
    have := cut_sub (cut_heap hkk (sz := 25) hz) (i := 3) (m := 12) (by decide)
    rw [Nat.zero_add] at this
    rw [this]
    unfold rkey
    rw [rk_extract _ _ _ _ _ _ (by decide)]
    simp [List.drop_take]
  have a4 : W.cut? q 15 10 = some (row8 (k.drop 15)) := by
    have := cut_sub (cut_heap hkk (sz := 25) hz) (i := 15) (m := 10) (by decide)
    rw [Nat.zero_add] at this
    rw [this]
    unfold rkey
    rw [rk_extract _ _ _ _ _ _ (by decide), List.take_of_length_le (by simp; omega)]
    simp
  simp only [← hq]
  have HB := Lib.hid (And.intro hbl hq)
  clear hW hbl hkk hz h01 hq
  go_wp2_with fail
  refine Gives.use (HU.out _) ?_
  intro xs1 d1
  have s1 : ¬ 9223372036854775807 < (({ data := #[112, 103, 108, 98, 115, 116] } : ByteArray).extract 4 5).size + (ByteArray.mk #[47]).size := by decide
  have s2 : ¬ 9223372036854775807 < (({ data := #[112, 103, 108, 98, 115, 116] } : ByteArray).extract 4 5 ++ ByteArray.mk #[47]).size + (bs (Lib.decDigits (byt k 1).toNat)).size := by
    have h1 := dec_len _ hp1
    rw [bs_size]
    have : (({ data := #[112, 103, 108, 98, 115, 116] } : ByteArray).extract 4 5 ++ ByteArray.mk #[47]).size = 2 := by decide
    omega
  go_upto_region 2 with fail
  apply wp_region_specs (by rfl) [.val _, .val _, .val _, .val _, .val _, .val _, .val _, .val _, .val _, .val _, .val _] 11 (by rfl) [16, 17, 18, 19, 20, 21, 22, 23, 24, 25, 26] [] [] (by rfl) (by rfl) (by decide) (by decide +kernel) (fun _ _ _ _ _ h => h)
  case hF => intro x; simp only [over, List.foldl_cons, List.foldl_nil, List.setIfInBounds_toArray, List.set_cons_succ, List.set_cons_zero]; exact rfl
  case hops =>
    refine ⟨?o0, ?o1, ?o2, ?o3, ?o4, ?o5, ?o6, ?o7, ?o8, ?o9, ?o10, trivial⟩
    case o0 =>
      intro x w1 hH K hK
      obtain ⟨xs, d, rfl⟩ := grow_of_below hH.below
      clear hH
      try simp only [World.grow_drew] at hK ⊢
      try simp only [World.grow_grow] at hK ⊢
      go_simp
      go_wp2_with fail
      exact ⟨_, rfl, rfl, (by repeat (first | exact below_of_grow _ _ | exact Below.refl _ _ | exact below_more _ _ _ _ | (simp only [← Array.append_assoc]; first | exact below_more _ _ _ _ | exact below_same _ _ _ | exact Below.refl _ _) | exact below_same _ _ _ | (refine Below.alloc ?_ (by first | (simp; done) | (simp; omega)) _) | (refine Below.grow ?_ (by first | (simp; done) | (simp; omega)) _ _) | refine Below.drew ?_ | refine Below.drewN ?_ _ | (refine Below.putF ?_ (by first | (simp; done) | omega | (simp; omega)) _) | (refine Below.setCell ?_ (by first | (simp; done) | (simp; omega)) _))), fun h => by cases h⟩
    case o1 =>
      intro x w1 hH K hK
      have e16 : x 16 = _ := hH.holds 0 (by decide) (by decide +kernel) 16 rfl
      obtain ⟨xs, d, rfl⟩ := grow_of_below hH.below
      clear hH
      try simp only [World.grow_drew] at hK ⊢
      try simp only [World.grow_grow] at hK ⊢
      simp only [e16] at hK ⊢
      clear e16
      go_simp
      go_wp2_with fail
      exact ⟨_, rfl, rfl, (by repeat (first | exact below_of_grow _ _ | exact Below.refl _ _ | exact below_more _ _ _ _ | (simp only [← Array.append_assoc]; first | exact below_more _ _ _ _ | exact below_same _ _ _ | exact Below.refl _ _) | exact below_same _ _ _ | (refine Below.alloc ?_ (by first | (simp; done) | (simp; omega)) _) | (refine Below.grow ?_ (by first | (simp; done) | (simp; omega)) _ _) | refine Below.drew ?_ | refine Below.drewN ?_ _ | (refine Below.putF ?_ (by first | (simp; done) | omega | (simp; omega)) _) | (refine Below.setCell ?_ (by first | (simp; done) | (simp; omega)) _))), fun h => by cases h⟩
    case o2 =>
      intro x w1 hH K hK
      have e17 : x 17 = _ := hH.holds 1 (by decide) (by decide +kernel) 17 rfl
      obtain ⟨xs, d, rfl⟩ := grow_of_below hH.below
      clear hH
      try simp only [World.grow_drew] at hK ⊢
      try simp only [World.grow_grow] at hK ⊢
      simp only [e17] at hK ⊢
      clear e17
      go_simp
      go_wp2_with fail
      exact ⟨_, rfl, rfl, (by repeat (first | exact below_of_grow _ _ | exact Below.refl _ _ | exact below_more _ _ _ _ | (simp only [← Array.append_assoc]; first | exact below_more _ _ _ _ | exact below_same _ _ _ | exact Below.refl _ _) | exact below_same _ _ _ | (refine Below.alloc ?_ (by first | (simp; done) | (simp; omega)) _) | (refine Below.grow ?_ (by first | (simp; done) | (simp; omega)) _ _) | refine Below.drew ?_ | refine Below.drewN ?_ _ | (refine Below.putF ?_ (by first | (simp; done) | omega | (simp; omega)) _) | (refine Below.setCell ?_ (by first | (simp; done) | (simp; omega)) _))), fun h => by cases h⟩
    case o3 =>
      intro x w1 hH K hK
      obtain ⟨xs, d, rfl⟩ := grow_of_below hH.below
      clear hH
      try simp only [World.grow_drew] at hK ⊢
      try simp only [World.grow_grow] at hK ⊢
      go_simp
      go_wp2_with fail
      exact ⟨_, rfl, rfl, (by repeat (first | exact below_of_grow _ _ | exact Below.refl _ _ | exact below_more _ _ _ _ | (simp only [← Array.append_assoc]; first | exact below_more _ _ _ _ | exact below_same _ _ _ | exact Below.refl _ _) | exact below_same _ _ _ | (refine Below.alloc ?_ (by first | (simp; done) | (simp; omega)) _) | (refine Below.grow ?_ (by first | (simp; done) | (simp; omega)) _ _) | refine Below.drew ?_ | refine Below.drewN ?_ _ | (refine Below.putF ?_ (by first | (simp; done) | omega | (simp; omega)) _) | (refine Below.setCell ?_ (by first | (simp; done) | (simp; omega)) _))), fun h => by cases h⟩
    case o4 =>
      intro x w1 hH K hK
      have e19 : x 19 = _ := hH.holds 3 (by decide) (by decide +kernel) 19 rfl
      obtain ⟨xs, d, rfl⟩ := grow_of_below hH.below
      clear hH
      try simp only [World.grow_drew] at hK ⊢
      try simp only [World.grow_grow] at hK ⊢
      simp only [e19] at hK ⊢
      clear e19
      go_simp
      go_wp2_with fail
      exact ⟨_, rfl, rfl, (by repeat (first | exact below_of_grow _ _ | exact Below.refl _ _ | exact below_more _ _ _ _ | (simp only [← Array.append_assoc]; first | exact below_more _ _ _ _ | exact below_same _ _ _ | exact Below.refl _ _) | exact below_same _ _ _ | (refine Below.alloc ?_ (by first | (simp; done) | (simp; omega)) _) | (refine Below.grow ?_ (by first | (simp; done) | (simp; omega)) _ _) | refine Below.drew ?_ | refine Below.drewN ?_ _ | (refine Below.putF ?_ (by first | (simp; done) | omega | (simp; omega)) _) | (refine Below.setCell ?_ (by first | (simp; done) | (simp; omega)) _))), fun h => by cases h⟩
    case o5 =>
      intro x w1 hH K hK
      have e18 : x 18 = _ := hH.holds 2 (by decide) (by decide +kernel) 18 rfl
      have e20 : x 20 = _ := hH.holds 4 (by decide) (by decide +kernel) 20 rfl
      obtain ⟨xs, d, rfl⟩ := grow_of_below hH.below
      clear hH
      try simp only [World.grow_drew] at hK ⊢
      try simp only [World.grow_grow] at hK ⊢
      simp only [e18, e20] at hK ⊢
      clear e18 e20
      go_simp
      go_wp2_with fail
      exact ⟨_, rfl, rfl, (by repeat (first | exact below_of_grow _ _ | exact Below.refl _ _ | exact below_more _ _ _ _ | (simp only [← Array.append_assoc]; first | exact below_more _ _ _ _ | exact below_same _ _ _ | exact Below.refl _ _) | exact below_same _ _ _ | (refine Below.alloc ?_ (by first | (simp; done) | (simp; omega)) _) | (refine Below.grow ?_ (by first | (simp; done) | (simp; omega)) _ _) | refine Below.drew ?_ | refine Below.drewN ?_ _ | (refine Below.putF ?_ (by first | (simp; done) | omega | (simp; omega)) _) | (refine Below.setCell ?_ (by first | (simp; done) | (simp; omega)) _))), fun h => by cases h⟩
    case o6 =>
      intro x w1 hH K hK
      have e21 : x 21 = _ := hH.holds 5 (by decide) (by decide +kernel) 21 rfl
      obtain ⟨xs, d, rfl⟩ := grow_of_below hH.below
      clear hH
      try simp only [World.grow_drew] at hK ⊢
      try simp only [World.grow_grow] at hK ⊢
      simp only [e21] at hK ⊢
      clear e21
      go_simp
      go_wp2_with fail
      exact ⟨_, rfl, rfl, (by repeat (first | exact below_of_grow _ _ | exact Below.refl _ _ | exact below_more _ _ _ _ | (simp only [← Array.append_assoc]; first | exact below_more _ _ _ _ | exact below_same _ _ _ | exact Below.refl _ _) | exact below_same _ _ _ | (refine Below.alloc ?_ (by first | (simp; done) | (simp; omega)) _) | (refine Below.grow ?_ (by first | (simp; done) | (simp; omega)) _ _) | refine Below.drew ?_ | refine Below.drewN ?_ _ | (refine Below.putF ?_ (by first | (simp; done) | omega | (simp; omega)) _) | (refine Below.setCell ?_ (by first | (simp; done) | (simp; omega)) _))), fun h => by cases h⟩
    case o7 =>
      intro x w1 hH K hK
      obtain ⟨xs, d, rfl⟩ := grow_of_below hH.below
      clear hH
      try simp only [World.grow_drew] at hK ⊢
      try simp only [World.grow_grow] at hK ⊢
      go_simp
      go_wp2_with fail
      exact ⟨_, rfl, rfl, (by repeat (first | exact below_of_grow _ _ | exact Below.refl _ _ | exact below_more _ _ _ _ | (simp only [← Array.append_assoc]; first | exact below_more _ _ _ _ | exact below_same _ _ _ | exact Below.refl _ _) | exact below_same _ _ _ | (refine Below.alloc ?_ (by first | (simp; done) | (simp; omega)) _) | (refine Below.grow ?_ (by first | (simp; done) | (simp; omega)) _ _) | refine Below.drew ?_ | refine Below.drewN ?_ _ | (refine Below.putF ?_ (by first | (simp; done) | omega | (simp; omega)) _) | (refine Below.setCell ?_ (by first | (simp; done) | (simp; omega)) _))), fun h => by cases h⟩
    case o8 =>
      intro x w1 hH K hK
      have e23 : x 23 = _ := hH.holds 7 (by decide) (by decide +kernel) 23 rfl
      obtain ⟨xs, d, rfl⟩ := grow_of_below hH.below
      clear hH
      try simp only [World.grow_drew] at hK ⊢
      try simp only [World.grow_grow] at hK ⊢
      simp only [e23] at hK ⊢
      clear e23
      go_simp
      go_wp2_with fail
      exact ⟨_, rfl, rfl, (by repeat (first | exact below_of_grow _ _ | exact Below.refl _ _ | exact below_more _ _ _ _ | (simp only [← Array.append_assoc]; first | exact below_more _ _ _ _ | exact below_same _ _ _ | exact Below.refl _ _) | exact below_same _ _ _ | (refine Below.alloc ?_ (by first | (simp; done) | (simp; omega)) _) | (refine Below.grow ?_ (by first | (simp; done) | (simp; omega)) _ _) | refine Below.drew ?_ | refine Below.drewN ?_ _ | (refine Below.putF ?_ (by first | (simp; done) | omega | (simp; omega)) _) | (refine Below.setCell ?_ (by first | (simp; done) | (simp; omega)) _))), fun h => by cases h⟩
    case o9 =>
      intro x w1 hH K hK
      have e24 : x 24 = _ := hH.holds 8 (by decide) (by decide +kernel) 24 rfl
      obtain ⟨xs, d, rfl⟩ := grow_of_below hH.below
      clear hH
      try simp only [World.grow_drew] at hK ⊢
      try simp only [World.grow_grow] at hK ⊢
      simp only [e24] at hK ⊢
      clear e24
      go_simp
      go_wp2_with (refine Gives.use (HP.out _) ?_; intro ys e)
      exact ⟨_, rfl, rfl, (by first | exact below_more _ _ _ _ | exact (by repeat (first | exact below_of_grow _ _ | exact Below.refl _ _ | exact below_more _ _ _ _ | (simp only [← Array.append_assoc]; first | exact below_more _ _ _ _ | exact below_same _ _ _ | exact Below.refl _ _) | exact below_same _ _ _ | (refine Below.alloc ?_ (by first | (simp; done) | (simp; omega)) _) | (refine Below.grow ?_ (by first | (simp; done) | (simp; omega)) _ _) | refine Below.drew ?_ | refine Below.drewN ?_ _ | (refine Below.putF ?_ (by first | (simp; done) | omega | (simp; omega)) _) | (refine Below.setCell ?_ (by first | (simp; done) | (simp; omega)) _)))), fun h => by cases h⟩
    case o10 =>
      intro x w1 hH K hK
      have e22 : x 22 = _ := hH.holds 6 (by decide) (by decide +kernel) 22 rfl
      have e25 : x 25 = _ := hH.holds 9 (by decide) (by decide +kernel) 25 rfl
      obtain ⟨xs, d, rfl⟩ := grow_of_below hH.below
      clear hH
      try simp only [World.grow_drew] at hK ⊢
      try simp only [World.grow_grow] at hK ⊢
      simp only [e22, e25] at hK ⊢
      clear e22 e25
      go_simp
      go_wp2_with fail
      exact ⟨_, rfl, rfl, (by repeat (first | exact below_of_grow _ _ | exact Below.refl _ _ | exact below_more _ _ _ _ | (simp only [← Array.append_assoc]; first | exact below_more _ _ _ _ | exact below_same _ _ _ | exact Below.refl _ _) | exact below_same _ _ _ | (refine Below.alloc ?_ (by first | (simp; done) | (simp; omega)) _) | (refine Below.grow ?_ (by first | (simp; done) | (simp; omega)) _ _) | refine Below.drew ?_ | refine Below.drewN ?_ _ | (refine Below.putF ?_ (by first | (simp; done) | omega | (simp; omega)) _) | (refine Below.setCell ?_ (by first | (simp; done) | (simp; omega)) _))), fun h => by cases h⟩
  case hend =>
    intro x w1 hH
    have e16 : x 16 = _ := hH.holds 0 (by decide) trivial 16 rfl
    have e17 : x 17 = _ := hH.holds 1 (by decide) trivial 17 rfl
    have e18 : x 18 = _ := hH.holds 2 (by decide) trivial 18 rfl
    have e19 : x 19 = _ := hH.holds 3 (by decide) trivial 19 rfl
    have e20 : x 20 = _ := hH.holds 4 (by decide) trivial 20 rfl
    have e21 : x 21 = _ := hH.holds 5 (by decide) trivial 21 rfl
    have e22 : x 22 = _ := hH.holds 6 (by decide) trivial 22 rfl
    have e23 : x 23 = _ := hH.holds 7 (by decide) trivial 23 rfl
    have e24 : x 24 = _ := hH.holds 8 (by decide) trivial 24 rfl
    have e25 : x 25 = _ := hH.holds 9 (by decide) trivial 25 rfl
    have e26 : x 26 = _ := hH.holds 10 (by decide) trivial 26 rfl
    obtain ⟨xs, d, rfl⟩ := grow_of_below hH.below
    clear hH
    simp only [e16, e17, e18, e19, e20, e21, e22, e23, e24, e25, e26]; clear e16 e17 e18 e19 e20 e21 e22 e23 e24 e25 e26
    simp only [List.drop_succ_cons, List.drop_zero]
    go_upto_region 3 with fail
    obtain ⟨S0, hS0⟩ : ∃ S, S = [115, 47] ++ Lib.decDigits (byt k 1).toNat := ⟨_, rfl⟩
    have e0 : (({ data := #[112, 103, 108, 98, 115, 116] } : ByteArray).extract 4 5 ++ ByteArray.mk #[47]) ++ bs (Lib.decDigits (byt k 1).toNat) = bs S0 := by
      rw [show (({ data := #[112, 103, 108, 98, 115, 116] } : ByteArray).extract 4 5 ++ ByteArray.mk #[47]) = bs [115, 47] from rfl, bs_append, hS0]
    have n0 : S0.length ≤ 2000000 := by rw [hS0]; have := dec_len _ hp1; simp; omega
    generalize hz6 : (_ : ByteArray) ++ bs (Lib.decDigits (byt k 1).toNat) = Z
    obtain rfl : Z = bs S0 := hz6.symm.trans e0
    clear hz6
    have HS0 := Lib.hid hS0
    clear e0 hS0 s1 s2 a0 a1 HP

    obtain ⟨S1, hS1⟩ : ∃ S, S = S0 ++ 47 :: Lib.decDigits (byt k 2).toNat := ⟨_, rfl⟩
    have g1 : ¬ 9223372036854775807 < (bs S0).size + (ByteArray.mk #[47]).size := by rw [bs_size]; show ¬ 9223372036854775807 < S0.length + 1; omega
    have g2 : ¬ 9223372036854775807 < (bs S0 ++ ByteArray.mk #[47]).size + (bs (Lib.decDigits (byt k 2).toNat)).size := by
      have h1 := dec_len _ hp2
      rw [slash, bs_append, bs_size, bs_size]
      simp; omega
    have e1 : bs S0 ++ ByteArray.mk #[47] ++ bs (Lib.decDigits (byt k 2).toNat) = bs S1 := by rw [slash, bs_append, bs_append, hS1]; simp
    have n1 : S1.length ≤ 4000000 := by have h1 := dec_len _ hp2; rw [hS1]; simp; omega
    have HS1 := Lib.hid hS1
    clear hS1
    go_wp2_with fail
    refine Gives.use (HA.out _) ?_
    intro ya da
    go_upto_region 5 with fail
    generalize hz6 : (_ : ByteArray) ++ bs (Lib.decDigits (byt k 2).toNat) = Z
    obtain rfl : Z = bs S1 := hz6.symm.trans e1
    clear hz6
    clear e1 g1 g2 n0
    have hnl : ((k.take 15).drop 3).length = 12 := by simp [hk]
    have HN := Lib.hid (refText4_gives ((k.take 15).drop 3) hnl)
    obtain ⟨S2, hS2⟩ : ∃ S, S = S1 ++ 47 :: nameText ((k.take 15).drop 3) := ⟨_, rfl⟩
    have g1 : ¬ 9223372036854775807 < (bs S1).size + (ByteArray.mk #[47]).size := by rw [bs_size]; show ¬ 9223372036854775807 < S1.length + 1; omega
    have g2 : ¬ 9223372036854775807 < (bs S1 ++ ByteArray.mk #[47]).size + (bs (nameText ((k.take 15).drop 3))).size := by
      have h1 := nameText_len hnl
      rw [slash, bs_append, bs_size, bs_size]
      simp; omega
    have e1 : bs S1 ++ ByteArray.mk #[47] ++ bs (nameText ((k.take 15).drop 3)) = bs S2 := by rw [slash, bs_append, bs_append, hS2]; simp
    have n2 : S2.length ≤ 6000000 := by have h1 := nameText_len hnl; rw [hS2]; simp; omega
    have HS2 := Lib.hid hS2
    clear hS2
    go_wp2_with fail
    refine Gives.use (HN.out _) ?_
    intro ya da
    go_upto_region 7 with fail
    generalize hz6 : (_ : ByteArray) ++ bs (nameText ((k.take 15).drop 3)) = Z
    obtain rfl : Z = bs S2 := hz6.symm.trans e1
    clear hz6
    clear e1 g1 g2 n1
    go_wp2_with fail
    go_ret
    refine ⟨congrArg (fun l => Ending.returned (Value.string (bs l))) ?_, HB.out.1.trans ((show Below W.heap.size W _ from (by repeat (first | exact below_of_grow _ _ | exact Below.refl _ _ | exact below_more _ _ _ _ | (simp only [← Array.append_assoc]; first | exact below_more _ _ _ _ | exact below_same _ _ _ | exact Below.refl _ _) | exact below_same _ _ _ | (refine Below.alloc ?_ (by first | (simp; done) | (simp; omega)) _) | (refine Below.grow ?_ (by first | (simp; done) | (simp; omega)) _ _) | refine Below.drew ?_ | refine Below.drewN ?_ _ | (refine Below.putF ?_ (by first | (simp; done) | omega | (simp; omega)) _) | (refine Below.setCell ?_ (by first | (simp; done) | (simp; omega)) _)))).mono HB.out.1.size)⟩
    rw [HS2.out, HS1.out, HS0.out]
    simp [join_two, Lib.join_one]

set_option maxHeartbeats 20000000 in
theorem refText6_6 (k : List UInt8) (hk : k.length = 25) (hk0 : byt k 0 = 6) (hr : keyRight k = true) (w : World) : Gives Tryz.prog 51 #[.agg (rkey k)] w (.string (bs (keyText k))) := by
  have hp1 : (byt k 1).toNat < 100 := (k_le100 hr).1
  have hp2 : (byt k 2).toNat < 100 := (k_le100 hr).2 (by rw [hk0]; decide)
  have htr := right_tag hk hr
  have htx : keyText k = Lib.join [[116], Lib.decDigits (byt k 1).toNat, Lib.decDigits (byt k 2).toNat, nameText ((k.take 15).drop 3), tagText (k.drop 15)] [47] := by
    unfold keyText
    rw [if_pos hr]
    unfold keyParts kKind kProj kAt kName kTag
    rw [hk0]
    try rw [take_two]
    rfl
  rw [htx]
  have HU := Lib.hid (show ∀ w, Gives Tryz.prog 89 #[.int .i64 6] w (.tuple #[.int .i64 4, .bool true, .bool true]) from refUses_gives 6)
  have HP := Lib.hid (digits_gives _ hp1)
  have HA := Lib.hid (digits_gives _ hp2)
  have h01 : ((byt k 0).toNat : Int) = 6 := by rw [hk0]; rfl
  have hz := rkey_sz hk
  clear hr htx hk0
  unfold Gives
  go_enter Tryz.func51, Tryz.ntmps51
  go_upto_region 1 with fail
  refine wp_name ?_
  intro W hW
  obtain ⟨q, hq⟩ : ∃ q, q = w.heap.size := ⟨_, rfl⟩
  have hbl : Below w.heap.size w W := by rw [hW]; exact (by repeat (first | exact below_of_grow _ _ | exact Below.refl _ _ | exact below_more _ _ _ _ | (simp only [← Array.append_assoc]; first | exact below_more _ _ _ _ | exact below_same _ _ _ | exact Below.refl _ _) | exact below_same _ _ _ | (refine Below.alloc ?_ (by first | (simp; done) | (simp; omega)) _) | (refine Below.grow ?_ (by first | (simp; done) | (simp; omega)) _ _) | refine Below.drew ?_ | refine Below.drewN ?_ _ | (refine Below.putF ?_ (by first | (simp; done) | omega | (simp; omega)) _) | (refine Below.setCell ?_ (by first | (simp; done) | (simp; omega)) _)))
  have hkk : W.heap[q]? = some (.cells (rkey k) 57) := by rw [hW, heap_al, if_pos hq]
  have lq : q < W.heap.size := (Array.getElem?_eq_some_iff.1 hkk).1
  have a0 : W.cell? ⟨q, 0, none⟩ = some (.int .i64 6) := (cellsK hkk 0).1.trans ((rk_0 _ _ _ _).trans (by rw [h01]))
  have a1 : W.cell? ⟨q, 1, none⟩ = some (.int .i64 ((byt k 1).toNat : Int)) := (cellsK hkk 1).1.trans (rk_1 _ _ _ _)
  have a2 : W.cell? ⟨q, 2, none⟩ = some (.int .i64 ((byt k 2).toNat : Int)) := (cellsK hkk 2).1.trans (rk_2 _ _ _ _)
  have a3 : W.cut? q 3 12 = some (row8 ((k.take 15).drop 3)) := by
    have := cut_sub (cut_heap hkk (sz := 25) hz) (i := 3) (m := 12) (by decide)
    rw [Nat.zero_add] at this
    rw [this]
    unfold rkey
    rw [rk_extract _ _ _ _ _ _ (by decide)]
    simp [List.drop_take]
  have a4 : W.cut? q 15 10 = some (row8 (k.drop 15)) := by
    have := cut_sub (cut_heap hkk (sz := 25) hz) (i := 15) (m := 10) (by decide)
    rw [Nat.zero_add] at this
    rw [this]
    unfold rkey
    rw [rk_extract _ _ _ _ _ _ (by decide), List.take_of_length_le (by simp; omega)]
    simp
  simp only [← hq]
  have HB := Lib.hid (And.intro hbl hq)
  clear hW hbl hkk hz h01 hq
  go_wp2_with fail
  refine Gives.use (HU.out _) ?_
  intro xs1 d1
  have s1 : ¬ 9223372036854775807 < (({ data := #[112, 103, 108, 98, 115, 116] } : ByteArray).extract 5 6).size + (ByteArray.mk #[47]).size := by decide
  have s2 : ¬ 9223372036854775807 < (({ data := #[112, 103, 108, 98, 115, 116] } : ByteArray).extract 5 6 ++ ByteArray.mk #[47]).size + (bs (Lib.decDigits (byt k 1).toNat)).size := by
    have h1 := dec_len _ hp1
    rw [bs_size]
    have : (({ data := #[112, 103, 108, 98, 115, 116] } : ByteArray).extract 5 6 ++ ByteArray.mk #[47]).size = 2 := by decide
    omega
  go_upto_region 2 with fail
  apply wp_region_specs (by rfl) [.val _, .val _, .val _, .val _, .val _, .val _, .val _, .val _, .val _, .val _, .val _] 11 (by rfl) [16, 17, 18, 19, 20, 21, 22, 23, 24, 25, 26] [] [] (by rfl) (by rfl) (by decide) (by decide +kernel) (fun _ _ _ _ _ h => h)
  case hF => intro x; simp only [over, List.foldl_cons, List.foldl_nil, List.setIfInBounds_toArray, List.set_cons_succ, List.set_cons_zero]; exact rfl
  case hops =>
    refine ⟨?o0, ?o1, ?o2, ?o3, ?o4, ?o5, ?o6, ?o7, ?o8, ?o9, ?o10, trivial⟩
    case o0 =>
      intro x w1 hH K hK
      obtain ⟨xs, d, rfl⟩ := grow_of_below hH.below
      clear hH
      try simp only [World.grow_drew] at hK ⊢
      try simp only [World.grow_grow] at hK ⊢
      go_simp
      go_wp2_with fail
      exact ⟨_, rfl, rfl, (by repeat (first | exact below_of_grow _ _ | exact Below.refl _ _ | exact below_more _ _ _ _ | (simp only [← Array.append_assoc]; first | exact below_more _ _ _ _ | exact below_same _ _ _ | exact Below.refl _ _) | exact below_same _ _ _ | (refine Below.alloc ?_ (by first | (simp; done) | (simp; omega)) _) | (refine Below.grow ?_ (by first | (simp; done) | (simp; omega)) _ _) | refine Below.drew ?_ | refine Below.drewN ?_ _ | (refine Below.putF ?_ (by first | (simp; done) | omega | (simp; omega)) _) | (refine Below.setCell ?_ (by first | (simp; done) | (simp; omega)) _))), fun h => by cases h⟩
    case o1 =>
      intro x w1 hH K hK
      have e16 : x 16 = _ := hH.holds 0 (by decide) (by decide +kernel) 16 rfl
      obtain ⟨xs, d, rfl⟩ := grow_of_below hH.below
      clear hH
      try simp only [World.grow_drew] at hK ⊢
      try simp only [World.grow_grow] at hK ⊢
      simp only [e16] at hK ⊢
      clear e16
      go_simp
      go_wp2_with fail
      exact ⟨_, rfl, rfl, (by repeat (first | exact below_of_grow _ _ | exact Below.refl _ _ | exact below_more _ _ _ _ | (simp only [← Array.append_assoc]; first | exact below_more _ _ _ _ | exact below_same _ _ _ | exact Below.refl _ _) | exact below_same _ _ _ | (refine Below.alloc ?_ (by first | (simp; done) | (simp; omega)) _) | (refine Below.grow ?_ (by first | (simp; done) | (simp; omega)) _ _) | refine Below.drew ?_ | refine Below.drewN ?_ _ | (refine Below.putF ?_ (by first | (simp; done) | omega | (simp; omega)) _) | (refine Below.setCell ?_ (by first | (simp; done) | (simp; omega)) _))), fun h => by cases h⟩
    case o2 =>
      intro x w1 hH K hK
      have e17 : x 17 = _ := hH.holds 1 (by decide) (by decide +kernel) 17 rfl
      obtain ⟨xs, d, rfl⟩ := grow_of_below hH.below
      clear hH
      try simp only [World.grow_drew] at hK ⊢
      try simp only [World.grow_grow] at hK ⊢
      simp only [e17] at hK ⊢
      clear e17
      go_simp
      go_wp2_with fail
      exact ⟨_, rfl, rfl, (by repeat (first | exact below_of_grow _ _ | exact Below.refl _ _ | exact below_more _ _ _ _ | (simp only [← Array.append_assoc]; first | exact below_more _ _ _ _ | exact below_same _ _ _ | exact Below.refl _ _) | exact below_same _ _ _ | (refine Below.alloc ?_ (by first | (simp; done) | (simp; omega)) _) | (refine Below.grow ?_ (by first | (simp; done) | (simp; omega)) _ _) | refine Below.drew ?_ | refine Below.drewN ?_ _ | (refine Below.putF ?_ (by first | (simp; done) | omega | (simp; omega)) _) | (refine Below.setCell ?_ (by first | (simp; done) | (simp; omega)) _))), fun h => by cases h⟩
    case o3 =>
      intro x w1 hH K hK
      obtain ⟨xs, d, rfl⟩ := grow_of_below hH.below
      clear hH
      try simp only [World.grow_drew] at hK ⊢
      try simp only [World.grow_grow] at hK ⊢
      go_simp
      go_wp2_with fail
      exact ⟨_, rfl, rfl, (by repeat (first | exact below_of_grow _ _ | exact Below.refl _ _ | exact below_more _ _ _ _ | (simp only [← Array.append_assoc]; first | exact below_more _ _ _ _ | exact below_same _ _ _ | exact Below.refl _ _) | exact below_same _ _ _ | (refine Below.alloc ?_ (by first | (simp; done) | (simp; omega)) _) | (refine Below.grow ?_ (by first | (simp; done) | (simp; omega)) _ _) | refine Below.drew ?_ | refine Below.drewN ?_ _ | (refine Below.putF ?_ (by first | (simp; done) | omega | (simp; omega)) _) | (refine Below.setCell ?_ (by first | (simp; done) | (simp; omega)) _))), fun h => by cases h⟩
    case o4 =>
      intro x w1 hH K hK
      have e19 : x 19 = _ := hH.holds 3 (by decide) (by decide +kernel) 19 rfl
      obtain ⟨xs, d, rfl⟩ := grow_of_below hH.below
      clear hH
      try simp only [World.grow_drew] at hK ⊢
      try simp only [World.grow_grow] at hK ⊢
      simp only [e19] at hK ⊢
      clear e19
      go_simp
      go_wp2_with fail
      exact ⟨_, rfl, rfl, (by repeat (first | exact below_of_grow _ _ | exact Below.refl _ _ | exact below_more _ _ _ _ | (simp only [← Array.append_assoc]; first | exact below_more _ _ _ _ | exact below_same _ _ _ | exact Below.refl _ _) | exact below_same _ _ _ | (refine Below.alloc ?_ (by first | (simp; done) | (simp; omega)) _) | (refine Below.grow ?_ (by first | (simp; done) | (simp; omega)) _ _) | refine Below.drew ?_ | refine Below.drewN ?_ _ | (refine Below.putF ?_ (by first | (simp; done) | omega | (simp; omega)) _) | (refine Below.setCell ?_ (by first | (simp; done) | (simp; omega)) _))), fun h => by cases h⟩
    case o5 =>
      intro x w1 hH K hK
      have e18 : x 18 = _ := hH.holds 2 (by decide) (by decide +kernel) 18 rfl
      have e20 : x 20 = _ := hH.holds 4 (by decide) (by decide +kernel) 20 rfl
      obtain ⟨xs, d, rfl⟩ := grow_of_below hH.below
      clear hH
      try simp only [World.grow_drew] at hK ⊢
      try simp only [World.grow_grow] at hK ⊢
      simp only [e18, e20] at hK ⊢
      clear e18 e20
      go_simp
      go_wp2_with fail
      exact ⟨_, rfl, rfl, (by repeat (first | exact below_of_grow _ _ | exact Below.refl _ _ | exact below_more _ _ _ _ | (simp only [← Array.append_assoc]; first | exact below_more _ _ _ _ | exact below_same _ _ _ | exact Below.refl _ _) | exact below_same _ _ _ | (refine Below.alloc ?_ (by first | (simp; done) | (simp; omega)) _) | (refine Below.grow ?_ (by first | (simp; done) | (simp; omega)) _ _) | refine Below.drew ?_ | refine Below.drewN ?_ _ | (refine Below.putF ?_ (by first | (simp; done) | omega | (simp; omega)) _) | (refine Below.setCell ?_ (by first | (simp; done) | (simp; omega)) _))), fun h => by cases h⟩
    case o6 =>
      intro x w1 hH K hK
      have e21 : x 21 = _ := hH.holds 5 (by decide) (by decide +kernel) 21 rfl
      obtain ⟨xs, d, rfl⟩ := grow_of_below hH.below
      clear hH
      try simp only [World.grow_drew] at hK ⊢
      try simp only [World.grow_grow] at hK ⊢
      simp only [e21] at hK ⊢
      clear e21
      go_simp
      go_wp2_with fail
      exact ⟨_, rfl, rfl, (by repeat (first | exact below_of_grow _ _ | exact Below.refl _ _ | exact below_more _ _ _ _ | (simp only [← Array.append_assoc]; first | exact below_more _ _ _ _ | exact below_same _ _ _ | exact Below.refl _ _) | exact below_same _ _ _ | (refine Below.alloc ?_ (by first | (simp; done) | (simp; omega)) _) | (refine Below.grow ?_ (by first | (simp; done) | (simp; omega)) _ _) | refine Below.drew ?_ | refine Below.drewN ?_ _ | (refine Below.putF ?_ (by first | (simp; done) | omega | (simp; omega)) _) | (refine Below.setCell ?_ (by first | (simp; done) | (simp; omega)) _))), fun h => by cases h⟩
    case o7 =>
      intro x w1 hH K hK
      obtain ⟨xs, d, rfl⟩ := grow_of_below hH.below
      clear hH
      try simp only [World.grow_drew] at hK ⊢
      try simp only [World.grow_grow] at hK ⊢
      go_simp
      go_wp2_with fail
      exact ⟨_, rfl, rfl, (by repeat (first | exact below_of_grow _ _ | exact Below.refl _ _ | exact below_more _ _ _ _ | (simp only [← Array.append_assoc]; first | exact below_more _ _ _ _ | exact below_same _ _ _ | exact Below.refl _ _) | exact below_same _ _ _ | (refine Below.alloc ?_ (by first | (simp; done) | (simp; omega)) _) | (refine Below.grow ?_ (by first | (simp; done) | (simp; omega)) _ _) | refine Below.drew ?_ | refine Below.drewN ?_ _ | (refine Below.putF ?_ (by first | (simp; done) | omega | (simp; omega)) _) | (refine Below.setCell ?_ (by first | (simp; done) | (simp; omega)) _))), fun h => by cases h⟩
    case o8 =>
      intro x w1 hH K hK
      have e23 : x 23 = _ := hH.holds 7 (by decide) (by decide +kernel) 23 rfl
      obtain ⟨xs, d, rfl⟩ := grow_of_below hH.below
      clear hH
      try simp only [World.grow_drew] at hK ⊢
      try simp only [World.grow_grow] at hK ⊢
      simp only [e23] at hK ⊢
      clear e23
      go_simp
      go_wp2_with fail
      exact ⟨_, rfl, rfl, (by repeat (first | exact below_of_grow _ _ | exact Below.refl _ _ | exact below_more _ _ _ _ | (simp only [← Array.append_assoc]; first | exact below_more _ _ _ _ | exact below_same _ _ _ | exact Below.refl _ _) | exact below_same _ _ _ | (refine Below.alloc ?_ (by first | (simp; done) | (simp; omega)) _) | (refine Below.grow ?_ (by first | (simp; done) | (simp; omega)) _ _) | refine Below.drew ?_ | refine Below.drewN ?_ _ | (refine Below.putF ?_ (by first | (simp; done) | omega | (simp; omega)) _) | (refine Below.setCell ?_ (by first | (simp; done) | (simp; omega)) _))), fun h => by cases h⟩
    case o9 =>
      intro x w1 hH K hK
      have e24 : x 24 = _ := hH.holds 8 (by decide) (by decide +kernel) 24 rfl
      obtain ⟨xs, d, rfl⟩ := grow_of_below hH.below
      clear hH
      try simp only [World.grow_drew] at hK ⊢
      try simp only [World.grow_grow] at hK ⊢
      simp only [e24] at hK ⊢
      clear e24
      go_simp
      go_wp2_with (refine Gives.use (HP.out _) ?_; intro ys e)
      exact ⟨_, rfl, rfl, (by first | exact below_more _ _ _ _ | exact (by repeat (first | exact below_of_grow _ _ | exact Below.refl _ _ | exact below_more _ _ _ _ | (simp only [← Array.append_assoc]; first | exact below_more _ _ _ _ | exact below_same _ _ _ | exact Below.refl _ _) | exact below_same _ _ _ | (refine Below.alloc ?_ (by first | (simp; done) | (simp; omega)) _) | (refine Below.grow ?_ (by first | (simp; done) | (simp; omega)) _ _) | refine Below.drew ?_ | refine Below.drewN ?_ _ | (refine Below.putF ?_ (by first | (simp; done) | omega | (simp; omega)) _) | (refine Below.setCell ?_ (by first | (simp; done) | (simp; omega)) _)))), fun h => by cases h⟩
    case o10 =>
      intro x w1 hH K hK
      have e22 : x 22 = _ := hH.holds 6 (by decide) (by decide +kernel) 22 rfl
      have e25 : x 25 = _ := hH.holds 9 (by decide) (by decide +kernel) 25 rfl
      obtain ⟨xs, d, rfl⟩ := grow_of_below hH.below
      clear hH
      try simp only [World.grow_drew] at hK ⊢
      try simp only [World.grow_grow] at hK ⊢
      simp only [e22, e25] at hK ⊢
      clear e22 e25
      go_simp
      go_wp2_with fail
      exact ⟨_, rfl, rfl, (by repeat (first | exact below_of_grow _ _ | exact Below.refl _ _ | exact below_more _ _ _ _ | (simp only [← Array.append_assoc]; first | exact below_more _ _ _ _ | exact below_same _ _ _ | exact Below.refl _ _) | exact below_same _ _ _ | (refine Below.alloc ?_ (by first | (simp; done) | (simp; omega)) _) | (refine Below.grow ?_ (by first | (simp; done) | (simp; omega)) _ _) | refine Below.drew ?_ | refine Below.drewN ?_ _ | (refine Below.putF ?_ (by first | (simp; done) | omega | (simp; omega)) _) | (refine Below.setCell ?_ (by first | (simp; done) | (simp; omega)) _))), fun h => by cases h⟩
  case hend =>
    intro x w1 hH
    have e16 : x 16 = _ := hH.holds 0 (by decide) trivial 16 rfl
    have e17 : x 17 = _ := hH.holds 1 (by decide) trivial 17 rfl
    have e18 : x 18 = _ := hH.holds 2 (by decide) trivial 18 rfl
    have e19 : x 19 = _ := hH.holds 3 (by decide) trivial 19 rfl
    have e20 : x 20 = _ := hH.holds 4 (by decide) trivial 20 rfl
    have e21 : x 21 = _ := hH.holds 5 (by decide) trivial 21 rfl
    have e22 : x 22 = _ := hH.holds 6 (by decide) trivial 22 rfl
    have e23 : x 23 = _ := hH.holds 7 (by decide) trivial 23 rfl
    have e24 : x 24 = _ := hH.holds 8 (by decide) trivial 24 rfl
    have e25 : x 25 = _ := hH.holds 9 (by decide) trivial 25 rfl
    have e26 : x 26 = _ := hH.holds 10 (by decide) trivial 26 rfl
    obtain ⟨xs, d, rfl⟩ := grow_of_below hH.below
    clear hH
    simp only [e16, e17, e18, e19, e20, e21, e22, e23, e24, e25, e26]; clear e16 e17 e18 e19 e20 e21 e22 e23 e24 e25 e26
    simp only [List.drop_succ_cons, List.drop_zero]
    go_upto_region 3 with fail
    obtain ⟨S0, hS0⟩ : ∃ S, S = [116, 47] ++ Lib.decDigits (byt k 1).toNat := ⟨_, rfl⟩
    have e0 : (({ data := #[112, 103, 108, 98, 115, 116] } : ByteArray).extract 5 6 ++ ByteArray.mk #[47]) ++ bs (Lib.decDigits (byt k 1).toNat) = bs S0 := by
      rw [show (({ data := #[112, 103, 108, 98, 115, 116] } : ByteArray).extract 5 6 ++ ByteArray.mk #[47]) = bs [116, 47] from rfl, bs_append, hS0]
    have n0 : S0.length ≤ 2000000 := by rw [hS0]; have := dec_len _ hp1; simp; omega
    generalize hz6 : (_ : ByteArray) ++ bs (Lib.decDigits (byt k 1).toNat) = Z
    obtain rfl : Z = bs S0 := hz6.symm.trans e0
    clear hz6
    have HS0 := Lib.hid hS0
    clear e0 hS0 s1 s2 a0 a1 HP

    obtain ⟨S1, hS1⟩ : ∃ S, S = S0 ++ 47 :: Lib.decDigits (byt k 2).toNat := ⟨_, rfl⟩
    have g1 : ¬ 9223372036854775807 < (bs S0).size + (ByteArray.mk #[47]).size := by rw [bs_size]; show ¬ 9223372036854775807 < S0.length + 1; omega
    have g2 : ¬ 9223372036854775807 < (bs S0 ++ ByteArray.mk #[47]).size + (bs (Lib.decDigits (byt k 2).toNat)).size := by
      have h1 := dec_len _ hp2
      rw [slash, bs_append, bs_size, bs_size]
      simp; omega
    have e1 : bs S0 ++ ByteArray.mk #[47] ++ bs (Lib.decDigits (byt k 2).toNat) = bs S1 := by rw [slash, bs_append, bs_append, hS1]; simp
    have n1 : S1.length ≤ 4000000 := by have h1 := dec_len _ hp2; rw [hS1]; simp; omega
    have HS1 := Lib.hid hS1
    clear hS1
    go_wp2_with fail
    refine Gives.use (HA.out _) ?_
    intro ya da
    go_upto_region 5 with fail
    generalize hz6 : (_ : ByteArray) ++ bs (Lib.decDigits (byt k 2).toNat) = Z
    obtain rfl : Z = bs S1 := hz6.symm.trans e1
    clear hz6
    clear e1 g1 g2 n0
    have hnl : ((k.take 15).drop 3).length = 12 := by simp [hk]
    have HN := Lib.hid (refText4_gives ((k.take 15).drop 3) hnl)
    obtain ⟨S2, hS2⟩ : ∃ S, S = S1 ++ 47 :: nameText ((k.take 15).drop 3) := ⟨_, rfl⟩
    have g1 : ¬ 9223372036854775807 < (bs S1).size + (ByteArray.mk #[47]).size := by rw [bs_size]; show ¬ 9223372036854775807 < S1.length + 1; omega
    have g2 : ¬ 9223372036854775807 < (bs S1 ++ ByteArray.mk #[47]).size + (bs (nameText ((k.take 15).drop 3))).size := by
      have h1 := nameText_len hnl
      rw [slash, bs_append, bs_size, bs_size]
      simp; omega
    have e1 : bs S1 ++ ByteArray.mk #[47] ++ bs (nameText ((k.take 15).drop 3)) = bs S2 := by rw [slash, bs_append, bs_append, hS2]; simp
    have n2 : S2.length ≤ 6000000 := by have h1 := nameText_len hnl; rw [hS2]; simp; omega
    have HS2 := Lib.hid hS2
    clear hS2
    go_wp2_with fail
    refine Gives.use (HN.out _) ?_
    intro ya da
    go_upto_region 7 with fail
    generalize hz6 : (_ : ByteArray) ++ bs (nameText ((k.take 15).drop 3)) = Z
    obtain rfl : Z = bs S2 := hz6.symm.trans e1
    clear hz6
    clear e1 g1 g2 n1
    have htl : (k.drop 15).length = 10 := by simp [hk]
    have HO := Lib.hid (refTagOf_gives (k.drop 15) htl)
    have hok : OkT (refOf (k.drop 15)).1 := refOf_ok htl
    have hxt := refTextT_gives (refOf (k.drop 15)).1 hok
    rw [tag_text htl htr] at hxt
    have HX := Lib.hid hxt
    clear hxt htr
    generalize (refOf (k.drop 15)).1 = x3 at *
    generalize (refOf (k.drop 15)).2 = x4 at *
    obtain ⟨S3, hS3⟩ : ∃ S, S = S2 ++ 47 :: tagText (k.drop 15) := ⟨_, rfl⟩
    have g1 : ¬ 9223372036854775807 < (bs S2).size + (ByteArray.mk #[47]).size := by rw [bs_size]; show ¬ 9223372036854775807 < S2.length + 1; omega
    have g2 : ¬ 9223372036854775807 < (bs S2 ++ ByteArray.mk #[47]).size + (bs (tagText (k.drop 15))).size := by
      have h1 := tagText_len htl
      rw [slash, bs_append, bs_size, bs_size]
      simp; omega
    have e1 : bs S2 ++ ByteArray.mk #[47] ++ bs (tagText (k.drop 15)) = bs S3 := by rw [slash, bs_append, bs_append, hS3]; simp
    have n3 : S3.length ≤ 8000000 := by have h1 := tagText_len htl; rw [hS3]; simp; omega
    have HS3 := Lib.hid hS3
    clear hS3
    go_wp2_with fail
    refine Gives.use (HO.out _) ?_
    intro ya da
    go_wp2_with fail
    refine Gives.use (HX.out _) ?_
    intro yb db
    go_upto_region 10 with fail
    generalize hz6 : (_ : ByteArray) ++ bs (tagText (k.drop 15)) = Z
    obtain rfl : Z = bs S3 := hz6.symm.trans e1
    clear hz6
    clear e1 g1 g2 n2
    go_wp2_with fail
    go_ret
    refine ⟨congrArg (fun l => Ending.returned (Value.string (bs l))) ?_, HB.out.1.trans ((show Below W.heap.size W _ from (by repeat (first | exact below_of_grow _ _ | exact Below.refl _ _ | exact below_more _ _ _ _ | (simp only [← Array.append_assoc]; first | exact below_more _ _ _ _ | exact below_same _ _ _ | exact Below.refl _ _) | exact below_same _ _ _ | (refine Below.alloc ?_ (by first | (simp; done) | (simp; omega)) _) | (refine Below.grow ?_ (by first | (simp; done) | (simp; omega)) _ _) | refine Below.drew ?_ | refine Below.drewN ?_ _ | (refine Below.putF ?_ (by first | (simp; done) | omega | (simp; omega)) _) | (refine Below.setCell ?_ (by first | (simp; done) | (simp; omega)) _)))).mono HB.out.1.size)⟩
    rw [HS3.out, HS2.out, HS1.out, HS0.out]
    simp [join_two, Lib.join_one]

theorem refText6_gives (k : List UInt8) (hk : k.length = 25) (hr : keyRight k = true) (w : World) : Gives Tryz.prog 51 #[.agg (rkey k)] w (.string (bs (keyText k))) := by
  rcases byt0_cases hr with h | h | h | h | h | h
  · exact refText6_1 k hk h hr w
  · exact refText6_2 k hk h hr w
  · exact refText6_3 k hk h hr w
  · exact refText6_4 k hk h hr w
  · exact refText6_5 k hk h hr w
  · exact refText6_6 k hk h hr w

end Go.Proofs.YtemnojlcgllcjaaGreatDoor

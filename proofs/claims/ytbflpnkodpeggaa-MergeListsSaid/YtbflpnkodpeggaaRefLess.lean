/- The document's order of keys; a key as the document has it. -/
import Derived.Test.YtbflpnkodpeggaaRefKey
namespace Go.Proofs.Ytbflpnkodpeggaa
open Go.RowKit

theorem lessL_at : ∀ (a b : List UInt8) (k : Nat), k < a.length → a.length = b.length → a.take k = b.take k → ¬ byt a k = byt b k → lessL a b = decide ((byt a k).toNat < (byt b k).toNat)
  | [], _, k, h, _, _, _ => by simp at h
  | x :: a, [], k, _, h, _, _ => by simp at h
  | x :: a, y :: b, 0, _, _, _, hne => by
    have hne : ¬ x = y := hne
    unfold lessL
    rw [if_neg hne]
    show decide (x < y) = decide (x.toNat < y.toNat)
    rw [decide_eq_decide]; exact UInt8.lt_iff_toNat_lt
  | x :: a, y :: b, k + 1, h1, h2, h3, hne => by
    simp only [List.take_succ_cons, List.cons.injEq] at h3
    unfold lessL
    rw [if_pos h3.1]
    exact lessL_at a b k (by simpa using h1) (by simpa using h2) h3.2 hne
theorem lessL_self : ∀ a : List UInt8, lessL a a = false
  | [] => rfl
  | x :: a => by unfold lessL; rw [if_pos rfl]; exact lessL_self a
theorem byte_eqI {a b : UInt8} : ((a.toNat : Int) != (b.toNat : Int)) = !(a == b) := by
  rw [Bool.eq_iff_iff]; simp [← UInt8.toNat_inj]; omega
theorem take_step {a b : List UInt8} {k : Nat} (ha : k < a.length) (hb : k < b.length) (h : a.take k = b.take k) (he : byt a k = byt b k) : a.take (k + 1) = b.take (k + 1) := by
  rw [List.take_succ_eq_append_getElem ha, List.take_succ_eq_append_getElem hb, h, byt_get ha, byt_get hb, he]

set_option maxRecDepth 100000 in
set_option maxHeartbeats 1600000 in
theorem refLess_gives (a b : List UInt8) (ha : a.length = 25) (hb : b.length = 25) (w : World) : Gives Try.prog 19 #[.agg (rkey a), .agg (rkey b)] w (.bool (lessL a b)) := by
  have h1 := refBytes_gives a ha
  have h2 := refBytes_gives b hb
  have l1 : (a.drop 3).length = 22 := by simp; omega
  have l2 : (b.drop 3).length = 22 := by simp; omega
  unfold rkey at h1 h2 ⊢
  have H1 := Lib.hid h1
  have H2 := Lib.hid h2
  generalize a.drop 3 = l at *
  generalize b.drop 3 = m at *
  clear h1 h2
  unfold Gives
  go_enter Try.func19, Try.ntmps19
  go_wp2_with fail
  apply wp_region_specs (by rfl) [.val _, .val _, .val _, .val _, .new _, .new _] 6 (by rfl) [8, 9, 10, 11, 5, 6] [4, 5] [] (by rfl) (by rfl) (by decide) (by decide +kernel) (fun _ _ _ _ _ h => h)
  case hF => intro x; simp only [over, List.foldl_cons, List.foldl_nil, List.setIfInBounds_toArray, List.set_cons_succ, List.set_cons_zero]; exact rfl
  case hops =>
    refine ⟨?o0, ?o1, ?o2, ?o3, ?o4, ?o5, trivial⟩
    case o0 =>
      intro x w1 hH K hK
      obtain ⟨xs, d, rfl⟩ := grow_of_below hH.below
      clear hH
      try simp only [World.grow_drew] at hK ⊢
      try simp only [World.grow_grow] at hK ⊢
      go_simp
      go_wp2_with fail
      exact ⟨_, rfl, rfl, (by repeat (first | exact below_of_grow _ _ | exact Below.refl _ _ | exact below_more _ _ _ _ | (simp only [← Array.append_assoc]; first | exact below_more _ _ _ _ | exact below_same _ _ _ | exact Below.refl _ _) | exact below_same _ _ _ | (refine Below.alloc ?_ (by first | (simp; done) | (simp; omega)) _) | (refine Below.grow ?_ (by first | (simp; done) | (simp; omega)) _ _) | refine Below.drew ?_ | refine Below.drewN ?_ _ | (refine Below.putF ?_ (by first | (simp; done) | omega | (simp; omega)) _) | (refine Below.setCell ?_ (by first | (simp; done) | (simp; omega)) _))), fun h => by cases h⟩
    case o1 =>
      intro x w1 hH K hK
      have e8 : x 8 = _ := hH.holds 0 (by decide) (by decide +kernel) 8 rfl
      obtain ⟨xs, d, rfl⟩ := grow_of_below hH.below
      clear hH
      try simp only [World.grow_drew] at hK ⊢
      try simp only [World.grow_grow] at hK ⊢
      simp only [e8] at hK ⊢
      clear e8
      go_simp
      go_wp2_with (refine Gives.use (H1.out _) ?_; intro ys e)
      exact ⟨_, rfl, rfl, (by first | exact below_more _ _ _ _ | exact (by repeat (first | exact below_of_grow _ _ | exact Below.refl _ _ | exact below_more _ _ _ _ | (simp only [← Array.append_assoc]; first | exact below_more _ _ _ _ | exact below_same _ _ _ | exact Below.refl _ _) | exact below_same _ _ _ | (refine Below.alloc ?_ (by first | (simp; done) | (simp; omega)) _) | (refine Below.grow ?_ (by first | (simp; done) | (simp; omega)) _ _) | refine Below.drew ?_ | refine Below.drewN ?_ _ | (refine Below.putF ?_ (by first | (simp; done) | omega | (simp; omega)) _) | (refine Below.setCell ?_ (by first | (simp; done) | (simp; omega)) _)))), fun h => by cases h⟩
    case o2 =>
      intro x w1 hH K hK
      obtain ⟨xs, d, rfl⟩ := grow_of_below hH.below
      clear hH
      try simp only [World.grow_drew] at hK ⊢
      try simp only [World.grow_grow] at hK ⊢
      go_simp
      go_wp2_with fail
      exact ⟨_, rfl, rfl, (by repeat (first | exact below_of_grow _ _ | exact Below.refl _ _ | exact below_more _ _ _ _ | (simp only [← Array.append_assoc]; first | exact below_more _ _ _ _ | exact below_same _ _ _ | exact Below.refl _ _) | exact below_same _ _ _ | (refine Below.alloc ?_ (by first | (simp; done) | (simp; omega)) _) | (refine Below.grow ?_ (by first | (simp; done) | (simp; omega)) _ _) | refine Below.drew ?_ | refine Below.drewN ?_ _ | (refine Below.putF ?_ (by first | (simp; done) | omega | (simp; omega)) _) | (refine Below.setCell ?_ (by first | (simp; done) | (simp; omega)) _))), fun h => by cases h⟩
    case o3 =>
      intro x w1 hH K hK
      have e10 : x 10 = _ := hH.holds 2 (by decide) (by decide +kernel) 10 rfl
      obtain ⟨xs, d, rfl⟩ := grow_of_below hH.below
      clear hH
      try simp only [World.grow_drew] at hK ⊢
      try simp only [World.grow_grow] at hK ⊢
      simp only [e10] at hK ⊢
      clear e10
      go_simp
      go_wp2_with (refine Gives.use (H2.out _) ?_; intro ys e)
      exact ⟨_, rfl, rfl, (by first | exact below_more _ _ _ _ | exact (by repeat (first | exact below_of_grow _ _ | exact Below.refl _ _ | exact below_more _ _ _ _ | (simp only [← Array.append_assoc]; first | exact below_more _ _ _ _ | exact below_same _ _ _ | exact Below.refl _ _) | exact below_same _ _ _ | (refine Below.alloc ?_ (by first | (simp; done) | (simp; omega)) _) | (refine Below.grow ?_ (by first | (simp; done) | (simp; omega)) _ _) | refine Below.drew ?_ | refine Below.drewN ?_ _ | (refine Below.putF ?_ (by first | (simp; done) | omega | (simp; omega)) _) | (refine Below.setCell ?_ (by first | (simp; done) | (simp; omega)) _)))), fun h => by cases h⟩
    case o4 =>
      intro x w1 hH K hK
      obtain ⟨xs, d, rfl⟩ := grow_of_below hH.below
      clear hH
      try simp only [World.grow_drew] at hK ⊢
      try simp only [World.grow_grow] at hK ⊢
      go_simp
      go_wp2_with fail
      exact left_new rfl (by simp) (by first | (simp; done) | (simp; omega))
    case o5 =>
      intro x w1 hH K hK
      obtain ⟨xs, d, rfl⟩ := grow_of_below hH.below
      clear hH
      try simp only [World.grow_drew] at hK ⊢
      try simp only [World.grow_grow] at hK ⊢
      go_simp
      go_wp2_with fail
      exact left_new rfl (by simp) (by first | (simp; done) | (simp; omega))
  case hend =>
    intro x w1 hH
    have e8 : x 8 = _ := hH.holds 0 (by decide) trivial 8 rfl
    have e9 : x 9 = _ := hH.holds 1 (by decide) trivial 9 rfl
    have e10 : x 10 = _ := hH.holds 2 (by decide) trivial 10 rfl
    have e11 : x 11 = _ := hH.holds 3 (by decide) trivial 11 rfl
    obtain ⟨b5, e5, l5, u5, o5⟩ := hH.holds 4 (by decide) trivial 5 rfl
    obtain ⟨b6, e6, l6, u6, o6⟩ := hH.holds 5 (by decide) trivial 6 rfl
    have n5_6 : b5 ≠ b6 := fun h => hH.apart 4 (by decide) 5 (by decide) (by decide) (by decide) trivial trivial (by decide) 5 6 rfl rfl (by rw [e5, e6, h])
    have n6_5 := n5_6.symm
    obtain ⟨xs, d, rfl⟩ := grow_of_below hH.below
    clear hH
    simp only [e8, e9, e10, e11, e5, e6]; clear e8 e9 e10 e11 e5 e6
    refine new_known2 o5 l5 u5 o6 l6 u6 ?_
    clear o5 o6
    simp [go_sem] at l5 u5 l6 u6
    simp only [List.drop_succ_cons, List.drop_zero]
    clear H1 H2
    go_wp2_with fail
    refine wp_name ?_
    intro W hW
    have hc5 : ∀ i, i < 25 → W.cell? ⟨b5, i, none⟩ = some (.int .u8 ((byt a i).toNat : Int)) := by
      intro i hi; rw [hW]; simp [go_sem, *, row8_get a i (by omega)]
    have hc6 : ∀ i, i < 25 → W.cell? ⟨b6, i, none⟩ = some (.int .u8 ((byt b i).toNat : Int)) := by
      intro i hi; rw [hW]; simp [go_sem, *, row8_get b i (by omega)]
    have hbl : Below w.heap.size w W := by rw [hW]; exact (by repeat (first | exact below_of_grow _ _ | exact Below.refl _ _ | exact below_more _ _ _ _ | (simp only [← Array.append_assoc]; first | exact below_more _ _ _ _ | exact below_same _ _ _ | exact Below.refl _ _) | exact below_same _ _ _ | (refine Below.alloc ?_ (by first | (simp; done) | (simp; omega)) _) | (refine Below.grow ?_ (by first | (simp; done) | (simp; omega)) _ _) | refine Below.drew ?_ | refine Below.drewN ?_ _ | (refine Below.putF ?_ (by first | (simp; done) | omega | (simp; omega)) _) | (refine Below.setCell ?_ (by first | (simp; done) | (simp; omega)) _)))
    clear hW l5 u5 l6 u6 n5_6 n6_5
    have HC5 := Lib.hid hc5
    have HC6 := Lib.hid hc6
    clear hc5 hc6
    go_loopw [7] (fun i wr => ∃ (k d : Nat), k ≤ 25 ∧ i = .int .i64 k ∧ Hid (a.take k = b.take k) ∧ wr = W.drewN d) (fun i _ => 25 - (intOf i).toNat)
    case atStart => exact ⟨0, 0, by omega, rfl, Lib.hid rfl, rfl⟩
    case round =>
      obtain ⟨k, d, hk, rfl, ht, rfl⟩ := hrel
      by_cases hlt : k < 25
      · have c5 := HC5.out k hlt
        have c6 := HC6.out k hlt
        have hkI : (k : Int) < 25 := by omega
        by_cases he : byt a k = byt b k
        · have hne : (((byt a k).toNat : Int) != ((byt b k).toNat : Int)) = false := by rw [he]; simp
          have hts := take_step (by omega) (by omega) ht.out he
          have HTS := Lib.hid hts
          clear hts he
          go_wp2_with fail
          go_quiet (fail)
          go_wp2_with fail
          go_roundw
          case rel => exact ⟨k + 1, _, by omega, by go_num, HTS, rfl⟩
          case measure => simp [intOf]; omega
        · have hne : (((byt a k).toNat : Int) != ((byt b k).toNat : Int)) = true := by rw [byte_eqI]; simp [he]
          have hl := lessL_at a b k (by omega) (by omega) ht.out he
          have HLL := Lib.hid hl
          clear hl he
          go_wp2_with fail
          go_quiet (fail)
          go_wp2_with fail
          go_quiet (fail)
          go_wp2_with fail
          go_ret
          exact ⟨congrArg Ending.returned (congrArg Value.bool HLL.out.symm), ((hbl.drewN _).drewN _).drewN _⟩
      · have : k = 25 := by omega
        subst this
        have hab : a = b := by
          have := ht.out
          rwa [List.take_of_length_le (by omega), List.take_of_length_le (by omega)] at this
        have hl : lessL a b = false := by rw [hab]; exact lessL_self b
        have HLL := Lib.hid hl
        clear hl hab
        go_wp2_with fail
        go_ret
        exact ⟨congrArg Ending.returned (congrArg Value.bool HLL.out.symm), hbl.drewN _⟩
end Go.Proofs.Ytbflpnkodpeggaa

/- Layer 16: Drop. -/
import Derived.Test.YtbflpnkodpeggaaGreatDoorTab
namespace Go.Proofs.YtbflpnkodpeggaaGreatDoor
set_option maxRecDepth 100000
open Go.RowKit

/-- the keys of a call's slice -/
abbrev rowsK (ks : List K25) : List (Array Value) := ks.map fun k => row8 k.val
theorem TabAt.map {w : World} {p : Nat} {L : Tb} (h : TabAt w p L) {q : Option Nat} (hc : w.cell? ⟨p, 0, none⟩ = some (.map q)) : (q = none ∧ L = []) ∨ ∃ b, q = some b ∧ p < b ∧ MapIs ekK evO (fun _ => True) w b L := by
  rcases h with ⟨h, e⟩ | ⟨b, h, hlt, hm⟩
  · rw [cell_of_heap h] at hc; left; refine ⟨?_, e⟩; simpa using hc.symm
  · rw [cell_of_heap h] at hc; right; exact ⟨b, by simpa using hc.symm, hlt, hm⟩
theorem TabAt.put {w w' : World} {p b : Nat} {L : Tb} (hh : w.heap[p]? = some (.cells #[.map (some b)] 48)) (hb : p < b) (hm : MapIs ekK evO (fun _ => True) w' b L) (ho : Only b w w') : TabAt w' p L :=
  .inr ⟨b, (ho.block p (by omega)).trans hh, hb, hm⟩
theorem TabAt.step {wr W w2 : World} {p b : Nat} {L L2 : Tb} (hh : wr.heap[p]? = some (.cells #[.map (some b)] 48)) (hb : p < b) (hm : MapIs ekK evO (fun _ => True) wr b L) (hm2 : MapIs ekK evO (fun _ => True) w2 b L2) (ho : Only b W w2) (hw : Below wr.heap.size wr W) : TabAt w2 p L2 ∧ Kept p wr w2 := by
  have hp : p < wr.heap.size := (Array.getElem?_eq_some_iff.1 hh).1
  exact ⟨TabAt.put ((hw.block p hp).trans hh) hb hm2 ho, (Kept.of_below hw hp).trans (Kept.map (hm.below hw hm.lt) hb ho)⟩
theorem dropGo_drop {o : Int} {ks : List K25} {i : Nat} (h : i < ks.length) (L : Tb) (n : Int) :
    dropGo o (ks.drop i) L n = if lk L ks[i] = some o then dropGo o (ks.drop (i + 1)) (del L ks[i]) (n + 1) else dropGo o (ks.drop (i + 1)) L n := by
  rw [List.drop_eq_getElem_cons h]; rfl

set_option maxRecDepth 100000 in
set_option maxHeartbeats 4000000 in
theorem drop_calls (o : Int) (ks : List K25) (hks : ks.length ≤ 1000) (L : Tb) (v : Value) (w : World) (p : Nat) (ht : TabAt w p L) (hv : SlA w w.heap.size 25 v (rowsK ks)) :
    Calls Tryz.prog 8 #[.pointer (some ⟨p, 0, none⟩), .int .i64 o, v] w (fun e w' => e = .returned (.int .i64 (dropGo o ks L 0).2) ∧ TabAt w' p (dropGo o ks L 0).1 ∧ Kept p w w') := by
  obtain ⟨a, cap, rfl, hcl, hcm⟩ := hv.form
  have hp := ht.lt
  rw [List.length_map] at *
  have HV := Lib.hid hv
  have HT := Lib.hid ht
  unfold maxLen at hcm
  clear hv ht
  go_enter Tryz.func8, Tryz.ntmps8
  go_wp2_with fail
  go_loopw [7, 14] (fun s7 s14 wr => ∃ (i : Nat) (n : Int) (L' : Tb), i ≤ ks.length ∧ 0 ≤ n ∧ n ≤ i ∧ s7 = .int .i64 n ∧ s14 = .int .i64 i ∧ Hid (TabAt wr p L') ∧ Hid (Kept p w wr) ∧ Hid (dropGo o (ks.drop i) L' n = dropGo o ks L 0)) (fun _ s14 _ => ks.length - (intOf s14).toNat)
  case atStart => exact ⟨0, 0, L, by omega, by omega, by omega, rfl, rfl, HT, Lib.hid (Kept.refl _ _), Lib.hid rfl⟩
  case round =>
    obtain ⟨i, n, L', hi, hn0, hn, rfl, rfl, HT2, HK, HD⟩ := hrel
    by_cases hlt : i < ks.length
    · have hltI : (i : Int) < ks.length := by omega
      obtain ⟨_, a', cap', he, _, _, hc⟩ := HT.out.sl HK.out (by decide) HV.out
      simp only [Value.slice.injEq, List.length_map, true_and] at he
      obtain ⟨rfl, rfl⟩ := he
      obtain ⟨b, q, rfl, hlb, hcut⟩ := hc (by simp; omega)
      have hcutk := hcut i (row8 ks[i].val) (by simp [hlt])
      have hd := HD.out
      rw [dropGo_drop hlt] at hd
      have HD2 := Lib.hid hd
      have hpr := HT2.out.lt
      have hszr : w.heap.size ≤ wr.heap.size := HK.out.2.1
      have how := owner_gives (wr.alloc (.cells (row8 ks[i].val) 29)) p L' ks[i] (HT2.out.alloc _)
      generalize ks[i] = k at *
      generalize hown : ownT L' k = x at *
      generalize hsm : (lk L' k).isSome = y at *
      have HO := Lib.hid how
      have HOWN := Lib.hid hown
      have HSM := Lib.hid hsm
      clear hcut hc hd HD how hown hsm
      by_cases hmine : y = true ∧ x = o
      · obtain ⟨rfl, rfl⟩ := hmine
        have hl : lk L' k = some x := by
          have h1 := HSM.out
          have h2 := HOWN.out
          unfold ownT at h2
          cases h : lk L' k with
          | none => rw [h] at h1; cases h1
          | some z => rw [h] at h2; simp at h2; rw [h2]
        have hd := HD2.out
        rw [if_pos hl] at hd
        have HD3 := Lib.hid hd
        rcases HT2.out with ⟨_, rfl⟩ | ⟨mb, hh, hmb, hm⟩
        · cases hl
        · have hmc := cell_of_heap hh
          have HM := Lib.hid hm
          have HH := Lib.hid hh
          clear hd hl hm hh HD2
          go_wp2_with (go_at_call 5; refine Gives.use HO.out ?_; intro xs d)
          apply wp_region_specs (by rfl) [.val _, .val _, .val _, .val _, .val _] 5 (by rfl) [30, 31, 32, 33, 34] [] [] (by rfl) (by rfl) (by decide) (by decide +kernel) (fun _ _ _ _ _ h => h)
          case hF => intro x; simp only [over, List.foldl_cons, List.foldl_nil, List.setIfInBounds_toArray, List.set_cons_succ, List.set_cons_zero]; exact rfl
          case hops =>
            refine ⟨?o0, ?o1, ?o2, ?o3, ?o4, trivial⟩
            case o0 =>
              intro x w1 hH K hK
              obtain ⟨xs, d, rfl⟩ := grow_of_below hH.below
              clear hH
              try simp only [World.grow_drew, World.grow_grow] at hK ⊢
              go_simp
              go_wp2_with fail
              exact ⟨_, rfl, rfl, (by repeat (first | exact below_of_grow _ _ | exact Below.refl _ _ | exact below_more _ _ _ _ | (simp only [← Array.append_assoc]; first | exact below_more _ _ _ _ | exact below_same _ _ _ | exact Below.refl _ _) | exact below_same _ _ _ | (refine Below.alloc ?_ (by first | (simp; done) | (simp; omega)) _) | (refine Below.grow ?_ (by first | (simp; done) | (simp; omega)) _ _) | refine Below.drew ?_ | refine Below.drewN ?_ _ | (refine Below.putF ?_ (by first | (simp; done) | omega | (simp; omega)) _) | (refine Below.setCell ?_ (by first | (simp; done) | (simp; omega)) _))), fun h => by cases h⟩
            case o1 =>
              intro x w1 hH K hK
              have e30 : x 30 = _ := hH.holds 0 (by decide) (by decide +kernel) 30 rfl
              obtain ⟨xs, d, rfl⟩ := grow_of_below hH.below
              clear hH
              try simp only [World.grow_drew, World.grow_grow] at hK ⊢
              simp only [e30] at hK ⊢
              clear e30
              go_simp
              go_wp2_with fail
              exact ⟨_, rfl, rfl, (by repeat (first | exact below_of_grow _ _ | exact Below.refl _ _ | exact below_more _ _ _ _ | (simp only [← Array.append_assoc]; first | exact below_more _ _ _ _ | exact below_same _ _ _ | exact Below.refl _ _) | exact below_same _ _ _ | (refine Below.alloc ?_ (by first | (simp; done) | (simp; omega)) _) | (refine Below.grow ?_ (by first | (simp; done) | (simp; omega)) _ _) | refine Below.drew ?_ | refine Below.drewN ?_ _ | (refine Below.putF ?_ (by first | (simp; done) | omega | (simp; omega)) _) | (refine Below.setCell ?_ (by first | (simp; done) | (simp; omega)) _))), fun h => by cases h⟩
            case o2 =>
              intro x w1 hH K hK
              have e31 : x 31 = _ := hH.holds 1 (by decide) (by decide +kernel) 31 rfl
              obtain ⟨xs, d, rfl⟩ := grow_of_below hH.below
              clear hH
              try simp only [World.grow_drew, World.grow_grow] at hK ⊢
              simp only [e31] at hK ⊢
              clear e31
              go_simp
              go_wp2_with fail
              exact ⟨_, rfl, rfl, (by repeat (first | exact below_of_grow _ _ | exact Below.refl _ _ | exact below_more _ _ _ _ | (simp only [← Array.append_assoc]; first | exact below_more _ _ _ _ | exact below_same _ _ _ | exact Below.refl _ _) | exact below_same _ _ _ | (refine Below.alloc ?_ (by first | (simp; done) | (simp; omega)) _) | (refine Below.grow ?_ (by first | (simp; done) | (simp; omega)) _ _) | refine Below.drew ?_ | refine Below.drewN ?_ _ | (refine Below.putF ?_ (by first | (simp; done) | omega | (simp; omega)) _) | (refine Below.setCell ?_ (by first | (simp; done) | (simp; omega)) _))), fun h => by cases h⟩
            case o3 =>
              intro x w1 hH K hK
              have e32 : x 32 = _ := hH.holds 2 (by decide) (by decide +kernel) 32 rfl
              obtain ⟨xs, d, rfl⟩ := grow_of_below hH.below
              clear hH
              try simp only [World.grow_drew, World.grow_grow] at hK ⊢
              simp only [e32] at hK ⊢
              clear e32
              go_simp
              go_wp2_with fail
              exact ⟨_, rfl, rfl, (by repeat (first | exact below_of_grow _ _ | exact Below.refl _ _ | exact below_more _ _ _ _ | (simp only [← Array.append_assoc]; first | exact below_more _ _ _ _ | exact below_same _ _ _ | exact Below.refl _ _) | exact below_same _ _ _ | (refine Below.alloc ?_ (by first | (simp; done) | (simp; omega)) _) | (refine Below.grow ?_ (by first | (simp; done) | (simp; omega)) _ _) | refine Below.drew ?_ | refine Below.drewN ?_ _ | (refine Below.putF ?_ (by first | (simp; done) | omega | (simp; omega)) _) | (refine Below.setCell ?_ (by first | (simp; done) | (simp; omega)) _))), fun h => by cases h⟩
            case o4 =>
              intro x w1 hH K hK
              obtain ⟨xs, d, rfl⟩ := grow_of_below hH.below
              clear hH
              try simp only [World.grow_drew, World.grow_grow] at hK ⊢
              go_simp
              go_wp2_with fail
              exact ⟨_, rfl, rfl, (by repeat (first | exact below_of_grow _ _ | exact Below.refl _ _ | exact below_more _ _ _ _ | (simp only [← Array.append_assoc]; first | exact below_more _ _ _ _ | exact below_same _ _ _ | exact Below.refl _ _) | exact below_same _ _ _ | (refine Below.alloc ?_ (by first | (simp; done) | (simp; omega)) _) | (refine Below.grow ?_ (by first | (simp; done) | (simp; omega)) _ _) | refine Below.drew ?_ | refine Below.drewN ?_ _ | (refine Below.putF ?_ (by first | (simp; done) | omega | (simp; omega)) _) | (refine Below.setCell ?_ (by first | (simp; done) | (simp; omega)) _))), fun h => by cases h⟩
          case hend =>
            intro x w1 hH
            have e30 : x 30 = _ := hH.holds 0 (by decide) trivial 30 rfl
            have e31 : x 31 = _ := hH.holds 1 (by decide) trivial 31 rfl
            have e32 : x 32 = _ := hH.holds 2 (by decide) trivial 32 rfl
            have e33 : x 33 = _ := hH.holds 3 (by decide) trivial 33 rfl
            have e34 : x 34 = _ := hH.holds 4 (by decide) trivial 34 rfl
            obtain ⟨xs, d, rfl⟩ := grow_of_below hH.below
            clear hH
            simp only [e30, e31, e32, e33, e34]; clear e30 e31 e32 e33 e34
            simp only [List.drop_succ_cons, List.drop_zero]
            refine wpList_del (b := mb) (L := L') (ev := evO) keyEncT rfl _ _ _ _ rfl Tryz.underlying46 rfl ?_ k trivial rfl ?_
            · repeat (first | exact HM.out | refine MapIs.alloc ?_ _ | refine MapIs.grow ?_ _ _ | refine MapIs.drew ?_ | refine MapIs.drewN ?_ _)
            · intro w2 hm2 ho2
              obtain ⟨ht3, hk3⟩ := TabAt.step HH.out hmb HM.out hm2 ho2 (by repeat (first | exact below_of_grow _ _ | exact Below.refl _ _ | exact below_more _ _ _ _ | (simp only [← Array.append_assoc]; first | exact below_more _ _ _ _ | exact below_same _ _ _ | exact Below.refl _ _) | exact below_same _ _ _ | (refine Below.alloc ?_ (by first | (simp; done) | (simp; omega)) _) | (refine Below.grow ?_ (by first | (simp; done) | (simp; omega)) _ _) | refine Below.drew ?_ | refine Below.drewN ?_ _ | (refine Below.putF ?_ (by first | (simp; done) | omega | (simp; omega)) _) | (refine Below.setCell ?_ (by first | (simp; done) | (simp; omega)) _)))
              have HT3 := Lib.hid ht3
              have HK3 := Lib.hid (HK.out.trans hk3)
              clear hm2 ho2 ht3 hk3
              have hw1 : IntKind.i64.wrap (n + 1) = n + 1 := by rw [IntWalk.i64_in _ (by omega)]
              have hw2 : IntKind.i64.wrap ((i : Int) + 1) = (i : Int) + 1 := by rw [IntWalk.i64_in _ (by omega)]
              go_wp2_with fail
              go_roundw
              case rel => exact ⟨i + 1, n + 1, _, by omega, by omega, by omega, rfl, by go_num, HT3, HK3, HD3⟩
              case measure => simp [intOf]; omega
      · have hd := HD2.out
        have hl : ¬ lk L' k = some o := by
          intro h
          have h1 := HSM.out
          have h2 := HOWN.out
          unfold ownT at h2
          rw [h] at h1 h2
          exact hmine ⟨h1.symm, h2.symm⟩
        rw [if_neg hl] at hd
        have HD3 := Lib.hid hd
        have hg : (y && decide (x = o)) = false := by
          rw [Bool.and_eq_false_iff]
          by_cases h : y = true
          · right; exact decide_eq_false (fun e => hmine ⟨h, e⟩)
          · left; simpa using h
        clear hd hl HD2 hmine
        have hw2 : IntKind.i64.wrap ((i : Int) + 1) = (i : Int) + 1 := by rw [IntWalk.i64_in _ (by omega)]
        cases y with
        | true =>
          have hx : (x == o) = false := by simpa using hg
          clear hg
          go_wp2_with (go_at_call 5; refine Gives.use HO.out ?_; intro xs d)
          all_goals first
            | (go_roundw
               case rel => exact ⟨i + 1, n, _, by omega, by omega, by omega, rfl, by go_num, Lib.hid ((HT2.out.alloc _).grow _ _), Lib.hid ((HK.out.alloc hp _).grow hp _ _), HD3⟩
               case measure => simp [intOf]; omega)
        | false =>
          clear hg
          go_wp2_with (go_at_call 5; refine Gives.use HO.out ?_; intro xs d)
          go_roundw
          case rel => exact ⟨i + 1, n, _, by omega, by omega, by omega, rfl, by go_num, Lib.hid ((HT2.out.alloc _).grow _ _), Lib.hid ((HK.out.alloc hp _).grow hp _ _), HD3⟩
          case measure => simp [intOf]; omega
    · have hie : i = ks.length := by omega
      have hd := HD.out
      rw [List.drop_of_length_le (by omega)] at hd
      have HD2 := Lib.hid hd
      have hgI : decide ((i : Int) < ks.length) = false := by simp; omega
      clear hd HD
      go_wp2_with fail
      go_ret
      refine ⟨?_, ?_, HK.out⟩
      · rw [← HD2.out]; rfl
      · rw [← HD2.out]; exact HT2.out
end Go.Proofs.YtbflpnkodpeggaaGreatDoor

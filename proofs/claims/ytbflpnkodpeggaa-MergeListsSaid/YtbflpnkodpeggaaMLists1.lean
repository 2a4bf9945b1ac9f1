/- Layer 24's law MergeLists: the walk. -/
import Derived.Test.YtbflpnkodpeggaaListsR
import Derived.Test.YtbflpnkodpeggaaOverR
import Derived.Test.YtbflpnkodpeggaaOnM
import Derived.Test.YtbflpnkodpeggaaOverM
import Derived.Test.YtbflpnkodpeggaaSameM
import Derived.Test.YtbflpnkodpeggaaKnown24
import Derived.Test.YtbflpnkodpeggaaRise
namespace Go.Proofs.Ytbflpnkodpeggaa.Dp
set_option maxRecDepth 100000
open Go.RowKit

attribute [go_sem] wrtA_set2
theorem lists_len2 (a b c : List Ent) (m : Int) : (listsM a b c m).1.length ≤ a.length + b.length + c.length ∧ (listsM a b c m).2.1.length ≤ a.length + b.length + c.length := by
  have h := keysL_len a b c
  have h2 := List.length_filterMap_le (wrOf a b c m) (keysL a b c)
  have h3 := List.length_filter_le (clashOf a b c m) (keysL a b c)
  unfold listsM
  split
  · simp
  · split
    · simp only [List.length_nil]; omega
    · simp only; omega
set_option maxHeartbeats 20000000 in
theorem mlists_walk (La Lb Lc : List Ent) (Ws : List Wr) (va vb vc vw : Value) (m br : Int) (w : World) (hva : SlA w w.heap.size 34 va (La.map entA)) (hvb : SlA w w.heap.size 34 vb (Lb.map entA)) (hvc : SlA w w.heap.size 34 vc (Lc.map entA)) (hvw : SlA w w.heap.size 35 vw (Ws.map wrtA)) :
    Gives Try.prog 4 #[va, vb, vc, .int .i64 m, .int .i64 br, vw] w (.bool true) := by
  have hsa := rise_sorted La
  have hsb := rise_sorted Lb
  have hsc := rise_sorted Lc
  have hla := rise_len30 La
  have hlb := rise_len30 Lb
  have hlc := rise_len30 Lc
  have hra := rise_calls La va w hva
  have HVB := Lib.hid hvb
  have HVC := Lib.hid hvc
  have HVW := Lib.hid hvw
  have HRA := Lib.hid hra
  clear hva hvb hvc hvw hra
  generalize ha : rise La = a at *
  generalize hb : rise Lb = b at *
  generalize hc : rise Lc = c at *
  have HEB := Lib.hid hb
  have HEC := Lib.hid hc
  have HSA := Lib.hid hsa
  have HSB := Lib.hid hsb
  have HSC := Lib.hid hsc
  clear ha hb hc hsa hsb hsc
  unfold Gives
  go_enter Try.func4, Try.ntmps4
  go_wp2_with fail
  refine HRA.out.mono ?_
  clear HRA
  rintro e w1 ⟨v1, rfl, hb1, ho1⟩
  go_wp2_with fail
  refine (rise_calls Lb _ _ ((HVB.out.below hb1).more hb1.size)).mono ?_
  rw [HEB.out]
  rintro e w2 ⟨v2, rfl, hb2, ho2⟩
  go_wp2_with fail
  refine (rise_calls Lc _ _ ((HVC.out.below (hb1.trans (hb2.mono hb1.size))).more (by have := hb1.size; have := hb2.size; omega))).mono ?_
  rw [HEC.out]
  rintro e w3 ⟨v3, rfl, hb3, ho3⟩
  have hs1 := hb1.size
  have hs2 := hb2.size
  have hs3 := hb3.size
  have HS1 := Lib.hid ((ho1.sl.below (hb2.trans (hb3.mono hs2))).more (show w1.heap.size ≤ w3.heap.size by omega))
  have HS2 := Lib.hid ((ho2.sl.below hb3).more (show w2.heap.size ≤ w3.heap.size by omega))
  have HS3 := Lib.hid ho3.sl
  have hb03 := (hb1.trans (hb2.mono hs1)).trans (hb3.mono (by omega))
  have HSW := Lib.hid ((HVW.out.below hb03).more hb03.size)
  have HB3 := Lib.hid hb03
  clear hb1 hb2 hb3 ho1 ho2 ho3 hs1 hs2 hs3 HVB HVC HVW HEB HEC hb03
  go_wp2_with fail
  have hcon := lists_calls a b c v1 v2 v3 m w3 (by omega) (by omega) (by omega) HS1.out HS2.out HS3.out
  have hlen := lists_len2 a b c m
  have hreq := listsR_eq HSA.out HSB.out HSC.out m
  generalize listsM a b c m = t at *
  obtain ⟨ws, cl, er⟩ := t
  simp only at hcon hlen
  have HREQ := Lib.hid hreq
  clear hreq
  obtain ⟨hlw, hlk⟩ := hlen
  refine hcon.mono ?_
  clear hcon
  rintro e w4 ⟨v4, v5, rfl, hb4, ho4, ho5⟩
  obtain ⟨a4, cap4, rfl, hcm4, hcl4⟩ := ho4.form
  obtain ⟨a5, cap5, rfl, hcm5, hcl5⟩ := ho5.form
  simp only [List.length_map] at *
  have hs4 := hb4.size
  have HT1 := Lib.hid ((HS1.out.below hb4).more hs4)
  have HT2 := Lib.hid ((HS2.out.below hb4).more hs4)
  have HT3 := Lib.hid ((HS3.out.below hb4).more hs4)
  have HTW := Lib.hid ((HSW.out.below hb4).more hs4)
  have HT4 := Lib.hid ho4.sl
  have HT5 := Lib.hid ho5.sl
  have HB4 := Lib.hid (HB3.out.trans (hb4.mono HB3.out.size))
  clear hb4 hs4 ho4 ho5 HS1 HS2 HS3 HSW HB3
  go_wp2_with fail
  refine (ofs_calls a v1 w4 (by omega) HT1.out).mono ?_
  rintro e w5 ⟨x1, rfl, hb5, ho5⟩
  go_wp2_with fail
  refine (ofs_calls b v2 w5 (by omega) ((HT2.out.below hb5).more hb5.size)).mono ?_
  rintro e w6 ⟨x2, rfl, hb6, ho6⟩
  have hb46 := hb5.trans (hb6.mono hb5.size)
  go_wp2_with fail
  refine (ofs_calls c v3 w6 (by omega) ((HT3.out.below hb46).more hb46.size)).mono ?_
  rintro e w7 ⟨x3, rfl, hb7, ho7⟩
  have hs5 := hb5.size
  have hs6 := hb6.size
  have hs7 := hb7.size
  have HX1 := Lib.hid ((ho5.sl.below (hb6.trans (hb7.mono hs6))).more (show w5.heap.size ≤ w7.heap.size by omega))
  have HX2 := Lib.hid ((ho6.sl.below hb7).more (show w6.heap.size ≤ w7.heap.size by omega))
  have HX3 := Lib.hid ho7.sl
  have HB47 := Lib.hid (hb46.trans (hb7.mono (by omega)))
  clear hb5 hb6 hb7 ho5 ho6 ho7 hs5 hs6 hs7 hb46
  have hcr := listsR_calls a b c x1 x2 x3 m w7 (by omega) (by omega) (by omega) HX1.out HX2.out HX3.out
  rw [HREQ.out] at hcr
  simp only at hcr
  have HCR := Lib.hid hcr
  clear hcr HX1 HX2 HX3 HREQ
  go_wp2_with fail
  refine HCR.out.mono ?_
  clear HCR
  rintro e w8 ⟨v9, v10, rfl, hb8, ho9, ho10⟩
  obtain ⟨a9, cap9, rfl, hcm9, hcl9⟩ := ho9.form
  obtain ⟨a10, cap10, rfl, hcm10, hcl10⟩ := ho10.form
  simp only [List.length_map] at *
  have h48 := HB47.out.trans (hb8.mono HB47.out.size)
  have hs8 := h48.size
  have HY1 := Lib.hid ((HT1.out.below h48).more hs8)
  have HY2 := Lib.hid ((HT2.out.below h48).more hs8)
  have HYW := Lib.hid ((HTW.out.below h48).more hs8)
  have HY4 := Lib.hid ((HT4.out.below h48).more hs8)
  have HY5 := Lib.hid ((HT5.out.below h48).more hs8)
  have HY9 := Lib.hid ho9.sl
  have HY10 := Lib.hid ho10.sl
  have HB8 := Lib.hid (HB4.out.trans (h48.mono HB4.out.size))
  unfold maxLen at hcm4 hcm5 hcm9 hcm10
  clear h48 hs8 hb8 ho9 ho10 HT1 HT2 HT3 HTW HT4 HT5 HB4 HB47
  go_upto_block 0 with fail
  go_cut [] (fun wx => Hid (Below w8.heap.size w8 wx))
  case first =>
    go_wp2_with fail
    go_loopw [22] (fun s22 wr => ∃ i : Nat, i ≤ ws.length ∧ s22 = .int .i64 i ∧ Hid (Below w8.heap.size w8 wr)) (fun s22 _ => ws.length - (intOf s22).toNat)
    case atStart => exact ⟨0, Nat.zero_le _, rfl, Lib.hid (Below.refl _ _)⟩
    case round =>
      obtain ⟨i, hi, rfl, HB⟩ := hrel
      by_cases hli : i < ws.length
      · have hliI : (i : Int) < ws.length := by omega
        obtain ⟨_, a6, cap6, he, _, _, hc6⟩ := HY4.out.below HB.out
        simp only [Value.slice.injEq, List.length_map, true_and] at he
        obtain ⟨rfl, rfl⟩ := he
        obtain ⟨g, q, rfl, hlg, hcut⟩ := hc6 (by simp; omega)
        have hcut1 := hcut i (wrtA ws[i]) (by simp [hli])
        obtain ⟨_, a7, cap7, he, _, _, hc7⟩ := HY9.out.below HB.out
        simp only [Value.slice.injEq, List.length_map, true_and] at he
        obtain ⟨rfl, rfl⟩ := he
        obtain ⟨g7, q7, rfl, hlg7, hcut7⟩ := hc7 (by simp; omega)
        have hcut2 := hcut7 i (wrtD ws[i]) (by simp [hli])
        have hsz := HB.out.size
        have hgr : g < wr.heap.size := by omega
        have hgr7 : g7 < wr.heap.size := by omega
        have hwo := wrOf_gives ws[i]
        generalize ws[i] = x at *
        have HWO := Lib.hid hwo
        clear hcut hc6 hcut7 hc7 hwo
        go_wp2_with fail
        apply wp_region_specs (by rfl) [.val _, .val _, .val _, .val _, .val _, .val _, .val _, .val _, .val _, .val _] 10 (by rfl) [79, 80, 81, 82, 83, 84, 85, 86, 87, 88] [] [] (by rfl) (by rfl) (by decide) (by decide +kernel) (fun _ _ _ _ _ h => h)
        case hF => intro x; simp only [over, List.foldl_cons, List.foldl_nil, List.setIfInBounds_toArray, List.set_cons_succ, List.set_cons_zero]; exact rfl
        case hops =>
          refine ⟨?o0, ?o1, ?o2, ?o3, ?o4, ?o5, ?o6, ?o7, ?o8, ?o9, trivial⟩
          case o0 =>
            intro x w1 hH K hK
            obtain ⟨xs, d, rfl⟩ := grow_of_below hH.below
            clear hH
            try simp only [World.grow_drew] at hK ⊢
            try simp only [World.grow_grow] at hK ⊢
            go_simp
            go_wp2_with fail
            exact ⟨_, rfl, rfl, (by repeat (first | exact below_of_grow _ _ | exact Below.refl _ _ | exact below_more _ _ _ _ | (simp only [← Array.append_assoc]; first | exact below_more _ _ _ _ | exact below_same _ _ _ | exact Below.refl _ _) | exact below_same _ _ _ | (refine Below.alloc ?_ (by first | (simp; done) | (simp; omega)) _) | (refine Below.grow ?_ (by first | (simp; done) | (simp; omega)) _ _) | refine Below.drew ?_ | refine Below.drewN ?_ _ | (refine Below.putF ?_ (by first | (simp; done) | omega | (simp; omega)) _) | (refine Below.setCell ?_ (by first | (simp; done) | (simp; omega)) _))), fun h => by cases h⟩
          case o1 =>
            intro x w1 hH K hK
            obtain ⟨xs, d, rfl⟩ := grow_of_below hH.below
            clear hH
            try simp only [World.grow_drew] at hK ⊢
            try simp only [World.grow_grow] at hK ⊢
            go_simp
            go_wp2_with fail
            exact ⟨_, rfl, rfl, (by repeat (first | exact below_of_grow _ _ | exact Below.refl _ _ | exact below_more _ _ _ _ | (simp only [← Array.append_assoc]; first | exact below_more _ _ _ _ | exact below_same _ _ _ | exact Below.refl _ _) | exact below_same _ _ _ | (refine Below.alloc ?_ (by first | (simp; done) | (simp; omega)) _) | (refine Below.grow ?_ (by first | (simp; done) | (simp; omega)) _ _) | refine Below.drew ?_ | refine Below.drewN ?_ _ | (refine Below.putF ?_ (by first | (simp; done) | omega | (simp; omega)) _) | (refine Below.setCell ?_ (by first | (simp; done) | (simp; omega)) _))), fun h => by cases h⟩
          case o2 =>
            intro x w1 hH K hK
            have e79 : x 79 = _ := hH.holds 0 (by decide) (by decide +kernel) 79 rfl
            have e80 : x 80 = _ := hH.holds 1 (by decide) (by decide +kernel) 80 rfl
            obtain ⟨xs, d, rfl⟩ := grow_of_below hH.below
            clear hH
            try simp only [World.grow_drew] at hK ⊢
            try simp only [World.grow_grow] at hK ⊢
            simp only [e79, e80] at hK ⊢
            clear e79 e80
            go_simp
            go_wp2_with fail
            exact ⟨_, rfl, rfl, (by repeat (first | exact below_of_grow _ _ | exact Below.refl _ _ | exact below_more _ _ _ _ | (simp only [← Array.append_assoc]; first | exact below_more _ _ _ _ | exact below_same _ _ _ | exact Below.refl _ _) | exact below_same _ _ _ | (refine Below.alloc ?_ (by first | (simp; done) | (simp; omega)) _) | (refine Below.grow ?_ (by first | (simp; done) | (simp; omega)) _ _) | refine Below.drew ?_ | refine Below.drewN ?_ _ | (refine Below.putF ?_ (by first | (simp; done) | omega | (simp; omega)) _) | (refine Below.setCell ?_ (by first | (simp; done) | (simp; omega)) _))), fun h => by cases h⟩
          case o3 =>
            intro x w1 hH K hK
            have e81 : x 81 = _ := hH.holds 2 (by decide) (by decide +kernel) 81 rfl
            obtain ⟨xs, d, rfl⟩ := grow_of_below hH.below
            clear hH
            try simp only [World.grow_drew] at hK ⊢
            try simp only [World.grow_grow] at hK ⊢
            simp only [e81] at hK ⊢
            clear e81
            go_simp
            go_wp2_with fail
            exact ⟨_, rfl, rfl, (by repeat (first | exact below_of_grow _ _ | exact Below.refl _ _ | exact below_more _ _ _ _ | (simp only [← Array.append_assoc]; first | exact below_more _ _ _ _ | exact below_same _ _ _ | exact Below.refl _ _) | exact below_same _ _ _ | (refine Below.alloc ?_ (by first | (simp; done) | (simp; omega)) _) | (refine Below.grow ?_ (by first | (simp; done) | (simp; omega)) _ _) | refine Below.drew ?_ | refine Below.drewN ?_ _ | (refine Below.putF ?_ (by first | (simp; done) | omega | (simp; omega)) _) | (refine Below.setCell ?_ (by first | (simp; done) | (simp; omega)) _))), fun h => by cases h⟩
          case o4 =>
            intro x w1 hH K hK
            have e82 : x 82 = _ := hH.holds 3 (by decide) (by decide +kernel) 82 rfl
            obtain ⟨xs, d, rfl⟩ := grow_of_below hH.below
            clear hH
            try simp only [World.grow_drew] at hK ⊢
            try simp only [World.grow_grow] at hK ⊢
            simp only [e82] at hK ⊢
            clear e82
            go_simp
            go_wp2_with (refine Gives.use (HWO.out _) ?_; intro ys e)
            exact ⟨_, rfl, rfl, (by first | exact below_more _ _ _ _ | exact (by repeat (first | exact below_of_grow _ _ | exact Below.refl _ _ | exact below_more _ _ _ _ | (simp only [← Array.append_assoc]; first | exact below_more _ _ _ _ | exact below_same _ _ _ | exact Below.refl _ _) | exact below_same _ _ _ | (refine Below.alloc ?_ (by first | (simp; done) | (simp; omega)) _) | (refine Below.grow ?_ (by first | (simp; done) | (simp; omega)) _ _) | refine Below.drew ?_ | refine Below.drewN ?_ _ | (refine Below.putF ?_ (by first | (simp; done) | omega | (simp; omega)) _) | (refine Below.setCell ?_ (by first | (simp; done) | (simp; omega)) _)))), fun h => by cases h⟩
          case o5 =>
            intro x w1 hH K hK
            obtain ⟨xs, d, rfl⟩ := grow_of_below hH.below
            clear hH
            try simp only [World.grow_drew] at hK ⊢
            try simp only [World.grow_grow] at hK ⊢
            go_simp
            go_wp2_with fail
            exact ⟨_, rfl, rfl, (by repeat (first | exact below_of_grow _ _ | exact Below.refl _ _ | exact below_more _ _ _ _ | (simp only [← Array.append_assoc]; first | exact below_more _ _ _ _ | exact below_same _ _ _ | exact Below.refl _ _) | exact below_same _ _ _ | (refine Below.alloc ?_ (by first | (simp; done) | (simp; omega)) _) | (refine Below.grow ?_ (by first | (simp; done) | (simp; omega)) _ _) | refine Below.drew ?_ | refine Below.drewN ?_ _ | (refine Below.putF ?_ (by first | (simp; done) | omega | (simp; omega)) _) | (refine Below.setCell ?_ (by first | (simp; done) | (simp; omega)) _))), fun h => by cases h⟩
          case o6 =>
            intro x w1 hH K hK
            obtain ⟨xs, d, rfl⟩ := grow_of_below hH.below
            clear hH
            try simp only [World.grow_drew] at hK ⊢
            try simp only [World.grow_grow] at hK ⊢
            go_simp
            go_wp2_with fail
            exact ⟨_, rfl, rfl, (by repeat (first | exact below_of_grow _ _ | exact Below.refl _ _ | exact below_more _ _ _ _ | (simp only [← Array.append_assoc]; first | exact below_more _ _ _ _ | exact below_same _ _ _ | exact Below.refl _ _) | exact below_same _ _ _ | (refine Below.alloc ?_ (by first | (simp; done) | (simp; omega)) _) | (refine Below.grow ?_ (by first | (simp; done) | (simp; omega)) _ _) | refine Below.drew ?_ | refine Below.drewN ?_ _ | (refine Below.putF ?_ (by first | (simp; done) | omega | (simp; omega)) _) | (refine Below.setCell ?_ (by first | (simp; done) | (simp; omega)) _))), fun h => by cases h⟩
          case o7 =>
            intro x w1 hH K hK
            have e84 : x 84 = _ := hH.holds 5 (by decide) (by decide +kernel) 84 rfl
            have e85 : x 85 = _ := hH.holds 6 (by decide) (by decide +kernel) 85 rfl
            obtain ⟨xs, d, rfl⟩ := grow_of_below hH.below
            clear hH
            try simp only [World.grow_drew] at hK ⊢
            try simp only [World.grow_grow] at hK ⊢
            simp only [e84, e85] at hK ⊢
            clear e84 e85
            go_simp
            go_wp2_with fail
            exact ⟨_, rfl, rfl, (by repeat (first | exact below_of_grow _ _ | exact Below.refl _ _ | exact below_more _ _ _ _ | (simp only [← Array.append_assoc]; first | exact below_more _ _ _ _ | exact below_same _ _ _ | exact Below.refl _ _) | exact below_same _ _ _ | (refine Below.alloc ?_ (by first | (simp; done) | (simp; omega)) _) | (refine Below.grow ?_ (by first | (simp; done) | (simp; omega)) _ _) | refine Below.drew ?_ | refine Below.drewN ?_ _ | (refine Below.putF ?_ (by first | (simp; done) | omega | (simp; omega)) _) | (refine Below.setCell ?_ (by first | (simp; done) | (simp; omega)) _))), fun h => by cases h⟩
          case o8 =>
            intro x w1 hH K hK
            have e86 : x 86 = _ := hH.holds 7 (by decide) (by decide +kernel) 86 rfl
            obtain ⟨xs, d, rfl⟩ := grow_of_below hH.below
            clear hH
            try simp only [World.grow_drew] at hK ⊢
            try simp only [World.grow_grow] at hK ⊢
            simp only [e86] at hK ⊢
            clear e86
            go_simp
            go_wp2_with fail
            exact ⟨_, rfl, rfl, (by repeat (first | exact below_of_grow _ _ | exact Below.refl _ _ | exact below_more _ _ _ _ | (simp only [← Array.append_assoc]; first | exact below_more _ _ _ _ | exact below_same _ _ _ | exact Below.refl _ _) | exact below_same _ _ _ | (refine Below.alloc ?_ (by first | (simp; done) | (simp; omega)) _) | (refine Below.grow ?_ (by first | (simp; done) | (simp; omega)) _ _) | refine Below.drew ?_ | refine Below.drewN ?_ _ | (refine Below.putF ?_ (by first | (simp; done) | omega | (simp; omega)) _) | (refine Below.setCell ?_ (by first | (simp; done) | (simp; omega)) _))), fun h => by cases h⟩
          case o9 =>
            intro x w1 hH K hK
            have e83 : x 83 = _ := hH.holds 4 (by decide) (by decide +kernel) 83 rfl
            have e87 : x 87 = _ := hH.holds 8 (by decide) (by decide +kernel) 87 rfl
            obtain ⟨xs, d, rfl⟩ := grow_of_below hH.below
            clear hH
            try simp only [World.grow_drew] at hK ⊢
            try simp only [World.grow_grow] at hK ⊢
            simp only [e83, e87] at hK ⊢
            clear e83 e87
            go_simp
            go_wp2_with fail
            exact ⟨_, rfl, rfl, (by repeat (first | exact below_of_grow _ _ | exact Below.refl _ _ | exact below_more _ _ _ _ | (simp only [← Array.append_assoc]; first | exact below_more _ _ _ _ | exact below_same _ _ _ | exact Below.refl _ _) | exact below_same _ _ _ | (refine Below.alloc ?_ (by first | (simp; done) | (simp; omega)) _) | (refine Below.grow ?_ (by first | (simp; done) | (simp; omega)) _ _) | refine Below.drew ?_ | refine Below.drewN ?_ _ | (refine Below.putF ?_ (by first | (simp; done) | omega | (simp; omega)) _) | (refine Below.setCell ?_ (by first | (simp; done) | (simp; omega)) _))), fun h => by cases h⟩
        case hend =>
          intro x w1 hH
          have e79 : x 79 = _ := hH.holds 0 (by decide) trivial 79 rfl
          have e80 : x 80 = _ := hH.holds 1 (by decide) trivial 80 rfl
          have e81 : x 81 = _ := hH.holds 2 (by decide) trivial 81 rfl
          have e82 : x 82 = _ := hH.holds 3 (by decide) trivial 82 rfl
          have e83 : x 83 = _ := hH.holds 4 (by decide) trivial 83 rfl
          have e84 : x 84 = _ := hH.holds 5 (by decide) trivial 84 rfl
          have e85 : x 85 = _ := hH.holds 6 (by decide) trivial 85 rfl
          have e86 : x 86 = _ := hH.holds 7 (by decide) trivial 86 rfl
          have e87 : x 87 = _ := hH.holds 8 (by decide) trivial 87 rfl
          have e88 : x 88 = _ := hH.holds 9 (by decide) trivial 88 rfl
          obtain ⟨xs, d, rfl⟩ := grow_of_below hH.below
          clear hH
          simp only [e79, e80, e81, e82, e83, e84, e85, e86, e87, e88]; clear e79 e80 e81 e82 e83 e84 e85 e86 e87 e88
          simp only [List.drop_succ_cons, List.drop_nil]
          go_wp2_with fail
          go_roundw
          case rel => exact ⟨i + 1, by omega, by go_num, Lib.hid (HB.out.drew.grow hsz _ _)⟩
          case measure => simp [intOf]; omega
      · have hie : i = ws.length := by omega
        subst hie
        have hgn : ¬ (ws.length : Int) < ws.length := by omega
        go_wp2_with fail
        go_meet
        exact HB
  case rest =>
    obtain ⟨X, rfl⟩ : ∃ X, X = wc := ⟨_, rfl⟩
    have HBX := hcut
    clear hcut
    go_upto_block 2 with fail
    go_cut [] (fun wx => Hid (Below w8.heap.size w8 wx))
    case first =>
      go_wp2_with fail
      go_loopw [23] (fun s23 wr => ∃ i : Nat, i ≤ cl.length ∧ s23 = .int .i64 i ∧ Hid (Below w8.heap.size w8 wr)) (fun s23 _ => cl.length - (intOf s23).toNat)
      case atStart => exact ⟨0, Nat.zero_le _, rfl, HBX⟩
      case round =>
        obtain ⟨i, hi, rfl, HB⟩ := hrel
        by_cases hli : i < cl.length
        · have hliI : (i : Int) < cl.length := by omega
          obtain ⟨_, a6, cap6, he, _, _, hc6⟩ := HY5.out.below HB.out
          simp only [Value.slice.injEq, List.length_map, true_and] at he
          obtain ⟨rfl, rfl⟩ := he
          obtain ⟨g, q, rfl, hlg, hcut⟩ := hc6 (by simp; omega)
          have hcut1 := hcut i (row8 cl[i].val) (by simp [hli])
          obtain ⟨_, a7, cap7, he, _, _, hc7⟩ := HY10.out.below HB.out
          simp only [Value.slice.injEq, List.length_map, true_and] at he
          obtain ⟨rfl, rfl⟩ := he
          obtain ⟨g7, q7, rfl, hlg7, hcut7⟩ := hc7 (by simp; omega)
          have hcut2 := hcut7 i (rkey cl[i].val) (by simp [hli])
          have hsz := HB.out.size
          have hgr : g < wr.heap.size := by omega
          have hgr7 : g7 < wr.heap.size := by omega
          have hwo := fun W => lawOf_gives cl[i].val cl[i].len W
          generalize cl[i] = k at *
          have hk25 := k.len
          have HWO := Lib.hid hwo
          clear hcut hc6 hcut7 hc7 hwo
          go_wp2_with fail
          apply wp_region_specs (by rfl) [.val _, .val _, .val _, .val _, .val _, .val _, .val _, .val _, .val _, .val _] 10 (by rfl) [95, 96, 97, 98, 99, 100, 101, 102, 103, 104] [] [] (by rfl) (by rfl) (by decide) (by decide +kernel) (fun _ _ _ _ _ h => h)
          case hF => intro x; simp only [over, List.foldl_cons, List.foldl_nil, List.setIfInBounds_toArray, List.set_cons_succ, List.set_cons_zero]; exact rfl
          case hops =>
            refine ⟨?o0, ?o1, ?o2, ?o3, ?o4, ?o5, ?o6, ?o7, ?o8, ?o9, trivial⟩
            case o0 =>
              intro x w1 hH K hK
              obtain ⟨xs, d, rfl⟩ := grow_of_below hH.below
              clear hH
              try simp only [World.grow_drew] at hK ⊢
              try simp only [World.grow_grow] at hK ⊢
              go_simp
              go_wp2_with fail
              exact ⟨_, rfl, rfl, (by repeat (first | exact below_of_grow _ _ | exact Below.refl _ _ | exact below_more _ _ _ _ | (simp only [← Array.append_assoc]; first | exact below_more _ _ _ _ | exact below_same _ _ _ | exact Below.refl _ _) | exact below_same _ _ _ | (refine Below.alloc ?_ (by first | (simp; done) | (simp; omega)) _) | (refine Below.grow ?_ (by first | (simp; done) | (simp; omega)) _ _) | refine Below.drew ?_ | refine Below.drewN ?_ _ | (refine Below.putF ?_ (by first | (simp; done) | omega | (simp; omega)) _) | (refine Below.setCell ?_ (by first | (simp; done) | (simp; omega)) _))), fun h => by cases h⟩
            case o1 =>
              intro x w1 hH K hK
              obtain ⟨xs, d, rfl⟩ := grow_of_below hH.below
              clear hH
              try simp only [World.grow_drew] at hK ⊢
              try simp only [World.grow_grow] at hK ⊢
              go_simp
              go_wp2_with fail
              exact ⟨_, rfl, rfl, (by repeat (first | exact below_of_grow _ _ | exact Below.refl _ _ | exact below_more _ _ _ _ | (simp only [← Array.append_assoc]; first | exact below_more _ _ _ _ | exact below_same _ _ _ | exact Below.refl _ _) | exact below_same _ _ _ | (refine Below.alloc ?_ (by first | (simp; done) | (simp; omega)) _) | (refine Below.grow ?_ (by first | (simp; done) | (simp; omega)) _ _) | refine Below.drew ?_ | refine Below.drewN ?_ _ | (refine Below.putF ?_ (by first | (simp; done) | omega | (simp; omega)) _) | (refine Below.setCell ?_ (by first | (simp; done) | (simp; omega)) _))), fun h => by cases h⟩
            case o2 =>
              intro x w1 hH K hK
              have e95 : x 95 = _ := hH.holds 0 (by decide) (by decide +kernel) 95 rfl
              have e96 : x 96 = _ := hH.holds 1 (by decide) (by decide +kernel) 96 rfl
              obtain ⟨xs, d, rfl⟩ := grow_of_below hH.below
              clear hH
              try simp only [World.grow_drew] at hK ⊢
              try simp only [World.grow_grow] at hK ⊢
              simp only [e95, e96] at hK ⊢
              clear e95 e96
              go_simp
              go_wp2_with fail
              exact ⟨_, rfl, rfl, (by repeat (first | exact below_of_grow _ _ | exact Below.refl _ _ | exact below_more _ _ _ _ | (simp only [← Array.append_assoc]; first | exact below_more _ _ _ _ | exact below_same _ _ _ | exact Below.refl _ _) | exact below_same _ _ _ | (refine Below.alloc ?_ (by first | (simp; done) | (simp; omega)) _) | (refine Below.grow ?_ (by first | (simp; done) | (simp; omega)) _ _) | refine Below.drew ?_ | refine Below.drewN ?_ _ | (refine Below.putF ?_ (by first | (simp; done) | omega | (simp; omega)) _) | (refine Below.setCell ?_ (by first | (simp; done) | (simp; omega)) _))), fun h => by cases h⟩
            case o3 =>
              intro x w1 hH K hK
              have e97 : x 97 = _ := hH.holds 2 (by decide) (by decide +kernel) 97 rfl
              obtain ⟨xs, d, rfl⟩ := grow_of_below hH.below
              clear hH
              try simp only [World.grow_drew] at hK ⊢
              try simp only [World.grow_grow] at hK ⊢
              simp only [e97] at hK ⊢
              clear e97
              go_simp
              go_wp2_with fail
              exact ⟨_, rfl, rfl, (by repeat (first | exact below_of_grow _ _ | exact Below.refl _ _ | exact below_more _ _ _ _ | (simp only [← Array.append_assoc]; first | exact below_more _ _ _ _ | exact below_same _ _ _ | exact Below.refl _ _) | exact below_same _ _ _ | (refine Below.alloc ?_ (by first | (simp; done) | (simp; omega)) _) | (refine Below.grow ?_ (by first | (simp; done) | (simp; omega)) _ _) | refine Below.drew ?_ | refine Below.drewN ?_ _ | (refine Below.putF ?_ (by first | (simp; done) | omega | (simp; omega)) _) | (refine Below.setCell ?_ (by first | (simp; done) | (simp; omega)) _))), fun h => by cases h⟩
            case o4 =>
              intro x w1 hH K hK
              have e98 : x 98 = _ := hH.holds 3 (by decide) (by decide +kernel) 98 rfl
              obtain ⟨xs, d, rfl⟩ := grow_of_below hH.below
              clear hH
              try simp only [World.grow_drew] at hK ⊢
              try simp only [World.grow_grow] at hK ⊢
              simp only [e98] at hK ⊢
              clear e98
              go_simp
              go_wp2_with (refine Gives.use (HWO.out _) ?_; intro ys e)
              exact ⟨_, rfl, rfl, (by first | exact below_more _ _ _ _ | exact (by repeat (first | exact below_of_grow _ _ | exact Below.refl _ _ | exact below_more _ _ _ _ | (simp only [← Array.append_assoc]; first | exact below_more _ _ _ _ | exact below_same _ _ _ | exact Below.refl _ _) | exact below_same _ _ _ | (refine Below.alloc ?_ (by first | (simp; done) | (simp; omega)) _) | (refine Below.grow ?_ (by first | (simp; done) | (simp; omega)) _ _) | refine Below.drew ?_ | refine Below.drewN ?_ _ | (refine Below.putF ?_ (by first | (simp; done) | omega | (simp; omega)) _) | (refine Below.setCell ?_ (by first | (simp; done) | (simp; omega)) _)))), fun h => by cases h⟩
            case o5 =>
              intro x w1 hH K hK
              obtain ⟨xs, d, rfl⟩ := grow_of_below hH.below
              clear hH
              try simp only [World.grow_drew] at hK ⊢
              try simp only [World.grow_grow] at hK ⊢
              go_simp
              go_wp2_with fail
              exact ⟨_, rfl, rfl, (by repeat (first | exact below_of_grow _ _ | exact Below.refl _ _ | exact below_more _ _ _ _ | (simp only [← Array.append_assoc]; first | exact below_more _ _ _ _ | exact below_same _ _ _ | exact Below.refl _ _) | exact below_same _ _ _ | (refine Below.alloc ?_ (by first | (simp; done) | (simp; omega)) _) | (refine Below.grow ?_ (by first | (simp; done) | (simp; omega)) _ _) | refine Below.drew ?_ | refine Below.drewN ?_ _ | (refine Below.putF ?_ (by first | (simp; done) | omega | (simp; omega)) _) | (refine Below.setCell ?_ (by first | (simp; done) | (simp; omega)) _))), fun h => by cases h⟩
            case o6 =>
              intro x w1 hH K hK
              obtain ⟨xs, d, rfl⟩ := grow_of_below hH.below
              clear hH
              try simp only [World.grow_drew] at hK ⊢
              try simp only [World.grow_grow] at hK ⊢
              go_simp
              go_wp2_with fail
              exact ⟨_, rfl, rfl, (by repeat (first | exact below_of_grow _ _ | exact Below.refl _ _ | exact below_more _ _ _ _ | (simp only [← Array.append_assoc]; first | exact below_more _ _ _ _ | exact below_same _ _ _ | exact Below.refl _ _) | exact below_same _ _ _ | (refine Below.alloc ?_ (by first | (simp; done) | (simp; omega)) _) | (refine Below.grow ?_ (by first | (simp; done) | (simp; omega)) _ _) | refine Below.drew ?_ | refine Below.drewN ?_ _ | (refine Below.putF ?_ (by first | (simp; done) | omega | (simp; omega)) _) | (refine Below.setCell ?_ (by first | (simp; done) | (simp; omega)) _))), fun h => by cases h⟩
            case o7 =>
              intro x w1 hH K hK
              have e100 : x 100 = _ := hH.holds 5 (by decide) (by decide +kernel) 100 rfl
              have e101 : x 101 = _ := hH.holds 6 (by decide) (by decide +kernel) 101 rfl
              obtain ⟨xs, d, rfl⟩ := grow_of_below hH.below
              clear hH
              try simp only [World.grow_drew] at hK ⊢
              try simp only [World.grow_grow] at hK ⊢
              simp only [e100, e101] at hK ⊢
              clear e100 e101
              go_simp
              go_wp2_with fail
              exact ⟨_, rfl, rfl, (by repeat (first | exact below_of_grow _ _ | exact Below.refl _ _ | exact below_more _ _ _ _ | (simp only [← Array.append_assoc]; first | exact below_more _ _ _ _ | exact below_same _ _ _ | exact Below.refl _ _) | exact below_same _ _ _ | (refine Below.alloc ?_ (by first | (simp; done) | (simp; omega)) _) | (refine Below.grow ?_ (by first | (simp; done) | (simp; omega)) _ _) | refine Below.drew ?_ | refine Below.drewN ?_ _ | (refine Below.putF ?_ (by first | (simp; done) | omega | (simp; omega)) _) | (refine Below.setCell ?_ (by first | (simp; done) | (simp; omega)) _))), fun h => by cases h⟩
            case o8 =>
              intro x w1 hH K hK
              have e102 : x 102 = _ := hH.holds 7 (by decide) (by decide +kernel) 102 rfl
              obtain ⟨xs, d, rfl⟩ := grow_of_below hH.below
              clear hH
              try simp only [World.grow_drew] at hK ⊢
              try simp only [World.grow_grow] at hK ⊢
              simp only [e102] at hK ⊢
              clear e102
              go_simp
              go_wp2_with fail
              exact ⟨_, rfl, rfl, (by repeat (first | exact below_of_grow _ _ | exact Below.refl _ _ | exact below_more _ _ _ _ | (simp only [← Array.append_assoc]; first | exact below_more _ _ _ _ | exact below_same _ _ _ | exact Below.refl _ _) | exact below_same _ _ _ | (refine Below.alloc ?_ (by first | (simp; done) | (simp; omega)) _) | (refine Below.grow ?_ (by first | (simp; done) | (simp; omega)) _ _) | refine Below.drew ?_ | refine Below.drewN ?_ _ | (refine Below.putF ?_ (by first | (simp; done) | omega | (simp; omega)) _) | (refine Below.setCell ?_ (by first | (simp; done) | (simp; omega)) _))), fun h => by cases h⟩
            case o9 =>
              intro x w1 hH K hK
              have e99 : x 99 = _ := hH.holds 4 (by decide) (by decide +kernel) 99 rfl
              have e103 : x 103 = _ := hH.holds 8 (by decide) (by decide +kernel) 103 rfl
              obtain ⟨xs, d, rfl⟩ := grow_of_below hH.below
              clear hH
              try simp only [World.grow_drew] at hK ⊢
              try simp only [World.grow_grow] at hK ⊢
              simp only [e99, e103] at hK ⊢
              clear e99 e103
              go_simp
              go_wp2_with fail
              exact ⟨_, rfl, rfl, (by repeat (first | exact below_of_grow _ _ | exact Below.refl _ _ | exact below_more _ _ _ _ | (simp only [← Array.append_assoc]; first | exact below_more _ _ _ _ | exact below_same _ _ _ | exact Below.refl _ _) | exact below_same _ _ _ | (refine Below.alloc ?_ (by first | (simp; done) | (simp; omega)) _) | (refine Below.grow ?_ (by first | (simp; done) | (simp; omega)) _ _) | refine Below.drew ?_ | refine Below.drewN ?_ _ | (refine Below.putF ?_ (by first | (simp; done) | omega | (simp; omega)) _) | (refine Below.setCell ?_ (by first | (simp; done) | (simp; omega)) _))), fun h => by cases h⟩
          case hend =>
            intro x w1 hH
            have e95 : x 95 = _ := hH.holds 0 (by decide) trivial 95 rfl
            have e96 : x 96 = _ := hH.holds 1 (by decide) trivial 96 rfl
            have e97 : x 97 = _ := hH.holds 2 (by decide) trivial 97 rfl
            have e98 : x 98 = _ := hH.holds 3 (by decide) trivial 98 rfl
            have e99 : x 99 = _ := hH.holds 4 (by decide) trivial 99 rfl
            have e100 : x 100 = _ := hH.holds 5 (by decide) trivial 100 rfl
            have e101 : x 101 = _ := hH.holds 6 (by decide) trivial 101 rfl
            have e102 : x 102 = _ := hH.holds 7 (by decide) trivial 102 rfl
            have e103 : x 103 = _ := hH.holds 8 (by decide) trivial 103 rfl
            have e104 : x 104 = _ := hH.holds 9 (by decide) trivial 104 rfl
            obtain ⟨xs, d, rfl⟩ := grow_of_below hH.below
            clear hH
            simp only [e95, e96, e97, e98, e99, e100, e101, e102, e103, e104]; clear e95 e96 e97 e98 e99 e100 e101 e102 e103 e104
            simp only [List.drop_succ_cons, List.drop_nil]
            go_wp2_with fail
            go_roundw
            case rel => exact ⟨i + 1, by omega, by go_num, Lib.hid (HB.out.drew.grow hsz _ _)⟩
            case measure => simp [intOf]; omega
        · have hie : i = cl.length := by omega
          subst hie
          have hgn : ¬ (cl.length : Int) < cl.length := by omega
          go_wp2_with fail
          go_meet
          exact HB
    case rest =>
      obtain ⟨Y, rfl⟩ : ∃ Y, Y = wc := ⟨_, rfl⟩
      have HBY := hcut
      have hsY := HBY.out.size
      have HZ2 := Lib.hid ((HY2.out.below HBY.out).more hsY)
      have HZW := Lib.hid ((HYW.out.below HBY.out).more hsY)
      have HBZ := Lib.hid (HB8.out.trans (HBY.out.mono HB8.out.size))
      clear HBX hcut HY1 HY2 HYW HY4 HY5 HY9 HY10 HB8 HBY hsY
      obtain ⟨bb, hbb⟩ := u8_wrap br
      have hlc : (cutW Ws).length ≤ 20 := by unfold cutW; rw [List.length_map, List.length_take]; omega
      have hcc := cut_calls Ws vw Y HZW.out
      generalize cutW Ws = l at *
      have HCC := Lib.hid hcc
      clear hcc HZW
      go_wp2_with fail
      refine HCC.out.mono ?_
      clear HCC
      rintro e w9 ⟨v24, rfl, hb9, ho9⟩
      go_wp2_with fail
      refine (on_calls br bb hbb l v24 w9 (by omega) _ ho9).mono ?_
      rintro e w10 ⟨v26, rfl, hb10, ho10⟩
      obtain ⟨a24, cap24, rfl, hcm24, hcl24⟩ := ho9.form
      obtain ⟨a26, cap26, rfl, hcm26, hcl26⟩ := ho10.form
      simp only [List.length_map] at *
      have hs9 := hb9.size
      have hs10 := hb10.size
      have hb910 := hb9.trans (hb10.mono hs9)
      have HS24 := Lib.hid ((ho9.sl.below hb10).more hs10)
      have HS26 := Lib.hid ho10.sl
      have HQ2 := Lib.hid ((HZ2.out.below hb910).more hb910.size)
      have HB10 := Lib.hid (HBZ.out.trans (hb910.mono HBZ.out.size))
      unfold maxLen at hcm24 hcm26
      clear hb9 hb10 ho9 ho10 hb910 hs9 hs10 HZ2 HBZ
      go_upto_block 4 with fail
      go_cut [25] (fun s25 wx => Hid (Below w10.heap.size w10 wx) ∧ Hid (OwnA wx w10.heap.size 35 64 s25 (l.map wrtD)))
      case first =>
        go_wp2_with fail
        go_loopw [25, 27] (fun s25 s27 wx => ∃ i : Nat, i ≤ l.length ∧ s27 = .int .i64 i ∧ Hid (Below w10.heap.size w10 wx) ∧ Hid (OwnA wx w10.heap.size 35 64 s25 ((l.take i).map wrtD))) (fun _ s27 _ => l.length - (intOf s27).toNat)
        case atStart => exact ⟨0, Nat.zero_le _, rfl, Lib.hid (Below.refl _ _), Lib.hid (OwnA.nil _ _ _ _)⟩
        case round =>
          obtain ⟨i, hi, rfl, HB, HO⟩ := hrel
          by_cases hli : i < l.length
          · have hliI : (i : Int) < l.length := by omega
            obtain ⟨-, a6, cap6, he, -, -, hc6⟩ := HS24.out
            simp only [Value.slice.injEq, List.length_map, true_and] at he
            obtain ⟨rfl, rfl⟩ := he
            obtain ⟨g, q, rfl, hlg, hcut⟩ := hc6 (by simp; omega)
            have hcutA := hcut i (wrtA l[i]) (by simp [hli])
            obtain ⟨-, a7, cap7, he, -, -, hc7⟩ := HS26.out
            simp only [Value.slice.injEq, List.length_map, true_and] at he
            obtain ⟨rfl, rfl⟩ := he
            obtain ⟨g7, q7, rfl, hlg7, hcut7⟩ := hc7 (by simp; omega)
            have hcutB := hcut7 i (wrtA (onW bb l[i])) (by simp [hli])
            have hsz := HB.out.size
            have hgr : g < wr.heap.size := by omega
            have hwo := wrOf_gives l[i]
            have hsu : (l.take (i + 1)).map wrtD = (l.take i).map wrtD ++ [wrtD l[i]] := by rw [List.take_succ_eq_append_getElem hli, List.map_append]; rfl
            have hcut1 : wr.cut? g (q + i * 35) 35 = some (wrtA l[i]) := (cut_of_heap (HB.out.block g hlg) _ _).trans hcutA
            generalize l[i] = x at *
            have HWO := Lib.hid hwo
            have HSU := Lib.hid hsu
            have HCA := Lib.hid hcutA
            have HCB := Lib.hid hcutB
            clear hcut hc6 hcut7 hc7 hwo hsu hcutA hcutB
            go_wp2_with fail
            refine Gives.use (HWO.out _) ?_
            intro xs d
            go_wp2_with (at_builtin; refine wpList_append (B := w10.heap.size) (xs := (l.take i).map wrtD) (ys := [wrtD x]) row_wrtD rfl (.tmp 121) (.tmp 127) rfl (v := u25) rfl ?_ rfl ?_ ?_ ?_ ?_ ?_)
            case refine_1 => exact (HO.out.grow _ _).alloc _
            case refine_2 =>
              refine ⟨_, sl_one (Nat.le_refl _) (by decide) (cut_heap ((heap_al _ _ _).trans (if_pos ?_)) (by simp))⟩
              simp
            case refine_3 => intro z hz; obtain rfl : z = wrtD x := by simpa using hz
                             exact one_wrtD x
            case refine_4 => simp; omega
            case refine_5 => simp; omega
            intro v11 w11 ho11 hg11 _
            have hb11 : Below w10.heap.size w10 w11 := Below.grown ((HB.out.grow hsz xs d).alloc (by simp; omega) _) hg11 (by simp; omega) (fun q hq => (HO.out.lt q hq).1)
            have HO11 := Lib.hid (show OwnA w11 w10.heap.size 35 64 v11 ((l.take (i + 1)).map wrtD) by rw [HSU.out]; simpa [List.map_take] using ho11)
            have hs11 := hb11.size
            have hcut2 : w11.cut? g (q + i * 35) 35 = some (wrtA x) := (cut_of_heap (hb11.block g hlg) _ _).trans HCA.out
            have hgr11 : g < w11.heap.size := by omega
            have HB11 := Lib.hid hb11
            clear hcut1 hgr ho11 hg11 hb11 HO HB HWO hsz
            go_upto_region 27 with fail
            obtain ⟨Z, hZ⟩ : ∃ Z, Z = w11.alloc (.cells (wrtA (onW bb x)) 67) := ⟨_, rfl⟩
            have hZb : Below w10.heap.size w10 Z := by rw [hZ]; exact HB11.out.alloc hs11 _
            have hZo : OwnA Z w10.heap.size 35 64 v11 ((l.take (i + 1)).map wrtD) := by rw [hZ]; exact HO11.out.alloc _
            have hZs : w11.heap.size < Z.heap.size := by rw [hZ]; simp
            have hZ1 : Z.cut? w11.heap.size 0 35 = some (wrtA (onW bb x)) := by rw [hZ]; exact cut_heap ((heap_al _ _ _).trans (if_pos (by simp))) (by simp)
            have hZ2 : Z.cut? g7 (q7 + i * 35) 35 = some (wrtA (onW bb x)) := (cut_of_heap (hZb.block g7 hlg7) _ _).trans HCB.out
            have hg7 : g7 < Z.heap.size := by omega
            have hsZ := hZb.size
            have HZB := Lib.hid hZb
            have HZO := Lib.hid hZo
            rw [← hZ]
            clear hZ hZb hZo HB11 HO11 hcut2 hgr11 HCA HCB HSU
            apply wp_region_specs (by rfl) [.val _, .val _, .val _, .val _, .val _, .val _] 6 (by rfl) [137, 138, 139, 140, 141, 142] [] [] (by rfl) (by rfl) (by decide) (by decide +kernel) (fun _ _ _ _ _ h => h)
            case hF => intro x; simp only [over, List.foldl_cons, List.foldl_nil, List.setIfInBounds_toArray, List.set_cons_succ, List.set_cons_zero]; exact rfl
            case hops =>
              refine ⟨?o0, ?o1, ?o2, ?o3, ?o4, ?o5, trivial⟩
              case o0 =>
                intro x w1 hH K hK
                obtain ⟨xs, d, rfl⟩ := grow_of_below hH.below
                clear hH
                try simp only [World.grow_drew] at hK ⊢
                try simp only [World.grow_grow] at hK ⊢
                go_simp
                go_wp2_with fail
                exact ⟨_, rfl, rfl, (by repeat (first | exact below_of_grow _ _ | exact Below.refl _ _ | exact below_more _ _ _ _ | (simp only [← Array.append_assoc]; first | exact below_more _ _ _ _ | exact below_same _ _ _ | exact Below.refl _ _) | exact below_same _ _ _ | (refine Below.alloc ?_ (by first | (simp; done) | (simp; omega)) _) | (refine Below.grow ?_ (by first | (simp; done) | (simp; omega)) _ _) | refine Below.drew ?_ | refine Below.drewN ?_ _ | (refine Below.putF ?_ (by first | (simp; done) | omega | (simp; omega)) _) | (refine Below.setCell ?_ (by first | (simp; done) | (simp; omega)) _))), fun h => by cases h⟩
              case o1 =>
                intro x w1 hH K hK
                obtain ⟨xs, d, rfl⟩ := grow_of_below hH.below
                clear hH
                try simp only [World.grow_drew] at hK ⊢
                try simp only [World.grow_grow] at hK ⊢
                go_simp
                go_wp2_with fail
                exact ⟨_, rfl, rfl, (by repeat (first | exact below_of_grow _ _ | exact Below.refl _ _ | exact below_more _ _ _ _ | (simp only [← Array.append_assoc]; first | exact below_more _ _ _ _ | exact below_same _ _ _ | exact Below.refl _ _) | exact below_same _ _ _ | (refine Below.alloc ?_ (by first | (simp; done) | (simp; omega)) _) | (refine Below.grow ?_ (by first | (simp; done) | (simp; omega)) _ _) | refine Below.drew ?_ | refine Below.drewN ?_ _ | (refine Below.putF ?_ (by first | (simp; done) | omega | (simp; omega)) _) | (refine Below.setCell ?_ (by first | (simp; done) | (simp; omega)) _))), fun h => by cases h⟩
              case o2 =>
                intro x w1 hH K hK
                have e137 : x 137 = _ := hH.holds 0 (by decide) (by decide +kernel) 137 rfl
                have e138 : x 138 = _ := hH.holds 1 (by decide) (by decide +kernel) 138 rfl
                obtain ⟨xs, d, rfl⟩ := grow_of_below hH.below
                clear hH
                try simp only [World.grow_drew] at hK ⊢
                try simp only [World.grow_grow] at hK ⊢
                simp only [e137, e138] at hK ⊢
                clear e137 e138
                go_simp
                go_wp2_with fail
                exact ⟨_, rfl, rfl, (by repeat (first | exact below_of_grow _ _ | exact Below.refl _ _ | exact below_more _ _ _ _ | (simp only [← Array.append_assoc]; first | exact below_more _ _ _ _ | exact below_same _ _ _ | exact Below.refl _ _) | exact below_same _ _ _ | (refine Below.alloc ?_ (by first | (simp; done) | (simp; omega)) _) | (refine Below.grow ?_ (by first | (simp; done) | (simp; omega)) _ _) | refine Below.drew ?_ | refine Below.drewN ?_ _ | (refine Below.putF ?_ (by first | (simp; done) | omega | (simp; omega)) _) | (refine Below.setCell ?_ (by first | (simp; done) | (simp; omega)) _))), fun h => by cases h⟩
              case o3 =>
                intro x w1 hH K hK
                have e139 : x 139 = _ := hH.holds 2 (by decide) (by decide +kernel) 139 rfl
                obtain ⟨xs, d, rfl⟩ := grow_of_below hH.below
                clear hH
                try simp only [World.grow_drew] at hK ⊢
                try simp only [World.grow_grow] at hK ⊢
                simp only [e139] at hK ⊢
                clear e139
                go_simp
                go_wp2_with fail
                exact ⟨_, rfl, rfl, (by repeat (first | exact below_of_grow _ _ | exact Below.refl _ _ | exact below_more _ _ _ _ | (simp only [← Array.append_assoc]; first | exact below_more _ _ _ _ | exact below_same _ _ _ | exact Below.refl _ _) | exact below_same _ _ _ | (refine Below.alloc ?_ (by first | (simp; done) | (simp; omega)) _) | (refine Below.grow ?_ (by first | (simp; done) | (simp; omega)) _ _) | refine Below.drew ?_ | refine Below.drewN ?_ _ | (refine Below.putF ?_ (by first | (simp; done) | omega | (simp; omega)) _) | (refine Below.setCell ?_ (by first | (simp; done) | (simp; omega)) _))), fun h => by cases h⟩
              case o4 =>
                intro x w1 hH K hK
                obtain ⟨xs, d, rfl⟩ := grow_of_below hH.below
                clear hH
                try simp only [World.grow_drew] at hK ⊢
                try simp only [World.grow_grow] at hK ⊢
                go_simp
                go_wp2_with fail
                exact ⟨_, rfl, rfl, (by repeat (first | exact below_of_grow _ _ | exact Below.refl _ _ | exact below_more _ _ _ _ | (simp only [← Array.append_assoc]; first | exact below_more _ _ _ _ | exact below_same _ _ _ | exact Below.refl _ _) | exact below_same _ _ _ | (refine Below.alloc ?_ (by first | (simp; done) | (simp; omega)) _) | (refine Below.grow ?_ (by first | (simp; done) | (simp; omega)) _ _) | refine Below.drew ?_ | refine Below.drewN ?_ _ | (refine Below.putF ?_ (by first | (simp; done) | omega | (simp; omega)) _) | (refine Below.setCell ?_ (by first | (simp; done) | (simp; omega)) _))), fun h => by cases h⟩
              case o5 =>
                intro x w1 hH K hK
                have e140 : x 140 = _ := hH.holds 3 (by decide) (by decide +kernel) 140 rfl
                have e141 : x 141 = _ := hH.holds 4 (by decide) (by decide +kernel) 141 rfl
                obtain ⟨xs, d, rfl⟩ := grow_of_below hH.below
                clear hH
                try simp only [World.grow_drew] at hK ⊢
                try simp only [World.grow_grow] at hK ⊢
                simp only [e140, e141] at hK ⊢
                clear e140 e141
                go_simp
                go_wp2_with fail
                exact ⟨_, rfl, rfl, (by repeat (first | exact below_of_grow _ _ | exact Below.refl _ _ | exact below_more _ _ _ _ | (simp only [← Array.append_assoc]; first | exact below_more _ _ _ _ | exact below_same _ _ _ | exact Below.refl _ _) | exact below_same _ _ _ | (refine Below.alloc ?_ (by first | (simp; done) | (simp; omega)) _) | (refine Below.grow ?_ (by first | (simp; done) | (simp; omega)) _ _) | refine Below.drew ?_ | refine Below.drewN ?_ _ | (refine Below.putF ?_ (by first | (simp; done) | omega | (simp; omega)) _) | (refine Below.setCell ?_ (by first | (simp; done) | (simp; omega)) _))), fun h => by cases h⟩
            case hend =>
              intro x w1 hH
              have e137 : x 137 = _ := hH.holds 0 (by decide) trivial 137 rfl
              have e138 : x 138 = _ := hH.holds 1 (by decide) trivial 138 rfl
              have e139 : x 139 = _ := hH.holds 2 (by decide) trivial 139 rfl
              have e140 : x 140 = _ := hH.holds 3 (by decide) trivial 140 rfl
              have e141 : x 141 = _ := hH.holds 4 (by decide) trivial 141 rfl
              have e142 : x 142 = _ := hH.holds 5 (by decide) trivial 142 rfl
              obtain ⟨xs, d, rfl⟩ := grow_of_below hH.below
              clear hH
              simp only [e137, e138, e139, e140, e141, e142]; clear e137 e138 e139 e140 e141 e142
              simp only [List.drop_succ_cons, List.drop_nil]
              go_wp2_with fail
              go_roundw
              case rel => exact ⟨i + 1, by omega, by go_num, Lib.hid (HZB.out.drew.grow hsZ _ _), Lib.hid (HZO.out.drew.grow _ _)⟩
              case measure => simp [intOf]; omega
          · have hie : i = l.length := by omega
            subst hie
            have hgn : ¬ (l.length : Int) < l.length := by omega
            have ho := HO.out
            rw [List.take_length] at ho
            have HO2 := Lib.hid ho
            clear ho HO
            go_wp2_with fail
            go_meet
            exact ⟨HB, HO2⟩
      case rest =>
        obtain ⟨Z, rfl⟩ : ∃ Z, Z = wc := ⟨_, rfl⟩
        obtain ⟨HBZ, HOZ⟩ := hcut
        obtain ⟨a25, cap25, rfl, hcm25, hcl25⟩ := HOZ.out.form
        simp only [List.length_map] at *
        have hsZ := HBZ.out.size
        have HA2 := Lib.hid ((HQ2.out.below HBZ.out).more hsZ)
        have HA24 := Lib.hid ((HS24.out.below HBZ.out).more hsZ)
        have HA25 := Lib.hid HOZ.out.sl
        have HBW := Lib.hid (HB10.out.trans (HBZ.out.mono HB10.out.size))
        have hov := overR_eq HSB.out l
        have hol := overR_len l b
        have HOV := Lib.hid hov
        have hkn := known24_gives
        have HKN := Lib.hid hkn
        clear hkn hov HBZ HOZ HQ2 HS24 HS26 HB10 hsZ
        go_wp2_with fail
        refine Gives.use (HKN.out _) ?_
        intro xk dk
        go_wp2_with fail
        have hbk : Below Z.heap.size Z (Z.grow xk dk) := below_of_grow _ _
        refine (over_calls b l v2 _ _ (by omega) (by omega) ((HA2.out.below hbk).more hbk.size) ((HA24.out.below hbk).more hbk.size)).mono ?_
        rintro e w13 ⟨v16, rfl, hb13, ho16⟩
        have hb1k := hbk.trans (hb13.mono hbk.size)
        have HB1K := Lib.hid hb1k
        have HS16 := Lib.hid ho16.sl
        clear hbk hb13 ho16 hb1k
        go_wp2_with fail
        refine (ofs_calls b v2 _ (by omega) ((HA2.out.below HB1K.out).more HB1K.out.size)).mono ?_
        rintro e w14 ⟨v17, rfl, hb14, ho17⟩
        have HT16 := Lib.hid ((HS16.out.below hb14).more hb14.size)
        have HS17 := Lib.hid ho17.sl
        have HB1L := Lib.hid (HB1K.out.trans (hb14.mono HB1K.out.size))
        clear hb14 ho17 HB1K HS16
        go_wp2_with fail
        refine (overR_calls b l v17 _ w14 (by omega) (by omega) HS17.out ((HA25.out.below HB1L.out).more HB1L.out.size)).mono ?_
        rintro e w15 ⟨v18, rfl, hb15, hs18⟩
        have HU16 := Lib.hid ((HT16.out.below hb15).more hb15.size)
        have HS18 := Lib.hid hs18
        have HB1M := Lib.hid (HBW.out.trans ((HB1L.out.trans (hb15.mono HB1L.out.size)).mono HBW.out.size))
        clear hb15 hs18 HB1L HT16 HS17
        go_wp2_with fail
        refine Gives.use (same_gives (overM b l) (overR b l) true (by simp [HOV.out]) v16 v18 _ (by rw [HOV.out]; omega) (by omega) HU16.out HS18.out) ?_
        intro xe de
        go_wp2_with fail
        go_ret
        exact ⟨congrArg Ending.returned (by simp), HB1M.out.grow HB1M.out.size _ _⟩
end Go.Proofs.Ytbflpnkodpeggaa.Dp

/- Layer 24's law: are entries the document's? -/
import Derived.Test.YtbflpnkodpeggaaOfsM
namespace Go.Proofs.Ytbflpnkodpeggaa
set_option maxRecDepth 100000
open Go.RowKit

theorem same_at {l m : List Ent} (h : l.length = m.length) (hb : ∀ j x y, j < l.length → l[j]? = some x → m[j]? = some y → x = y) : l = m := by
  apply List.ext_getElem? 
  intro j
  by_cases hj : j < l.length
  · have h1 := List.getElem?_eq_getElem hj
    have h2 := List.getElem?_eq_getElem (show j < m.length by omega)
    rw [h1, h2, hb j _ _ hj h1 h2]
  · rw [List.getElem?_eq_none (by omega), List.getElem?_eq_none (by omega)]
set_option maxHeartbeats 1000000 in
/-- are entries the document's? -/
theorem same_gives (l m : List Ent) (b : Bool) (hb : b = true ↔ l = m) (v u : Value) (w : World) (hl : l.length ≤ 1000) (hm : m.length ≤ 1000) (hv : SlA w w.heap.size 34 v (l.map entA)) (hu : SlA w w.heap.size 34 u (m.map entD)) :
    Gives Try.prog 11 #[v, u] w (.bool b) := by
  obtain ⟨a0, cap0, rfl, hcl, hcm⟩ := hv.form
  obtain ⟨a1, cap1, rfl, hcl1, hcm1⟩ := hu.form
  simp only [List.length_map] at *
  have HV := Lib.hid hv
  have HU := Lib.hid hu
  have HB := Lib.hid hb
  unfold maxLen at hcm hcm1
  have hof := ofs_calls l _ w hl hv
  have HOF := Lib.hid hof
  clear hv hu hof hb
  unfold Gives
  by_cases hlm : l.length = m.length
  · have HLM := Lib.hid hlm
    have hneq : ((l.length : Int) != (m.length : Int)) = false := by simp; omega
    clear hlm
    go_enter Try.func11, Try.ntmps11
    go_wp2_with (go_at_call 12; refine HOF.out.mono ?_; rintro e w2 ⟨v2, rfl, hb2, ho2⟩; obtain ⟨a2, cap2, rfl, hcm2, hcl2⟩ := ho2.form; rw [List.length_map] at *)
    have hs2 := ho2.sl
    have HS := Lib.hid hs2
    have HB2 := Lib.hid hb2
    unfold maxLen at hcm2
    clear hs2 ho2 hb2
    go_loopw [6] (fun s6 wr => ∃ (i : Nat) (xs : Array Obj) (d : Nat), i ≤ l.length ∧ s6 = .int .i64 i ∧ Hid (∀ j x y, j < i → l[j]? = some x → m[j]? = some y → x = y) ∧ wr = w2.grow xs d) (fun s6 _ => l.length - (intOf s6).toNat)
    case atStart => exact ⟨0, #[], _, Nat.zero_le _, rfl, Lib.hid (fun j x y hj => by omega), World.grow_nil.symm⟩
    case round =>
      obtain ⟨i, xs, d, hi, rfl, HF, rfl⟩ := hrel
      by_cases hli : i < l.length
      · have hliI : (i : Int) < l.length := by omega
        have hmi : i < m.length := by have := HLM.out; omega
        have hmiI : (i : Int) < m.length := by omega
        obtain ⟨_, a3, cap3, he, _, _, hc⟩ := HS.out
        simp only [Value.slice.injEq, List.length_map, true_and] at he
        obtain ⟨rfl, rfl⟩ := he
        obtain ⟨g, q, rfl, hlb, hcut⟩ := hc (by simp; omega)
        have hcut1 := hcut i (entD l[i]) (by simp [hli])
        obtain ⟨_, a4, cap4, he, _, _, hc4⟩ := HU.out.below HB2.out
        simp only [Value.slice.injEq, List.length_map, true_and] at he
        obtain ⟨rfl, rfl⟩ := he
        obtain ⟨g4, q4, rfl, hlb4, hcut4⟩ := hc4 (by simp; omega)
        have hcut2 := hcut4 i (entD m[i]) (by simp [hmi])
        have hsz := HB2.out.size
        have hgW : g4 < w2.heap.size := by omega
        have hl1 := List.getElem?_eq_getElem hli
        have hm1 := List.getElem?_eq_getElem hmi
        generalize l[i] = x at *
        generalize m[i] = y at *
        have HL1 := Lib.hid hl1
        have HM1 := Lib.hid hm1
        clear hcut hc hcut4 hc4 hl1 hm1 hsz
        by_cases hxy : x = y
        · have hd : decide (x = y) = true := by simpa using hxy
          have HXY := Lib.hid hxy
          clear hxy
          go_wp2_with fail
          apply wp_region_specs (by rfl) [.val _, .val _, .val _, .val _, .val _, .val _, .val _, .val _, .val _] 9 (by rfl) [20, 21, 22, 23, 24, 25, 26, 27, 28] [] [] (by rfl) (by rfl) (by decide) (by decide +kernel) (fun _ _ _ _ _ h => h)
          case hF => intro x; simp only [over, List.foldl_cons, List.foldl_nil, List.setIfInBounds_toArray, List.set_cons_succ, List.set_cons_zero]; exact rfl
          case hops =>
            refine ⟨?o0, ?o1, ?o2, ?o3, ?o4, ?o5, ?o6, ?o7, ?o8, trivial⟩
            case o0 =>
              intro x w1 hH K hK
              obtain ⟨xs, d, rfl⟩ := grow_of_below hH.below
              clear hH
              try simp only [World.grow_drew] at hK ⊢
              try simp only [World.grow_grow] at hK ⊢
              go_simp
              go_wp2_with fail
              exact ⟨_, rfl, rfl, (by repeat (first | exact below_of_grow _ _ | exact Below.refl _ _ | exact below_more _ _ _ _ | (simp only [← Array.append_assoc]; first | exact below_more _ _ _ _ | exact below_same _ _ _ | exact Below.refl _ _) | exact below_same _ _ _ | (refine Below.alloc ?_ (by first | (simp; done) | (simp; omega)) _) | (refine Below.grow ?_ (by first | (simp; done) | (simp; omega)) _ _) | refine Below.drew ?_ | refine Below.drewN ?_ _ | (refine Below.putF ?_ (by first | (simp; done) | omega | (simp; omega)) _) | (refine Below.setCell ?_ (by first | (simp; done) | (simp; omega)) _))), fun h => by cases h⟩
            case o1 =>
              intro x w1 hH K hK
              obtain ⟨xs, d, rfl⟩ := grow_of_below hH.below
              clear hH
              try simp only [World.grow_drew] at hK ⊢
              try simp only [World.grow_grow] at hK ⊢
              go_simp
              go_wp2_with fail
              exact ⟨_, rfl, rfl, (by repeat (first | exact below_of_grow _ _ | exact Below.refl _ _ | exact below_more _ _ _ _ | (simp only [← Array.append_assoc]; first | exact below_more _ _ _ _ | exact below_same _ _ _ | exact Below.refl _ _) | exact below_same _ _ _ | (refine Below.alloc ?_ (by first | (simp; done) | (simp; omega)) _) | (refine Below.grow ?_ (by first | (simp; done) | (simp; omega)) _ _) | refine Below.drew ?_ | refine Below.drewN ?_ _ | (refine Below.putF ?_ (by first | (simp; done) | omega | (simp; omega)) _) | (refine Below.setCell ?_ (by first | (simp; done) | (simp; omega)) _))), fun h => by cases h⟩
            case o2 =>
              intro x w1 hH K hK
              have e20 : x 20 = _ := hH.holds 0 (by decide) (by decide +kernel) 20 rfl
              have e21 : x 21 = _ := hH.holds 1 (by decide) (by decide +kernel) 21 rfl
              obtain ⟨xs, d, rfl⟩ := grow_of_below hH.below
              clear hH
              try simp only [World.grow_drew] at hK ⊢
              try simp only [World.grow_grow] at hK ⊢
              simp only [e20, e21] at hK ⊢
              clear e20 e21
              go_simp
              go_wp2_with fail
              exact ⟨_, rfl, rfl, (by repeat (first | exact below_of_grow _ _ | exact Below.refl _ _ | exact below_more _ _ _ _ | (simp only [← Array.append_assoc]; first | exact below_more _ _ _ _ | exact below_same _ _ _ | exact Below.refl _ _) | exact below_same _ _ _ | (refine Below.alloc ?_ (by first | (simp; done) | (simp; omega)) _) | (refine Below.grow ?_ (by first | (simp; done) | (simp; omega)) _ _) | refine Below.drew ?_ | refine Below.drewN ?_ _ | (refine Below.putF ?_ (by first | (simp; done) | omega | (simp; omega)) _) | (refine Below.setCell ?_ (by first | (simp; done) | (simp; omega)) _))), fun h => by cases h⟩
            case o3 =>
              intro x w1 hH K hK
              have e22 : x 22 = _ := hH.holds 2 (by decide) (by decide +kernel) 22 rfl
              obtain ⟨xs, d, rfl⟩ := grow_of_below hH.below
              clear hH
              try simp only [World.grow_drew] at hK ⊢
              try simp only [World.grow_grow] at hK ⊢
              simp only [e22] at hK ⊢
              clear e22
              go_simp
              go_wp2_with fail
              exact ⟨_, rfl, rfl, (by repeat (first | exact below_of_grow _ _ | exact Below.refl _ _ | exact below_more _ _ _ _ | (simp only [← Array.append_assoc]; first | exact below_more _ _ _ _ | exact below_same _ _ _ | exact Below.refl _ _) | exact below_same _ _ _ | (refine Below.alloc ?_ (by first | (simp; done) | (simp; omega)) _) | (refine Below.grow ?_ (by first | (simp; done) | (simp; omega)) _ _) | refine Below.drew ?_ | refine Below.drewN ?_ _ | (refine Below.putF ?_ (by first | (simp; done) | omega | (simp; omega)) _) | (refine Below.setCell ?_ (by first | (simp; done) | (simp; omega)) _))), fun h => by cases h⟩
            case o4 =>
              intro x w1 hH K hK
              obtain ⟨xs, d, rfl⟩ := grow_of_below hH.below
              clear hH
              try simp only [World.grow_drew] at hK ⊢
              try simp only [World.grow_grow] at hK ⊢
              go_simp
              go_wp2_with fail
              exact ⟨_, rfl, rfl, (by repeat (first | exact below_of_grow _ _ | exact Below.refl _ _ | exact below_more _ _ _ _ | (simp only [← Array.append_assoc]; first | exact below_more _ _ _ _ | exact below_same _ _ _ | exact Below.refl _ _) | exact below_same _ _ _ | (refine Below.alloc ?_ (by first | (simp; done) | (simp; omega)) _) | (refine Below.grow ?_ (by first | (simp; done) | (simp; omega)) _ _) | refine Below.drew ?_ | refine Below.drewN ?_ _ | (refine Below.putF ?_ (by first | (simp; done) | omega | (simp; omega)) _) | (refine Below.setCell ?_ (by first | (simp; done) | (simp; omega)) _))), fun h => by cases h⟩
            case o5 =>
              intro x w1 hH K hK
              obtain ⟨xs, d, rfl⟩ := grow_of_below hH.below
              clear hH
              try simp only [World.grow_drew] at hK ⊢
              try simp only [World.grow_grow] at hK ⊢
              go_simp
              go_wp2_with fail
              exact ⟨_, rfl, rfl, (by repeat (first | exact below_of_grow _ _ | exact Below.refl _ _ | exact below_more _ _ _ _ | (simp only [← Array.append_assoc]; first | exact below_more _ _ _ _ | exact below_same _ _ _ | exact Below.refl _ _) | exact below_same _ _ _ | (refine Below.alloc ?_ (by first | (simp; done) | (simp; omega)) _) | (refine Below.grow ?_ (by first | (simp; done) | (simp; omega)) _ _) | refine Below.drew ?_ | refine Below.drewN ?_ _ | (refine Below.putF ?_ (by first | (simp; done) | omega | (simp; omega)) _) | (refine Below.setCell ?_ (by first | (simp; done) | (simp; omega)) _))), fun h => by cases h⟩
            case o6 =>
              intro x w1 hH K hK
              have e24 : x 24 = _ := hH.holds 4 (by decide) (by decide +kernel) 24 rfl
              have e25 : x 25 = _ := hH.holds 5 (by decide) (by decide +kernel) 25 rfl
              obtain ⟨xs, d, rfl⟩ := grow_of_below hH.below
              clear hH
              try simp only [World.grow_drew] at hK ⊢
              try simp only [World.grow_grow] at hK ⊢
              simp only [e24, e25] at hK ⊢
              clear e24 e25
              go_simp
              go_wp2_with fail
              exact ⟨_, rfl, rfl, (by repeat (first | exact below_of_grow _ _ | exact Below.refl _ _ | exact below_more _ _ _ _ | (simp only [← Array.append_assoc]; first | exact below_more _ _ _ _ | exact below_same _ _ _ | exact Below.refl _ _) | exact below_same _ _ _ | (refine Below.alloc ?_ (by first | (simp; done) | (simp; omega)) _) | (refine Below.grow ?_ (by first | (simp; done) | (simp; omega)) _ _) | refine Below.drew ?_ | refine Below.drewN ?_ _ | (refine Below.putF ?_ (by first | (simp; done) | omega | (simp; omega)) _) | (refine Below.setCell ?_ (by first | (simp; done) | (simp; omega)) _))), fun h => by cases h⟩
            case o7 =>
              intro x w1 hH K hK
              have e26 : x 26 = _ := hH.holds 6 (by decide) (by decide +kernel) 26 rfl
              obtain ⟨xs, d, rfl⟩ := grow_of_below hH.below
              clear hH
              try simp only [World.grow_drew] at hK ⊢
              try simp only [World.grow_grow] at hK ⊢
              simp only [e26] at hK ⊢
              clear e26
              go_simp
              go_wp2_with fail
              exact ⟨_, rfl, rfl, (by repeat (first | exact below_of_grow _ _ | exact Below.refl _ _ | exact below_more _ _ _ _ | (simp only [← Array.append_assoc]; first | exact below_more _ _ _ _ | exact below_same _ _ _ | exact Below.refl _ _) | exact below_same _ _ _ | (refine Below.alloc ?_ (by first | (simp; done) | (simp; omega)) _) | (refine Below.grow ?_ (by first | (simp; done) | (simp; omega)) _ _) | refine Below.drew ?_ | refine Below.drewN ?_ _ | (refine Below.putF ?_ (by first | (simp; done) | omega | (simp; omega)) _) | (refine Below.setCell ?_ (by first | (simp; done) | (simp; omega)) _))), fun h => by cases h⟩
            case o8 =>
              intro x w1 hH K hK
              have e23 : x 23 = _ := hH.holds 3 (by decide) (by decide +kernel) 23 rfl
              have e27 : x 27 = _ := hH.holds 7 (by decide) (by decide +kernel) 27 rfl
              obtain ⟨xs, d, rfl⟩ := grow_of_below hH.below
              clear hH
              try simp only [World.grow_drew] at hK ⊢
              try simp only [World.grow_grow] at hK ⊢
              simp only [e23, e27] at hK ⊢
              clear e23 e27
              go_simp
              go_wp2_with fail
              exact ⟨_, rfl, rfl, (by repeat (first | exact below_of_grow _ _ | exact Below.refl _ _ | exact below_more _ _ _ _ | (simp only [← Array.append_assoc]; first | exact below_more _ _ _ _ | exact below_same _ _ _ | exact Below.refl _ _) | exact below_same _ _ _ | (refine Below.alloc ?_ (by first | (simp; done) | (simp; omega)) _) | (refine Below.grow ?_ (by first | (simp; done) | (simp; omega)) _ _) | refine Below.drew ?_ | refine Below.drewN ?_ _ | (refine Below.putF ?_ (by first | (simp; done) | omega | (simp; omega)) _) | (refine Below.setCell ?_ (by first | (simp; done) | (simp; omega)) _))), fun h => by cases h⟩
          case hend =>
            intro x w1 hH
            have e20 : x 20 = _ := hH.holds 0 (by decide) trivial 20 rfl
            have e21 : x 21 = _ := hH.holds 1 (by decide) trivial 21 rfl
            have e22 : x 22 = _ := hH.holds 2 (by decide) trivial 22 rfl
            have e23 : x 23 = _ := hH.holds 3 (by decide) trivial 23 rfl
            have e24 : x 24 = _ := hH.holds 4 (by decide) trivial 24 rfl
            have e25 : x 25 = _ := hH.holds 5 (by decide) trivial 25 rfl
            have e26 : x 26 = _ := hH.holds 6 (by decide) trivial 26 rfl
            have e27 : x 27 = _ := hH.holds 7 (by decide) trivial 27 rfl
            have e28 : x 28 = _ := hH.holds 8 (by decide) trivial 28 rfl
            obtain ⟨xs, d, rfl⟩ := grow_of_below hH.below
            clear hH
            simp only [e20, e21, e22, e23, e24, e25, e26, e27, e28]; clear e20 e21 e22 e23 e24 e25 e26 e27 e28
            simp only [List.drop_succ_cons, List.drop_nil]
            go_wp2_with fail
            go_roundw
            case rel =>
              refine ⟨i + 1, _, _, by omega, by go_num, Lib.hid (fun j x' y' hj h1 h2 => ?_), rfl⟩
              rcases Nat.lt_or_ge j i with h | h
              · exact HF.out j x' y' h h1 h2
              · obtain rfl : j = i := by omega
                rw [HL1.out] at h1
                rw [HM1.out] at h2
                cases h1; cases h2
                exact HXY.out
            case measure => simp [intOf]; omega
        · have hd : decide (x = y) = false := by simpa using hxy
          have hbf : b = false := by
            cases b with
            | false => rfl
            | true =>
              have := HB.out.1 rfl
              have h1 := HL1.out
              rw [this, HM1.out] at h1
              exact (hxy (Option.some.inj h1).symm).elim
          subst hbf
          clear hxy
          go_wp2_with fail
          apply wp_region_specs (by rfl) [.val _, .val _, .val _, .val _, .val _, .val _, .val _, .val _, .val _] 9 (by rfl) [20, 21, 22, 23, 24, 25, 26, 27, 28] [] [] (by rfl) (by rfl) (by decide) (by decide +kernel) (fun _ _ _ _ _ h => h)
          case hF => intro x; simp only [over, List.foldl_cons, List.foldl_nil, List.setIfInBounds_toArray, List.set_cons_succ, List.set_cons_zero]; exact rfl
          case hops =>
            refine ⟨?o0, ?o1, ?o2, ?o3, ?o4, ?o5, ?o6, ?o7, ?o8, trivial⟩
            case o0 =>
              intro x w1 hH K hK
              obtain ⟨xs, d, rfl⟩ := grow_of_below hH.below
              clear hH
              try simp only [World.grow_drew] at hK ⊢
              try simp only [World.grow_grow] at hK ⊢
              go_simp
              go_wp2_with fail
              exact ⟨_, rfl, rfl, (by repeat (first | exact below_of_grow _ _ | exact Below.refl _ _ | exact below_more _ _ _ _ | (simp only [← Array.append_assoc]; first | exact below_more _ _ _ _ | exact below_same _ _ _ | exact Below.refl _ _) | exact below_same _ _ _ | (refine Below.alloc ?_ (by first | (simp; done) | (simp; omega)) _) | (refine Below.grow ?_ (by first | (simp; done) | (simp; omega)) _ _) | refine Below.drew ?_ | refine Below.drewN ?_ _ | (refine Below.putF ?_ (by first | (simp; done) | omega | (simp; omega)) _) | (refine Below.setCell ?_ (by first | (simp; done) | (simp; omega)) _))), fun h => by cases h⟩
            case o1 =>
              intro x w1 hH K hK
              obtain ⟨xs, d, rfl⟩ := grow_of_below hH.below
              clear hH
              try simp only [World.grow_drew] at hK ⊢
              try simp only [World.grow_grow] at hK ⊢
              go_simp
              go_wp2_with fail
              exact ⟨_, rfl, rfl, (by repeat (first | exact below_of_grow _ _ | exact Below.refl _ _ | exact below_more _ _ _ _ | (simp only [← Array.append_assoc]; first | exact below_more _ _ _ _ | exact below_same _ _ _ | exact Below.refl _ _) | exact below_same _ _ _ | (refine Below.alloc ?_ (by first | (simp; done) | (simp; omega)) _) | (refine Below.grow ?_ (by first | (simp; done) | (simp; omega)) _ _) | refine Below.drew ?_ | refine Below.drewN ?_ _ | (refine Below.putF ?_ (by first | (simp; done) | omega | (simp; omega)) _) | (refine Below.setCell ?_ (by first | (simp; done) | (simp; omega)) _))), fun h => by cases h⟩
            case o2 =>
              intro x w1 hH K hK
              have e20 : x 20 = _ := hH.holds 0 (by decide) (by decide +kernel) 20 rfl
              have e21 : x 21 = _ := hH.holds 1 (by decide) (by decide +kernel) 21 rfl
              obtain ⟨xs, d, rfl⟩ := grow_of_below hH.below
              clear hH
              try simp only [World.grow_drew] at hK ⊢
              try simp only [World.grow_grow] at hK ⊢
              simp only [e20, e21] at hK ⊢
              clear e20 e21
              go_simp
              go_wp2_with fail
              exact ⟨_, rfl, rfl, (by repeat (first | exact below_of_grow _ _ | exact Below.refl _ _ | exact below_more _ _ _ _ | (simp only [← Array.append_assoc]; first | exact below_more _ _ _ _ | exact below_same _ _ _ | exact Below.refl _ _) | exact below_same _ _ _ | (refine Below.alloc ?_ (by first | (simp; done) | (simp; omega)) _) | (refine Below.grow ?_ (by first | (simp; done) | (simp; omega)) _ _) | refine Below.drew ?_ | refine Below.drewN ?_ _ | (refine Below.putF ?_ (by first | (simp; done) | omega | (simp; omega)) _) | (refine Below.setCell ?_ (by first | (simp; done) | (simp; omega)) _))), fun h => by cases h⟩
            case o3 =>
              intro x w1 hH K hK
              have e22 : x 22 = _ := hH.holds 2 (by decide) (by decide +kernel) 22 rfl
              obtain ⟨xs, d, rfl⟩ := grow_of_below hH.below
              clear hH
              try simp only [World.grow_drew] at hK ⊢
              try simp only [World.grow_grow] at hK ⊢
              simp only [e22] at hK ⊢
              clear e22
              go_simp
              go_wp2_with fail
              exact ⟨_, rfl, rfl, (by repeat (first | exact below_of_grow _ _ | exact Below.refl _ _ | exact below_more _ _ _ _ | (simp only [← Array.append_assoc]; first | exact below_more _ _ _ _ | exact below_same _ _ _ | exact Below.refl _ _) | exact below_same _ _ _ | (refine Below.alloc ?_ (by first | (simp; done) | (simp; omega)) _) | (refine Below.grow ?_ (by first | (simp; done) | (simp; omega)) _ _) | refine Below.drew ?_ | refine Below.drewN ?_ _ | (refine Below.putF ?_ (by first | (simp; done) | omega | (simp; omega)) _) | (refine Below.setCell ?_ (by first | (simp; done) | (simp; omega)) _))), fun h => by cases h⟩
            case o4 =>
              intro x w1 hH K hK
              obtain ⟨xs, d, rfl⟩ := grow_of_below hH.below
              clear hH
              try simp only [World.grow_drew] at hK ⊢
              try simp only [World.grow_grow] at hK ⊢
              go_simp
              go_wp2_with fail
              exact ⟨_, rfl, rfl, (by repeat (first | exact below_of_grow _ _ | exact Below.refl _ _ | exact below_more _ _ _ _ | (simp only [← Array.append_assoc]; first | exact below_more _ _ _ _ | exact below_same _ _ _ | exact Below.refl _ _) | exact below_same _ _ _ | (refine Below.alloc ?_ (by first | (simp; done) | (simp; omega)) _) | (refine Below.grow ?_ (by first | (simp; done) | (simp; omega)) _ _) | refine Below.drew ?_ | refine Below.drewN ?_ _ | (refine Below.putF ?_ (by first | (simp; done) | omega | (simp; omega)) _) | (refine Below.setCell ?_ (by first | (simp; done) | (simp; omega)) _))), fun h => by cases h⟩
            case o5 =>
              intro x w1 hH K hK
              obtain ⟨xs, d, rfl⟩ := grow_of_below hH.below
              clear hH
              try simp only [World.grow_drew] at hK ⊢
              try simp only [World.grow_grow] at hK ⊢
              go_simp
              go_wp2_with fail
              exact ⟨_, rfl, rfl, (by repeat (first | exact below_of_grow _ _ | exact Below.refl _ _ | exact below_more _ _ _ _ | (simp only [← Array.append_assoc]; first | exact below_more _ _ _ _ | exact below_same _ _ _ | exact Below.refl _ _) | exact below_same _ _ _ | (refine Below.alloc ?_ (by first | (simp; done) | (simp; omega)) _) | (refine Below.grow ?_ (by first | (simp; done) | (simp; omega)) _ _) | refine Below.drew ?_ | refine Below.drewN ?_ _ | (refine Below.putF ?_ (by first | (simp; done) | omega | (simp; omega)) _) | (refine Below.setCell ?_ (by first | (simp; done) | (simp; omega)) _))), fun h => by cases h⟩
            case o6 =>
              intro x w1 hH K hK
              have e24 : x 24 = _ := hH.holds 4 (by decide) (by decide +kernel) 24 rfl
              have e25 : x 25 = _ := hH.holds 5 (by decide) (by decide +kernel) 25 rfl
              obtain ⟨xs, d, rfl⟩ := grow_of_below hH.below
              clear hH
              try simp only [World.grow_drew] at hK ⊢
              try simp only [World.grow_grow] at hK ⊢
              simp only [e24, e25] at hK ⊢
              clear e24 e25
              go_simp
              go_wp2_with fail
              exact ⟨_, rfl, rfl, (by repeat (first | exact below_of_grow _ _ | exact Below.refl _ _ | exact below_more _ _ _ _ | (simp only [← Array.append_assoc]; first | exact below_more _ _ _ _ | exact below_same _ _ _ | exact Below.refl _ _) | exact below_same _ _ _ | (refine Below.alloc ?_ (by first | (simp; done) | (simp; omega)) _) | (refine Below.grow ?_ (by first | (simp; done) | (simp; omega)) _ _) | refine Below.drew ?_ | refine Below.drewN ?_ _ | (refine Below.putF ?_ (by first | (simp; done) | omega | (simp; omega)) _) | (refine Below.setCell ?_ (by first | (simp; done) | (simp; omega)) _))), fun h => by cases h⟩
            case o7 =>
              intro x w1 hH K hK
              have e26 : x 26 = _ := hH.holds 6 (by decide) (by decide +kernel) 26 rfl
              obtain ⟨xs, d, rfl⟩ := grow_of_below hH.below
              clear hH
              try simp only [World.grow_drew] at hK ⊢
              try simp only [World.grow_grow] at hK ⊢
              simp only [e26] at hK ⊢
              clear e26
              go_simp
              go_wp2_with fail
              exact ⟨_, rfl, rfl, (by repeat (first | exact below_of_grow _ _ | exact Below.refl _ _ | exact below_more _ _ _ _ | (simp only [← Array.append_assoc]; first | exact below_more _ _ _ _ | exact below_same _ _ _ | exact Below.refl _ _) | exact below_same _ _ _ | (refine Below.alloc ?_ (by first | (simp; done) | (simp; omega)) _) | (refine Below.grow ?_ (by first | (simp; done) | (simp; omega)) _ _) | refine Below.drew ?_ | refine Below.drewN ?_ _ | (refine Below.putF ?_ (by first | (simp; done) | omega | (simp; omega)) _) | (refine Below.setCell ?_ (by first | (simp; done) | (simp; omega)) _))), fun h => by cases h⟩
            case o8 =>
              intro x w1 hH K hK
              have e23 : x 23 = _ := hH.holds 3 (by decide) (by decide +kernel) 23 rfl
              have e27 : x 27 = _ := hH.holds 7 (by decide) (by decide +kernel) 27 rfl
              obtain ⟨xs, d, rfl⟩ := grow_of_below hH.below
              clear hH
              try simp only [World.grow_drew] at hK ⊢
              try simp only [World.grow_grow] at hK ⊢
              simp only [e23, e27] at hK ⊢
              clear e23 e27
              go_simp
              go_wp2_with fail
              exact ⟨_, rfl, rfl, (by repeat (first | exact below_of_grow _ _ | exact Below.refl _ _ | exact below_more _ _ _ _ | (simp only [← Array.append_assoc]; first | exact below_more _ _ _ _ | exact below_same _ _ _ | exact Below.refl _ _) | exact below_same _ _ _ | (refine Below.alloc ?_ (by first | (simp; done) | (simp; omega)) _) | (refine Below.grow ?_ (by first | (simp; done) | (simp; omega)) _ _) | refine Below.drew ?_ | refine Below.drewN ?_ _ | (refine Below.putF ?_ (by first | (simp; done) | omega | (simp; omega)) _) | (refine Below.setCell ?_ (by first | (simp; done) | (simp; omega)) _))), fun h => by cases h⟩
          case hend =>
            intro x w1 hH
            have e20 : x 20 = _ := hH.holds 0 (by decide) trivial 20 rfl
            have e21 : x 21 = _ := hH.holds 1 (by decide) trivial 21 rfl
            have e22 : x 22 = _ := hH.holds 2 (by decide) trivial 22 rfl
            have e23 : x 23 = _ := hH.holds 3 (by decide) trivial 23 rfl
            have e24 : x 24 = _ := hH.holds 4 (by decide) trivial 24 rfl
            have e25 : x 25 = _ := hH.holds 5 (by decide) trivial 25 rfl
            have e26 : x 26 = _ := hH.holds 6 (by decide) trivial 26 rfl
            have e27 : x 27 = _ := hH.holds 7 (by decide) trivial 27 rfl
            have e28 : x 28 = _ := hH.holds 8 (by decide) trivial 28 rfl
            obtain ⟨xs, d, rfl⟩ := grow_of_below hH.below
            clear hH
            simp only [e20, e21, e22, e23, e24, e25, e26, e27, e28]; clear e20 e21 e22 e23 e24 e25 e26 e27 e28
            simp only [List.drop_succ_cons, List.drop_nil]
            go_wp2_with fail
            go_ret
            exact ⟨rfl, (HB2.out.grow HB2.out.size _ _).drew.grow (by have := HB2.out.size; show w.heap.size ≤ (w2.grow _ _).heap.size; rw [World.grow_size]; omega) _ _⟩
      · have hie : i = l.length := by omega
        subst hie
        have hgn : ¬ (l.length : Int) < l.length := by omega
        have hbt : b = true := HB.out.2 (same_at HLM.out HF.out)
        subst hbt
        go_wp2_with fail
        go_ret
        exact ⟨rfl, HB2.out.trans ((below_of_grow _ _).mono HB2.out.size)⟩
  · have hneq : ((l.length : Int) != (m.length : Int)) = true := by simp; omega
    have hbf : b = false := by
      cases b with
      | false => rfl
      | true => exact (hlm (by rw [HB.out.1 rfl])).elim
    subst hbf
    clear hlm
    go_enter Try.func11, Try.ntmps11
    go_wp2_with fail
    go_ret
    exact ⟨rfl, (by repeat (first | exact below_of_grow _ _ | exact Below.refl _ _ | exact below_more _ _ _ _ | (simp only [← Array.append_assoc]; first | exact below_more _ _ _ _ | exact below_same _ _ _ | exact Below.refl _ _) | exact below_same _ _ _ | (refine Below.alloc ?_ (by first | (simp; done) | (simp; omega)) _) | (refine Below.grow ?_ (by first | (simp; done) | (simp; omega)) _ _) | refine Below.drew ?_ | refine Below.drewN ?_ _ | (refine Below.putF ?_ (by first | (simp; done) | omega | (simp; omega)) _) | (refine Below.setCell ?_ (by first | (simp; done) | (simp; omega)) _)))⟩
end Go.Proofs.Ytbflpnkodpeggaa

/- The document's insert: an entry into a list, in order. -/
import Derived.Test.YtbflpnkodpeggaaCellR
import Derived.Test.YtbflpnkodpeggaaOwnSet
import Derived.Test.YtbflpnkodpeggaaRefPlain
import Derived.BigRegion
import Derived.Deep.RegionLaw
import Derived.Deep.CutBlock
namespace Go.Proofs.Ytbflpnkodpeggaa
set_option maxRecDepth 100000
open Go.RowKit

theorem all_entD (l : List Ent) : ∀ x ∈ l.map entD, allOne x = true := by
  intro x hx
  obtain ⟨y, _, rfl⟩ := List.mem_map.1 hx
  exact one_entD y
set_option maxHeartbeats 20000000 in
theorem insR_calls (l : List Ent) (e : Ent) (o : Bool) (v : Value) (w : World) (hl : l.length ≤ 500) (hv : SlA w w.heap.size 34 v (l.map entD)) :
    Calls Try.prog 25 #[v, .agg (entD e), .bool o] w fun r w' => ∃ v', r = .returned v' ∧ Below w.heap.size w w' ∧ SlA w' w'.heap.size 34 v' ((insertR l e o).map entD) := by
  obtain ⟨a0, cap0, rfl, hcl, hcm⟩ := hv.form
  rw [List.length_map] at *
  have HV := Lib.hid hv
  unfold maxLen at hcm
  clear hv
  go_enter Try.func25, Try.ntmps25
  go_upto_block 0 with fail
  obtain ⟨W, hW⟩ : ∃ W, W = w.alloc (.cells (entD e) 81) := ⟨_, rfl⟩
  have hWs : w.heap.size < W.heap.size := by rw [hW]; simp
  have hWz : W.heap.size = w.heap.size + 1 := by rw [hW]; simp
  have hWe : W.cut? w.heap.size 0 34 = some (entD e) := by rw [hW]; simp [go_sem]
  have hWk : W.cut? w.heap.size 0 25 = some (rkey e.k.val) := by
    have := cut_sub (i := 0) (m := 25) hWe (by decide)
    rw [Nat.add_zero, entD_key] at this
    exact this
  have hwW : Below w.heap.size w W := by rw [hW]; exact (Below.refl _ _).alloc (Nat.le_refl _) _
  have HSW := Lib.hid (HV.out.below hwW)
  have HWW := Lib.hid hwW
  have HWZ := Lib.hid hWz
  rw [← hW]
  clear hW hwW hWz HV
  go_cut [7] (fun s7 wx => s7 = .int .i64 (placeOf l e.k) ∧ ∃ xs d, wx = W.grow xs d)
  case first =>
    go_wp2_with fail
    go_loopw [7] (fun s7 wx => ∃ (j : Nat) (xs : Array Obj) (d : Nat), s7 = .int .i64 j ∧ j ≤ l.length ∧ Hid (∀ i x, i < j → l[i]? = some x → lessL x.k.val e.k.val = true) ∧ wx = W.grow xs d) (fun s7 _ => l.length - (intOf s7).toNat)
    case atStart => exact ⟨0, #[], _, rfl, Nat.zero_le _, Lib.hid (fun i x hi _ => by omega), World.grow_nil.symm⟩
    case round =>
      obtain ⟨j, xs, d, rfl, hj, hall, rfl⟩ := hrel
      by_cases hjl : j < l.length
      · obtain ⟨_, a, cap, he, _, _, hc⟩ := HSW.out
        simp only [Value.slice.injEq, List.length_map, true_and] at he
        obtain ⟨rfl, rfl⟩ := he
        obtain ⟨b3, o3, rfl, hlb3, hcut⟩ := hc (by simp; omega)
        have hcutj := hcut j (entD l[j]) (by simp [hjl])
        have hcutk := cut_sub (i := 0) (m := 25) hcutj (by decide)
        rw [Nat.add_zero, entD_key] at hcutk
        have hless := refLess_gives l[j].k.val e.k.val l[j].k.len e.k.len
        generalize hbb : lessL l[j].k.val e.k.val = bb at *
        have HBB := Lib.hid hbb
        have HL := Lib.hid hless
        have hg : decide ((j : Int) < l.length) = true := by simp; omega
        have hlbW : b3 < W.heap.size := by omega
        clear hcut hc hcutj hless hbb
        go_wp2_with fail
        apply wp_region_specs (by rfl) [.val _, .val _, .val _, .val _, .val _, .val _, .val _, .val _, .val _, .val _, .val _, .val _, .val _, .val _] 14 (by rfl) [10, 11, 12, 13, 14, 15, 16, 17, 18, 19, 20, 21, 22, 23] [] [] (by rfl) (by rfl) (by decide) (by decide +kernel) (fun _ _ _ _ _ h => h)
        case hF => intro x; simp only [over, List.foldl_cons, List.foldl_nil, List.setIfInBounds_toArray, List.set_cons_succ, List.set_cons_zero]; exact rfl
        case hops =>
          refine ⟨?o0, ?o1, ?o2, ?o3, ?o4, ?o5, ?o6, ?o7, ?o8, ?o9, ?o10, ?o11, ?o12, ?o13, trivial⟩
          case o0 =>
            intro x w1 hH K hK
            obtain ⟨xs, d, rfl⟩ := grow_of_below hH.below
            clear hH
            try simp only [World.grow_drew] at hK ⊢
            try simp only [World.grow_grow] at hK ⊢
            go_simp
            go_wp2_with fail
            exact ⟨_, rfl, rfl, (by repeat (first | exact below_of_grow _ _ | exact Below.refl _ _ | exact below_more _ _ _ _ | (simp only [← Array.append_assoc]; first | exact below_more _ _ _ _ | exact below_same _ _ _ | exact Below.refl _ _) | exact below_same _ _ _ | (refine Below.alloc ?_ (by first | (simp; done) | (simp; omega)) _) | (refine Below.grow ?_ (by first | (simp; done) | (simp; omega)) _ _) | refine Below.drew ?_ | refine Below.drewN ?_ _ | (refine Below.putF ?_ (by first | (simp; done) | omega | (simp; omega)) _) | (refine Below.setCell ?_ (by first | (simp; done) | (simp; omega)) _))), fun h => by cases h⟩
          case o1 =>
            intro x w1 hH K hK
            obtain ⟨xs, d, rfl⟩ := grow_of_below hH.below
            clear hH
            try simp only [World.grow_drew] at hK ⊢
            try simp only [World.grow_grow] at hK ⊢
            go_simp
            go_wp2_with fail
            exact ⟨_, rfl, rfl, (by repeat (first | exact below_of_grow _ _ | exact Below.refl _ _ | exact below_more _ _ _ _ | (simp only [← Array.append_assoc]; first | exact below_more _ _ _ _ | exact below_same _ _ _ | exact Below.refl _ _) | exact below_same _ _ _ | (refine Below.alloc ?_ (by first | (simp; done) | (simp; omega)) _) | (refine Below.grow ?_ (by first | (simp; done) | (simp; omega)) _ _) | refine Below.drew ?_ | refine Below.drewN ?_ _ | (refine Below.putF ?_ (by first | (simp; done) | omega | (simp; omega)) _) | (refine Below.setCell ?_ (by first | (simp; done) | (simp; omega)) _))), fun h => by cases h⟩
          case o2 =>
            intro x w1 hH K hK
            have e11 : x 11 = _ := hH.holds 1 (by decide) (by decide +kernel) 11 rfl
            obtain ⟨xs, d, rfl⟩ := grow_of_below hH.below
            clear hH
            try simp only [World.grow_drew] at hK ⊢
            try simp only [World.grow_grow] at hK ⊢
            simp only [e11] at hK ⊢
            clear e11
            go_simp
            go_wp2_with fail
            exact ⟨_, rfl, rfl, (by repeat (first | exact below_of_grow _ _ | exact Below.refl _ _ | exact below_more _ _ _ _ | (simp only [← Array.append_assoc]; first | exact below_more _ _ _ _ | exact below_same _ _ _ | exact Below.refl _ _) | exact below_same _ _ _ | (refine Below.alloc ?_ (by first | (simp; done) | (simp; omega)) _) | (refine Below.grow ?_ (by first | (simp; done) | (simp; omega)) _ _) | refine Below.drew ?_ | refine Below.drewN ?_ _ | (refine Below.putF ?_ (by first | (simp; done) | omega | (simp; omega)) _) | (refine Below.setCell ?_ (by first | (simp; done) | (simp; omega)) _))), fun h => by cases h⟩
          case o3 =>
            intro x w1 hH K hK
            have e10 : x 10 = _ := hH.holds 0 (by decide) (by decide +kernel) 10 rfl
            have e12 : x 12 = _ := hH.holds 2 (by decide) (by decide +kernel) 12 rfl
            obtain ⟨xs, d, rfl⟩ := grow_of_below hH.below
            clear hH
            try simp only [World.grow_drew] at hK ⊢
            try simp only [World.grow_grow] at hK ⊢
            simp only [e10, e12] at hK ⊢
            clear e10 e12
            go_simp
            go_wp2_with fail
            exact ⟨_, rfl, rfl, (by repeat (first | exact below_of_grow _ _ | exact Below.refl _ _ | exact below_more _ _ _ _ | (simp only [← Array.append_assoc]; first | exact below_more _ _ _ _ | exact below_same _ _ _ | exact Below.refl _ _) | exact below_same _ _ _ | (refine Below.alloc ?_ (by first | (simp; done) | (simp; omega)) _) | (refine Below.grow ?_ (by first | (simp; done) | (simp; omega)) _ _) | refine Below.drew ?_ | refine Below.drewN ?_ _ | (refine Below.putF ?_ (by first | (simp; done) | omega | (simp; omega)) _) | (refine Below.setCell ?_ (by first | (simp; done) | (simp; omega)) _))), fun h => by cases h⟩
          case o4 =>
            intro x w1 hH K hK
            have e13 : x 13 = _ := hH.holds 3 (by decide) (by decide +kernel) 13 rfl
            obtain ⟨xs, d, rfl⟩ := grow_of_below hH.below
            clear hH
            try simp only [World.grow_drew] at hK ⊢
            try simp only [World.grow_grow] at hK ⊢
            simp only [e13] at hK ⊢
            clear e13
            go_simp
            go_wp2_with fail
            exact ⟨_, rfl, rfl, (by repeat (first | exact below_of_grow _ _ | exact Below.refl _ _ | exact below_more _ _ _ _ | (simp only [← Array.append_assoc]; first | exact below_more _ _ _ _ | exact below_same _ _ _ | exact Below.refl _ _) | exact below_same _ _ _ | (refine Below.alloc ?_ (by first | (simp; done) | (simp; omega)) _) | (refine Below.grow ?_ (by first | (simp; done) | (simp; omega)) _ _) | refine Below.drew ?_ | refine Below.drewN ?_ _ | (refine Below.putF ?_ (by first | (simp; done) | omega | (simp; omega)) _) | (refine Below.setCell ?_ (by first | (simp; done) | (simp; omega)) _))), fun h => by cases h⟩
          case o5 =>
            intro x w1 hH K hK
            have e14 : x 14 = _ := hH.holds 4 (by decide) (by decide +kernel) 14 rfl
            obtain ⟨xs, d, rfl⟩ := grow_of_below hH.below
            clear hH
            try simp only [World.grow_drew] at hK ⊢
            try simp only [World.grow_grow] at hK ⊢
            simp only [e14] at hK ⊢
            clear e14
            go_simp
            go_wp2_with fail
            exact ⟨_, rfl, rfl, (by repeat (first | exact below_of_grow _ _ | exact Below.refl _ _ | exact below_more _ _ _ _ | (simp only [← Array.append_assoc]; first | exact below_more _ _ _ _ | exact below_same _ _ _ | exact Below.refl _ _) | exact below_same _ _ _ | (refine Below.alloc ?_ (by first | (simp; done) | (simp; omega)) _) | (refine Below.grow ?_ (by first | (simp; done) | (simp; omega)) _ _) | refine Below.drew ?_ | refine Below.drewN ?_ _ | (refine Below.putF ?_ (by first | (simp; done) | omega | (simp; omega)) _) | (refine Below.setCell ?_ (by first | (simp; done) | (simp; omega)) _))), fun h => by cases h⟩
          case o6 =>
            intro x w1 hH K hK
            have e14 : x 14 = _ := hH.holds 4 (by decide) (by decide +kernel) 14 rfl
            obtain ⟨xs, d, rfl⟩ := grow_of_below hH.below
            clear hH
            try simp only [World.grow_drew] at hK ⊢
            try simp only [World.grow_grow] at hK ⊢
            simp only [e14] at hK ⊢
            clear e14
            go_simp
            go_wp2_with fail
            exact ⟨_, rfl, rfl, (by repeat (first | exact below_of_grow _ _ | exact Below.refl _ _ | exact below_more _ _ _ _ | (simp only [← Array.append_assoc]; first | exact below_more _ _ _ _ | exact below_same _ _ _ | exact Below.refl _ _) | exact below_same _ _ _ | (refine Below.alloc ?_ (by first | (simp; done) | (simp; omega)) _) | (refine Below.grow ?_ (by first | (simp; done) | (simp; omega)) _ _) | refine Below.drew ?_ | refine Below.drewN ?_ _ | (refine Below.putF ?_ (by first | (simp; done) | omega | (simp; omega)) _) | (refine Below.setCell ?_ (by first | (simp; done) | (simp; omega)) _))), fun h => by cases h⟩
          case o7 =>
            intro x w1 hH K hK
            have e14 : x 14 = _ := hH.holds 4 (by decide) (by decide +kernel) 14 rfl
            have e15 : x 15 = _ := hH.holds 5 (by decide) (by decide +kernel) 15 rfl
            have e16 : x 16 = _ := hH.holds 6 (by decide) (by decide +kernel) 16 rfl
            obtain ⟨xs, d, rfl⟩ := grow_of_below hH.below
            clear hH
            try simp only [World.grow_drew] at hK ⊢
            try simp only [World.grow_grow] at hK ⊢
            simp only [e14, e15, e16] at hK ⊢
            clear e14 e15 e16
            go_simp
            go_wp2_with fail
            exact ⟨_, rfl, rfl, (by repeat (first | exact below_of_grow _ _ | exact Below.refl _ _ | exact below_more _ _ _ _ | (simp only [← Array.append_assoc]; first | exact below_more _ _ _ _ | exact below_same _ _ _ | exact Below.refl _ _) | exact below_same _ _ _ | (refine Below.alloc ?_ (by first | (simp; done) | (simp; omega)) _) | (refine Below.grow ?_ (by first | (simp; done) | (simp; omega)) _ _) | refine Below.drew ?_ | refine Below.drewN ?_ _ | (refine Below.putF ?_ (by first | (simp; done) | omega | (simp; omega)) _) | (refine Below.setCell ?_ (by first | (simp; done) | (simp; omega)) _))), fun h => by cases h⟩
          case o8 =>
            intro x w1 hH K hK
            have e14 : x 14 = _ := hH.holds 4 (by decide) (by decide +kernel) 14 rfl
            have e17 : x 17 = _ := hH.holds 7 (by decide) (by decide +kernel) 17 rfl
            obtain ⟨xs, d, rfl⟩ := grow_of_below hH.below
            clear hH
            try simp only [World.grow_drew] at hK ⊢
            try simp only [World.grow_grow] at hK ⊢
            simp only [e14, e17] at hK ⊢
            clear e14 e17
            go_simp
            go_wp2_with fail
            exact ⟨_, rfl, rfl, (by repeat (first | exact below_of_grow _ _ | exact Below.refl _ _ | exact below_more _ _ _ _ | (simp only [← Array.append_assoc]; first | exact below_more _ _ _ _ | exact below_same _ _ _ | exact Below.refl _ _) | exact below_same _ _ _ | (refine Below.alloc ?_ (by first | (simp; done) | (simp; omega)) _) | (refine Below.grow ?_ (by first | (simp; done) | (simp; omega)) _ _) | refine Below.drew ?_ | refine Below.drewN ?_ _ | (refine Below.putF ?_ (by first | (simp; done) | omega | (simp; omega)) _) | (refine Below.setCell ?_ (by first | (simp; done) | (simp; omega)) _))), fun h => by cases h⟩
          case o9 =>
            intro x w1 hH K hK
            have e14 : x 14 = _ := hH.holds 4 (by decide) (by decide +kernel) 14 rfl
            have e18 : x 18 = _ := hH.holds 8 (by decide) (by decide +kernel) 18 rfl
            obtain ⟨xs, d, rfl⟩ := grow_of_below hH.below
            clear hH
            try simp only [World.grow_drew] at hK ⊢
            try simp only [World.grow_grow] at hK ⊢
            simp only [e14, e18] at hK ⊢
            clear e14 e18
            go_simp
            go_wp2_with fail
            exact ⟨_, rfl, rfl, (by repeat (first | exact below_of_grow _ _ | exact Below.refl _ _ | exact below_more _ _ _ _ | (simp only [← Array.append_assoc]; first | exact below_more _ _ _ _ | exact below_same _ _ _ | exact Below.refl _ _) | exact below_same _ _ _ | (refine Below.alloc ?_ (by first | (simp; done) | (simp; omega)) _) | (refine Below.grow ?_ (by first | (simp; done) | (simp; omega)) _ _) | refine Below.drew ?_ | refine Below.drewN ?_ _ | (refine Below.putF ?_ (by first | (simp; done) | omega | (simp; omega)) _) | (refine Below.setCell ?_ (by first | (simp; done) | (simp; omega)) _))), fun h => by cases h⟩
          case o10 =>
            intro x w1 hH K hK
            have e14 : x 14 = _ := hH.holds 4 (by decide) (by decide +kernel) 14 rfl
            obtain ⟨xs, d, rfl⟩ := grow_of_below hH.below
            clear hH
            try simp only [World.grow_drew] at hK ⊢
            try simp only [World.grow_grow] at hK ⊢
            simp only [e14] at hK ⊢
            clear e14
            go_simp
            go_wp2_with fail
            exact ⟨_, rfl, rfl, (by repeat (first | exact below_of_grow _ _ | exact Below.refl _ _ | exact below_more _ _ _ _ | (simp only [← Array.append_assoc]; first | exact below_more _ _ _ _ | exact below_same _ _ _ | exact Below.refl _ _) | exact below_same _ _ _ | (refine Below.alloc ?_ (by first | (simp; done) | (simp; omega)) _) | (refine Below.grow ?_ (by first | (simp; done) | (simp; omega)) _ _) | refine Below.drew ?_ | refine Below.drewN ?_ _ | (refine Below.putF ?_ (by first | (simp; done) | omega | (simp; omega)) _) | (refine Below.setCell ?_ (by first | (simp; done) | (simp; omega)) _))), fun h => by cases h⟩
          case o11 =>
            intro x w1 hH K hK
            have e14 : x 14 = _ := hH.holds 4 (by decide) (by decide +kernel) 14 rfl
            have e20 : x 20 = _ := hH.holds 10 (by decide) (by decide +kernel) 20 rfl
            obtain ⟨xs, d, rfl⟩ := grow_of_below hH.below
            clear hH
            try simp only [World.grow_drew] at hK ⊢
            try simp only [World.grow_grow] at hK ⊢
            simp only [e14, e20] at hK ⊢
            clear e14 e20
            go_simp
            go_wp2_with fail
            exact ⟨_, rfl, rfl, (by repeat (first | exact below_of_grow _ _ | exact Below.refl _ _ | exact below_more _ _ _ _ | (simp only [← Array.append_assoc]; first | exact below_more _ _ _ _ | exact below_same _ _ _ | exact Below.refl _ _) | exact below_same _ _ _ | (refine Below.alloc ?_ (by first | (simp; done) | (simp; omega)) _) | (refine Below.grow ?_ (by first | (simp; done) | (simp; omega)) _ _) | refine Below.drew ?_ | refine Below.drewN ?_ _ | (refine Below.putF ?_ (by first | (simp; done) | omega | (simp; omega)) _) | (refine Below.setCell ?_ (by first | (simp; done) | (simp; omega)) _))), fun h => by cases h⟩
          case o12 =>
            intro x w1 hH K hK
            have e14 : x 14 = _ := hH.holds 4 (by decide) (by decide +kernel) 14 rfl
            have e19 : x 19 = _ := hH.holds 9 (by decide) (by decide +kernel) 19 rfl
            have e21 : x 21 = _ := hH.holds 11 (by decide) (by decide +kernel) 21 rfl
            obtain ⟨xs, d, rfl⟩ := grow_of_below hH.below
            clear hH
            try simp only [World.grow_drew] at hK ⊢
            try simp only [World.grow_grow] at hK ⊢
            simp only [e14, e19, e21] at hK ⊢
            clear e14 e19 e21
            go_simp
            go_wp2_with (refine Gives.use (HL.out _) ?_; intro ys e)
            exact ⟨_, rfl, rfl, (by first | exact below_more _ _ _ _ | exact (by repeat (first | exact below_of_grow _ _ | exact Below.refl _ _ | exact below_more _ _ _ _ | (simp only [← Array.append_assoc]; first | exact below_more _ _ _ _ | exact below_same _ _ _ | exact Below.refl _ _) | exact below_same _ _ _ | (refine Below.alloc ?_ (by first | (simp; done) | (simp; omega)) _) | (refine Below.grow ?_ (by first | (simp; done) | (simp; omega)) _ _) | refine Below.drew ?_ | refine Below.drewN ?_ _ | (refine Below.putF ?_ (by first | (simp; done) | omega | (simp; omega)) _) | (refine Below.setCell ?_ (by first | (simp; done) | (simp; omega)) _)))), fun h => by cases h⟩
          case o13 =>
            intro x w1 hH K hK
            have e14 : x 14 = _ := hH.holds 4 (by decide) (by decide +kernel) 14 rfl
            have e22 : x 22 = _ := hH.holds 12 (by decide) (by decide +kernel) 22 rfl
            obtain ⟨xs, d, rfl⟩ := grow_of_below hH.below
            clear hH
            try simp only [World.grow_drew] at hK ⊢
            try simp only [World.grow_grow] at hK ⊢
            simp only [e14, e22] at hK ⊢
            clear e14 e22
            go_simp
            go_wp2_with fail
            exact ⟨_, rfl, rfl, (by repeat (first | exact below_of_grow _ _ | exact Below.refl _ _ | exact below_more _ _ _ _ | (simp only [← Array.append_assoc]; first | exact below_more _ _ _ _ | exact below_same _ _ _ | exact Below.refl _ _) | exact below_same _ _ _ | (refine Below.alloc ?_ (by first | (simp; done) | (simp; omega)) _) | (refine Below.grow ?_ (by first | (simp; done) | (simp; omega)) _ _) | refine Below.drew ?_ | refine Below.drewN ?_ _ | (refine Below.putF ?_ (by first | (simp; done) | omega | (simp; omega)) _) | (refine Below.setCell ?_ (by first | (simp; done) | (simp; omega)) _))), fun h => by cases h⟩
        case hend =>
          intro x w1 hH
          have e10 : x 10 = _ := hH.holds 0 (by decide) trivial 10 rfl
          have e11 : x 11 = _ := hH.holds 1 (by decide) trivial 11 rfl
          have e12 : x 12 = _ := hH.holds 2 (by decide) trivial 12 rfl
          have e13 : x 13 = _ := hH.holds 3 (by decide) trivial 13 rfl
          have e14 : x 14 = _ := hH.holds 4 (by decide) trivial 14 rfl
          have e15 : x 15 = _ := hH.holds 5 (by decide) trivial 15 rfl
          have e16 : x 16 = _ := hH.holds 6 (by decide) trivial 16 rfl
          have e17 : x 17 = _ := hH.holds 7 (by decide) trivial 17 rfl
          have e18 : x 18 = _ := hH.holds 8 (by decide) trivial 18 rfl
          have e19 : x 19 = _ := hH.holds 9 (by decide) trivial 19 rfl
          have e20 : x 20 = _ := hH.holds 10 (by decide) trivial 20 rfl
          have e21 : x 21 = _ := hH.holds 11 (by decide) trivial 21 rfl
          have e22 : x 22 = _ := hH.holds 12 (by decide) trivial 22 rfl
          have e23 : x 23 = _ := hH.holds 13 (by decide) trivial 23 rfl
          obtain ⟨xs, d, rfl⟩ := grow_of_below hH.below
          clear hH
          simp only [e10, e11, e12, e13, e14, e15, e16, e17, e18, e19, e20, e21, e22, e23]; clear e10 e11 e12 e13 e14 e15 e16 e17 e18 e19 e20 e21 e22 e23
          simp only [List.drop_succ_cons, List.drop_nil]
          cases bb with
          | true =>
            go_wp2_with fail
            go_roundw
            case rel =>
              refine ⟨j + 1, _, _, by go_num, by omega, Lib.hid (fun i x hi hx => ?_), rfl⟩
              rcases Nat.lt_or_ge i j with h | h
              · exact hall.out i x h hx
              · obtain rfl : i = j := by omega
                rw [List.getElem?_eq_getElem hjl] at hx
                cases hx; exact HBB.out
            case measure => simp [intOf]; omega
          | false =>
            go_wp2_with fail
            go_meet
            refine ⟨?_, ?_⟩
            · unfold placeOf
              rw [takeWhile_place _ l j hj (fun i x hi hx => hall.out i x hi hx) (fun x hx => by rw [List.getElem?_eq_getElem hjl] at hx; cases hx; exact HBB.out)]
            · exact ⟨_, _, by rw [World.grow_drew, World.grow_grow]⟩
      · have hje : j = l.length := by omega
        have hg : decide ((j : Int) < l.length) = false := by simp; omega
        go_wp2_with fail
        go_quiet (fail)
        go_wp2_with fail
        go_meet
        refine ⟨?_, ?_⟩
        · unfold placeOf
          rw [takeWhile_place _ l j hj (fun i x hi hx => hall.out i x hi hx) (fun x hx => by rw [List.getElem?_eq_none (by omega)] at hx; cases hx)]
        · exact ⟨_, _, rfl⟩
  case rest =>
  obtain ⟨rfl, xs1, d1, rfl⟩ := hcut
  have hple := placeOf_le l e.k
  have hdup : dup l e.k = decide ((l[placeOf l e.k]?).map (·.k) = some e.k) := rfl
  have hro : insertR l e o = if dup l e.k = true then (if o = true then l.set (placeOf l e.k) e else l) else l.take (placeOf l e.k) ++ [e] ++ l.drop (placeOf l e.k) := rfl
  generalize placeOf l e.k = p at *
  have HRO := Lib.hid hro
  have HDUP := Lib.hid hdup
  clear hro hdup
  go_upto_region 4 with fail
  go_cut [39] (fun s39 wx => s39 = .bool (dup l e.k) ∧ ∃ xs d, wx = W.grow xs d)
  case first =>
    by_cases hjl : p < l.length
    · obtain ⟨_, a, cap, he, _, _, hc⟩ := HSW.out
      simp only [Value.slice.injEq, List.length_map, true_and] at he
      obtain ⟨rfl, rfl⟩ := he
      obtain ⟨b3, o3, rfl, hlb3, hcut⟩ := hc (by simp; omega)
      have hcutj := hcut p (entD l[p]) (by simp [hjl])
      have hcutk := cut_sub (i := 0) (m := 25) hcutj (by decide)
      rw [Nat.add_zero, entD_key] at hcutk
      have hg : decide ((p : Int) < l.length) = true := by simp; omega
      have hlbW : b3 < W.heap.size := by omega
      have hdp : dup l e.k = decide (l[p].k = e.k) := by rw [HDUP.out, List.getElem?_eq_getElem hjl]; simp
      have HDP := Lib.hid hdp
      generalize l[p] = x at *
      clear hcut hc hcutj hdp
      go_wp2_with fail
      apply wp_region_specs (by rfl) [.val _, .val _, .val _, .val _, .val _, .val _, .val _, .val _, .val _, .val _, .val _, .val _, .val _, .val _] 14 (by rfl) [26, 27, 28, 29, 30, 31, 32, 33, 34, 35, 36, 37, 38, 39] [] [] (by rfl) (by rfl) (by decide) (by decide +kernel) (fun _ _ _ _ _ h => h)
      case hF => intro x; simp only [over, List.foldl_cons, List.foldl_nil, List.setIfInBounds_toArray, List.set_cons_succ, List.set_cons_zero]; exact rfl
      case hops =>
        refine ⟨?o0, ?o1, ?o2, ?o3, ?o4, ?o5, ?o6, ?o7, ?o8, ?o9, ?o10, ?o11, ?o12, ?o13, trivial⟩
        case o0 =>
          intro x w1 hH K hK
          obtain ⟨xs, d, rfl⟩ := grow_of_below hH.below
          clear hH
          try simp only [World.grow_drew] at hK ⊢
          try simp only [World.grow_grow] at hK ⊢
          go_simp
          go_wp2_with fail
          exact ⟨_, rfl, rfl, (by repeat (first | exact below_of_grow _ _ | exact Below.refl _ _ | exact below_more _ _ _ _ | (simp only [← Array.append_assoc]; first | exact below_more _ _ _ _ | exact below_same _ _ _ | exact Below.refl _ _) | exact below_same _ _ _ | (refine Below.alloc ?_ (by first | (simp; done) | (simp; omega)) _) | (refine Below.grow ?_ (by first | (simp; done) | (simp; omega)) _ _) | refine Below.drew ?_ | refine Below.drewN ?_ _ | (refine Below.putF ?_ (by first | (simp; done) | omega | (simp; omega)) _) | (refine Below.setCell ?_ (by first | (simp; done) | (simp; omega)) _))), fun h => by cases h⟩
        case o1 =>
          intro x w1 hH K hK
          obtain ⟨xs, d, rfl⟩ := grow_of_below hH.below
          clear hH
          try simp only [World.grow_drew] at hK ⊢
          try simp only [World.grow_grow] at hK ⊢
          go_simp
          go_wp2_with fail
          exact ⟨_, rfl, rfl, (by repeat (first | exact below_of_grow _ _ | exact Below.refl _ _ | exact below_more _ _ _ _ | (simp only [← Array.append_assoc]; first | exact below_more _ _ _ _ | exact below_same _ _ _ | exact Below.refl _ _) | exact below_same _ _ _ | (refine Below.alloc ?_ (by first | (simp; done) | (simp; omega)) _) | (refine Below.grow ?_ (by first | (simp; done) | (simp; omega)) _ _) | refine Below.drew ?_ | refine Below.drewN ?_ _ | (refine Below.putF ?_ (by first | (simp; done) | omega | (simp; omega)) _) | (refine Below.setCell ?_ (by first | (simp; done) | (simp; omega)) _))), fun h => by cases h⟩
        case o2 =>
          intro x w1 hH K hK
          have e27 : x 27 = _ := hH.holds 1 (by decide) (by decide +kernel) 27 rfl
          obtain ⟨xs, d, rfl⟩ := grow_of_below hH.below
          clear hH
          try simp only [World.grow_drew] at hK ⊢
          try simp only [World.grow_grow] at hK ⊢
          simp only [e27] at hK ⊢
          clear e27
          go_simp
          go_wp2_with fail
          exact ⟨_, rfl, rfl, (by repeat (first | exact below_of_grow _ _ | exact Below.refl _ _ | exact below_more _ _ _ _ | (simp only [← Array.append_assoc]; first | exact below_more _ _ _ _ | exact below_same _ _ _ | exact Below.refl _ _) | exact below_same _ _ _ | (refine Below.alloc ?_ (by first | (simp; done) | (simp; omega)) _) | (refine Below.grow ?_ (by first | (simp; done) | (simp; omega)) _ _) | refine Below.drew ?_ | refine Below.drewN ?_ _ | (refine Below.putF ?_ (by first | (simp; done) | omega | (simp; omega)) _) | (refine Below.setCell ?_ (by first | (simp; done) | (simp; omega)) _))), fun h => by cases h⟩
        case o3 =>
          intro x w1 hH K hK
          have e26 : x 26 = _ := hH.holds 0 (by decide) (by decide +kernel) 26 rfl
          have e28 : x 28 = _ := hH.holds 2 (by decide) (by decide +kernel) 28 rfl
          obtain ⟨xs, d, rfl⟩ := grow_of_below hH.below
          clear hH
          try simp only [World.grow_drew] at hK ⊢
          try simp only [World.grow_grow] at hK ⊢
          simp only [e26, e28] at hK ⊢
          clear e26 e28
          go_simp
          go_wp2_with fail
          exact ⟨_, rfl, rfl, (by repeat (first | exact below_of_grow _ _ | exact Below.refl _ _ | exact below_more _ _ _ _ | (simp only [← Array.append_assoc]; first | exact below_more _ _ _ _ | exact below_same _ _ _ | exact Below.refl _ _) | exact below_same _ _ _ | (refine Below.alloc ?_ (by first | (simp; done) | (simp; omega)) _) | (refine Below.grow ?_ (by first | (simp; done) | (simp; omega)) _ _) | refine Below.drew ?_ | refine Below.drewN ?_ _ | (refine Below.putF ?_ (by first | (simp; done) | omega | (simp; omega)) _) | (refine Below.setCell ?_ (by first | (simp; done) | (simp; omega)) _))), fun h => by cases h⟩
        case o4 =>
          intro x w1 hH K hK
          have e29 : x 29 = _ := hH.holds 3 (by decide) (by decide +kernel) 29 rfl
          obtain ⟨xs, d, rfl⟩ := grow_of_below hH.below
          clear hH
          try simp only [World.grow_drew] at hK ⊢
          try simp only [World.grow_grow] at hK ⊢
          simp only [e29] at hK ⊢
          clear e29
          go_simp
          go_wp2_with fail
          exact ⟨_, rfl, rfl, (by repeat (first | exact below_of_grow _ _ | exact Below.refl _ _ | exact below_more _ _ _ _ | (simp only [← Array.append_assoc]; first | exact below_more _ _ _ _ | exact below_same _ _ _ | exact Below.refl _ _) | exact below_same _ _ _ | (refine Below.alloc ?_ (by first | (simp; done) | (simp; omega)) _) | (refine Below.grow ?_ (by first | (simp; done) | (simp; omega)) _ _) | refine Below.drew ?_ | refine Below.drewN ?_ _ | (refine Below.putF ?_ (by first | (simp; done) | omega | (simp; omega)) _) | (refine Below.setCell ?_ (by first | (simp; done) | (simp; omega)) _))), fun h => by cases h⟩
        case o5 =>
          intro x w1 hH K hK
          have e30 : x 30 = _ := hH.holds 4 (by decide) (by decide +kernel) 30 rfl
          obtain ⟨xs, d, rfl⟩ := grow_of_below hH.below
          clear hH
          try simp only [World.grow_drew] at hK ⊢
          try simp only [World.grow_grow] at hK ⊢
          simp only [e30] at hK ⊢
          clear e30
          go_simp
          go_wp2_with fail
          exact ⟨_, rfl, rfl, (by repeat (first | exact below_of_grow _ _ | exact Below.refl _ _ | exact below_more _ _ _ _ | (simp only [← Array.append_assoc]; first | exact below_more _ _ _ _ | exact below_same _ _ _ | exact Below.refl _ _) | exact below_same _ _ _ | (refine Below.alloc ?_ (by first | (simp; done) | (simp; omega)) _) | (refine Below.grow ?_ (by first | (simp; done) | (simp; omega)) _ _) | refine Below.drew ?_ | refine Below.drewN ?_ _ | (refine Below.putF ?_ (by first | (simp; done) | omega | (simp; omega)) _) | (refine Below.setCell ?_ (by first | (simp; done) | (simp; omega)) _))), fun h => by cases h⟩
        case o6 =>
          intro x w1 hH K hK
          have e30 : x 30 = _ := hH.holds 4 (by decide) (by decide +kernel) 30 rfl
          obtain ⟨xs, d, rfl⟩ := grow_of_below hH.below
          clear hH
          try simp only [World.grow_drew] at hK ⊢
          try simp only [World.grow_grow] at hK ⊢
          simp only [e30] at hK ⊢
          clear e30
          go_simp
          go_wp2_with fail
          exact ⟨_, rfl, rfl, (by repeat (first | exact below_of_grow _ _ | exact Below.refl _ _ | exact below_more _ _ _ _ | (simp only [← Array.append_assoc]; first | exact below_more _ _ _ _ | exact below_same _ _ _ | exact Below.refl _ _) | exact below_same _ _ _ | (refine Below.alloc ?_ (by first | (simp; done) | (simp; omega)) _) | (refine Below.grow ?_ (by first | (simp; done) | (simp; omega)) _ _) | refine Below.drew ?_ | refine Below.drewN ?_ _ | (refine Below.putF ?_ (by first | (simp; done) | omega | (simp; omega)) _) | (refine Below.setCell ?_ (by first | (simp; done) | (simp; omega)) _))), fun h => by cases h⟩
        case o7 =>
          intro x w1 hH K hK
          have e30 : x 30 = _ := hH.holds 4 (by decide) (by decide +kernel) 30 rfl
          have e31 : x 31 = _ := hH.holds 5 (by decide) (by decide +kernel) 31 rfl
          have e32 : x 32 = _ := hH.holds 6 (by decide) (by decide +kernel) 32 rfl
          obtain ⟨xs, d, rfl⟩ := grow_of_below hH.below
          clear hH
          try simp only [World.grow_drew] at hK ⊢
          try simp only [World.grow_grow] at hK ⊢
          simp only [e30, e31, e32] at hK ⊢
          clear e30 e31 e32
          go_simp
          go_wp2_with fail
          exact ⟨_, rfl, rfl, (by repeat (first | exact below_of_grow _ _ | exact Below.refl _ _ | exact below_more _ _ _ _ | (simp only [← Array.append_assoc]; first | exact below_more _ _ _ _ | exact below_same _ _ _ | exact Below.refl _ _) | exact below_same _ _ _ | (refine Below.alloc ?_ (by first | (simp; done) | (simp; omega)) _) | (refine Below.grow ?_ (by first | (simp; done) | (simp; omega)) _ _) | refine Below.drew ?_ | refine Below.drewN ?_ _ | (refine Below.putF ?_ (by first | (simp; done) | omega | (simp; omega)) _) | (refine Below.setCell ?_ (by first | (simp; done) | (simp; omega)) _))), fun h => by cases h⟩
        case o8 =>
          intro x w1 hH K hK
          have e30 : x 30 = _ := hH.holds 4 (by decide) (by decide +kernel) 30 rfl
          have e33 : x 33 = _ := hH.holds 7 (by decide) (by decide +kernel) 33 rfl
          obtain ⟨xs, d, rfl⟩ := grow_of_below hH.below
          clear hH
          try simp only [World.grow_drew] at hK ⊢
          try simp only [World.grow_grow] at hK ⊢
          simp only [e30, e33] at hK ⊢
          clear e30 e33
          go_simp
          go_wp2_with fail
          exact ⟨_, rfl, rfl, (by repeat (first | exact below_of_grow _ _ | exact Below.refl _ _ | exact below_more _ _ _ _ | (simp only [← Array.append_assoc]; first | exact below_more _ _ _ _ | exact below_same _ _ _ | exact Below.refl _ _) | exact below_same _ _ _ | (refine Below.alloc ?_ (by first | (simp; done) | (simp; omega)) _) | (refine Below.grow ?_ (by first | (simp; done) | (simp; omega)) _ _) | refine Below.drew ?_ | refine Below.drewN ?_ _ | (refine Below.putF ?_ (by first | (simp; done) | omega | (simp; omega)) _) | (refine Below.setCell ?_ (by first | (simp; done) | (simp; omega)) _))), fun h => by cases h⟩
        case o9 =>
          intro x w1 hH K hK
          have e30 : x 30 = _ := hH.holds 4 (by decide) (by decide +kernel) 30 rfl
          have e34 : x 34 = _ := hH.holds 8 (by decide) (by decide +kernel) 34 rfl
          obtain ⟨xs, d, rfl⟩ := grow_of_below hH.below
          clear hH
          try simp only [World.grow_drew] at hK ⊢
          try simp only [World.grow_grow] at hK ⊢
          simp only [e30, e34] at hK ⊢
          clear e30 e34
          go_simp
          go_wp2_with fail
          exact ⟨_, rfl, rfl, (by repeat (first | exact below_of_grow _ _ | exact Below.refl _ _ | exact below_more _ _ _ _ | (simp only [← Array.append_assoc]; first | exact below_more _ _ _ _ | exact below_same _ _ _ | exact Below.refl _ _) | exact below_same _ _ _ | (refine Below.alloc ?_ (by first | (simp; done) | (simp; omega)) _) | (refine Below.grow ?_ (by first | (simp; done) | (simp; omega)) _ _) | refine Below.drew ?_ | refine Below.drewN ?_ _ | (refine Below.putF ?_ (by first | (simp; done) | omega | (simp; omega)) _) | (refine Below.setCell ?_ (by first | (simp; done) | (simp; omega)) _))), fun h => by cases h⟩
        case o10 =>
          intro x w1 hH K hK
          have e30 : x 30 = _ := hH.holds 4 (by decide) (by decide +kernel) 30 rfl
          obtain ⟨xs, d, rfl⟩ := grow_of_below hH.below
          clear hH
          try simp only [World.grow_drew] at hK ⊢
          try simp only [World.grow_grow] at hK ⊢
          simp only [e30] at hK ⊢
          clear e30
          go_simp
          go_wp2_with fail
          exact ⟨_, rfl, rfl, (by repeat (first | exact below_of_grow _ _ | exact Below.refl _ _ | exact below_more _ _ _ _ | (simp only [← Array.append_assoc]; first | exact below_more _ _ _ _ | exact below_same _ _ _ | exact Below.refl _ _) | exact below_same _ _ _ | (refine Below.alloc ?_ (by first | (simp; done) | (simp; omega)) _) | (refine Below.grow ?_ (by first | (simp; done) | (simp; omega)) _ _) | refine Below.drew ?_ | refine Below.drewN ?_ _ | (refine Below.putF ?_ (by first | (simp; done) | omega | (simp; omega)) _) | (refine Below.setCell ?_ (by first | (simp; done) | (simp; omega)) _))), fun h => by cases h⟩
        case o11 =>
          intro x w1 hH K hK
          have e30 : x 30 = _ := hH.holds 4 (by decide) (by decide +kernel) 30 rfl
          have e36 : x 36 = _ := hH.holds 10 (by decide) (by decide +kernel) 36 rfl
          obtain ⟨xs, d, rfl⟩ := grow_of_below hH.below
          clear hH
          try simp only [World.grow_drew] at hK ⊢
          try simp only [World.grow_grow] at hK ⊢
          simp only [e30, e36] at hK ⊢
          clear e30 e36
          go_simp
          go_wp2_with fail
          exact ⟨_, rfl, rfl, (by repeat (first | exact below_of_grow _ _ | exact Below.refl _ _ | exact below_more _ _ _ _ | (simp only [← Array.append_assoc]; first | exact below_more _ _ _ _ | exact below_same _ _ _ | exact Below.refl _ _) | exact below_same _ _ _ | (refine Below.alloc ?_ (by first | (simp; done) | (simp; omega)) _) | (refine Below.grow ?_ (by first | (simp; done) | (simp; omega)) _ _) | refine Below.drew ?_ | refine Below.drewN ?_ _ | (refine Below.putF ?_ (by first | (simp; done) | omega | (simp; omega)) _) | (refine Below.setCell ?_ (by first | (simp; done) | (simp; omega)) _))), fun h => by cases h⟩
        case o12 =>
          intro x w1 hH K hK
          have e30 : x 30 = _ := hH.holds 4 (by decide) (by decide +kernel) 30 rfl
          have e35 : x 35 = _ := hH.holds 9 (by decide) (by decide +kernel) 35 rfl
          have e37 : x 37 = _ := hH.holds 11 (by decide) (by decide +kernel) 37 rfl
          obtain ⟨xs, d, rfl⟩ := grow_of_below hH.below
          clear hH
          try simp only [World.grow_drew] at hK ⊢
          try simp only [World.grow_grow] at hK ⊢
          simp only [e30, e35, e37] at hK ⊢
          clear e30 e35 e37
          go_simp
          go_wp2_with fail
          exact ⟨_, rfl, rfl, (by repeat (first | exact below_of_grow _ _ | exact Below.refl _ _ | exact below_more _ _ _ _ | (simp only [← Array.append_assoc]; first | exact below_more _ _ _ _ | exact below_same _ _ _ | exact Below.refl _ _) | exact below_same _ _ _ | (refine Below.alloc ?_ (by first | (simp; done) | (simp; omega)) _) | (refine Below.grow ?_ (by first | (simp; done) | (simp; omega)) _ _) | refine Below.drew ?_ | refine Below.drewN ?_ _ | (refine Below.putF ?_ (by first | (simp; done) | omega | (simp; omega)) _) | (refine Below.setCell ?_ (by first | (simp; done) | (simp; omega)) _))), fun h => by cases h⟩
        case o13 =>
          intro x w1 hH K hK
          have e30 : x 30 = _ := hH.holds 4 (by decide) (by decide +kernel) 30 rfl
          have e38 : x 38 = _ := hH.holds 12 (by decide) (by decide +kernel) 38 rfl
          obtain ⟨xs, d, rfl⟩ := grow_of_below hH.below
          clear hH
          try simp only [World.grow_drew] at hK ⊢
          try simp only [World.grow_grow] at hK ⊢
          simp only [e30, e38] at hK ⊢
          clear e30 e38
          go_simp
          go_wp2_with fail
          exact ⟨_, rfl, rfl, (by repeat (first | exact below_of_grow _ _ | exact Below.refl _ _ | exact below_more _ _ _ _ | (simp only [← Array.append_assoc]; first | exact below_more _ _ _ _ | exact below_same _ _ _ | exact Below.refl _ _) | exact below_same _ _ _ | (refine Below.alloc ?_ (by first | (simp; done) | (simp; omega)) _) | (refine Below.grow ?_ (by first | (simp; done) | (simp; omega)) _ _) | refine Below.drew ?_ | refine Below.drewN ?_ _ | (refine Below.putF ?_ (by first | (simp; done) | omega | (simp; omega)) _) | (refine Below.setCell ?_ (by first | (simp; done) | (simp; omega)) _))), fun h => by cases h⟩
      case hend =>
        intro x w1 hH
        have e26 : x 26 = _ := hH.holds 0 (by decide) trivial 26 rfl
        have e27 : x 27 = _ := hH.holds 1 (by decide) trivial 27 rfl
        have e28 : x 28 = _ := hH.holds 2 (by decide) trivial 28 rfl
        have e29 : x 29 = _ := hH.holds 3 (by decide) trivial 29 rfl
        have e30 : x 30 = _ := hH.holds 4 (by decide) trivial 30 rfl
        have e31 : x 31 = _ := hH.holds 5 (by decide) trivial 31 rfl
        have e32 : x 32 = _ := hH.holds 6 (by decide) trivial 32 rfl
        have e33 : x 33 = _ := hH.holds 7 (by decide) trivial 33 rfl
        have e34 : x 34 = _ := hH.holds 8 (by decide) trivial 34 rfl
        have e35 : x 35 = _ := hH.holds 9 (by decide) trivial 35 rfl
        have e36 : x 36 = _ := hH.holds 10 (by decide) trivial 36 rfl
        have e37 : x 37 = _ := hH.holds 11 (by decide) trivial 37 rfl
        have e38 : x 38 = _ := hH.holds 12 (by decide) trivial 38 rfl
        have e39 : x 39 = _ := hH.holds 13 (by decide) trivial 39 rfl
        obtain ⟨xs, d, rfl⟩ := grow_of_below hH.below
        clear hH
        simp only [e26, e27, e28, e29, e30, e31, e32, e33, e34, e35, e36, e37, e38, e39]; clear e26 e27 e28 e29 e30 e31 e32 e33 e34 e35 e36 e37 e38 e39
        simp only [List.drop_succ_cons, List.drop_nil]
        go_wp2_with fail
        go_meet
        exact ⟨by rw [HDP.out], _, _, by rw [World.grow_drew, World.grow_grow]⟩
    · have hg : decide ((p : Int) < l.length) = false := by simp; omega
      have hdp : dup l e.k = false := by rw [HDUP.out, List.getElem?_eq_none (by omega)]; simp
      have HDP := Lib.hid hdp
      clear hdp
      go_wp2_with fail
      go_quiet (fail)
      go_wp2_with fail
      go_meet
      exact ⟨by rw [HDP.out], grow_of_below (by first | exact (below_of_grow _ _).drewN _ | exact (below_of_grow _ _))⟩
  case rest =>
  obtain ⟨rfl, xs2, d2, rfl⟩ := hcut
  have hro := HRO.out
  cases hdd : dup l e.k with
  | true =>
    rw [hdd, if_pos rfl] at hro
    have hpl : p < l.length := by
      have h := HDUP.out
      rw [hdd] at h
      rcases Nat.lt_or_ge p l.length with h1 | h1
      · exact h1
      · rw [List.getElem?_eq_none h1] at h; simp at h
    cases o with
    | false =>
      rw [if_neg (by decide)] at hro
      have HR2 := Lib.hid hro
      clear hro hdd
      go_wp2_with fail
      go_ret
      have hb : Below W.heap.size W (W.grow xs2 d2) := below_of_grow _ _
      exact ⟨_, rfl, HWW.out.trans (hb.mono HWW.out.size), by rw [HR2.out]; exact (HSW.out.below (hb.mono HWW.out.size)).more (by have := HWW.out.size; have := hb.size; omega)⟩
    | true =>
      rw [if_pos rfl] at hro
      have HR2 := Lib.hid hro
      clear hro hdd
      have hpI : (p : Int) < l.length := by omega
      obtain ⟨X, hX⟩ : ∃ X, X = W.grow xs2 d2 := ⟨_, rfl⟩
      have hbX : Below W.heap.size W X := by rw [hX]; exact below_of_grow _ _
      have hsX := hbX.size
      have hslX : SlA X w.heap.size 34 (.slice a0 l.length cap0) (l.map entD) := HSW.out.below (hbX.mono HWW.out.size)
      have heX : X.cut? w.heap.size 0 34 = some (entD e) := by rw [hX, cut_grow _ _ _ _ _ hWs]; exact hWe
      have HBX := Lib.hid hbX
      have HSX := Lib.hid hslX
      have HEX := Lib.hid heX
      rw [← hX]
      clear hX hbX hslX heX HSW hWe hWk
      go_wp2_with (at_builtin; refine wpList_append (B := W.heap.size) (xs := []) (ys := l.map entD) row_entD rfl (.tmp 43) (.tmp 44) rfl (v := _) rfl ?_ rfl ?_ (all_entD l) ?_ ?_ ?_)
      case refine_1 => exact own_empty (_root_.Go.heap_alloc_new X _) hsX
      case refine_2 => exact ⟨_, HSX.out.alloc _ (by omega)⟩
      case refine_3 => omega
      case refine_4 => omega
      intro v1 w1 ho1 hg1 _
      have hb1 : Below W.heap.size W w1 := Below.grown (HBX.out.alloc hsX _) hg1 (by simp; omega) (fun q hq => by simp [Value.ownBlock, Act.eval] at hq; omega)
      have ho1 : OwnA w1 W.heap.size 34 81 v1 (l.map entD) := by simpa using ho1
      obtain ⟨a1, cap1, rfl, hcm1, hcl1⟩ := ho1.form
      rw [List.length_map] at *
      obtain ⟨g, rfl⟩ : ∃ g, a1 = some ⟨g, 0, none⟩ := by
        rcases ho1.2.2 with ⟨h1, h2⟩ | ⟨g, c, cur, h1, _⟩
        · simp only [Value.slice.injEq] at h1; omega
        · simp only [Value.slice.injEq] at h1; exact ⟨g, h1.1⟩
      have hset := ho1.setRow (p := p) (y := entD e) (by simpa using hpl) (by simp)
      have hgW : W.heap.size ≤ g := (ho1.lt g rfl).1
      have hth : w1.there? g (p * 34) 34 = true := by
        obtain ⟨_, cur, _, hh, hn, _, hcs, _⟩ := ho1.cells
        unfold World.there?
        rw [hh]
        rw [List.length_map] at hn
        have : p * 34 + 34 ≤ cur.size := by rw [hcs, ← Nat.succ_mul]; exact Nat.mul_le_mul_right _ (by omega)
        simpa using this
      have hew : w1.cut? w.heap.size 0 34 = some (entD e) := (cut_of_heap (hg1.block _ (by simp; omega) (by simp [Value.ownBlock, Act.eval]; omega)) _ _).trans ((cut_alloc_past _ _ _ _ (by omega)).trans HEX.out)
      have hb2 : Below W.heap.size W (w1.lay g (p * 34) (entD e)) := Below.lay hb1 hgW
      have hsl2 := hset.sl
      rw [← List.map_set] at hsl2
      have HB2 := Lib.hid hb2
      have HSL2 := Lib.hid hsl2
      clear hb1 ho1 hg1 hset hb2 hsl2 HEX HSX HBX
      go_wp2_with fail
      go_ret
      exact ⟨_, rfl, HWW.out.trans (HB2.out.mono HWW.out.size), by rw [HR2.out]; exact HSL2.out⟩
  | false =>
    rw [hdd, if_neg (by decide)] at hro
    have HR2 := Lib.hid hro
    clear hro hdd
    have hpc : p ≤ cap0 := by omega
    have hplR : (p : Int) ≤ l.length := by omega
    go_upto_region 10 with fail
    have hnp : p ≤ (l.map entD).length := by rw [List.length_map]; exact hple
    have hslW := HSW.out
    rw [show l.length = (l.map entD).length by simp] at hslW
    have HTK := Lib.hid (hslW.take hnp)
    have hdr := hslW.drop hnp
    rw [List.length_map] at hdr
    have HDR := Lib.hid hdr
    clear hslW hnp hdr
    have h1 : ∀ x ∈ (l.map entD).take p, allOne x = true := fun x hx => all_entD l x (List.mem_of_mem_take hx)
    have h2 : ∀ x ∈ (l.map entD).drop p, allOne x = true := fun x hx => all_entD l x (List.mem_of_mem_drop hx)
    have H1 := Lib.hid h1
    have H2 := Lib.hid h2
    clear h1 h2
    have hWsz := HWW.out.size
    go_cut [9] (fun s9 wx => Hid (OwnA wx W.heap.size 34 81 s9 ((l.map entD).take p ++ [entD e])) ∧ Hid (Below W.heap.size W wx))
    case first =>
      go_wp2_with fail
      have e2 : (W.grow xs2 (d2 + 1)).cut? w.heap.size 0 34 = some (entD e) := by rw [cut_grow _ _ _ _ _ hWs]; exact hWe
      have e1 : ((W.grow xs2 (d2 + 1)).alloc (.cells #[] 81)).cut? w.heap.size 0 34 = some (entD e) := by rw [cut_alloc_past _ _ _ _ (by simp; omega)]; exact e2
      go_region_law (first
        | (refine step_append (o := ⟨some 55, _, _, _, _, _⟩) (B := W.heap.size) (xs := []) (ys := (l.map entD).take p) row_entD rfl (.tmp 51) (.tmp 54) rfl (v := _) rfl ?_ (y := _) rfl ?_ H1.out ?_ ?_ ?_
           · exact own_empty (by repeat (first | exact (heap_al _ _ _).trans (if_pos (by simp; done)) | refine (heap_al _ _ _).trans ((if_neg (by simp; done)).trans ?_))) (by first | omega | (simp; omega) | simp)
           · refine ⟨w.heap.size, ?_⟩; repeat (first | exact HTK.out | refine SlA.alloc ?_ _ (by simp; omega) | refine SlA.grow ?_ _ _ (by omega))
           · first | omega | (simp; omega)
           · first | omega | (simp; omega)
           intro v1 w1 ho1 hg1 hl1
           have bw1 : Below W.heap.size W w1 := Below.grown (show Below W.heap.size W _ from (by repeat (first | exact below_of_grow _ _ | exact Below.refl _ _ | exact below_more _ _ _ _ | (simp only [← Array.append_assoc]; first | exact below_more _ _ _ _ | exact below_same _ _ _ | exact Below.refl _ _) | exact below_same _ _ _ | (refine Below.alloc ?_ (by first | (simp; done) | (simp; omega)) _) | (refine Below.grow ?_ (by first | (simp; done) | (simp; omega)) _ _) | refine Below.drew ?_ | refine Below.drewN ?_ _ | (refine Below.putF ?_ (by first | (simp; done) | omega | (simp; omega)) _) | (refine Below.setCell ?_ (by first | (simp; done) | (simp; omega)) _)))) hg1 (by first | omega | (simp; omega) | simp) (fun q hq => by simp [Value.ownBlock, Act.eval] at hq; omega)
           have c1 : w1.cut? w.heap.size 0 34 = some (entD e) := (cut_of_heap (bw1.block _ hWs) _ _).trans hWe
           have z1 := bw1.size)
        | (refine step_append (o := ⟨some 58, _, _, _, _, _⟩) (B := W.heap.size) (xs := (l.map entD).take p) (ys := [entD e]) row_entD rfl (.tmp 55) (.tmp 57) rfl (v := _) rfl ?_ (y := _) rfl ?_ ?_ ?_ ?_ ?_
           · repeat (first | exact ho1 | refine OwnA.alloc ?_ _)
           · refine ⟨_, sl_one (Nat.le_refl _) (by decide) ?_⟩
             first
               | exact cut_heap ((heap_al _ _ _).trans (if_pos (by simp; done))) (entD_size _)
               | exact cut_heap ((hg1.block _ (by first | (simp; done) | (simp; omega)) (by simp [Value.ownBlock, Act.eval])).trans (by repeat (first | exact (heap_al _ _ _).trans (if_pos (by simp; done)) | refine (heap_al _ _ _).trans ((if_neg (by simp; done)).trans ?_)))) (entD_size _)
           · intro x hx; simp at hx; subst hx; exact one_entD e
           · first | omega | (simp; omega)
           · first | omega | (simp; omega)
           intro v2 w2 ho2 hg2 hl2
           have bw2 : Below W.heap.size W w2 := Below.grown (by first | exact bw1 | exact bw1.alloc z1 _) hg2 (by first | omega | (simp; omega)) (fun q hq => (ho1.lt q hq).1)
           have HB2 := Lib.hid bw2
           have HO2 := Lib.hid ho2
           clear bw1 bw2 hg1 hg2 ho1 ho2 hl1 hl2 z1))
      all_goals
        go_wp2_with fail
        go_meet
        exact ⟨HO2, HB2⟩
    case rest =>
      obtain ⟨HO2, HB2⟩ := hcut
      have hs2 := HB2.out.size
      go_wp2_with (at_builtin; refine wpList_append (B := W.heap.size) (xs := (l.map entD).take p ++ [entD e]) (ys := (l.map entD).drop p) row_entD rfl (.tmp 59) (.tmp 62) rfl (v := u9) rfl HO2.out rfl ⟨_, HDR.out.below (HB2.out.mono hWsz)⟩ H2.out (by simp; omega) hs2 ?_)
      all_goals
        intro v3 w3 ho3 hg3 _
        have hb3 : Below W.heap.size W w3 := Below.grown HB2.out hg3 hs2 (fun q hq => (HO2.out.lt q hq).1)
        have HB3 := Lib.hid hb3
        have HS3 := Lib.hid (show SlA w3 w3.heap.size 34 v3 ((l.take p ++ [e] ++ l.drop p).map entD) by have := ho3.sl; simpa [List.map_take, List.map_drop] using this)
        clear hb3 ho3 hg3
        go_wp2_with fail
        go_ret
        exact ⟨_, rfl, HWW.out.trans (HB3.out.mono hWsz), by rw [HR2.out]; exact HS3.out⟩
end Go.Proofs.Ytbflpnkodpeggaa

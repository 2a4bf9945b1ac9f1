/- Layer 24's lists: the first entry of each key, in order. -/
import Derived.Test.YtbflpnkodpeggaaEntOps
import Derived.Test.YtbflpnkodpeggaaRisePlain
import Derived.BigRegion
import Derived.Test.YtbflpnkodpeggaaOwn
import Derived.Deep.RegionLaw
import Derived.Deep.CutBlock
namespace Go.Proofs.Ytbflpnkodpeggaa
open Go.RowKit

theorem store80_long (e : Ent) : (entA e).setIfInBounds 33 (.string ((bs e.r.text.val).extract 0 80)) = entA e.cut80 := by
  rw [bs_cut]
  exact entA_set33 e ⟨e.r.text.val.take 80, by have := e.r.text.property; simp; omega⟩
theorem store80_short (e : Ent) (h : e.r.text.val.length ≤ 80) : (entA e).setIfInBounds 33 (.string (bs e.r.text.val)) = entA e.cut80 := by
  have := store80_long e
  rw [bs_cut, List.take_of_length_le h] at this
  exact this
set_option maxRecDepth 100000 in
set_option maxHeartbeats 6400000 in
theorem rise_calls (L : List Ent) (v : Value) (w : World) (hv : SlA w w.heap.size 34 v (L.map entA)) :
    Calls Try.prog 5 #[v] w fun e w' => ∃ v', e = .returned v' ∧ Below w.heap.size w w' ∧ OwnA w' w.heap.size 34 43 v' ((rise L).map entA) := by
  obtain ⟨a0, cap0, rfl, hcl, hcm⟩ := hv.form
  rw [List.length_map] at hcl hv ⊢
  unfold maxLen at hcm
  go_enter Try.func5, Try.ntmps5
  go_wp2_with fail
  go_loopw [3, 4] (fun s3 i wr => ∃ k : Nat, k ≤ L.length ∧ k ≤ 30 ∧ i = .int .i64 k ∧ Below w.heap.size w wr ∧ OwnA wr w.heap.size 34 43 s3 ((rise (L.take k)).map entA)) (fun _ i _ => 30 - (intOf i).toNat)
  case atStart => exact ⟨0, by omega, by omega, rfl, Below.refl _ _, by rw [List.take_zero]; exact OwnA.nil _ _ _ _⟩
  case round =>
    obtain ⟨k, hk, hk30, rfl, hb, hown⟩ := hrel
    have HB := Lib.hid hb
    have HO := Lib.hid hown
    by_cases hlt : k < L.length
    · by_cases h30 : k < 30
      · have hsl := hv.below hb
        obtain ⟨hs0, a, cap, he, _, _, hc⟩ := hsl
        simp only [Value.slice.injEq, List.length_map, true_and] at he
        obtain ⟨rfl, rfl⟩ := he
        obtain ⟨b, o, rfl, hlb, hcut⟩ := hc (by simp; omega)
        have hcutk := hcut k (entA L[k]) (by simp [hlt])
        have hsucc := rise_succ L k hlt h30
        have hlen := rise_len ((L.take k).take 30) 0
        have hlen2 : (rise (L.take k)).length ≤ 30 := by unfold rise; simp at hlen ⊢; omega
        clear hcut hc hs0 hlen
        have hltI : (k : Int) < L.length := by omega
        have h30I : (k : Int) < 30 := by omega
        generalize L[k] = e at *
        generalize rise (L.take k) = R at *
        have HSUCC := Lib.hid hsucc
        have hsz := hb.size
        clear hsucc hb hown
        go_upto_region 6 with fail
        go_cut [29] (fun _ wx => wx = wr.alloc (.cells (entA e.cut80) 43))
        case first =>
          by_cases hc : 80 < ((bs e.r.text.val).size : Int)
          · go_wp2_with fail
            go_meet
            rw [store80_long]
          · have hc2 := hc
            rw [bs_size] at hc2
            go_wp2_with fail
            go_meet
            rw [store80_short e (by omega)]
        case rest =>
        subst hcut
        obtain ⟨c, hcd⟩ : ∃ c, c = e.cut80 := ⟨_, rfl⟩
        rw [← hcd] at HSUCC ⊢
        clear hcd hcutk e
        obtain ⟨a3, cap3, h3, hcm3, hcl3⟩ := HO.out.form
        rw [List.length_map] at h3 hcl3
        subst h3
        unfold maxLen at hcm3
        have hslR := HO.out.sl
        have HSL := Lib.hid hslR
        clear hslR
        go_upto_block 2 with fail
        obtain ⟨W, hW⟩ : ∃ W, W = wr.alloc (.cells (entA c) 43) := ⟨_, rfl⟩
        have hWs : wr.heap.size < W.heap.size := by rw [hW]; simp
        have hWc : W.cut? wr.heap.size 0 25 = some (row8 c.k.val) := by rw [hW]; simp [go_sem]
        have hWe : W.cut? wr.heap.size 0 34 = some (entA c) := by rw [hW]; simp [go_sem]
        have hslW : SlA W wr.heap.size 34 (.slice a3 R.length cap3) (R.map entA) := by rw [hW]; exact HSL.out.below ((Below.refl _ _).alloc (Nat.le_refl _) _)
        have HSW := Lib.hid hslW
        have hwW : Below w.heap.size w W := by rw [hW]; exact HB.out.alloc (by omega) _
        have HWW := Lib.hid hwW
        have hoW : OwnA W w.heap.size 34 43 (.slice a3 R.length cap3) (R.map entA) := by rw [hW]; exact HO.out.alloc _
        have HOW := Lib.hid hoW
        rw [← hW]
        clear hslW hW hwW hoW HB HO HSL
        go_cut [6] (fun s6 wx => s6 = .int .i64 (placeOf R c.k) ∧ ∃ xs d, wx = W.grow xs d)
        case first =>
          go_wp2_with fail
          go_loopw [6] (fun s6 wx => ∃ (j : Nat) (xs : Array Obj) (d : Nat), s6 = .int .i64 j ∧ j ≤ R.length ∧ Hid (∀ i x, i < j → R[i]? = some x → lessL x.k.val c.k.val = true) ∧ wx = W.grow xs d) (fun s6 _ => R.length - (intOf s6).toNat)
          case atStart => exact ⟨0, #[], _, rfl, Nat.zero_le _, Lib.hid (fun i x hi _ => by omega), World.grow_nil.symm⟩
          case round =>
            obtain ⟨j, xs, d, rfl, hj, hall, rfl⟩ := hrel
            by_cases hjl : j < R.length
            · obtain ⟨_, a, cap, he, _, _, hc⟩ := HSW.out
              simp only [Value.slice.injEq, List.length_map, true_and] at he
              obtain ⟨rfl, rfl⟩ := he
              obtain ⟨b3, o3, rfl, hlb3, hcut⟩ := hc (by simp; omega)
              have hcutj := hcut j (entA R[j]) (by simp [hjl])
              have hcutk := cut_sub (i := 0) (m := 25) hcutj (by decide)
              rw [Nat.add_zero, entA_key] at hcutk
              have hless := refLess_gives R[j].k.val c.k.val R[j].k.len c.k.len
              have hof := lawOf_gives R[j].k.val R[j].k.len
              have hofc := lawOf_gives c.k.val c.k.len
              generalize hbb : lessL R[j].k.val c.k.val = bb at *
              have HBB := Lib.hid hbb
              have HL := Lib.hid hless
              have HOF := Lib.hid hof
              have HOFC := Lib.hid hofc
              have hg : decide ((j : Int) < R.length) = true := by simp; omega
              have hlbW : b3 < W.heap.size := by omega
              clear hcut hc hcutj hless hof hofc hbb
              go_wp2_with fail
              apply wp_region_specs (by rfl) [.val _, .val _, .val _, .val _, .val _, .val _, .val _, .val _, .val _, .val _, .val _, .val _, .val _, .val _, .val _, .val _] 16 (by rfl) [32, 33, 34, 35, 36, 37, 38, 39, 40, 41, 42, 43, 44, 45, 46, 47] [] [] (by rfl) (by rfl) (by decide) (by decide +kernel) (fun _ _ _ _ _ h => h)
              case hF => intro x; simp only [over, List.foldl_cons, List.foldl_nil, List.setIfInBounds_toArray, List.set_cons_succ, List.set_cons_zero]; exact rfl
              case hops =>
                refine ⟨?o0, ?o1, ?o2, ?o3, ?o4, ?o5, ?o6, ?o7, ?o8, ?o9, ?o10, ?o11, ?o12, ?o13, ?o14, ?o15, trivial⟩
                case o0 =>
                  intro x w1 hH K hK
                  obtain ⟨xs, d, rfl⟩ := grow_of_below hH.below
                  clear hH
                  try simp only [World.grow_drew] at hK ⊢
                  try simp only [World.grow_grow] at hK ⊢
                  go_simp
                  go_wp2_with fail
                  exact ⟨_, rfl, rfl, (by repeat (first | exact below_of_grow _ _ | exact Below.refl _ _ | exact below_more _ _ _ _ | (simp only [← Array.append_assoc]; first | exact below_more _ _ _ _ | exact below_same _ _ _ | exact Below.refl _ _) | exact below_same _ _ _ | (refine Below.alloc ?_ (by first | (simp; done) | (simp; omega)) _) | (refine Below.grow ?_ (by first | (simp; done) | (simp; omega)) _ _) | refine Below.drew ?_ | refine Below.drewN ?_ _ | (refine Below.putF ?_ (by first | (simp; done) | omega | (simp; omega)) _) | (refine Below.setCell ?_ (by first | (simp; done) | (simp; omega)) _))), fun h => by cases h⟩
                case o1 =>
                  intro x w1 hH K hK
                  obtain ⟨xs, d, rfl⟩ := grow_of_below hH.below
                  clear hH
                  try simp only [World.grow_drew] at hK ⊢
                  try simp only [World.grow_grow] at hK ⊢
                  go_simp
                  go_wp2_with fail
                  exact ⟨_, rfl, rfl, (by repeat (first | exact below_of_grow _ _ | exact Below.refl _ _ | exact below_more _ _ _ _ | (simp only [← Array.append_assoc]; first | exact below_more _ _ _ _ | exact below_same _ _ _ | exact Below.refl _ _) | exact below_same _ _ _ | (refine Below.alloc ?_ (by first | (simp; done) | (simp; omega)) _) | (refine Below.grow ?_ (by first | (simp; done) | (simp; omega)) _ _) | refine Below.drew ?_ | refine Below.drewN ?_ _ | (refine Below.putF ?_ (by first | (simp; done) | omega | (simp; omega)) _) | (refine Below.setCell ?_ (by first | (simp; done) | (simp; omega)) _))), fun h => by cases h⟩
                case o2 =>
                  intro x w1 hH K hK
                  have e33 : x 33 = _ := hH.holds 1 (by decide) (by decide +kernel) 33 rfl
                  obtain ⟨xs, d, rfl⟩ := grow_of_below hH.below
                  clear hH
                  try simp only [World.grow_drew] at hK ⊢
                  try simp only [World.grow_grow] at hK ⊢
                  simp only [e33] at hK ⊢
                  clear e33
                  go_simp
                  go_wp2_with fail
                  exact ⟨_, rfl, rfl, (by repeat (first | exact below_of_grow _ _ | exact Below.refl _ _ | exact below_more _ _ _ _ | (simp only [← Array.append_assoc]; first | exact below_more _ _ _ _ | exact below_same _ _ _ | exact Below.refl _ _) | exact below_same _ _ _ | (refine Below.alloc ?_ (by first | (simp; done) | (simp; omega)) _) | (refine Below.grow ?_ (by first | (simp; done) | (simp; omega)) _ _) | refine Below.drew ?_ | refine Below.drewN ?_ _ | (refine Below.putF ?_ (by first | (simp; done) | omega | (simp; omega)) _) | (refine Below.setCell ?_ (by first | (simp; done) | (simp; omega)) _))), fun h => by cases h⟩
                case o3 =>
                  intro x w1 hH K hK
                  have e32 : x 32 = _ := hH.holds 0 (by decide) (by decide +kernel) 32 rfl
                  have e34 : x 34 = _ := hH.holds 2 (by decide) (by decide +kernel) 34 rfl
                  obtain ⟨xs, d, rfl⟩ := grow_of_below hH.below
                  clear hH
                  try simp only [World.grow_drew] at hK ⊢
                  try simp only [World.grow_grow] at hK ⊢
                  simp only [e32, e34] at hK ⊢
                  clear e32 e34
                  go_simp
                  go_wp2_with fail
                  exact ⟨_, rfl, rfl, (by repeat (first | exact below_of_grow _ _ | exact Below.refl _ _ | exact below_more _ _ _ _ | (simp only [← Array.append_assoc]; first | exact below_more _ _ _ _ | exact below_same _ _ _ | exact Below.refl _ _) | exact below_same _ _ _ | (refine Below.alloc ?_ (by first | (simp; done) | (simp; omega)) _) | (refine Below.grow ?_ (by first | (simp; done) | (simp; omega)) _ _) | refine Below.drew ?_ | refine Below.drewN ?_ _ | (refine Below.putF ?_ (by first | (simp; done) | omega | (simp; omega)) _) | (refine Below.setCell ?_ (by first | (simp; done) | (simp; omega)) _))), fun h => by cases h⟩
                case o4 =>
                  intro x w1 hH K hK
                  have e35 : x 35 = _ := hH.holds 3 (by decide) (by decide +kernel) 35 rfl
                  obtain ⟨xs, d, rfl⟩ := grow_of_below hH.below
                  clear hH
                  try simp only [World.grow_drew] at hK ⊢
                  try simp only [World.grow_grow] at hK ⊢
                  simp only [e35] at hK ⊢
                  clear e35
                  go_simp
                  go_wp2_with fail
                  exact ⟨_, rfl, rfl, (by repeat (first | exact below_of_grow _ _ | exact Below.refl _ _ | exact below_more _ _ _ _ | (simp only [← Array.append_assoc]; first | exact below_more _ _ _ _ | exact below_same _ _ _ | exact Below.refl _ _) | exact below_same _ _ _ | (refine Below.alloc ?_ (by first | (simp; done) | (simp; omega)) _) | (refine Below.grow ?_ (by first | (simp; done) | (simp; omega)) _ _) | refine Below.drew ?_ | refine Below.drewN ?_ _ | (refine Below.putF ?_ (by first | (simp; done) | omega | (simp; omega)) _) | (refine Below.setCell ?_ (by first | (simp; done) | (simp; omega)) _))), fun h => by cases h⟩
                case o5 =>
                  intro x w1 hH K hK
                  have e36 : x 36 = _ := hH.holds 4 (by decide) (by decide +kernel) 36 rfl
                  obtain ⟨xs, d, rfl⟩ := grow_of_below hH.below
                  clear hH
                  try simp only [World.grow_drew] at hK ⊢
                  try simp only [World.grow_grow] at hK ⊢
                  simp only [e36] at hK ⊢
                  clear e36
                  go_simp
                  go_wp2_with fail
                  exact ⟨_, rfl, rfl, (by repeat (first | exact below_of_grow _ _ | exact Below.refl _ _ | exact below_more _ _ _ _ | (simp only [← Array.append_assoc]; first | exact below_more _ _ _ _ | exact below_same _ _ _ | exact Below.refl _ _) | exact below_same _ _ _ | (refine Below.alloc ?_ (by first | (simp; done) | (simp; omega)) _) | (refine Below.grow ?_ (by first | (simp; done) | (simp; omega)) _ _) | refine Below.drew ?_ | refine Below.drewN ?_ _ | (refine Below.putF ?_ (by first | (simp; done) | omega | (simp; omega)) _) | (refine Below.setCell ?_ (by first | (simp; done) | (simp; omega)) _))), fun h => by cases h⟩
                case o6 =>
                  intro x w1 hH K hK
                  have e36 : x 36 = _ := hH.holds 4 (by decide) (by decide +kernel) 36 rfl
                  obtain ⟨xs, d, rfl⟩ := grow_of_below hH.below
                  clear hH
                  try simp only [World.grow_drew] at hK ⊢
                  try simp only [World.grow_grow] at hK ⊢
                  simp only [e36] at hK ⊢
                  clear e36
                  go_simp
                  go_wp2_with fail
                  exact ⟨_, rfl, rfl, (by repeat (first | exact below_of_grow _ _ | exact Below.refl _ _ | exact below_more _ _ _ _ | (simp only [← Array.append_assoc]; first | exact below_more _ _ _ _ | exact below_same _ _ _ | exact Below.refl _ _) | exact below_same _ _ _ | (refine Below.alloc ?_ (by first | (simp; done) | (simp; omega)) _) | (refine Below.grow ?_ (by first | (simp; done) | (simp; omega)) _ _) | refine Below.drew ?_ | refine Below.drewN ?_ _ | (refine Below.putF ?_ (by first | (simp; done) | omega | (simp; omega)) _) | (refine Below.setCell ?_ (by first | (simp; done) | (simp; omega)) _))), fun h => by cases h⟩
                case o7 =>
                  intro x w1 hH K hK
                  have e36 : x 36 = _ := hH.holds 4 (by decide) (by decide +kernel) 36 rfl
                  have e37 : x 37 = _ := hH.holds 5 (by decide) (by decide +kernel) 37 rfl
                  have e38 : x 38 = _ := hH.holds 6 (by decide) (by decide +kernel) 38 rfl
                  obtain ⟨xs, d, rfl⟩ := grow_of_below hH.below
                  clear hH
                  try simp only [World.grow_drew] at hK ⊢
                  try simp only [World.grow_grow] at hK ⊢
                  simp only [e36, e37, e38] at hK ⊢
                  clear e36 e37 e38
                  go_simp
                  go_wp2_with fail
                  exact ⟨_, rfl, rfl, (by repeat (first | exact below_of_grow _ _ | exact Below.refl _ _ | exact below_more _ _ _ _ | (simp only [← Array.append_assoc]; first | exact below_more _ _ _ _ | exact below_same _ _ _ | exact Below.refl _ _) | exact below_same _ _ _ | (refine Below.alloc ?_ (by first | (simp; done) | (simp; omega)) _) | (refine Below.grow ?_ (by first | (simp; done) | (simp; omega)) _ _) | refine Below.drew ?_ | refine Below.drewN ?_ _ | (refine Below.putF ?_ (by first | (simp; done) | omega | (simp; omega)) _) | (refine Below.setCell ?_ (by first | (simp; done) | (simp; omega)) _))), fun h => by cases h⟩
                case o8 =>
                  intro x w1 hH K hK
                  have e36 : x 36 = _ := hH.holds 4 (by decide) (by decide +kernel) 36 rfl
                  have e39 : x 39 = _ := hH.holds 7 (by decide) (by decide +kernel) 39 rfl
                  obtain ⟨xs, d, rfl⟩ := grow_of_below hH.below
                  clear hH
                  try simp only [World.grow_drew] at hK ⊢
                  try simp only [World.grow_grow] at hK ⊢
                  simp only [e36, e39] at hK ⊢
                  clear e36 e39
                  go_simp
                  go_wp2_with fail
                  exact ⟨_, rfl, rfl, (by repeat (first | exact below_of_grow _ _ | exact Below.refl _ _ | exact below_more _ _ _ _ | (simp only [← Array.append_assoc]; first | exact below_more _ _ _ _ | exact below_same _ _ _ | exact Below.refl _ _) | exact below_same _ _ _ | (refine Below.alloc ?_ (by first | (simp; done) | (simp; omega)) _) | (refine Below.grow ?_ (by first | (simp; done) | (simp; omega)) _ _) | refine Below.drew ?_ | refine Below.drewN ?_ _ | (refine Below.putF ?_ (by first | (simp; done) | omega | (simp; omega)) _) | (refine Below.setCell ?_ (by first | (simp; done) | (simp; omega)) _))), fun h => by cases h⟩
                case o9 =>
                  intro x w1 hH K hK
                  have e36 : x 36 = _ := hH.holds 4 (by decide) (by decide +kernel) 36 rfl
                  have e40 : x 40 = _ := hH.holds 8 (by decide) (by decide +kernel) 40 rfl
                  obtain ⟨xs, d, rfl⟩ := grow_of_below hH.below
                  clear hH
                  try simp only [World.grow_drew] at hK ⊢
                  try simp only [World.grow_grow] at hK ⊢
                  simp only [e36, e40] at hK ⊢
                  clear e36 e40
                  go_simp
                  go_wp2_with fail
                  exact ⟨_, rfl, rfl, (by repeat (first | exact below_of_grow _ _ | exact Below.refl _ _ | exact below_more _ _ _ _ | (simp only [← Array.append_assoc]; first | exact below_more _ _ _ _ | exact below_same _ _ _ | exact Below.refl _ _) | exact below_same _ _ _ | (refine Below.alloc ?_ (by first | (simp; done) | (simp; omega)) _) | (refine Below.grow ?_ (by first | (simp; done) | (simp; omega)) _ _) | refine Below.drew ?_ | refine Below.drewN ?_ _ | (refine Below.putF ?_ (by first | (simp; done) | omega | (simp; omega)) _) | (refine Below.setCell ?_ (by first | (simp; done) | (simp; omega)) _))), fun h => by cases h⟩
                case o10 =>
                  intro x w1 hH K hK
                  have e36 : x 36 = _ := hH.holds 4 (by decide) (by decide +kernel) 36 rfl
                  have e41 : x 41 = _ := hH.holds 9 (by decide) (by decide +kernel) 41 rfl
                  obtain ⟨xs, d, rfl⟩ := grow_of_below hH.below
                  clear hH
                  try simp only [World.grow_drew] at hK ⊢
                  try simp only [World.grow_grow] at hK ⊢
                  simp only [e36, e41] at hK ⊢
                  clear e36 e41
                  go_simp
                  go_wp2_with (refine Gives.use (HOF.out _) ?_; intro ys e)
                  exact ⟨_, rfl, rfl, (by first | exact below_more _ _ _ _ | exact (by repeat (first | exact below_of_grow _ _ | exact Below.refl _ _ | exact below_more _ _ _ _ | (simp only [← Array.append_assoc]; first | exact below_more _ _ _ _ | exact below_same _ _ _ | exact Below.refl _ _) | exact below_same _ _ _ | (refine Below.alloc ?_ (by first | (simp; done) | (simp; omega)) _) | (refine Below.grow ?_ (by first | (simp; done) | (simp; omega)) _ _) | refine Below.drew ?_ | refine Below.drewN ?_ _ | (refine Below.putF ?_ (by first | (simp; done) | omega | (simp; omega)) _) | (refine Below.setCell ?_ (by first | (simp; done) | (simp; omega)) _)))), fun h => by cases h⟩
                case o11 =>
                  intro x w1 hH K hK
                  have e36 : x 36 = _ := hH.holds 4 (by decide) (by decide +kernel) 36 rfl
                  obtain ⟨xs, d, rfl⟩ := grow_of_below hH.below
                  clear hH
                  try simp only [World.grow_drew] at hK ⊢
                  try simp only [World.grow_grow] at hK ⊢
                  simp only [e36] at hK ⊢
                  clear e36
                  go_simp
                  go_wp2_with fail
                  exact ⟨_, rfl, rfl, (by repeat (first | exact below_of_grow _ _ | exact Below.refl _ _ | exact below_more _ _ _ _ | (simp only [← Array.append_assoc]; first | exact below_more _ _ _ _ | exact below_same _ _ _ | exact Below.refl _ _) | exact below_same _ _ _ | (refine Below.alloc ?_ (by first | (simp; done) | (simp; omega)) _) | (refine Below.grow ?_ (by first | (simp; done) | (simp; omega)) _ _) | refine Below.drew ?_ | refine Below.drewN ?_ _ | (refine Below.putF ?_ (by first | (simp; done) | omega | (simp; omega)) _) | (refine Below.setCell ?_ (by first | (simp; done) | (simp; omega)) _))), fun h => by cases h⟩
                case o12 =>
                  intro x w1 hH K hK
                  have e36 : x 36 = _ := hH.holds 4 (by decide) (by decide +kernel) 36 rfl
                  have e43 : x 43 = _ := hH.holds 11 (by decide) (by decide +kernel) 43 rfl
                  obtain ⟨xs, d, rfl⟩ := grow_of_below hH.below
                  clear hH
                  try simp only [World.grow_drew] at hK ⊢
                  try simp only [World.grow_grow] at hK ⊢
                  simp only [e36, e43] at hK ⊢
                  clear e36 e43
                  go_simp
                  go_wp2_with fail
                  exact ⟨_, rfl, rfl, (by repeat (first | exact below_of_grow _ _ | exact Below.refl _ _ | exact below_more _ _ _ _ | (simp only [← Array.append_assoc]; first | exact below_more _ _ _ _ | exact below_same _ _ _ | exact Below.refl _ _) | exact below_same _ _ _ | (refine Below.alloc ?_ (by first | (simp; done) | (simp; omega)) _) | (refine Below.grow ?_ (by first | (simp; done) | (simp; omega)) _ _) | refine Below.drew ?_ | refine Below.drewN ?_ _ | (refine Below.putF ?_ (by first | (simp; done) | omega | (simp; omega)) _) | (refine Below.setCell ?_ (by first | (simp; done) | (simp; omega)) _))), fun h => by cases h⟩
                case o13 =>
                  intro x w1 hH K hK
                  have e36 : x 36 = _ := hH.holds 4 (by decide) (by decide +kernel) 36 rfl
                  have e44 : x 44 = _ := hH.holds 12 (by decide) (by decide +kernel) 44 rfl
                  obtain ⟨xs, d, rfl⟩ := grow_of_below hH.below
                  clear hH
                  try simp only [World.grow_drew] at hK ⊢
                  try simp only [World.grow_grow] at hK ⊢
                  simp only [e36, e44] at hK ⊢
                  clear e36 e44
                  go_simp
                  go_wp2_with (refine Gives.use (HOFC.out _) ?_; intro ys e)
                  exact ⟨_, rfl, rfl, (by first | exact below_more _ _ _ _ | exact (by repeat (first | exact below_of_grow _ _ | exact Below.refl _ _ | exact below_more _ _ _ _ | (simp only [← Array.append_assoc]; first | exact below_more _ _ _ _ | exact below_same _ _ _ | exact Below.refl _ _) | exact below_same _ _ _ | (refine Below.alloc ?_ (by first | (simp; done) | (simp; omega)) _) | (refine Below.grow ?_ (by first | (simp; done) | (simp; omega)) _ _) | refine Below.drew ?_ | refine Below.drewN ?_ _ | (refine Below.putF ?_ (by first | (simp; done) | omega | (simp; omega)) _) | (refine Below.setCell ?_ (by first | (simp; done) | (simp; omega)) _)))), fun h => by cases h⟩
                case o14 =>
                  intro x w1 hH K hK
                  have e36 : x 36 = _ := hH.holds 4 (by decide) (by decide +kernel) 36 rfl
                  have e42 : x 42 = _ := hH.holds 10 (by decide) (by decide +kernel) 42 rfl
                  have e45 : x 45 = _ := hH.holds 13 (by decide) (by decide +kernel) 45 rfl
                  obtain ⟨xs, d, rfl⟩ := grow_of_below hH.below
                  clear hH
                  try simp only [World.grow_drew] at hK ⊢
                  try simp only [World.grow_grow] at hK ⊢
                  simp only [e36, e42, e45] at hK ⊢
                  clear e36 e42 e45
                  go_simp
                  go_wp2_with (refine Gives.use (HL.out _) ?_; intro ys e)
                  exact ⟨_, rfl, rfl, (by first | exact below_more _ _ _ _ | exact (by repeat (first | exact below_of_grow _ _ | exact Below.refl _ _ | exact below_more _ _ _ _ | (simp only [← Array.append_assoc]; first | exact below_more _ _ _ _ | exact below_same _ _ _ | exact Below.refl _ _) | exact below_same _ _ _ | (refine Below.alloc ?_ (by first | (simp; done) | (simp; omega)) _) | (refine Below.grow ?_ (by first | (simp; done) | (simp; omega)) _ _) | refine Below.drew ?_ | refine Below.drewN ?_ _ | (refine Below.putF ?_ (by first | (simp; done) | omega | (simp; omega)) _) | (refine Below.setCell ?_ (by first | (simp; done) | (simp; omega)) _)))), fun h => by cases h⟩
                case o15 =>
                  intro x w1 hH K hK
                  have e36 : x 36 = _ := hH.holds 4 (by decide) (by decide +kernel) 36 rfl
                  have e46 : x 46 = _ := hH.holds 14 (by decide) (by decide +kernel) 46 rfl
                  obtain ⟨xs, d, rfl⟩ := grow_of_below hH.below
                  clear hH
                  try simp only [World.grow_drew] at hK ⊢
                  try simp only [World.grow_grow] at hK ⊢
                  simp only [e36, e46] at hK ⊢
                  clear e36 e46
                  go_simp
                  go_wp2_with fail
                  exact ⟨_, rfl, rfl, (by repeat (first | exact below_of_grow _ _ | exact Below.refl _ _ | exact below_more _ _ _ _ | (simp only [← Array.append_assoc]; first | exact below_more _ _ _ _ | exact below_same _ _ _ | exact Below.refl _ _) | exact below_same _ _ _ | (refine Below.alloc ?_ (by first | (simp; done) | (simp; omega)) _) | (refine Below.grow ?_ (by first | (simp; done) | (simp; omega)) _ _) | refine Below.drew ?_ | refine Below.drewN ?_ _ | (refine Below.putF ?_ (by first | (simp; done) | omega | (simp; omega)) _) | (refine Below.setCell ?_ (by first | (simp; done) | (simp; omega)) _))), fun h => by cases h⟩
              case hend =>
                intro x w1 hH
                have e32 : x 32 = _ := hH.holds 0 (by decide) trivial 32 rfl
                have e33 : x 33 = _ := hH.holds 1 (by decide) trivial 33 rfl
                have e34 : x 34 = _ := hH.holds 2 (by decide) trivial 34 rfl
                have e35 : x 35 = _ := hH.holds 3 (by decide) trivial 35 rfl
                have e36 : x 36 = _ := hH.holds 4 (by decide) trivial 36 rfl
                have e37 : x 37 = _ := hH.holds 5 (by decide) trivial 37 rfl
                have e38 : x 38 = _ := hH.holds 6 (by decide) trivial 38 rfl
                have e39 : x 39 = _ := hH.holds 7 (by decide) trivial 39 rfl
                have e40 : x 40 = _ := hH.holds 8 (by decide) trivial 40 rfl
                have e41 : x 41 = _ := hH.holds 9 (by decide) trivial 41 rfl
                have e42 : x 42 = _ := hH.holds 10 (by decide) trivial 42 rfl
                have e43 : x 43 = _ := hH.holds 11 (by decide) trivial 43 rfl
                have e44 : x 44 = _ := hH.holds 12 (by decide) trivial 44 rfl
                have e45 : x 45 = _ := hH.holds 13 (by decide) trivial 45 rfl
                have e46 : x 46 = _ := hH.holds 14 (by decide) trivial 46 rfl
                have e47 : x 47 = _ := hH.holds 15 (by decide) trivial 47 rfl
                obtain ⟨xs, d, rfl⟩ := grow_of_below hH.below
                clear hH
                simp only [e32, e33, e34, e35, e36, e37, e38, e39, e40, e41, e42, e43, e44, e45, e46, e47]; clear e32 e33 e34 e35 e36 e37 e38 e39 e40 e41 e42 e43 e44 e45 e46 e47
                simp only [List.drop_succ_cons, List.drop_nil]
                cases bb with
                | true =>
                  go_wp2_with fail
                  go_roundw
                  case rel =>
                    refine ⟨j + 1, _, _, by go_num, by omega, Lib.hid (fun i x hi hx => ?_), rfl⟩
                    rcases Nat.lt_or_ge i j with h | h
                    · exact hall.out i x h hx
                    · obtain rfl : i = j := by omega
                      rw [List.getElem?_eq_getElem hjl] at hx
                      cases hx; exact HBB.out
                  case measure => simp [intOf]; omega
                | false =>
                  go_wp2_with fail
                  go_meet
                  refine ⟨?_, ?_⟩
                  · unfold placeOf
                    rw [takeWhile_place _ R j hj (fun i x hi hx => hall.out i x hi hx) (fun x hx => by rw [List.getElem?_eq_getElem hjl] at hx; cases hx; exact HBB.out)]
                  · exact ⟨_, _, by rw [World.grow_drew, World.grow_grow]⟩
            · have hje : j = R.length := by omega
              have hg : decide ((j : Int) < R.length) = false := by simp; omega
              go_wp2_with fail
              go_quiet (fail)
              go_wp2_with fail
              go_meet
              refine ⟨?_, ?_⟩
              · unfold placeOf
                rw [takeWhile_place _ R j hj (fun i x hi hx => hall.out i x hi hx) (fun x hx => by rw [List.getElem?_eq_none (by omega)] at hx; cases hx)]
              · exact ⟨_, _, rfl⟩
        case rest =>
        obtain ⟨rfl, xs1, d1, rfl⟩ := hcut
        have hple := placeOf_le R c.k
        have hdup : dup R c.k = decide ((R[placeOf R c.k]?).map (·.k) = some c.k) := rfl
        have hro : riseOne R c = if dup R c.k = true then R else R.take (placeOf R c.k) ++ [c] ++ R.drop (placeOf R c.k) := rfl
        generalize placeOf R c.k = p at *
        have HRO := Lib.hid hro
        have HDUP := Lib.hid hdup
        clear hro hdup
        go_upto_region 10 with fail
        go_cut [63] (fun s63 wx => s63 = .bool (dup R c.k) ∧ ∃ xs d, wx = W.grow xs d)
        case first =>
          by_cases hjl : p < R.length
          · obtain ⟨_, a, cap, he, _, _, hc⟩ := HSW.out
            simp only [Value.slice.injEq, List.length_map, true_and] at he
            obtain ⟨rfl, rfl⟩ := he
            obtain ⟨b3, o3, rfl, hlb3, hcut⟩ := hc (by simp; omega)
            have hcutj := hcut p (entA R[p]) (by simp [hjl])
            have hcutk := cut_sub (i := 0) (m := 25) hcutj (by decide)
            rw [Nat.add_zero, entA_key] at hcutk
            have hg : decide ((p : Int) < R.length) = true := by simp; omega
            have hlbW : b3 < W.heap.size := by omega
            have hdp : dup R c.k = decide (R[p].k = c.k) := by rw [HDUP.out, List.getElem?_eq_getElem hjl]; simp
            have HDP := Lib.hid hdp
            clear hcut hc hcutj hdp
            go_wp2_with fail
            apply wp_region_specs (by rfl) [.val _, .val _, .val _, .val _, .val _, .val _, .val _, .val _, .val _, .val _, .val _, .val _, .val _, .val _] 14 (by rfl) [50, 51, 52, 53, 54, 55, 56, 57, 58, 59, 60, 61, 62, 63] [] [] (by rfl) (by rfl) (by decide) (by decide +kernel) (fun _ _ _ _ _ h => h)
            case hF => intro x; simp only [over, List.foldl_cons, List.foldl_nil, List.setIfInBounds_toArray, List.set_cons_succ, List.set_cons_zero]; exact rfl
            case hops =>
              refine ⟨?o0, ?o1, ?o2, ?o3, ?o4, ?o5, ?o6, ?o7, ?o8, ?o9, ?o10, ?o11, ?o12, ?o13, trivial⟩
              case o0 =>
                intro x w1 hH K hK
                obtain ⟨xs, d, rfl⟩ := grow_of_below hH.below
                clear hH
                try simp only [World.grow_drew] at hK ⊢
                try simp only [World.grow_grow] at hK ⊢
                go_simp
                go_wp2_with fail
                exact ⟨_, rfl, rfl, (by repeat (first | exact below_of_grow _ _ | exact Below.refl _ _ | exact below_more _ _ _ _ | (simp only [← Array.append_assoc]; first | exact below_more _ _ _ _ | exact below_same _ _ _ | exact Below.refl _ _) | exact below_same _ _ _ | (refine Below.alloc ?_ (by first | (simp; done) | (simp; omega)) _) | (refine Below.grow ?_ (by first | (simp; done) | (simp; omega)) _ _) | refine Below.drew ?_ | refine Below.drewN ?_ _ | (refine Below.putF ?_ (by first | (simp; done) | omega | (simp; omega)) _) | (refine Below.setCell ?_ (by first | (simp; done) | (simp; omega)) _))), fun h => by cases h⟩
              case o1 =>
                intro x w1 hH K hK
                obtain ⟨xs, d, rfl⟩ := grow_of_below hH.below
                clear hH
                try simp only [World.grow_drew] at hK ⊢
                try simp only [World.grow_grow] at hK ⊢
                go_simp
                go_wp2_with fail
                exact ⟨_, rfl, rfl, (by repeat (first | exact below_of_grow _ _ | exact Below.refl _ _ | exact below_more _ _ _ _ | (simp only [← Array.append_assoc]; first | exact below_more _ _ _ _ | exact below_same _ _ _ | exact Below.refl _ _) | exact below_same _ _ _ | (refine Below.alloc ?_ (by first | (simp; done) | (simp; omega)) _) | (refine Below.grow ?_ (by first | (simp; done) | (simp; omega)) _ _) | refine Below.drew ?_ | refine Below.drewN ?_ _ | (refine Below.putF ?_ (by first | (simp; done) | omega | (simp; omega)) _) | (refine Below.setCell ?_ (by first | (simp; done) | (simp; omega)) _))), fun h => by cases h⟩
              case o2 =>
                intro x w1 hH K hK
                have e51 : x 51 = _ := hH.holds 1 (by decide) (by decide +kernel) 51 rfl
                obtain ⟨xs, d, rfl⟩ := grow_of_below hH.below
                clear hH
                try simp only [World.grow_drew] at hK ⊢
                try simp only [World.grow_grow] at hK ⊢
                simp only [e51] at hK ⊢
                clear e51
                go_simp
                go_wp2_with fail
                exact ⟨_, rfl, rfl, (by repeat (first | exact below_of_grow _ _ | exact Below.refl _ _ | exact below_more _ _ _ _ | (simp only [← Array.append_assoc]; first | exact below_more _ _ _ _ | exact below_same _ _ _ | exact Below.refl _ _) | exact below_same _ _ _ | (refine Below.alloc ?_ (by first | (simp; done) | (simp; omega)) _) | (refine Below.grow ?_ (by first | (simp; done) | (simp; omega)) _ _) | refine Below.drew ?_ | refine Below.drewN ?_ _ | (refine Below.putF ?_ (by first | (simp; done) | omega | (simp; omega)) _) | (refine Below.setCell ?_ (by first | (simp; done) | (simp; omega)) _))), fun h => by cases h⟩
              case o3 =>
                intro x w1 hH K hK
                have e50 : x 50 = _ := hH.holds 0 (by decide) (by decide +kernel) 50 rfl
                have e52 : x 52 = _ := hH.holds 2 (by decide) (by decide +kernel) 52 rfl
                obtain ⟨xs, d, rfl⟩ := grow_of_below hH.below
                clear hH
                try simp only [World.grow_drew] at hK ⊢
                try simp only [World.grow_grow] at hK ⊢
                simp only [e50, e52] at hK ⊢
                clear e50 e52
                go_simp
                go_wp2_with fail
                exact ⟨_, rfl, rfl, (by repeat (first | exact below_of_grow _ _ | exact Below.refl _ _ | exact below_more _ _ _ _ | (simp only [← Array.append_assoc]; first | exact below_more _ _ _ _ | exact below_same _ _ _ | exact Below.refl _ _) | exact below_same _ _ _ | (refine Below.alloc ?_ (by first | (simp; done) | (simp; omega)) _) | (refine Below.grow ?_ (by first | (simp; done) | (simp; omega)) _ _) | refine Below.drew ?_ | refine Below.drewN ?_ _ | (refine Below.putF ?_ (by first | (simp; done) | omega | (simp; omega)) _) | (refine Below.setCell ?_ (by first | (simp; done) | (simp; omega)) _))), fun h => by cases h⟩
              case o4 =>
                intro x w1 hH K hK
                have e53 : x 53 = _ := hH.holds 3 (by decide) (by decide +kernel) 53 rfl
                obtain ⟨xs, d, rfl⟩ := grow_of_below hH.below
                clear hH
                try simp only [World.grow_drew] at hK ⊢
                try simp only [World.grow_grow] at hK ⊢
                simp only [e53] at hK ⊢
                clear e53
                go_simp
                go_wp2_with fail
                exact ⟨_, rfl, rfl, (by repeat (first | exact below_of_grow _ _ | exact Below.refl _ _ | exact below_more _ _ _ _ | (simp only [← Array.append_assoc]; first | exact below_more _ _ _ _ | exact below_same _ _ _ | exact Below.refl _ _) | exact below_same _ _ _ | (refine Below.alloc ?_ (by first | (simp; done) | (simp; omega)) _) | (refine Below.grow ?_ (by first | (simp; done) | (simp; omega)) _ _) | refine Below.drew ?_ | refine Below.drewN ?_ _ | (refine Below.putF ?_ (by first | (simp; done) | omega | (simp; omega)) _) | (refine Below.setCell ?_ (by first | (simp; done) | (simp; omega)) _))), fun h => by cases h⟩
              case o5 =>
                intro x w1 hH K hK
                have e54 : x 54 = _ := hH.holds 4 (by decide) (by decide +kernel) 54 rfl
                obtain ⟨xs, d, rfl⟩ := grow_of_below hH.below
                clear hH
                try simp only [World.grow_drew] at hK ⊢
                try simp only [World.grow_grow] at hK ⊢
                simp only [e54] at hK ⊢
                clear e54
                go_simp
                go_wp2_with fail
                exact ⟨_, rfl, rfl, (by repeat (first | exact below_of_grow _ _ | exact Below.refl _ _ | exact below_more _ _ _ _ | (simp only [← Array.append_assoc]; first | exact below_more _ _ _ _ | exact below_same _ _ _ | exact Below.refl _ _) | exact below_same _ _ _ | (refine Below.alloc ?_ (by first | (simp; done) | (simp; omega)) _) | (refine Below.grow ?_ (by first | (simp; done) | (simp; omega)) _ _) | refine Below.drew ?_ | refine Below.drewN ?_ _ | (refine Below.putF ?_ (by first | (simp; done) | omega | (simp; omega)) _) | (refine Below.setCell ?_ (by first | (simp; done) | (simp; omega)) _))), fun h => by cases h⟩
              case o6 =>
                intro x w1 hH K hK
                have e54 : x 54 = _ := hH.holds 4 (by decide) (by decide +kernel) 54 rfl
                obtain ⟨xs, d, rfl⟩ := grow_of_below hH.below
                clear hH
                try simp only [World.grow_drew] at hK ⊢
                try simp only [World.grow_grow] at hK ⊢
                simp only [e54] at hK ⊢
                clear e54
                go_simp
                go_wp2_with fail
                exact ⟨_, rfl, rfl, (by repeat (first | exact below_of_grow _ _ | exact Below.refl _ _ | exact below_more _ _ _ _ | (simp only [← Array.append_assoc]; first | exact below_more _ _ _ _ | exact below_same _ _ _ | exact Below.refl _ _) | exact below_same _ _ _ | (refine Below.alloc ?_ (by first | (simp; done) | (simp; omega)) _) | (refine Below.grow ?_ (by first | (simp; done) | (simp; omega)) _ _) | refine Below.drew ?_ | refine Below.drewN ?_ _ | (refine Below.putF ?_ (by first | (simp; done) | omega | (simp; omega)) _) | (refine Below.setCell ?_ (by first | (simp; done) | (simp; omega)) _))), fun h => by cases h⟩
              case o7 =>
                intro x w1 hH K hK
                have e54 : x 54 = _ := hH.holds 4 (by decide) (by decide +kernel) 54 rfl
                have e55 : x 55 = _ := hH.holds 5 (by decide) (by decide +kernel) 55 rfl
                have e56 : x 56 = _ := hH.holds 6 (by decide) (by decide +kernel) 56 rfl
                obtain ⟨xs, d, rfl⟩ := grow_of_below hH.below
                clear hH
                try simp only [World.grow_drew] at hK ⊢
                try simp only [World.grow_grow] at hK ⊢
                simp only [e54, e55, e56] at hK ⊢
                clear e54 e55 e56
                go_simp
                go_wp2_with fail
                exact ⟨_, rfl, rfl, (by repeat (first | exact below_of_grow _ _ | exact Below.refl _ _ | exact below_more _ _ _ _ | (simp only [← Array.append_assoc]; first | exact below_more _ _ _ _ | exact below_same _ _ _ | exact Below.refl _ _) | exact below_same _ _ _ | (refine Below.alloc ?_ (by first | (simp; done) | (simp; omega)) _) | (refine Below.grow ?_ (by first | (simp; done) | (simp; omega)) _ _) | refine Below.drew ?_ | refine Below.drewN ?_ _ | (refine Below.putF ?_ (by first | (simp; done) | omega | (simp; omega)) _) | (refine Below.setCell ?_ (by first | (simp; done) | (simp; omega)) _))), fun h => by cases h⟩
              case o8 =>
                intro x w1 hH K hK
                have e54 : x 54 = _ := hH.holds 4 (by decide) (by decide +kernel) 54 rfl
                have e57 : x 57 = _ := hH.holds 7 (by decide) (by decide +kernel) 57 rfl
                obtain ⟨xs, d, rfl⟩ := grow_of_below hH.below
                clear hH
                try simp only [World.grow_drew] at hK ⊢
                try simp only [World.grow_grow] at hK ⊢
                simp only [e54, e57] at hK ⊢
                clear e54 e57
                go_simp
                go_wp2_with fail
                exact ⟨_, rfl, rfl, (by repeat (first | exact below_of_grow _ _ | exact Below.refl _ _ | exact below_more _ _ _ _ | (simp only [← Array.append_assoc]; first | exact below_more _ _ _ _ | exact below_same _ _ _ | exact Below.refl _ _) | exact below_same _ _ _ | (refine Below.alloc ?_ (by first | (simp; done) | (simp; omega)) _) | (refine Below.grow ?_ (by first | (simp; done) | (simp; omega)) _ _) | refine Below.drew ?_ | refine Below.drewN ?_ _ | (refine Below.putF ?_ (by first | (simp; done) | omega | (simp; omega)) _) | (refine Below.setCell ?_ (by first | (simp; done) | (simp; omega)) _))), fun h => by cases h⟩
              case o9 =>
                intro x w1 hH K hK
                have e54 : x 54 = _ := hH.holds 4 (by decide) (by decide +kernel) 54 rfl
                have e58 : x 58 = _ := hH.holds 8 (by decide) (by decide +kernel) 58 rfl
                obtain ⟨xs, d, rfl⟩ := grow_of_below hH.below
                clear hH
                try simp only [World.grow_drew] at hK ⊢
                try simp only [World.grow_grow] at hK ⊢
                simp only [e54, e58] at hK ⊢
                clear e54 e58
                go_simp
                go_wp2_with fail
                exact ⟨_, rfl, rfl, (by repeat (first | exact below_of_grow _ _ | exact Below.refl _ _ | exact below_more _ _ _ _ | (simp only [← Array.append_assoc]; first | exact below_more _ _ _ _ | exact below_same _ _ _ | exact Below.refl _ _) | exact below_same _ _ _ | (refine Below.alloc ?_ (by first | (simp; done) | (simp; omega)) _) | (refine Below.grow ?_ (by first | (simp; done) | (simp; omega)) _ _) | refine Below.drew ?_ | refine Below.drewN ?_ _ | (refine Below.putF ?_ (by first | (simp; done) | omega | (simp; omega)) _) | (refine Below.setCell ?_ (by first | (simp; done) | (simp; omega)) _))), fun h => by cases h⟩
              case o10 =>
                intro x w1 hH K hK
                have e54 : x 54 = _ := hH.holds 4 (by decide) (by decide +kernel) 54 rfl
                obtain ⟨xs, d, rfl⟩ := grow_of_below hH.below
                clear hH
                try simp only [World.grow_drew] at hK ⊢
                try simp only [World.grow_grow] at hK ⊢
                simp only [e54] at hK ⊢
                clear e54
                go_simp
                go_wp2_with fail
                exact ⟨_, rfl, rfl, (by repeat (first | exact below_of_grow _ _ | exact Below.refl _ _ | exact below_more _ _ _ _ | (simp only [← Array.append_assoc]; first | exact below_more _ _ _ _ | exact below_same _ _ _ | exact Below.refl _ _) | exact below_same _ _ _ | (refine Below.alloc ?_ (by first | (simp; done) | (simp; omega)) _) | (refine Below.grow ?_ (by first | (simp; done) | (simp; omega)) _ _) | refine Below.drew ?_ | refine Below.drewN ?_ _ | (refine Below.putF ?_ (by first | (simp; done) | omega | (simp; omega)) _) | (refine Below.setCell ?_ (by first | (simp; done) | (simp; omega)) _))), fun h => by cases h⟩
              case o11 =>
                intro x w1 hH K hK
                have e54 : x 54 = _ := hH.holds 4 (by decide) (by decide +kernel) 54 rfl
                have e60 : x 60 = _ := hH.holds 10 (by decide) (by decide +kernel) 60 rfl
                obtain ⟨xs, d, rfl⟩ := grow_of_below hH.below
                clear hH
                try simp only [World.grow_drew] at hK ⊢
                try simp only [World.grow_grow] at hK ⊢
                simp only [e54, e60] at hK ⊢
                clear e54 e60
                go_simp
                go_wp2_with fail
                exact ⟨_, rfl, rfl, (by repeat (first | exact below_of_grow _ _ | exact Below.refl _ _ | exact below_more _ _ _ _ | (simp only [← Array.append_assoc]; first | exact below_more _ _ _ _ | exact below_same _ _ _ | exact Below.refl _ _) | exact below_same _ _ _ | (refine Below.alloc ?_ (by first | (simp; done) | (simp; omega)) _) | (refine Below.grow ?_ (by first | (simp; done) | (simp; omega)) _ _) | refine Below.drew ?_ | refine Below.drewN ?_ _ | (refine Below.putF ?_ (by first | (simp; done) | omega | (simp; omega)) _) | (refine Below.setCell ?_ (by first | (simp; done) | (simp; omega)) _))), fun h => by cases h⟩
              case o12 =>
                intro x w1 hH K hK
                have e54 : x 54 = _ := hH.holds 4 (by decide) (by decide +kernel) 54 rfl
                have e59 : x 59 = _ := hH.holds 9 (by decide) (by decide +kernel) 59 rfl
                have e61 : x 61 = _ := hH.holds 11 (by decide) (by decide +kernel) 61 rfl
                obtain ⟨xs, d, rfl⟩ := grow_of_below hH.below
                clear hH
                try simp only [World.grow_drew] at hK ⊢
                try simp only [World.grow_grow] at hK ⊢
                simp only [e54, e59, e61] at hK ⊢
                clear e54 e59 e61
                go_simp
                go_wp2_with fail
                exact ⟨_, rfl, rfl, (by repeat (first | exact below_of_grow _ _ | exact Below.refl _ _ | exact below_more _ _ _ _ | (simp only [← Array.append_assoc]; first | exact below_more _ _ _ _ | exact below_same _ _ _ | exact Below.refl _ _) | exact below_same _ _ _ | (refine Below.alloc ?_ (by first | (simp; done) | (simp; omega)) _) | (refine Below.grow ?_ (by first | (simp; done) | (simp; omega)) _ _) | refine Below.drew ?_ | refine Below.drewN ?_ _ | (refine Below.putF ?_ (by first | (simp; done) | omega | (simp; omega)) _) | (refine Below.setCell ?_ (by first | (simp; done) | (simp; omega)) _))), fun h => by cases h⟩
              case o13 =>
                intro x w1 hH K hK
                have e54 : x 54 = _ := hH.holds 4 (by decide) (by decide +kernel) 54 rfl
                have e62 : x 62 = _ := hH.holds 12 (by decide) (by decide +kernel) 62 rfl
                obtain ⟨xs, d, rfl⟩ := grow_of_below hH.below
                clear hH
                try simp only [World.grow_drew] at hK ⊢
                try simp only [World.grow_grow] at hK ⊢
                simp only [e54, e62] at hK ⊢
                clear e54 e62
                go_simp
                go_wp2_with fail
                exact ⟨_, rfl, rfl, (by repeat (first | exact below_of_grow _ _ | exact Below.refl _ _ | exact below_more _ _ _ _ | (simp only [← Array.append_assoc]; first | exact below_more _ _ _ _ | exact below_same _ _ _ | exact Below.refl _ _) | exact below_same _ _ _ | (refine Below.alloc ?_ (by first | (simp; done) | (simp; omega)) _) | (refine Below.grow ?_ (by first | (simp; done) | (simp; omega)) _ _) | refine Below.drew ?_ | refine Below.drewN ?_ _ | (refine Below.putF ?_ (by first | (simp; done) | omega | (simp; omega)) _) | (refine Below.setCell ?_ (by first | (simp; done) | (simp; omega)) _))), fun h => by cases h⟩
            case hend =>
              intro x w1 hH
              have e50 : x 50 = _ := hH.holds 0 (by decide) trivial 50 rfl
              have e51 : x 51 = _ := hH.holds 1 (by decide) trivial 51 rfl
              have e52 : x 52 = _ := hH.holds 2 (by decide) trivial 52 rfl
              have e53 : x 53 = _ := hH.holds 3 (by decide) trivial 53 rfl
              have e54 : x 54 = _ := hH.holds 4 (by decide) trivial 54 rfl
              have e55 : x 55 = _ := hH.holds 5 (by decide) trivial 55 rfl
              have e56 : x 56 = _ := hH.holds 6 (by decide) trivial 56 rfl
              have e57 : x 57 = _ := hH.holds 7 (by decide) trivial 57 rfl
              have e58 : x 58 = _ := hH.holds 8 (by decide) trivial 58 rfl
              have e59 : x 59 = _ := hH.holds 9 (by decide) trivial 59 rfl
              have e60 : x 60 = _ := hH.holds 10 (by decide) trivial 60 rfl
              have e61 : x 61 = _ := hH.holds 11 (by decide) trivial 61 rfl
              have e62 : x 62 = _ := hH.holds 12 (by decide) trivial 62 rfl
              have e63 : x 63 = _ := hH.holds 13 (by decide) trivial 63 rfl
              obtain ⟨xs, d, rfl⟩ := grow_of_below hH.below
              clear hH
              simp only [e50, e51, e52, e53, e54, e55, e56, e57, e58, e59, e60, e61, e62, e63]; clear e50 e51 e52 e53 e54 e55 e56 e57 e58 e59 e60 e61 e62 e63
              simp only [List.drop_succ_cons, List.drop_nil]
              go_wp2_with fail
              go_meet
              exact ⟨by rw [HDP.out, k25_beq], _, _, by rw [World.grow_drew, World.grow_grow]⟩
          · have hg : decide ((p : Int) < R.length) = false := by simp; omega
            have hdp : dup R c.k = false := by rw [HDUP.out, List.getElem?_eq_none (by omega)]; simp
            have HDP := Lib.hid hdp
            clear hdp
            go_wp2_with fail
            go_quiet (fail)
            go_wp2_with fail
            go_meet
            exact ⟨by rw [HDP.out], _, _, rfl⟩
        case rest =>
        obtain ⟨rfl, xs2, d2, rfl⟩ := hcut
        have hro := HRO.out
        cases hdd : dup R c.k with
        | true =>
          rw [hdd, if_pos rfl] at hro
          have HR2 := Lib.hid hro
          clear hro hdd
          go_wp2_with fail
          go_roundw
          case rel =>
            refine ⟨k + 1, by omega, by omega, by go_num, (HWW.out).trans ((below_of_grow _ _).mono (by omega)), ?_⟩
            rw [HSUCC.out, HR2.out]
            exact HOW.out.grow _ _
          case measure => simp [intOf]; omega
        | false =>
          rw [hdd, if_neg (by decide)] at hro
          have HR2 := Lib.hid hro
          clear hro hdd
          have hpc : p ≤ cap3 := by omega
          have hplR : (p : Int) ≤ R.length := by omega
          go_wp2_with fail
          have hnp : p ≤ (R.map entA).length := by rw [List.length_map]; exact hple
          have hslW := HSW.out
          rw [show R.length = (R.map entA).length by simp] at hslW
          have HTK := Lib.hid (hslW.take hnp)
          have hdr := hslW.drop hnp
          rw [List.length_map] at hdr
          have HDR := Lib.hid hdr
          clear hslW hnp hdr
          have h1 : ∀ x ∈ (R.map entA).take p, allOne x = true := by intro x hx; obtain ⟨y, _, rfl⟩ := List.mem_map.1 (List.mem_of_mem_take hx); exact one_entA y
          have h2 : ∀ x ∈ (R.map entA).drop p, allOne x = true := by intro x hx; obtain ⟨y, _, rfl⟩ := List.mem_map.1 (List.mem_of_mem_drop hx); exact one_entA y
          have H1 := Lib.hid h1
          have H2 := Lib.hid h2
          clear h1 h2
          have hWsz := HWW.out.size
          have e2 : (W.grow xs2 (d2 + 1)).cut? wr.heap.size 0 34 = some (entA c) := by rw [cut_grow _ _ _ _ _ hWs]; exact hWe
          have e1 : ((W.grow xs2 (d2 + 1)).alloc (.cells #[] 43)).cut? wr.heap.size 0 34 = some (entA c) := by rw [cut_alloc_past _ _ _ _ (by simp; omega)]; exact e2
          go_region_law (first
            | (refine step_append (o := ⟨some 68, _, _, _, _, _⟩) (B := w.heap.size) (xs := []) (ys := (R.map entA).take p) row_ent rfl (.tmp 64) (.tmp 67) rfl (v := _) rfl ?_ (y := _) rfl ?_ H1.out ?_ ?_ ?_
               · exact own_empty (by repeat (first | exact (heap_al _ _ _).trans (if_pos (by simp; done)) | refine (heap_al _ _ _).trans ((if_neg (by simp; done)).trans ?_))) (by first | omega | (simp; omega))
               · refine ⟨wr.heap.size, ?_⟩; repeat (first | exact HTK.out | refine SlA.alloc ?_ _ (by simp; omega) | refine SlA.grow ?_ _ _ (by omega))
               · first | omega | (simp; omega)
               · first | omega | (simp; omega)
               intro v1 w1 ho1 hg1 hl1
               have k1 : ∀ k, k < W.heap.size → w1.heap[k]? = W.heap[k]? := fun k hk => (hg1.block k (by simp; omega) (by simp [Value.ownBlock, Act.eval]; omega)).trans (Below.block (B := W.heap.size) (w := W) (by repeat (first | exact below_of_grow _ _ | exact Below.refl _ _ | exact below_more _ _ _ _ | (simp only [← Array.append_assoc]; first | exact below_more _ _ _ _ | exact below_same _ _ _ | exact Below.refl _ _) | exact below_same _ _ _ | (refine Below.alloc ?_ (by first | (simp; done) | (simp; omega)) _) | (refine Below.grow ?_ (by first | (simp; done) | (simp; omega)) _ _) | refine Below.drew ?_ | refine Below.drewN ?_ _ | (refine Below.putF ?_ (by first | (simp; done) | omega | (simp; omega)) _) | (refine Below.setCell ?_ (by first | (simp; done) | (simp; omega)) _))) k hk)
               have c1 : w1.cut? wr.heap.size 0 34 = some (entA c) := (cut_of_heap (k1 _ hWs) _ _).trans hWe
               have z1 := hg1.size
               simp at z1
               have bw1 : Below w.heap.size w w1 := Below.grown (HWW.out.trans ((show Below W.heap.size W _ from (by repeat (first | exact below_of_grow _ _ | exact Below.refl _ _ | exact below_more _ _ _ _ | (simp only [← Array.append_assoc]; first | exact below_more _ _ _ _ | exact below_same _ _ _ | exact Below.refl _ _) | exact below_same _ _ _ | (refine Below.alloc ?_ (by first | (simp; done) | (simp; omega)) _) | (refine Below.grow ?_ (by first | (simp; done) | (simp; omega)) _ _) | refine Below.drew ?_ | refine Below.drewN ?_ _ | (refine Below.putF ?_ (by first | (simp; done) | omega | (simp; omega)) _) | (refine Below.setCell ?_ (by first | (simp; done) | (simp; omega)) _)))).mono hWsz)) hg1 (by first | omega | (simp; omega)) (fun q hq => by simp [Value.ownBlock, Act.eval] at hq; omega))
            | (refine step_append (o := ⟨some 71, _, _, _, _, _⟩) (B := w.heap.size) (xs := (R.map entA).take p) (ys := [entA c]) row_ent rfl (.tmp 68) (.tmp 70) rfl (v := _) rfl ?_ (y := _) rfl ?_ ?_ ?_ ?_ ?_
               · repeat (first | exact ho1 | refine OwnA.alloc ?_ _)
               · refine ⟨_, sl_one (Nat.le_refl _) (by decide) ?_⟩
                 first
                   | exact cut_heap ((heap_al _ _ _).trans (if_pos (by simp; done))) (entA_size _)
                   | exact cut_heap ((hg1.block _ (by first | (simp; done) | (simp; omega)) (by simp [Value.ownBlock, Act.eval])).trans (by repeat (first | exact (heap_al _ _ _).trans (if_pos (by simp; done)) | refine (heap_al _ _ _).trans ((if_neg (by simp; done)).trans ?_)))) (entA_size _)
               · intro x hx; simp at hx; subst hx; exact one_entA c
               · first | omega | (simp; omega)
               · first | omega | (simp; omega)
               intro v2 w2 ho2 hg2 hl2
               have z2 := hg2.size
               try simp at z2
               have bw2 : Below w.heap.size w w2 := Below.grown (by first | exact bw1 | exact bw1.alloc (by omega) _) hg2 (by first | omega | (simp; omega)) (fun q hq => (ho1.lt q hq).1))
            | (refine step_append (o := ⟨some 75, _, _, _, _, _⟩) (B := w.heap.size) (xs := (R.map entA).take p ++ [entA c]) (ys := (R.map entA).drop p) row_ent rfl (.tmp 71) (.tmp 74) rfl (v := _) rfl ?_ (y := _) rfl ?_ H2.out ?_ ?_ ?_
               · exact ho2
               · refine ⟨wr.heap.size, HDR.out.keep fun b hb => ?_⟩
                 have hb2 : b < W.heap.size := by omega
                 refine (hg2.block b (by first | omega | (simp; omega)) ?_).trans ?_
                 · show some b ≠ v1.ownBlock
                   rcases hl1 with h | h <;> (rw [h]; simp [Value.ownBlock, Act.eval]; omega)
                 · first
                     | exact k1 b hb2
                     | (refine (heap_al _ _ _).trans ((if_neg (by omega)).trans ?_); exact k1 b hb2)
               · first | omega | (simp; omega)
               · first | omega | (simp; omega)
               intro v3 w3 ho3 hg3 hl3
               have bw3 : Below w.heap.size w w3 := Below.grown bw2 hg3 bw2.size (fun q hq => (ho2.lt q hq).1)
               have HW3 := Lib.hid bw3
               have HO3 := Lib.hid ho3
               clear bw1 bw2 bw3 hg1 hg2 hg3 ho1 ho2 ho3 hl1 hl2 hl3))
          all_goals
            go_wp2_with fail
            go_roundw
            case rel =>
              refine ⟨k + 1, by omega, by omega, by go_num, HW3.out, ?_⟩
              rw [HSUCC.out, HR2.out]
              have := HO3.out
              simpa [List.map_take, List.map_drop] using this
            case measure => simp [intOf]; omega
      · have h30e : k = 30 := by omega
        have hr : rise (L.take k) = rise L := by unfold rise; rw [List.take_take, h30e, Nat.min_self]
        have HR := Lib.hid hr
        have hltI : (k : Int) < L.length := by omega
        have h30I : ¬ (k : Int) < 30 := by omega
        clear hr hb hown
        go_wp2_with fail
        go_ret
        exact ⟨_, rfl, HB.out, by rw [← HR.out]; exact HO.out⟩
    · have hke : k = L.length := by omega
      have hr : rise (L.take k) = rise L := by rw [hke, List.take_length]
      have HR := Lib.hid hr
      have hltI : ¬ (k : Int) < L.length := by omega
      clear hr hb hown
      go_wp2_with fail
      go_ret
      exact ⟨_, rfl, HB.out, by rw [← HR.out]; exact HO.out⟩
end Go.Proofs.Ytbflpnkodpeggaa

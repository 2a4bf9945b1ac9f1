/- The document's answer for layer 24: a list's cell of a key; which of three counts. -/
import Derived.Test.YtbflpnkodpeggaaRefOps
import Derived.Test.YtbflpnkodpeggaaFindM
namespace Go.Proofs.Ytbflpnkodpeggaa
set_option maxRecDepth 100000
open Go.RowKit

set_option maxHeartbeats 4000000 in
theorem cellR_gives (l : List Ent) (k : K25) (v : Value) (w : World) (hl : l.length ≤ 1000) (hv : SlA w w.heap.size 34 v (l.map entD)) :
    Gives Try.prog 27 #[v, .agg (rkey k.val)] w (.agg (cellD (findE l k))) := by
  obtain ⟨a0, cap0, rfl, hcl, hcm⟩ := hv.form
  rw [List.length_map] at *
  have HV := Lib.hid hv
  unfold maxLen at hcm
  obtain ⟨W, hW⟩ : ∃ W, W = (w.alloc (.cells (rkey k.val) 60)).alloc (.cells (cellD Cell.zero) 85) := ⟨_, rfl⟩
  have hWb : Below w.heap.size w W := by rw [hW]; exact (by repeat (first | exact below_of_grow _ _ | exact Below.refl _ _ | exact below_more _ _ _ _ | (simp only [← Array.append_assoc]; first | exact below_more _ _ _ _ | exact below_same _ _ _ | exact Below.refl _ _) | exact below_same _ _ _ | (refine Below.alloc ?_ (by first | (simp; done) | (simp; omega)) _) | (refine Below.grow ?_ (by first | (simp; done) | (simp; omega)) _ _) | refine Below.drew ?_ | refine Below.drewN ?_ _ | (refine Below.putF ?_ (by first | (simp; done) | omega | (simp; omega)) _) | (refine Below.setCell ?_ (by first | (simp; done) | (simp; omega)) _)))
  have hWs : W.heap.size = w.heap.size + 1 + 1 := by rw [hW]; simp
  have hW0 : W.heap[w.heap.size]? = some (.cells (rkey k.val) 60) := by rw [hW]; exact (heap_al _ _ _).trans ((if_neg (by simp)).trans ((heap_al _ _ _).trans (if_pos rfl)))
  have hW1 : W.heap[w.heap.size + 1]? = some (.cells (cellD Cell.zero) 85) := by rw [hW]; exact (heap_al _ _ _).trans (if_pos (by simp))
  have HWB := Lib.hid hWb
  have HW1 := Lib.hid hW1
  have hWk := cut_heap hW0 (sz := 25) (by simp)
  have hth : W.there? (w.heap.size + 1) 0 10 = true := by unfold World.there?; rw [hW1]; rfl
  have hk1W : w.heap.size + 1 < W.heap.size := by omega
  clear hv
  unfold Gives
  go_enter Try.func27, Try.ntmps27
  go_wp2_with fail
  rw [← hW]
  have HWS := Lib.hid hWs
  clear hW hWb hW0 hW1 hWs
  go_loopw [5] (fun s5 wr => ∃ (i : Nat) (xs : Array Obj) (d : Nat), i ≤ l.length ∧ s5 = .int .i64 i ∧ Hid (∀ j x, j < i → l[j]? = some x → x.k ≠ k) ∧ wr = W.grow xs d) (fun s5 _ => l.length - (intOf s5).toNat)
  case atStart => exact ⟨0, #[], _, Nat.zero_le _, rfl, Lib.hid (fun j x hj => by omega), World.grow_nil.symm⟩
  case round =>
    obtain ⟨i, xs, d, hi, rfl, HF, rfl⟩ := hrel
    by_cases hli : i < l.length
    · have hliI : (i : Int) < l.length := by omega
      obtain ⟨_, a3, cap3, he, _, _, hc⟩ := HV.out.below HWB.out
      simp only [Value.slice.injEq, List.length_map, true_and] at he
      obtain ⟨rfl, rfl⟩ := he
      obtain ⟨g, q, rfl, hlb, hcut⟩ := hc (by simp; omega)
      have hcute := hcut i (entD l[i]) (by simp [hli])
      have hcutk := cut_sub (i := 0) (m := 25) hcute (by decide)
      have hcutr := cut_sub (i := 25) (m := 9) hcute (by decide)
      rw [Nat.add_zero, entD_key] at hcutk
      rw [entD_rec] at hcutr
      have hgW : g < W.heap.size := by have := HWS.out; omega
      have hkW : w.heap.size < W.heap.size := by have := HWS.out; omega
      have hfa := find_at (l := l) (k := k) hli
      have hle := List.getElem?_eq_getElem hli
      generalize l[i] = e at *
      have HLE := Lib.hid hle
      have HFA := Lib.hid hfa
      clear hcut hc hcute hle hfa
      by_cases hek : e.k = k
      · have hd : decide (e.k = k) = true := by simpa using hek
        have hf := HFA.out hek HF.out
        have HFF := Lib.hid hf
        clear hf hek
        go_wp2_with fail
        apply wp_region_specs (by rfl) [.val _, .val _, .val _, .val _, .val _, .val _, .val _] 7 (by rfl) [12, 13, 14, 15, 16, 17, 18] [] [] (by rfl) (by rfl) (by decide) (by decide +kernel) (fun _ _ _ _ _ h => h)
        case hF => intro x; simp only [over, List.foldl_cons, List.foldl_nil, List.setIfInBounds_toArray, List.set_cons_succ, List.set_cons_zero]; exact rfl
        case hops =>
          refine ⟨?o0, ?o1, ?o2, ?o3, ?o4, ?o5, ?o6, trivial⟩
          case o0 =>
            intro x w1 hH K hK
            obtain ⟨xs, d, rfl⟩ := grow_of_below hH.below
            clear hH
            try simp only [World.grow_drew] at hK ⊢
            try simp only [World.grow_grow] at hK ⊢
            go_simp
            go_wp2_with fail
            exact ⟨_, rfl, rfl, (by repeat (first | exact below_of_grow _ _ | exact Below.refl _ _ | exact below_more _ _ _ _ | (simp only [← Array.append_assoc]; first | exact below_more _ _ _ _ | exact below_same _ _ _ | exact Below.refl _ _) | exact below_same _ _ _ | (refine Below.alloc ?_ (by first | (simp; done) | (simp; omega)) _) | (refine Below.grow ?_ (by first | (simp; done) | (simp; omega)) _ _) | refine Below.drew ?_ | refine Below.drewN ?_ _ | (refine Below.putF ?_ (by first | (simp; done) | omega | (simp; omega)) _) | (refine Below.setCell ?_ (by first | (simp; done) | (simp; omega)) _))), fun h => by cases h⟩
          case o1 =>
            intro x w1 hH K hK
            obtain ⟨xs, d, rfl⟩ := grow_of_below hH.below
            clear hH
            try simp only [World.grow_drew] at hK ⊢
            try simp only [World.grow_grow] at hK ⊢
            go_simp
            go_wp2_with fail
            exact ⟨_, rfl, rfl, (by repeat (first | exact below_of_grow _ _ | exact Below.refl _ _ | exact below_more _ _ _ _ | (simp only [← Array.append_assoc]; first | exact below_more _ _ _ _ | exact below_same _ _ _ | exact Below.refl _ _) | exact below_same _ _ _ | (refine Below.alloc ?_ (by first | (simp; done) | (simp; omega)) _) | (refine Below.grow ?_ (by first | (simp; done) | (simp; omega)) _ _) | refine Below.drew ?_ | refine Below.drewN ?_ _ | (refine Below.putF ?_ (by first | (simp; done) | omega | (simp; omega)) _) | (refine Below.setCell ?_ (by first | (simp; done) | (simp; omega)) _))), fun h => by cases h⟩
          case o2 =>
            intro x w1 hH K hK
            have e12 : x 12 = _ := hH.holds 0 (by decide) (by decide +kernel) 12 rfl
            have e13 : x 13 = _ := hH.holds 1 (by decide) (by decide +kernel) 13 rfl
            obtain ⟨xs, d, rfl⟩ := grow_of_below hH.below
            clear hH
            try simp only [World.grow_drew] at hK ⊢
            try simp only [World.grow_grow] at hK ⊢
            simp only [e12, e13] at hK ⊢
            clear e12 e13
            go_simp
            go_wp2_with fail
            exact ⟨_, rfl, rfl, (by repeat (first | exact below_of_grow _ _ | exact Below.refl _ _ | exact below_more _ _ _ _ | (simp only [← Array.append_assoc]; first | exact below_more _ _ _ _ | exact below_same _ _ _ | exact Below.refl _ _) | exact below_same _ _ _ | (refine Below.alloc ?_ (by first | (simp; done) | (simp; omega)) _) | (refine Below.grow ?_ (by first | (simp; done) | (simp; omega)) _ _) | refine Below.drew ?_ | refine Below.drewN ?_ _ | (refine Below.putF ?_ (by first | (simp; done) | omega | (simp; omega)) _) | (refine Below.setCell ?_ (by first | (simp; done) | (simp; omega)) _))), fun h => by cases h⟩
          case o3 =>
            intro x w1 hH K hK
            have e14 : x 14 = _ := hH.holds 2 (by decide) (by decide +kernel) 14 rfl
            obtain ⟨xs, d, rfl⟩ := grow_of_below hH.below
            clear hH
            try simp only [World.grow_drew] at hK ⊢
            try simp only [World.grow_grow] at hK ⊢
            simp only [e14] at hK ⊢
            clear e14
            go_simp
            go_wp2_with fail
            exact ⟨_, rfl, rfl, (by repeat (first | exact below_of_grow _ _ | exact Below.refl _ _ | exact below_more _ _ _ _ | (simp only [← Array.append_assoc]; first | exact below_more _ _ _ _ | exact below_same _ _ _ | exact Below.refl _ _) | exact below_same _ _ _ | (refine Below.alloc ?_ (by first | (simp; done) | (simp; omega)) _) | (refine Below.grow ?_ (by first | (simp; done) | (simp; omega)) _ _) | refine Below.drew ?_ | refine Below.drewN ?_ _ | (refine Below.putF ?_ (by first | (simp; done) | omega | (simp; omega)) _) | (refine Below.setCell ?_ (by first | (simp; done) | (simp; omega)) _))), fun h => by cases h⟩
          case o4 =>
            intro x w1 hH K hK
            have e15 : x 15 = _ := hH.holds 3 (by decide) (by decide +kernel) 15 rfl
            obtain ⟨xs, d, rfl⟩ := grow_of_below hH.below
            clear hH
            try simp only [World.grow_drew] at hK ⊢
            try simp only [World.grow_grow] at hK ⊢
            simp only [e15] at hK ⊢
            clear e15
            go_simp
            go_wp2_with fail
            exact ⟨_, rfl, rfl, (by repeat (first | exact below_of_grow _ _ | exact Below.refl _ _ | exact below_more _ _ _ _ | (simp only [← Array.append_assoc]; first | exact below_more _ _ _ _ | exact below_same _ _ _ | exact Below.refl _ _) | exact below_same _ _ _ | (refine Below.alloc ?_ (by first | (simp; done) | (simp; omega)) _) | (refine Below.grow ?_ (by first | (simp; done) | (simp; omega)) _ _) | refine Below.drew ?_ | refine Below.drewN ?_ _ | (refine Below.putF ?_ (by first | (simp; done) | omega | (simp; omega)) _) | (refine Below.setCell ?_ (by first | (simp; done) | (simp; omega)) _))), fun h => by cases h⟩
          case o5 =>
            intro x w1 hH K hK
            obtain ⟨xs, d, rfl⟩ := grow_of_below hH.below
            clear hH
            try simp only [World.grow_drew] at hK ⊢
            try simp only [World.grow_grow] at hK ⊢
            go_simp
            go_wp2_with fail
            exact ⟨_, rfl, rfl, (by repeat (first | exact below_of_grow _ _ | exact Below.refl _ _ | exact below_more _ _ _ _ | (simp only [← Array.append_assoc]; first | exact below_more _ _ _ _ | exact below_same _ _ _ | exact Below.refl _ _) | exact below_same _ _ _ | (refine Below.alloc ?_ (by first | (simp; done) | (simp; omega)) _) | (refine Below.grow ?_ (by first | (simp; done) | (simp; omega)) _ _) | refine Below.drew ?_ | refine Below.drewN ?_ _ | (refine Below.putF ?_ (by first | (simp; done) | omega | (simp; omega)) _) | (refine Below.setCell ?_ (by first | (simp; done) | (simp; omega)) _))), fun h => by cases h⟩
          case o6 =>
            intro x w1 hH K hK
            have e16 : x 16 = _ := hH.holds 4 (by decide) (by decide +kernel) 16 rfl
            have e17 : x 17 = _ := hH.holds 5 (by decide) (by decide +kernel) 17 rfl
            obtain ⟨xs, d, rfl⟩ := grow_of_below hH.below
            clear hH
            try simp only [World.grow_drew] at hK ⊢
            try simp only [World.grow_grow] at hK ⊢
            simp only [e16, e17] at hK ⊢
            clear e16 e17
            go_simp
            go_wp2_with fail
            exact ⟨_, rfl, rfl, (by repeat (first | exact below_of_grow _ _ | exact Below.refl _ _ | exact below_more _ _ _ _ | (simp only [← Array.append_assoc]; first | exact below_more _ _ _ _ | exact below_same _ _ _ | exact Below.refl _ _) | exact below_same _ _ _ | (refine Below.alloc ?_ (by first | (simp; done) | (simp; omega)) _) | (refine Below.grow ?_ (by first | (simp; done) | (simp; omega)) _ _) | refine Below.drew ?_ | refine Below.drewN ?_ _ | (refine Below.putF ?_ (by first | (simp; done) | omega | (simp; omega)) _) | (refine Below.setCell ?_ (by first | (simp; done) | (simp; omega)) _))), fun h => by cases h⟩
        case hend =>
          intro x w1 hH
          have e12 : x 12 = _ := hH.holds 0 (by decide) trivial 12 rfl
          have e13 : x 13 = _ := hH.holds 1 (by decide) trivial 13 rfl
          have e14 : x 14 = _ := hH.holds 2 (by decide) trivial 14 rfl
          have e15 : x 15 = _ := hH.holds 3 (by decide) trivial 15 rfl
          have e16 : x 16 = _ := hH.holds 4 (by decide) trivial 16 rfl
          have e17 : x 17 = _ := hH.holds 5 (by decide) trivial 17 rfl
          have e18 : x 18 = _ := hH.holds 6 (by decide) trivial 18 rfl
          obtain ⟨xs, d, rfl⟩ := grow_of_below hH.below
          clear hH
          simp only [e12, e13, e14, e15, e16, e17, e18]; clear e12 e13 e14 e15 e16 e17 e18
          simp only [List.drop_succ_cons, List.drop_nil]
          go_wp2_with fail
          refine bodyPost_ret (v := .agg (cellD (findE l k))) (results_one Try.results27 (ResIs.row rfl agg_cellD ?_)) rfl ⟨rfl, ?_⟩
          · rw [cut_grow _ _ _ _ _ (by simpa using hk1W), cut_lay HW1.out (by simp) (by simp), HFF.out]
          · exact (Below.lay HWB.out (by omega)).grow (by have := HWS.out; simp; omega) _ _
      · have hd : decide (e.k = k) = false := by simpa using hek
        have HEK := Lib.hid hek
        clear hek
        go_wp2_with fail
        apply wp_region_specs (by rfl) [.val _, .val _, .val _, .val _, .val _, .val _, .val _] 7 (by rfl) [12, 13, 14, 15, 16, 17, 18] [] [] (by rfl) (by rfl) (by decide) (by decide +kernel) (fun _ _ _ _ _ h => h)
        case hF => intro x; simp only [over, List.foldl_cons, List.foldl_nil, List.setIfInBounds_toArray, List.set_cons_succ, List.set_cons_zero]; exact rfl
        case hops =>
          refine ⟨?o0, ?o1, ?o2, ?o3, ?o4, ?o5, ?o6, trivial⟩
          case o0 =>
            intro x w1 hH K hK
            obtain ⟨xs, d, rfl⟩ := grow_of_below hH.below
            clear hH
            try simp only [World.grow_drew] at hK ⊢
            try simp only [World.grow_grow] at hK ⊢
            go_simp
            go_wp2_with fail
            exact ⟨_, rfl, rfl, (by repeat (first | exact below_of_grow _ _ | exact Below.refl _ _ | exact below_more _ _ _ _ | (simp only [← Array.append_assoc]; first | exact below_more _ _ _ _ | exact below_same _ _ _ | exact Below.refl _ _) | exact below_same _ _ _ | (refine Below.alloc ?_ (by first | (simp; done) | (simp; omega)) _) | (refine Below.grow ?_ (by first | (simp; done) | (simp; omega)) _ _) | refine Below.drew ?_ | refine Below.drewN ?_ _ | (refine Below.putF ?_ (by first | (simp; done) | omega | (simp; omega)) _) | (refine Below.setCell ?_ (by first | (simp; done) | (simp; omega)) _))), fun h => by cases h⟩
          case o1 =>
            intro x w1 hH K hK
            obtain ⟨xs, d, rfl⟩ := grow_of_below hH.below
            clear hH
            try simp only [World.grow_drew] at hK ⊢
            try simp only [World.grow_grow] at hK ⊢
            go_simp
            go_wp2_with fail
            exact ⟨_, rfl, rfl, (by repeat (first | exact below_of_grow _ _ | exact Below.refl _ _ | exact below_more _ _ _ _ | (simp only [← Array.append_assoc]; first | exact below_more _ _ _ _ | exact below_same _ _ _ | exact Below.refl _ _) | exact below_same _ _ _ | (refine Below.alloc ?_ (by first | (simp; done) | (simp; omega)) _) | (refine Below.grow ?_ (by first | (simp; done) | (simp; omega)) _ _) | refine Below.drew ?_ | refine Below.drewN ?_ _ | (refine Below.putF ?_ (by first | (simp; done) | omega | (simp; omega)) _) | (refine Below.setCell ?_ (by first | (simp; done) | (simp; omega)) _))), fun h => by cases h⟩
          case o2 =>
            intro x w1 hH K hK
            have e12 : x 12 = _ := hH.holds 0 (by decide) (by decide +kernel) 12 rfl
            have e13 : x 13 = _ := hH.holds 1 (by decide) (by decide +kernel) 13 rfl
            obtain ⟨xs, d, rfl⟩ := grow_of_below hH.below
            clear hH
            try simp only [World.grow_drew] at hK ⊢
            try simp only [World.grow_grow] at hK ⊢
            simp only [e12, e13] at hK ⊢
            clear e12 e13
            go_simp
            go_wp2_with fail
            exact ⟨_, rfl, rfl, (by repeat (first | exact below_of_grow _ _ | exact Below.refl _ _ | exact below_more _ _ _ _ | (simp only [← Array.append_assoc]; first | exact below_more _ _ _ _ | exact below_same _ _ _ | exact Below.refl _ _) | exact below_same _ _ _ | (refine Below.alloc ?_ (by first | (simp; done) | (simp; omega)) _) | (refine Below.grow ?_ (by first | (simp; done) | (simp; omega)) _ _) | refine Below.drew ?_ | refine Below.drewN ?_ _ | (refine Below.putF ?_ (by first | (simp; done) | omega | (simp; omega)) _) | (refine Below.setCell ?_ (by first | (simp; done) | (simp; omega)) _))), fun h => by cases h⟩
          case o3 =>
            intro x w1 hH K hK
            have e14 : x 14 = _ := hH.holds 2 (by decide) (by decide +kernel) 14 rfl
            obtain ⟨xs, d, rfl⟩ := grow_of_below hH.below
            clear hH
            try simp only [World.grow_drew] at hK ⊢
            try simp only [World.grow_grow] at hK ⊢
            simp only [e14] at hK ⊢
            clear e14
            go_simp
            go_wp2_with fail
            exact ⟨_, rfl, rfl, (by repeat (first | exact below_of_grow _ _ | exact Below.refl _ _ | exact below_more _ _ _ _ | (simp only [← Array.append_assoc]; first | exact below_more _ _ _ _ | exact below_same _ _ _ | exact Below.refl _ _) | exact below_same _ _ _ | (refine Below.alloc ?_ (by first | (simp; done) | (simp; omega)) _) | (refine Below.grow ?_ (by first | (simp; done) | (simp; omega)) _ _) | refine Below.drew ?_ | refine Below.drewN ?_ _ | (refine Below.putF ?_ (by first | (simp; done) | omega | (simp; omega)) _) | (refine Below.setCell ?_ (by first | (simp; done) | (simp; omega)) _))), fun h => by cases h⟩
          case o4 =>
            intro x w1 hH K hK
            have e15 : x 15 = _ := hH.holds 3 (by decide) (by decide +kernel) 15 rfl
            obtain ⟨xs, d, rfl⟩ := grow_of_below hH.below
            clear hH
            try simp only [World.grow_drew] at hK ⊢
            try simp only [World.grow_grow] at hK ⊢
            simp only [e15] at hK ⊢
            clear e15
            go_simp
            go_wp2_with fail
            exact ⟨_, rfl, rfl, (by repeat (first | exact below_of_grow _ _ | exact Below.refl _ _ | exact below_more _ _ _ _ | (simp only [← Array.append_assoc]; first | exact below_more _ _ _ _ | exact below_same _ _ _ | exact Below.refl _ _) | exact below_same _ _ _ | (refine Below.alloc ?_ (by first | (simp; done) | (simp; omega)) _) | (refine Below.grow ?_ (by first | (simp; done) | (simp; omega)) _ _) | refine Below.drew ?_ | refine Below.drewN ?_ _ | (refine Below.putF ?_ (by first | (simp; done) | omega | (simp; omega)) _) | (refine Below.setCell ?_ (by first | (simp; done) | (simp; omega)) _))), fun h => by cases h⟩
          case o5 =>
            intro x w1 hH K hK
            obtain ⟨xs, d, rfl⟩ := grow_of_below hH.below
            clear hH
            try simp only [World.grow_drew] at hK ⊢
            try simp only [World.grow_grow] at hK ⊢
            go_simp
            go_wp2_with fail
            exact ⟨_, rfl, rfl, (by repeat (first | exact below_of_grow _ _ | exact Below.refl _ _ | exact below_more _ _ _ _ | (simp only [← Array.append_assoc]; first | exact below_more _ _ _ _ | exact below_same _ _ _ | exact Below.refl _ _) | exact below_same _ _ _ | (refine Below.alloc ?_ (by first | (simp; done) | (simp; omega)) _) | (refine Below.grow ?_ (by first | (simp; done) | (simp; omega)) _ _) | refine Below.drew ?_ | refine Below.drewN ?_ _ | (refine Below.putF ?_ (by first | (simp; done) | omega | (simp; omega)) _) | (refine Below.setCell ?_ (by first | (simp; done) | (simp; omega)) _))), fun h => by cases h⟩
          case o6 =>
            intro x w1 hH K hK
            have e16 : x 16 = _ := hH.holds 4 (by decide) (by decide +kernel) 16 rfl
            have e17 : x 17 = _ := hH.holds 5 (by decide) (by decide +kernel) 17 rfl
            obtain ⟨xs, d, rfl⟩ := grow_of_below hH.below
            clear hH
            try simp only [World.grow_drew] at hK ⊢
            try simp only [World.grow_grow] at hK ⊢
            simp only [e16, e17] at hK ⊢
            clear e16 e17
            go_simp
            go_wp2_with fail
            exact ⟨_, rfl, rfl, (by repeat (first | exact below_of_grow _ _ | exact Below.refl _ _ | exact below_more _ _ _ _ | (simp only [← Array.append_assoc]; first | exact below_more _ _ _ _ | exact below_same _ _ _ | exact Below.refl _ _) | exact below_same _ _ _ | (refine Below.alloc ?_ (by first | (simp; done) | (simp; omega)) _) | (refine Below.grow ?_ (by first | (simp; done) | (simp; omega)) _ _) | refine Below.drew ?_ | refine Below.drewN ?_ _ | (refine Below.putF ?_ (by first | (simp; done) | omega | (simp; omega)) _) | (refine Below.setCell ?_ (by first | (simp; done) | (simp; omega)) _))), fun h => by cases h⟩
        case hend =>
          intro x w1 hH
          have e12 : x 12 = _ := hH.holds 0 (by decide) trivial 12 rfl
          have e13 : x 13 = _ := hH.holds 1 (by decide) trivial 13 rfl
          have e14 : x 14 = _ := hH.holds 2 (by decide) trivial 14 rfl
          have e15 : x 15 = _ := hH.holds 3 (by decide) trivial 15 rfl
          have e16 : x 16 = _ := hH.holds 4 (by decide) trivial 16 rfl
          have e17 : x 17 = _ := hH.holds 5 (by decide) trivial 17 rfl
          have e18 : x 18 = _ := hH.holds 6 (by decide) trivial 18 rfl
          obtain ⟨xs, d, rfl⟩ := grow_of_below hH.below
          clear hH
          simp only [e12, e13, e14, e15, e16, e17, e18]; clear e12 e13 e14 e15 e16 e17 e18
          simp only [List.drop_succ_cons, List.drop_nil]
          go_wp2_with fail
          go_roundw
          case rel =>
            refine ⟨i + 1, _, _, by omega, by go_num, Lib.hid (fun j x hj hx => ?_), rfl⟩
            rcases Nat.lt_or_ge j i with h | h
            · exact HF.out j x h hx
            · obtain rfl : j = i := by omega
              rw [HLE.out] at hx
              cases hx
              exact HEK.out
          case measure => simp [intOf]; omega
    · have hie : i = l.length := by omega
      subst hie
      have hgn : ¬ (l.length : Int) < l.length := by omega
      have hf := find_not HF.out
      have HFF := Lib.hid hf
      clear hf
      go_wp2_with fail
      refine bodyPost_ret (v := .agg (cellD (findE l k))) (results_one Try.results27 (ResIs.row rfl agg_cellD ?_)) rfl ⟨rfl, ?_⟩
      · rw [cut_grow _ _ _ _ _ (by simpa using hk1W), cut_lay HW1.out (by simp) (by simp), HFF.out]
      · exact (Below.lay HWB.out (by omega)).grow (by have := HWS.out; simp; omega) _ _
theorem threeR_run (c1 : Cell) (s e : Int) {w : World} {tmps : Array Value} {n : Nat} (h8 : tmps.getD 8 undef = .pointer (some ⟨n, 0, none⟩)) (h9 : tmps.getD 9 undef = .int .i64 s) (h10 : tmps.getD 10 undef = .int .i64 e) (hc : w.cut? n 0 10 = some (cellD c1)) :
    (results Try.f26 tmps).run Try.prog w = .ok (.tuple #[.agg (cellD c1), .int .i64 s, .int .i64 e]) w := by
  simp only [results, Try.results26, List.mapM_toArray, List.mapM_cons, List.mapM_nil, bind_pure_comp, map_pure, Functor.map_map, Sem.run_map, Sem.run_bind, h8, h9, h10, asAddr, pure_bind]
  rw [run_load_cut agg_cellD hc]
  simp [Result.andThen, go_sem]
set_option maxHeartbeats 2000000 in
theorem threeR_gives (a b c : Cell) (m : Int) (w : World) : Gives Try.prog 26 #[.agg (cellD a), .agg (cellD b), .agg (cellD c), .int .i64 m] w (.tuple #[.agg (cellD (threeC a b c m).1), .int .i64 (threeC a b c m).2.1, .int .i64 (threeC a b c m).2.2]) := by
  have h3 : threeC a b c m = if m < 0 ∨ 2 < m then (Cell.zero, 0, 5) else if decide (b = c) = true then (b, 0, 0) else if decide (c = a) = true then (b, 1, 0) else if decide (b = a) = true then (c, 2, 0) else if m = 0 then (Cell.zero, 3, 11) else if m = 1 then (b, 3, 0) else (c, 3, 0) := by
    unfold threeC sideC
    by_cases hm : m < 0 ∨ 2 < m
    · rw [if_pos hm, if_pos hm]
    · rw [if_neg hm, if_neg hm]
      by_cases h1 : b = c
      · simp [h1]
      · by_cases h2 : c = a
        · have h4 : ¬ b = a := fun h => h1 (h.trans h2.symm)
          subst h2
          simp [h4]
        · by_cases h4 : b = a
          · have h5 : ¬ b = c := fun h => h1 h
            subst h4
            simp [h5, h2]
          · have hh : m = 0 ∨ m = 1 ∨ m = 2 := by omega
            rcases hh with rfl | rfl | rfl <;> simp [h1, h2, h4]
  generalize hth : threeC a b c m = t at *
  clear hth
  unfold Gives
  by_cases c1 : m < 0 ∨ 2 < m
  · rw [if_pos c1] at h3
    subst h3
    by_cases c2 : m < 0
    · clear c1
      go_enter Try.func26, Try.ntmps26
      go_wp2_with fail
      exact bodyPost_ret (threeR_run _ _ _ rfl rfl rfl (by simp [go_sem])) rfl ⟨rfl, (by repeat (first | exact below_of_grow _ _ | exact Below.refl _ _ | exact below_more _ _ _ _ | (simp only [← Array.append_assoc]; first | exact below_more _ _ _ _ | exact below_same _ _ _ | exact Below.refl _ _) | exact below_same _ _ _ | (refine Below.alloc ?_ (by first | (simp; done) | (simp; omega)) _) | (refine Below.grow ?_ (by first | (simp; done) | (simp; omega)) _ _) | refine Below.drew ?_ | refine Below.drewN ?_ _ | (refine Below.putF ?_ (by first | (simp; done) | omega | (simp; omega)) _) | (refine Below.setCell ?_ (by first | (simp; done) | (simp; omega)) _)))⟩
    · have c3 : 2 < m := by omega
      clear c1
      go_enter Try.func26, Try.ntmps26
      go_wp2_with fail
      exact bodyPost_ret (threeR_run _ _ _ rfl rfl rfl (by simp [go_sem])) rfl ⟨rfl, (by repeat (first | exact below_of_grow _ _ | exact Below.refl _ _ | exact below_more _ _ _ _ | (simp only [← Array.append_assoc]; first | exact below_more _ _ _ _ | exact below_same _ _ _ | exact Below.refl _ _) | exact below_same _ _ _ | (refine Below.alloc ?_ (by first | (simp; done) | (simp; omega)) _) | (refine Below.grow ?_ (by first | (simp; done) | (simp; omega)) _ _) | refine Below.drew ?_ | refine Below.drewN ?_ _ | (refine Below.putF ?_ (by first | (simp; done) | omega | (simp; omega)) _) | (refine Below.setCell ?_ (by first | (simp; done) | (simp; omega)) _)))⟩
  · rw [if_neg c1] at h3
    have m0 : ¬ m < 0 := by omega
    have m2 : ¬ 2 < m := by omega
    cases h1 : decide (b = c) with
    | true =>
      rw [h1, if_pos rfl] at h3
      subst h3
      clear c1
      go_enter Try.func26, Try.ntmps26
      go_wp2_with fail
      exact bodyPost_ret (threeR_run _ _ _ rfl rfl rfl (by simp [go_sem])) rfl ⟨rfl, (by repeat (first | exact below_of_grow _ _ | exact Below.refl _ _ | exact below_more _ _ _ _ | (simp only [← Array.append_assoc]; first | exact below_more _ _ _ _ | exact below_same _ _ _ | exact Below.refl _ _) | exact below_same _ _ _ | (refine Below.alloc ?_ (by first | (simp; done) | (simp; omega)) _) | (refine Below.grow ?_ (by first | (simp; done) | (simp; omega)) _ _) | refine Below.drew ?_ | refine Below.drewN ?_ _ | (refine Below.putF ?_ (by first | (simp; done) | omega | (simp; omega)) _) | (refine Below.setCell ?_ (by first | (simp; done) | (simp; omega)) _)))⟩
    | false =>
      rw [h1, if_neg (by decide)] at h3
      cases h2 : decide (c = a) with
      | true =>
        rw [h2, if_pos rfl] at h3
        subst h3
        clear c1
        go_enter Try.func26, Try.ntmps26
        go_wp2_with fail
        exact bodyPost_ret (threeR_run _ _ _ rfl rfl rfl (by simp [go_sem])) rfl ⟨rfl, (by repeat (first | exact below_of_grow _ _ | exact Below.refl _ _ | exact below_more _ _ _ _ | (simp only [← Array.append_assoc]; first | exact below_more _ _ _ _ | exact below_same _ _ _ | exact Below.refl _ _) | exact below_same _ _ _ | (refine Below.alloc ?_ (by first | (simp; done) | (simp; omega)) _) | (refine Below.grow ?_ (by first | (simp; done) | (simp; omega)) _ _) | refine Below.drew ?_ | refine Below.drewN ?_ _ | (refine Below.putF ?_ (by first | (simp; done) | omega | (simp; omega)) _) | (refine Below.setCell ?_ (by first | (simp; done) | (simp; omega)) _)))⟩
      | false =>
        rw [h2, if_neg (by decide)] at h3
        cases h4 : decide (b = a) with
        | true =>
          rw [h4, if_pos rfl] at h3
          subst h3
          clear c1
          go_enter Try.func26, Try.ntmps26
          go_wp2_with fail
          exact bodyPost_ret (threeR_run _ _ _ rfl rfl rfl (by simp [go_sem])) rfl ⟨rfl, (by repeat (first | exact below_of_grow _ _ | exact Below.refl _ _ | exact below_more _ _ _ _ | (simp only [← Array.append_assoc]; first | exact below_more _ _ _ _ | exact below_same _ _ _ | exact Below.refl _ _) | exact below_same _ _ _ | (refine Below.alloc ?_ (by first | (simp; done) | (simp; omega)) _) | (refine Below.grow ?_ (by first | (simp; done) | (simp; omega)) _ _) | refine Below.drew ?_ | refine Below.drewN ?_ _ | (refine Below.putF ?_ (by first | (simp; done) | omega | (simp; omega)) _) | (refine Below.setCell ?_ (by first | (simp; done) | (simp; omega)) _)))⟩
        | false =>
          rw [h4, if_neg (by decide)] at h3
          have hh : m = 0 ∨ m = 1 ∨ m = 2 := by omega
          clear c1 m0 m2
          rcases hh with rfl | rfl | rfl
          · rw [if_pos rfl] at h3
            subst h3
            go_enter Try.func26, Try.ntmps26
            go_wp2_with fail
            exact bodyPost_ret (threeR_run _ _ _ rfl rfl rfl (by simp [go_sem])) rfl ⟨rfl, (by repeat (first | exact below_of_grow _ _ | exact Below.refl _ _ | exact below_more _ _ _ _ | (simp only [← Array.append_assoc]; first | exact below_more _ _ _ _ | exact below_same _ _ _ | exact Below.refl _ _) | exact below_same _ _ _ | (refine Below.alloc ?_ (by first | (simp; done) | (simp; omega)) _) | (refine Below.grow ?_ (by first | (simp; done) | (simp; omega)) _ _) | refine Below.drew ?_ | refine Below.drewN ?_ _ | (refine Below.putF ?_ (by first | (simp; done) | omega | (simp; omega)) _) | (refine Below.setCell ?_ (by first | (simp; done) | (simp; omega)) _)))⟩
          · rw [if_neg (by decide), if_pos rfl] at h3
            subst h3
            go_enter Try.func26, Try.ntmps26
            go_wp2_with fail
            exact bodyPost_ret (threeR_run _ _ _ rfl rfl rfl (by simp [go_sem])) rfl ⟨rfl, (by repeat (first | exact below_of_grow _ _ | exact Below.refl _ _ | exact below_more _ _ _ _ | (simp only [← Array.append_assoc]; first | exact below_more _ _ _ _ | exact below_same _ _ _ | exact Below.refl _ _) | exact below_same _ _ _ | (refine Below.alloc ?_ (by first | (simp; done) | (simp; omega)) _) | (refine Below.grow ?_ (by first | (simp; done) | (simp; omega)) _ _) | refine Below.drew ?_ | refine Below.drewN ?_ _ | (refine Below.putF ?_ (by first | (simp; done) | omega | (simp; omega)) _) | (refine Below.setCell ?_ (by first | (simp; done) | (simp; omega)) _)))⟩
          · rw [if_neg (by decide), if_neg (by decide)] at h3
            subst h3
            go_enter Try.func26, Try.ntmps26
            go_wp2_with fail
            exact bodyPost_ret (threeR_run _ _ _ rfl rfl rfl (by simp [go_sem])) rfl ⟨rfl, (by repeat (first | exact below_of_grow _ _ | exact Below.refl _ _ | exact below_more _ _ _ _ | (simp only [← Array.append_assoc]; first | exact below_more _ _ _ _ | exact below_same _ _ _ | exact Below.refl _ _) | exact below_same _ _ _ | (refine Below.alloc ?_ (by first | (simp; done) | (simp; omega)) _) | (refine Below.grow ?_ (by first | (simp; done) | (simp; omega)) _ _) | refine Below.drew ?_ | refine Below.drewN ?_ _ | (refine Below.putF ?_ (by first | (simp; done) | omega | (simp; omega)) _) | (refine Below.setCell ?_ (by first | (simp; done) | (simp; omega)) _)))⟩
end Go.Proofs.Ytbflpnkodpeggaa

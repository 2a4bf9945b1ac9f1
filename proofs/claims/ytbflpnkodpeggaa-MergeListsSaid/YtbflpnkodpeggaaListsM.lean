/- merge.Lists: the writes by which lists are merged, and the keys that clash. -/
import Derived.Test.YtbflpnkodpeggaaDeep
import Derived.Test.YtbflpnkodpeggaaKeysM
import Derived.Test.YtbflpnkodpeggaaOfsM
import Derived.BigRegion
namespace Go.Proofs.Ytbflpnkodpeggaa.Dp
set_option maxRecDepth 100000
open Go.RowKit

theorem row_wrt : RowType Try.prog 25 67 35 72 := ⟨Try.underlying25, by kernel_rfl, by decide, by decide⟩
theorem sl_three {w : World} {g : Nat} {va vb vc : Value} {t : TypeId} (h : w.heap[g]? = some (.cells #[va, vb, vc] t)) : SlA w (g + 1) 1 (.slice (some ⟨g, 0, none⟩) 3 3) [#[va], #[vb], #[vc]] := by
  refine ⟨fun x hx => by simp at hx; rcases hx with rfl | rfl | rfl <;> rfl, _, 3, rfl, Nat.le_refl _, by decide, fun _ => ⟨g, 0, rfl, by omega, fun i x hx => ?_⟩⟩
  unfold World.cut?
  rw [h]
  match i, hx with
  | 0, hx => simp at hx; subst hx; rfl
  | 1, hx => simp at hx; subst hx; rfl
  | 2, hx => simp at hx; subst hx; rfl
  | _ + 3, hx => simp at hx
theorem lists_run {tmps : Array Value} {v1 v2 v3 : Value} {w : World} (h8 : tmps.getD 8 undef = v1) (h9 : tmps.getD 9 undef = v2) (h10 : tmps.getD 10 undef = v3) :
    (results Try.f6 tmps).run Try.prog w = .ok (.tuple #[v1, v2, v3]) w := by
  simp only [results, Try.results6, List.mapM_toArray, List.mapM_cons, List.mapM_nil, bind_pure_comp, map_pure, Functor.map_map, Sem.run_map, Sem.run_bind, h8, h9, h10, pure_bind, Sem.run_pure]
  try rfl
/-- two rows of different types lie in different blocks -/
theorem own_ne {w : World} {B1 B2 s1 s2 : Nat} {e1 e2 : TypeId} {v1 v2 : Value} {xs ys : List (Array Value)} (h : OwnA w B1 s1 e1 v1 xs) (h' : OwnA w B2 s2 e2 v2 ys) (he : e1 ≠ e2) : ∀ g, v1.ownBlock = some g → v2.ownBlock ≠ some g := by
  obtain ⟨_, _, h⟩ := h
  obtain ⟨_, _, h'⟩ := h'
  intro g h1 h2
  rcases h with ⟨rfl, _⟩ | ⟨g1, c1, cur1, rfl, _, hh1, _⟩
  · cases h1
  · rcases h' with ⟨rfl, _⟩ | ⟨g2, c2, cur2, rfl, _, hh2, _⟩
    · cases h2
    · simp only [Value.ownBlock, Option.some.injEq] at h1 h2
      subst h1 h2
      rw [hh1] at hh2
      simp only [Option.some.injEq, Obj.cells.injEq, true_and, and_true] at hh2
      exact he hh2.2
theorem _root_.Go.World.alloc_size1 (w : World) (o : Obj) : (w.alloc o).heap.size = w.heap.size + 1 := by simp
set_option maxHeartbeats 8000000 in
theorem lists_calls (a b c : List Ent) (va vb vc : Value) (m : Int) (w : World) (ha : a.length ≤ 200) (hb : b.length ≤ 200) (hc : c.length ≤ 200)
    (hva : SlA w w.heap.size 34 va (a.map entA)) (hvb : SlA w w.heap.size 34 vb (b.map entA)) (hvc : SlA w w.heap.size 34 vc (c.map entA)) :
    Calls Try.prog 6 #[va, vb, vc, .int .i64 m] w fun e w' => ∃ v1 v2, e = .returned (.tuple #[v1, v2, .int .i64 (listsM a b c m).2.2]) ∧ Below w.heap.size w w' ∧
      OwnA w' w.heap.size 35 67 v1 ((listsM a b c m).1.map wrtA) ∧ OwnA w' w.heap.size 25 38 v2 (rowK (listsM a b c m).2.1) := by
  have hlm : listsM a b c m = if m < 0 ∨ 2 < m then ([], [], 5) else if 0 < ((keysL a b c).filter (clashOf a b c m)).length ∧ m = 0 then ([], (keysL a b c).filter (clashOf a b c m), 11) else ((keysL a b c).filterMap (wrOf a b c m), (keysL a b c).filter (clashOf a b c m), 0) := rfl
  have hkl := keysL_len a b c
  have hA := hva
  have hB := hvb
  have hC := hvc
  obtain ⟨aa, capa, rfl, hcla, hcma⟩ := hva.form
  obtain ⟨ab, capb, rfl, hclb, hcmb⟩ := hvb.form
  obtain ⟨ac, capc, rfl, hclc, hcmc⟩ := hvc.form
  simp only [List.length_map] at *
  have HA := Lib.hid hA
  have HB := Lib.hid hB
  have HC := Lib.hid hC
  have HLM := Lib.hid hlm
  unfold maxLen at hcma hcmb hcmc
  clear hva hvb hvc hA hB hC hlm
  by_cases hm : m < 0 ∨ 2 < m
  · have h := HLM.out
    rw [if_pos hm] at h
    rw [h]
    clear HLM h
    by_cases h0 : m < 0
    · clear hm
      go_enter Try.func6, Try.ntmps6
      go_wp2_with fail
      exact bodyPost_ret (v := .tuple #[.slice none 0 0, .slice none 0 0, .int .i64 5]) (by simp [results, Try.results6, go_sem]) rfl ⟨_, _, rfl, Below.refl _ _, OwnA.nil _ _ _ _, OwnA.nil _ _ _ _⟩
    · have h2 : 2 < m := by omega
      clear hm
      go_enter Try.func6, Try.ntmps6
      go_wp2_with fail
      exact bodyPost_ret (v := .tuple #[.slice none 0 0, .slice none 0 0, .int .i64 5]) (by simp [results, Try.results6, go_sem]) rfl ⟨_, _, rfl, Below.refl _ _, OwnA.nil _ _ _ _, OwnA.nil _ _ _ _⟩
  · have m0 : ¬ m < 0 := by omega
    have m2 : ¬ 2 < m := by omega
    have h := HLM.out
    rw [if_neg hm] at h
    have HLM2 := Lib.hid h
    clear hm h HLM
    go_enter Try.func6, Try.ntmps6
    go_wp2_with fail
    refine (cells_calls a _ _ (by omega) HA.out).mono ?_
    rintro e w1 ⟨p1, rfl, hb1, hc1⟩
    go_wp2_with fail
    refine (cells_calls b _ _ (by omega) ((HB.out.below hb1).more hb1.size)).mono ?_
    rintro e w2 ⟨p2, rfl, hb2, hc2⟩
    go_wp2_with fail
    refine (cells_calls c _ _ (by omega) ((HC.out.below (hb1.trans (hb2.mono hb1.size))).more (by have := hb1.size; have := hb2.size; omega))).mono ?_
    rintro e w3 ⟨p3, rfl, hb3, hc3⟩
    have hbw : Below w.heap.size w w3 := (hb1.trans (hb2.mono hb1.size)).trans (hb3.mono (by have := hb1.size; have := hb2.size; omega))
    have HC1 := Lib.hid ((hc1.below hb2).below (hb3.mono (Nat.le_refl _)))
    have HC2 := Lib.hid (hc2.below hb3)
    have HC3 := Lib.hid hc3
    have HBW := Lib.hid hbw
    clear hb1 hb2 hb3 hc1 hc2 hc3 hbw
    have hsz3 := HBW.out.size
    have hkc := keys_calls [(.slice aa a.length capa, a), (.slice ab b.length capb, b), (.slice ac c.length capc, c)] (.slice (some ⟨w3.heap.size, 0, none⟩) 3 3) (w3.alloc (.cells #[.slice aa a.length capa, .slice ab b.length capb, .slice ac c.length capc] 22)) (by simp) (by
        intro p hp
        simp only [List.mem_cons, List.not_mem_nil, or_false] at hp
        rcases hp with rfl | rfl | rfl <;> simp only <;> omega) (by
        have h1 := putAll_len a []
        have h2 := putAll_len b (putAll [] a)
        have h3 := putAll_len c (putAll (putAll [] a) b)
        have : putLists [((Value.slice aa a.length capa), a), (.slice ab b.length capb, b), (.slice ac c.length capc, c)] = putAll (putAll (putAll [] a) b) c := rfl
        rw [this]
        simp only [List.length_nil] at h1
        omega) ((sl_three (_root_.Go.heap_alloc_new w3 _)).more (by simp)) (by
        intro p hp
        have hbig := HBW.out.alloc hsz3 (.cells #[.slice aa a.length capa, .slice ab b.length capb, .slice ac c.length capc] 22)
        have hs4 : w.heap.size ≤ (w3.alloc (.cells #[.slice aa a.length capa, .slice ab b.length capb, .slice ac c.length capc] 22)).heap.size := hbig.size
        simp only [List.mem_cons, List.not_mem_nil, or_false] at hp
        rcases hp with rfl | rfl | rfl
        · exact (HA.out.below hbig).more hs4
        · exact (HB.out.below hbig).more hs4
        · exact (HC.out.below hbig).more hs4)
    rw [show keysOfE (ents (putLists [((Value.slice aa a.length capa), a), (.slice ab b.length capb, b), (.slice ac c.length capc, c)])) = keysL a b c from rfl] at hkc
    have HKC := Lib.hid hkc
    clear hkc
    go_wp2_with fail
    refine HKC.out.mono ?_
    clear HKC
    rintro e w4 ⟨v4, rfl, hb4, ho4⟩
    have hb34 := ((Below.refl w3.heap.size w3).alloc (Nat.le_refl _) (.cells #[.slice aa a.length capa, .slice ab b.length capb, .slice ac c.length capc] 22)).trans (hb4.mono (by simp))
    have HD1 := Lib.hid (HC1.out.below hb34)
    have HD2 := Lib.hid (HC2.out.below hb34)
    have HD3 := Lib.hid (HC3.out.below hb34)
    have HBX := Lib.hid (HBW.out.trans (hb34.mono hsz3))
    clear hb4 hb34 HC1 HC2 HC3 HBW HA HB HC
    have hkn := keysL_nodup a b c
    generalize hK : keysL a b c = K at *
    obtain ⟨a4, cap4, rfl, hcm4, hcl4⟩ := ho4.form
    have hsl := ho4.sl
    simp only [List.length_map] at *
    have HS := Lib.hid hsl
    unfold maxLen at hcm4
    clear hsl ho4 hK hkn
    have hszw := HBX.out.size
    go_wp2_with fail
    go_loopw [14, 15, 39] (fun s14 s15 s39 wr => ∃ i : Nat, i ≤ K.length ∧ s39 = .int .i64 i ∧ Hid (Below w4.heap.size w4 wr ∧ OwnA wr w4.heap.size 35 67 s14 (((K.take i).filterMap (wrOf a b c m)).map wrtA) ∧ OwnA wr w4.heap.size 25 38 s15 (rowK ((K.take i).filter (clashOf a b c m))))) (fun _ _ s39 _ => K.length - (intOf s39).toNat)
    case atStart => exact ⟨0, Nat.zero_le _, rfl, Lib.hid ⟨Below.refl _ _, OwnA.nil _ _ _ _, OwnA.nil _ _ _ _⟩⟩
    case round =>
      obtain ⟨i, hi, rfl, HQ⟩ := hrel
      by_cases hli : i < K.length
      · have hliI : (i : Int) < K.length := by omega
        obtain ⟨_, a5, cap5, he, _, _, hc5⟩ := HS.out.below HQ.out.1
        simp only [Value.slice.injEq, List.length_map, true_and] at he
        obtain ⟨rfl, rfl⟩ := he
        obtain ⟨g, q, rfl, hlb, hcut⟩ := hc5 (by simp; omega)
        have hcutk := hcut i (row8 K[i].val) (by simp [hli])
        have hsz := HQ.out.1.size
        have hgr : g < wr.heap.size := by omega
        have hf1 : (K.take (i + 1)).filterMap (wrOf a b c m) = (K.take i).filterMap (wrOf a b c m) ++ ((wrOf a b c m K[i]).toList) := by rw [List.take_succ_eq_append_getElem hli, List.filterMap_append]; cases hw : wrOf a b c m K[i] <;> simp [hw]
        have hf2 : (K.take (i + 1)).filter (clashOf a b c m) = (K.take i).filter (clashOf a b c m) ++ (if clashOf a b c m K[i] = true then [K[i]] else []) := by rw [List.take_succ_eq_append_getElem hli, List.filter_append]; cases hw : clashOf a b c m K[i] <;> simp [hw]
        generalize K[i] = k at *
        have HF1 := Lib.hid hf1
        have HF2 := Lib.hid hf2
        have hk25 := k.len
        clear hcut hc5 hf1 hf2
        have hE1 := HD1.out.below HQ.out.1
        have hE2 := HD2.out.below HQ.out.1
        have hE3 := HD3.out.below HQ.out.1
        have HE1 := Lib.hid hE1
        have HE2 := Lib.hid hE2
        have HE3 := Lib.hid hE3
        clear hE1 hE2 hE3
        have hcA : ∀ W, CellsAt W p1 (cellMap a) → Gives Try.prog 30 #[.agg (row8 k.val), .pointer (some ⟨p1, 0, none⟩)] W (.agg (cellA (cellAt a k))) := fun W h => cellF_gives W p1 _ k h
        have hcB : ∀ W, CellsAt W p2 (cellMap b) → Gives Try.prog 30 #[.agg (row8 k.val), .pointer (some ⟨p2, 0, none⟩)] W (.agg (cellA (cellAt b k))) := fun W h => cellF_gives W p2 _ k h
        have hcC : ∀ W, CellsAt W p3 (cellMap c) → Gives Try.prog 30 #[.agg (row8 k.val), .pointer (some ⟨p3, 0, none⟩)] W (.agg (cellA (cellAt c k))) := fun W h => cellF_gives W p3 _ k h
        have hw : wrOf a b c m k = if (threeC (cellAt a k) (cellAt b k) (cellAt c k) m).2.2 = 0 ∧ (threeC (cellAt a k) (cellAt b k) (cellAt c k) m).1 ≠ cellAt b k then some ⟨k, !(threeC (cellAt a k) (cellAt b k) (cellAt c k) m).1.is_, (threeC (cellAt a k) (cellAt b k) (cellAt c k) m).1.r⟩ else none := rfl
        have hcl : clashOf a b c m k = decide ((threeC (cellAt a k) (cellAt b k) (cellAt c k) m).2.1 = 3) := rfl
        have hT := threeM_gives (cellAt a k) (cellAt b k) (cellAt c k) m
        generalize cellAt a k = A at *
        generalize cellAt b k = B at *
        generalize cellAt c k = C at *
        generalize threeC A B C m = t at *
        obtain ⟨y, s, er⟩ := t
        simp only at hw hcl hT
        have HCA := Lib.hid hcA
        have HCB := Lib.hid hcB
        have HCC := Lib.hid hcC
        have HW := Lib.hid hw
        have HCL := Lib.hid hcl
        have HT := Lib.hid hT
        clear hcA hcB hcC hw hcl hT
        go_upto_region 9 with fail
        apply wp_region_specs (by rfl) [.val _, .val _, .val _, .val _, .val _, .val _, .val _, .val _, .val _, .val _, .val _, .val _, .val _, .pure _, .pure _, .new _] 16 (by rfl) [44, 45, 46, 47, 48, 49, 50, 51, 52, 53, 54, 43, 55, 56, 57, 18] [15] [13, 14] (by rfl) (by rfl) (by decide) (by decide +kernel) (fun _ _ _ _ _ h => h)
        case hF => intro x; simp only [over, List.foldl_cons, List.foldl_nil, List.setIfInBounds_toArray, List.set_cons_succ, List.set_cons_zero]; exact rfl
        case hops =>
          refine ⟨?o0, ?o1, ?o2, ?o3, ?o4, ?o5, ?o6, ?o7, ?o8, ?o9, ?o10, ?o11, ?o12, ?o13, ?o14, ?o15, trivial⟩
          case o0 =>
            intro x w1 hH K hK
            obtain ⟨xs, d, rfl⟩ := grow_of_below hH.below
            clear hH
            try simp only [World.grow_drew] at hK ⊢
            try simp only [World.grow_grow] at hK ⊢
            go_simp
            go_wp2_with fail
            exact ⟨_, rfl, rfl, (by repeat (first | exact below_of_grow _ _ | exact Below.refl _ _ | exact below_more _ _ _ _ | (simp only [← Array.append_assoc]; first | exact below_more _ _ _ _ | exact below_same _ _ _ | exact Below.refl _ _) | exact below_same _ _ _ | (refine Below.alloc ?_ (by first | (simp; done) | (simp; omega)) _) | (refine Below.grow ?_ (by first | (simp; done) | (simp; omega)) _ _) | refine Below.drew ?_ | refine Below.drewN ?_ _ | (refine Below.putF ?_ (by first | (simp; done) | omega | (simp; omega)) _) | (refine Below.setCell ?_ (by first | (simp; done) | (simp; omega)) _))), fun h => by cases h⟩
          case o1 =>
            intro x w1 hH K hK
            obtain ⟨xs, d, rfl⟩ := grow_of_below hH.below
            clear hH
            try simp only [World.grow_drew] at hK ⊢
            try simp only [World.grow_grow] at hK ⊢
            go_simp
            go_wp2_with fail
            exact ⟨_, rfl, rfl, (by repeat (first | exact below_of_grow _ _ | exact Below.refl _ _ | exact below_more _ _ _ _ | (simp only [← Array.append_assoc]; first | exact below_more _ _ _ _ | exact below_same _ _ _ | exact Below.refl _ _) | exact below_same _ _ _ | (refine Below.alloc ?_ (by first | (simp; done) | (simp; omega)) _) | (refine Below.grow ?_ (by first | (simp; done) | (simp; omega)) _ _) | refine Below.drew ?_ | refine Below.drewN ?_ _ | (refine Below.putF ?_ (by first | (simp; done) | omega | (simp; omega)) _) | (refine Below.setCell ?_ (by first | (simp; done) | (simp; omega)) _))), fun h => by cases h⟩
          case o2 =>
            intro x w1 hH K hK
            have e44 : x 44 = _ := hH.holds 0 (by decide) (by decide +kernel) 44 rfl
            have e45 : x 45 = _ := hH.holds 1 (by decide) (by decide +kernel) 45 rfl
            obtain ⟨xs, d, rfl⟩ := grow_of_below hH.below
            clear hH
            try simp only [World.grow_drew] at hK ⊢
            try simp only [World.grow_grow] at hK ⊢
            simp only [e44, e45] at hK ⊢
            clear e44 e45
            go_simp
            go_wp2_with (refine Gives.use (HCA.out _ (HE1.out.below (((Below.refl _ _).alloc (Nat.le_refl _) _).grow (by rw [World.alloc_size1]; omega) _ _))) ?_; intro ys e)
            exact ⟨_, rfl, rfl, (by first | exact below_more _ _ _ _ | exact (by repeat (first | exact below_of_grow _ _ | exact Below.refl _ _ | exact below_more _ _ _ _ | (simp only [← Array.append_assoc]; first | exact below_more _ _ _ _ | exact below_same _ _ _ | exact Below.refl _ _) | exact below_same _ _ _ | (refine Below.alloc ?_ (by first | (simp; done) | (simp; omega)) _) | (refine Below.grow ?_ (by first | (simp; done) | (simp; omega)) _ _) | refine Below.drew ?_ | refine Below.drewN ?_ _ | (refine Below.putF ?_ (by first | (simp; done) | omega | (simp; omega)) _) | (refine Below.setCell ?_ (by first | (simp; done) | (simp; omega)) _)))), fun h => by cases h⟩
          case o3 =>
            intro x w1 hH K hK
            obtain ⟨xs, d, rfl⟩ := grow_of_below hH.below
            clear hH
            try simp only [World.grow_drew] at hK ⊢
            try simp only [World.grow_grow] at hK ⊢
            go_simp
            go_wp2_with fail
            exact ⟨_, rfl, rfl, (by repeat (first | exact below_of_grow _ _ | exact Below.refl _ _ | exact below_more _ _ _ _ | (simp only [← Array.append_assoc]; first | exact below_more _ _ _ _ | exact below_same _ _ _ | exact Below.refl _ _) | exact below_same _ _ _ | (refine Below.alloc ?_ (by first | (simp; done) | (simp; omega)) _) | (refine Below.grow ?_ (by first | (simp; done) | (simp; omega)) _ _) | refine Below.drew ?_ | refine Below.drewN ?_ _ | (refine Below.putF ?_ (by first | (simp; done) | omega | (simp; omega)) _) | (refine Below.setCell ?_ (by first | (simp; done) | (simp; omega)) _))), fun h => by cases h⟩
          case o4 =>
            intro x w1 hH K hK
            obtain ⟨xs, d, rfl⟩ := grow_of_below hH.below
            clear hH
            try simp only [World.grow_drew] at hK ⊢
            try simp only [World.grow_grow] at hK ⊢
            go_simp
            go_wp2_with fail
            exact ⟨_, rfl, rfl, (by repeat (first | exact below_of_grow _ _ | exact Below.refl _ _ | exact below_more _ _ _ _ | (simp only [← Array.append_assoc]; first | exact below_more _ _ _ _ | exact below_same _ _ _ | exact Below.refl _ _) | exact below_same _ _ _ | (refine Below.alloc ?_ (by first | (simp; done) | (simp; omega)) _) | (refine Below.grow ?_ (by first | (simp; done) | (simp; omega)) _ _) | refine Below.drew ?_ | refine Below.drewN ?_ _ | (refine Below.putF ?_ (by first | (simp; done) | omega | (simp; omega)) _) | (refine Below.setCell ?_ (by first | (simp; done) | (simp; omega)) _))), fun h => by cases h⟩
          case o5 =>
            intro x w1 hH K hK
            have e47 : x 47 = _ := hH.holds 3 (by decide) (by decide +kernel) 47 rfl
            have e48 : x 48 = _ := hH.holds 4 (by decide) (by decide +kernel) 48 rfl
            obtain ⟨xs, d, rfl⟩ := grow_of_below hH.below
            clear hH
            try simp only [World.grow_drew] at hK ⊢
            try simp only [World.grow_grow] at hK ⊢
            simp only [e47, e48] at hK ⊢
            clear e47 e48
            go_simp
            go_wp2_with (refine Gives.use (HCB.out _ (HE2.out.below (((Below.refl _ _).alloc (Nat.le_refl _) _).grow (by rw [World.alloc_size1]; omega) _ _))) ?_; intro ys e)
            exact ⟨_, rfl, rfl, (by first | exact below_more _ _ _ _ | exact (by repeat (first | exact below_of_grow _ _ | exact Below.refl _ _ | exact below_more _ _ _ _ | (simp only [← Array.append_assoc]; first | exact below_more _ _ _ _ | exact below_same _ _ _ | exact Below.refl _ _) | exact below_same _ _ _ | (refine Below.alloc ?_ (by first | (simp; done) | (simp; omega)) _) | (refine Below.grow ?_ (by first | (simp; done) | (simp; omega)) _ _) | refine Below.drew ?_ | refine Below.drewN ?_ _ | (refine Below.putF ?_ (by first | (simp; done) | omega | (simp; omega)) _) | (refine Below.setCell ?_ (by first | (simp; done) | (simp; omega)) _)))), fun h => by cases h⟩
          case o6 =>
            intro x w1 hH K hK
            obtain ⟨xs, d, rfl⟩ := grow_of_below hH.below
            clear hH
            try simp only [World.grow_drew] at hK ⊢
            try simp only [World.grow_grow] at hK ⊢
            go_simp
            go_wp2_with fail
            exact ⟨_, rfl, rfl, (by repeat (first | exact below_of_grow _ _ | exact Below.refl _ _ | exact below_more _ _ _ _ | (simp only [← Array.append_assoc]; first | exact below_more _ _ _ _ | exact below_same _ _ _ | exact Below.refl _ _) | exact below_same _ _ _ | (refine Below.alloc ?_ (by first | (simp; done) | (simp; omega)) _) | (refine Below.grow ?_ (by first | (simp; done) | (simp; omega)) _ _) | refine Below.drew ?_ | refine Below.drewN ?_ _ | (refine Below.putF ?_ (by first | (simp; done) | omega | (simp; omega)) _) | (refine Below.setCell ?_ (by first | (simp; done) | (simp; omega)) _))), fun h => by cases h⟩
          case o7 =>
            intro x w1 hH K hK
            obtain ⟨xs, d, rfl⟩ := grow_of_below hH.below
            clear hH
            try simp only [World.grow_drew] at hK ⊢
            try simp only [World.grow_grow] at hK ⊢
            go_simp
            go_wp2_with fail
            exact ⟨_, rfl, rfl, (by repeat (first | exact below_of_grow _ _ | exact Below.refl _ _ | exact below_more _ _ _ _ | (simp only [← Array.append_assoc]; first | exact below_more _ _ _ _ | exact below_same _ _ _ | exact Below.refl _ _) | exact below_same _ _ _ | (refine Below.alloc ?_ (by first | (simp; done) | (simp; omega)) _) | (refine Below.grow ?_ (by first | (simp; done) | (simp; omega)) _ _) | refine Below.drew ?_ | refine Below.drewN ?_ _ | (refine Below.putF ?_ (by first | (simp; done) | omega | (simp; omega)) _) | (refine Below.setCell ?_ (by first | (simp; done) | (simp; omega)) _))), fun h => by cases h⟩
          case o8 =>
            intro x w1 hH K hK
            have e50 : x 50 = _ := hH.holds 6 (by decide) (by decide +kernel) 50 rfl
            have e51 : x 51 = _ := hH.holds 7 (by decide) (by decide +kernel) 51 rfl
            obtain ⟨xs, d, rfl⟩ := grow_of_below hH.below
            clear hH
            try simp only [World.grow_drew] at hK ⊢
            try simp only [World.grow_grow] at hK ⊢
            simp only [e50, e51] at hK ⊢
            clear e50 e51
            go_simp
            go_wp2_with (refine Gives.use (HCC.out _ (HE3.out.below (((Below.refl _ _).alloc (Nat.le_refl _) _).grow (by rw [World.alloc_size1]; omega) _ _))) ?_; intro ys e)
            exact ⟨_, rfl, rfl, (by first | exact below_more _ _ _ _ | exact (by repeat (first | exact below_of_grow _ _ | exact Below.refl _ _ | exact below_more _ _ _ _ | (simp only [← Array.append_assoc]; first | exact below_more _ _ _ _ | exact below_same _ _ _ | exact Below.refl _ _) | exact below_same _ _ _ | (refine Below.alloc ?_ (by first | (simp; done) | (simp; omega)) _) | (refine Below.grow ?_ (by first | (simp; done) | (simp; omega)) _ _) | refine Below.drew ?_ | refine Below.drewN ?_ _ | (refine Below.putF ?_ (by first | (simp; done) | omega | (simp; omega)) _) | (refine Below.setCell ?_ (by first | (simp; done) | (simp; omega)) _)))), fun h => by cases h⟩
          case o9 =>
            intro x w1 hH K hK
            obtain ⟨xs, d, rfl⟩ := grow_of_below hH.below
            clear hH
            try simp only [World.grow_drew] at hK ⊢
            try simp only [World.grow_grow] at hK ⊢
            go_simp
            go_wp2_with fail
            exact ⟨_, rfl, rfl, (by repeat (first | exact below_of_grow _ _ | exact Below.refl _ _ | exact below_more _ _ _ _ | (simp only [← Array.append_assoc]; first | exact below_more _ _ _ _ | exact below_same _ _ _ | exact Below.refl _ _) | exact below_same _ _ _ | (refine Below.alloc ?_ (by first | (simp; done) | (simp; omega)) _) | (refine Below.grow ?_ (by first | (simp; done) | (simp; omega)) _ _) | refine Below.drew ?_ | refine Below.drewN ?_ _ | (refine Below.putF ?_ (by first | (simp; done) | omega | (simp; omega)) _) | (refine Below.setCell ?_ (by first | (simp; done) | (simp; omega)) _))), fun h => by cases h⟩
          case o10 =>
            intro x w1 hH K hK
            have e46 : x 46 = _ := hH.holds 2 (by decide) (by decide +kernel) 46 rfl
            have e49 : x 49 = _ := hH.holds 5 (by decide) (by decide +kernel) 49 rfl
            have e52 : x 52 = _ := hH.holds 8 (by decide) (by decide +kernel) 52 rfl
            have e53 : x 53 = _ := hH.holds 9 (by decide) (by decide +kernel) 53 rfl
            obtain ⟨xs, d, rfl⟩ := grow_of_below hH.below
            clear hH
            try simp only [World.grow_drew] at hK ⊢
            try simp only [World.grow_grow] at hK ⊢
            simp only [e46, e49, e52, e53] at hK ⊢
            clear e46 e49 e52 e53
            go_simp
            go_wp2_with (refine Gives.use (HT.out _) ?_; intro ys e)
            exact ⟨_, rfl, rfl, (by first | exact below_more _ _ _ _ | exact (by repeat (first | exact below_of_grow _ _ | exact Below.refl _ _ | exact below_more _ _ _ _ | (simp only [← Array.append_assoc]; first | exact below_more _ _ _ _ | exact below_same _ _ _ | exact Below.refl _ _) | exact below_same _ _ _ | (refine Below.alloc ?_ (by first | (simp; done) | (simp; omega)) _) | (refine Below.grow ?_ (by first | (simp; done) | (simp; omega)) _ _) | refine Below.drew ?_ | refine Below.drewN ?_ _ | (refine Below.putF ?_ (by first | (simp; done) | omega | (simp; omega)) _) | (refine Below.setCell ?_ (by first | (simp; done) | (simp; omega)) _)))), fun h => by cases h⟩
          case o11 =>
            intro x w1 hH K hK
            have e54 : x 54 = _ := hH.holds 10 (by decide) (by decide +kernel) 54 rfl
            obtain ⟨xs, d, rfl⟩ := grow_of_below hH.below
            clear hH
            try simp only [World.grow_drew] at hK ⊢
            try simp only [World.grow_grow] at hK ⊢
            simp only [e54] at hK ⊢
            clear e54
            go_simp
            go_wp2_with fail
            exact ⟨_, rfl, rfl, (by repeat (first | exact below_of_grow _ _ | exact Below.refl _ _ | exact below_more _ _ _ _ | (simp only [← Array.append_assoc]; first | exact below_more _ _ _ _ | exact below_same _ _ _ | exact Below.refl _ _) | exact below_same _ _ _ | (refine Below.alloc ?_ (by first | (simp; done) | (simp; omega)) _) | (refine Below.grow ?_ (by first | (simp; done) | (simp; omega)) _ _) | refine Below.drew ?_ | refine Below.drewN ?_ _ | (refine Below.putF ?_ (by first | (simp; done) | omega | (simp; omega)) _) | (refine Below.setCell ?_ (by first | (simp; done) | (simp; omega)) _))), fun h => by cases h⟩
          case o12 =>
            intro x w1 hH K hK
            have e43 : x 43 = _ := hH.holds 11 (by decide) (by decide +kernel) 43 rfl
            obtain ⟨xs, d, rfl⟩ := grow_of_below hH.below
            clear hH
            try simp only [World.grow_drew] at hK ⊢
            try simp only [World.grow_grow] at hK ⊢
            simp only [e43] at hK ⊢
            clear e43
            go_simp
            go_wp2_with fail
            exact ⟨_, rfl, rfl, (by repeat (first | exact below_of_grow _ _ | exact Below.refl _ _ | exact below_more _ _ _ _ | (simp only [← Array.append_assoc]; first | exact below_more _ _ _ _ | exact below_same _ _ _ | exact Below.refl _ _) | exact below_same _ _ _ | (refine Below.alloc ?_ (by first | (simp; done) | (simp; omega)) _) | (refine Below.grow ?_ (by first | (simp; done) | (simp; omega)) _ _) | refine Below.drew ?_ | refine Below.drewN ?_ _ | (refine Below.putF ?_ (by first | (simp; done) | omega | (simp; omega)) _) | (refine Below.setCell ?_ (by first | (simp; done) | (simp; omega)) _))), fun h => by cases h⟩
          case o13 =>
            intro x w1 hH
            have e43 : x 43 = _ := hH.holds 11 (by decide) (by decide +kernel) 43 rfl
            clear hH
            simp only [e43]
            exact Or.inl ⟨rfl, fun _ => rfl⟩
          case o14 =>
            intro x w1 hH
            have e43 : x 43 = _ := hH.holds 11 (by decide) (by decide +kernel) 43 rfl
            clear hH
            simp only [e43]
            exact Or.inl ⟨rfl, fun _ => rfl⟩
          case o15 =>
            intro x w1 hH K hK
            obtain ⟨xs, d, rfl⟩ := grow_of_below hH.below
            clear hH
            try simp only [World.grow_drew] at hK ⊢
            try simp only [World.grow_grow] at hK ⊢
            go_simp
            go_wp2_with fail
            exact left_new rfl (by simp) (by first | (simp; done) | (simp; omega))
        case hend =>
          intro x w1 hH
          have e44 : x 44 = _ := hH.holds 0 (by decide) trivial 44 rfl
          have e45 : x 45 = _ := hH.holds 1 (by decide) trivial 45 rfl
          have e46 : x 46 = _ := hH.holds 2 (by decide) trivial 46 rfl
          have e47 : x 47 = _ := hH.holds 3 (by decide) trivial 47 rfl
          have e48 : x 48 = _ := hH.holds 4 (by decide) trivial 48 rfl
          have e49 : x 49 = _ := hH.holds 5 (by decide) trivial 49 rfl
          have e50 : x 50 = _ := hH.holds 6 (by decide) trivial 50 rfl
          have e51 : x 51 = _ := hH.holds 7 (by decide) trivial 51 rfl
          have e52 : x 52 = _ := hH.holds 8 (by decide) trivial 52 rfl
          have e53 : x 53 = _ := hH.holds 9 (by decide) trivial 53 rfl
          have e54 : x 54 = _ := hH.holds 10 (by decide) trivial 54 rfl
          have e43 : x 43 = _ := hH.holds 11 (by decide) trivial 43 rfl
          have e55 : x 55 = _ := hH.holds 12 (by decide) trivial 55 rfl
          have e56 : x 56 = _ := hH.holds 13 (by decide) trivial 56 rfl
          have e57 : x 57 = _ := hH.holds 14 (by decide) trivial 57 rfl
          obtain ⟨b18, e18, l18, u18, o18⟩ := hH.holds 15 (by decide) trivial 18 rfl
          obtain ⟨xs, d, rfl⟩ := grow_of_below hH.below
          clear hH
          simp only [e44, e45, e46, e47, e48, e49, e50, e51, e52, e53, e54, e43, e55, e56, e57, e18]; clear e44 e45 e46 e47 e48 e49 e50 e51 e52 e53 e54 e43 e55 e56 e57 e18
          refine new_known1 o18 l18 u18 ?_
          clear o18
          simp [go_sem] at l18 u18
          simp only [List.drop_succ_cons, List.drop_zero]
          go_upto_if 59 with fail
          simp only [List.getElem_toArray, List.getElem_cons_succ, List.getElem_cons_zero]
          obtain ⟨W, hW⟩ : ∃ W, W = (((wr.alloc (.cells (row8 k.val) 38)).grow xs d).putF (wr.heap.size + 1) b18 (.cells (cellA y) 45)) := ⟨_, rfl⟩
          have hWs : W.heap.size = wr.heap.size + 1 + xs.size := by rw [hW]; simp
          have hW18 : W.heap[b18]? = some (.cells (cellA y) 45) := by rw [hW]; exact World.putF_heap_eq _ (by simp; omega)
          have hW17 : W.heap[wr.heap.size]? = some (.cells (row8 k.val) 38) := by
            rw [hW, World.putF_heap_ne _ (by omega), World.grow_heap _ _ _ (by simp)]
            exact _root_.Go.heap_alloc_new wr _
          have hWb : Below wr.heap.size wr W := by rw [hW]; exact Below.putF (((Below.refl _ _).alloc (Nat.le_refl _) _).grow (by simp) _ _) (by omega) _
          rw [← hW]
          have hW17s : wr.heap.size < W.heap.size := by omega
          have hW18s : b18 < W.heap.size := by omega
          have HWB := Lib.hid hWb
          have HW17 := Lib.hid hW17
          have HW18 := Lib.hid hW18
          have HWL := Lib.hid (And.intro l18 u18)
          clear hW hWs hW17 hW18 hWb l18 u18
          go_cut [15] (fun s15 wx => Hid (Below w4.heap.size w4 wx ∧ OwnA wx w4.heap.size 35 67 u14 (((K.take i).filterMap (wrOf a b c m)).map wrtA) ∧ OwnA wx w4.heap.size 25 38 s15 (rowK ((K.take (i + 1)).filter (clashOf a b c m))) ∧ wx.heap[wr.heap.size]? = some (.cells (row8 k.val) 38) ∧ wx.heap[b18]? = some (.cells (cellA y) 45)))
          case first =>
            have q14 := HQ.out.2.1.below HWB.out
            have q15 := HQ.out.2.2.below HWB.out
            have qb := HQ.out.1.trans (HWB.out.mono hsz)
            have HQ14 := Lib.hid q14
            have HQ15 := Lib.hid q15
            have HQB := Lib.hid qb
            have l14 := HQ.out.2.1.lt
            have l15 := HQ.out.2.2.lt
            have HL14 := Lib.hid l14
            have HL15 := Lib.hid l15
            clear q14 q15 qb l14 l15
            cases hs3 : (s == 3) with
            | true =>
              have hc3 : clashOf a b c m k = true := by rw [HCL.out]; simpa using hs3
              have HC3' := Lib.hid hc3
              have hkW := cut_heap HW17.out (sz := 25) (by simp)
              clear hc3
              go_wp2_with (at_builtin; refine wpList_append (B := w4.heap.size) (xs := rowK ((K.take i).filter (clashOf a b c m))) (ys := [row8 k.val]) row_key rfl (.tmp 60) (.tmp 62) rfl (v := u15) rfl ?_ rfl ?_ ?_ ?_ ?_ ?_)
              case refine_1 => exact HQ15.out.alloc _
              case refine_2 =>
                refine ⟨_, sl_one (Nat.le_refl _) (by decide) (cut_heap ((heap_al _ _ _).trans (if_pos ?_)) (by simp))⟩
                simp
              case refine_3 => intro x hx; simp at hx; subst hx; exact row8_one _
              case refine_4 =>
                have := List.length_filter_le (clashOf a b c m) (K.take i)
                simp at this ⊢
                omega
              case refine_5 => simp; omega
              intro v3 w5 ho hg _
              have hz5 : w4.heap.size ≤ w5.heap.size := by have := hg.size; simp at this; omega
              have k1 : ∀ q, q < W.heap.size → some q ≠ u15.ownBlock → w5.heap[q]? = W.heap[q]? := fun q hq hne => (hg.block q (by simp; omega) hne).trans (heap_alloc_old (w := W) _ hq)
              have hb5 : Below w4.heap.size w4 w5 := Below.grown (HQB.out.alloc (by omega) (.cells (row8 k.val) 38)) hg (by simp; omega) (fun q hq => (HL15.out q hq).1)
              have ho14 := HQ14.out.keep (w' := w5) (fun q hq hlt => k1 q hlt (fun e => own_ne HQ14.out HQ15.out (by decide) q hq e.symm))
              have h17 := (k1 wr.heap.size hW17s (fun e => by have := HL15.out _ e.symm; omega)).trans HW17.out
              have h18 := (k1 b18 hW18s (fun e => by have := HL15.out _ e.symm; have := HWL.out; omega)).trans HW18.out
              have hf2 := HF2.out
              rw [HC3'.out, if_pos rfl] at hf2
              have ho15 : OwnA w5 w4.heap.size 25 38 v3 (rowK ((K.take (i + 1)).filter (clashOf a b c m))) := by rw [hf2]; simpa [rowK] using ho
              have HFIN := Lib.hid (And.intro hb5 (And.intro ho14 (And.intro ho15 (And.intro h17 h18))))
              clear ho hg hb5 ho14 h17 h18 ho15 hf2 k1 hz5
              go_wp2_with fail
              go_meet
              exact HFIN
            | false =>
              have hc3 : clashOf a b c m k = false := by rw [HCL.out]; simpa using hs3
              have HC3' := Lib.hid hc3
              clear hc3
              go_wp2_with fail
              go_meet
              have hf2 := HF2.out
              rw [HC3'.out, if_neg (by decide), List.append_nil] at hf2
              exact Lib.hid ⟨HQB.out, HQ14.out, by rw [hf2]; exact HQ15.out, HW17.out, HW18.out⟩
          case rest =>
            have q17 := hcut.out.2.2.2.1
            have q18 := hcut.out.2.2.2.2
            have s17 : wr.heap.size < wc.heap.size := (Array.getElem?_eq_some_iff.1 q17).1
            have s18 : b18 < wc.heap.size := (Array.getElem?_eq_some_iff.1 q18).1
            have hkc := cut_heap q17 (sz := 25) (by simp)
            have hcc := cut_heap q18 (sz := 10) (by simp)
            have hE2 := HD2.out.below hcut.out.1
            have HE2' := Lib.hid hE2
            have HCUT := hcut
            have h4c := hcut.out.1.size
            clear q17 q18 hE2 hcut hcutk hgr hsz HWB HW17 HW18 hW17s hW18s HWL
            obtain ⟨X, rfl⟩ : ∃ X, X = wc := ⟨_, rfl⟩
            go_upto_region 12 with fail
            go_cut [72] (fun s72 wx => s72 = .bool (decide (er = 0) && !decide (y = B)) ∧ ∃ xs d, wx = X.grow xs d)
            case first =>
              cases he0 : (er == 0) with
              | true =>
                have he1 : decide (er = 0) = true := by simpa using he0
                have HE1 := Lib.hid he1
                clear he1
                go_wp2_with fail
                apply wp_region_specs (by rfl) [.val _, .val _, .val _, .val _, .val _, .val _, .val _, .val _, .val _] 9 (by rfl) [64, 65, 66, 67, 68, 69, 70, 71, 72] [] [] (by rfl) (by rfl) (by decide) (by decide +kernel) (fun _ _ _ _ _ h => h)
                case hF => intro x; simp only [over, List.foldl_cons, List.foldl_nil, List.setIfInBounds_toArray, List.set_cons_succ, List.set_cons_zero]; exact rfl
                case hops =>
                  refine ⟨?o0, ?o1, ?o2, ?o3, ?o4, ?o5, ?o6, ?o7, ?o8, trivial⟩
                  case o0 =>
                    intro x w1 hH K hK
                    obtain ⟨xs, d, rfl⟩ := grow_of_below hH.below
                    clear hH
                    try simp only [World.grow_drew] at hK ⊢
                    try simp only [World.grow_grow] at hK ⊢
                    go_simp
                    go_wp2_with fail
                    exact ⟨_, rfl, rfl, (by repeat (first | exact below_of_grow _ _ | exact Below.refl _ _ | exact below_more _ _ _ _ | (simp only [← Array.append_assoc]; first | exact below_more _ _ _ _ | exact below_same _ _ _ | exact Below.refl _ _) | exact below_same _ _ _ | (refine Below.alloc ?_ (by first | (simp; done) | (simp; omega)) _) | (refine Below.grow ?_ (by first | (simp; done) | (simp; omega)) _ _) | refine Below.drew ?_ | refine Below.drewN ?_ _ | (refine Below.putF ?_ (by first | (simp; done) | omega | (simp; omega)) _) | (refine Below.setCell ?_ (by first | (simp; done) | (simp; omega)) _))), fun h => by cases h⟩
                  case o1 =>
                    intro x w1 hH K hK
                    have e64 : x 64 = _ := hH.holds 0 (by decide) (by decide +kernel) 64 rfl
                    obtain ⟨xs, d, rfl⟩ := grow_of_below hH.below
                    clear hH
                    try simp only [World.grow_drew] at hK ⊢
                    try simp only [World.grow_grow] at hK ⊢
                    simp only [e64] at hK ⊢
                    clear e64
                    go_simp
                    go_wp2_with fail
                    exact ⟨_, rfl, rfl, (by repeat (first | exact below_of_grow _ _ | exact Below.refl _ _ | exact below_more _ _ _ _ | (simp only [← Array.append_assoc]; first | exact below_more _ _ _ _ | exact below_same _ _ _ | exact Below.refl _ _) | exact below_same _ _ _ | (refine Below.alloc ?_ (by first | (simp; done) | (simp; omega)) _) | (refine Below.grow ?_ (by first | (simp; done) | (simp; omega)) _ _) | refine Below.drew ?_ | refine Below.drewN ?_ _ | (refine Below.putF ?_ (by first | (simp; done) | omega | (simp; omega)) _) | (refine Below.setCell ?_ (by first | (simp; done) | (simp; omega)) _))), fun h => by cases h⟩
                  case o2 =>
                    intro x w1 hH K hK
                    have e65 : x 65 = _ := hH.holds 1 (by decide) (by decide +kernel) 65 rfl
                    obtain ⟨xs, d, rfl⟩ := grow_of_below hH.below
                    clear hH
                    try simp only [World.grow_drew] at hK ⊢
                    try simp only [World.grow_grow] at hK ⊢
                    simp only [e65] at hK ⊢
                    clear e65
                    go_simp
                    go_wp2_with fail
                    exact ⟨_, rfl, rfl, (by repeat (first | exact below_of_grow _ _ | exact Below.refl _ _ | exact below_more _ _ _ _ | (simp only [← Array.append_assoc]; first | exact below_more _ _ _ _ | exact below_same _ _ _ | exact Below.refl _ _) | exact below_same _ _ _ | (refine Below.alloc ?_ (by first | (simp; done) | (simp; omega)) _) | (refine Below.grow ?_ (by first | (simp; done) | (simp; omega)) _ _) | refine Below.drew ?_ | refine Below.drewN ?_ _ | (refine Below.putF ?_ (by first | (simp; done) | omega | (simp; omega)) _) | (refine Below.setCell ?_ (by first | (simp; done) | (simp; omega)) _))), fun h => by cases h⟩
                  case o3 =>
                    intro x w1 hH K hK
                    have e66 : x 66 = _ := hH.holds 2 (by decide) (by decide +kernel) 66 rfl
                    obtain ⟨xs, d, rfl⟩ := grow_of_below hH.below
                    clear hH
                    try simp only [World.grow_drew] at hK ⊢
                    try simp only [World.grow_grow] at hK ⊢
                    simp only [e66] at hK ⊢
                    clear e66
                    go_simp
                    go_wp2_with fail
                    exact ⟨_, rfl, rfl, (by repeat (first | exact below_of_grow _ _ | exact Below.refl _ _ | exact below_more _ _ _ _ | (simp only [← Array.append_assoc]; first | exact below_more _ _ _ _ | exact below_same _ _ _ | exact Below.refl _ _) | exact below_same _ _ _ | (refine Below.alloc ?_ (by first | (simp; done) | (simp; omega)) _) | (refine Below.grow ?_ (by first | (simp; done) | (simp; omega)) _ _) | refine Below.drew ?_ | refine Below.drewN ?_ _ | (refine Below.putF ?_ (by first | (simp; done) | omega | (simp; omega)) _) | (refine Below.setCell ?_ (by first | (simp; done) | (simp; omega)) _))), fun h => by cases h⟩
                  case o4 =>
                    intro x w1 hH K hK
                    have e66 : x 66 = _ := hH.holds 2 (by decide) (by decide +kernel) 66 rfl
                    obtain ⟨xs, d, rfl⟩ := grow_of_below hH.below
                    clear hH
                    try simp only [World.grow_drew] at hK ⊢
                    try simp only [World.grow_grow] at hK ⊢
                    simp only [e66] at hK ⊢
                    clear e66
                    go_simp
                    go_wp2_with fail
                    exact ⟨_, rfl, rfl, (by repeat (first | exact below_of_grow _ _ | exact Below.refl _ _ | exact below_more _ _ _ _ | (simp only [← Array.append_assoc]; first | exact below_more _ _ _ _ | exact below_same _ _ _ | exact Below.refl _ _) | exact below_same _ _ _ | (refine Below.alloc ?_ (by first | (simp; done) | (simp; omega)) _) | (refine Below.grow ?_ (by first | (simp; done) | (simp; omega)) _ _) | refine Below.drew ?_ | refine Below.drewN ?_ _ | (refine Below.putF ?_ (by first | (simp; done) | omega | (simp; omega)) _) | (refine Below.setCell ?_ (by first | (simp; done) | (simp; omega)) _))), fun h => by cases h⟩
                  case o5 =>
                    intro x w1 hH K hK
                    have e66 : x 66 = _ := hH.holds 2 (by decide) (by decide +kernel) 66 rfl
                    obtain ⟨xs, d, rfl⟩ := grow_of_below hH.below
                    clear hH
                    try simp only [World.grow_drew] at hK ⊢
                    try simp only [World.grow_grow] at hK ⊢
                    simp only [e66] at hK ⊢
                    clear e66
                    go_simp
                    go_wp2_with fail
                    exact ⟨_, rfl, rfl, (by repeat (first | exact below_of_grow _ _ | exact Below.refl _ _ | exact below_more _ _ _ _ | (simp only [← Array.append_assoc]; first | exact below_more _ _ _ _ | exact below_same _ _ _ | exact Below.refl _ _) | exact below_same _ _ _ | (refine Below.alloc ?_ (by first | (simp; done) | (simp; omega)) _) | (refine Below.grow ?_ (by first | (simp; done) | (simp; omega)) _ _) | refine Below.drew ?_ | refine Below.drewN ?_ _ | (refine Below.putF ?_ (by first | (simp; done) | omega | (simp; omega)) _) | (refine Below.setCell ?_ (by first | (simp; done) | (simp; omega)) _))), fun h => by cases h⟩
                  case o6 =>
                    intro x w1 hH K hK
                    have e66 : x 66 = _ := hH.holds 2 (by decide) (by decide +kernel) 66 rfl
                    have e68 : x 68 = _ := hH.holds 4 (by decide) (by decide +kernel) 68 rfl
                    have e69 : x 69 = _ := hH.holds 5 (by decide) (by decide +kernel) 69 rfl
                    obtain ⟨xs, d, rfl⟩ := grow_of_below hH.below
                    clear hH
                    try simp only [World.grow_drew] at hK ⊢
                    try simp only [World.grow_grow] at hK ⊢
                    simp only [e66, e68, e69] at hK ⊢
                    clear e66 e68 e69
                    go_simp
                    go_wp2_with (refine Gives.use (HCB.out _ (HE2'.out.below ((below_of_grow _ _)))) ?_; intro ys e)
                    exact ⟨_, rfl, rfl, (by first | exact below_more _ _ _ _ | exact (by repeat (first | exact below_of_grow _ _ | exact Below.refl _ _ | exact below_more _ _ _ _ | (simp only [← Array.append_assoc]; first | exact below_more _ _ _ _ | exact below_same _ _ _ | exact Below.refl _ _) | exact below_same _ _ _ | (refine Below.alloc ?_ (by first | (simp; done) | (simp; omega)) _) | (refine Below.grow ?_ (by first | (simp; done) | (simp; omega)) _ _) | refine Below.drew ?_ | refine Below.drewN ?_ _ | (refine Below.putF ?_ (by first | (simp; done) | omega | (simp; omega)) _) | (refine Below.setCell ?_ (by first | (simp; done) | (simp; omega)) _)))), fun h => by cases h⟩
                  case o7 =>
                    intro x w1 hH K hK
                    have e66 : x 66 = _ := hH.holds 2 (by decide) (by decide +kernel) 66 rfl
                    have e67 : x 67 = _ := hH.holds 3 (by decide) (by decide +kernel) 67 rfl
                    have e70 : x 70 = _ := hH.holds 6 (by decide) (by decide +kernel) 70 rfl
                    obtain ⟨xs, d, rfl⟩ := grow_of_below hH.below
                    clear hH
                    try simp only [World.grow_drew] at hK ⊢
                    try simp only [World.grow_grow] at hK ⊢
                    simp only [e66, e67, e70] at hK ⊢
                    clear e66 e67 e70
                    go_simp
                    go_wp2_with fail
                    exact ⟨_, rfl, rfl, (by repeat (first | exact below_of_grow _ _ | exact Below.refl _ _ | exact below_more _ _ _ _ | (simp only [← Array.append_assoc]; first | exact below_more _ _ _ _ | exact below_same _ _ _ | exact Below.refl _ _) | exact below_same _ _ _ | (refine Below.alloc ?_ (by first | (simp; done) | (simp; omega)) _) | (refine Below.grow ?_ (by first | (simp; done) | (simp; omega)) _ _) | refine Below.drew ?_ | refine Below.drewN ?_ _ | (refine Below.putF ?_ (by first | (simp; done) | omega | (simp; omega)) _) | (refine Below.setCell ?_ (by first | (simp; done) | (simp; omega)) _))), fun h => by cases h⟩
                  case o8 =>
                    intro x w1 hH K hK
                    have e66 : x 66 = _ := hH.holds 2 (by decide) (by decide +kernel) 66 rfl
                    have e71 : x 71 = _ := hH.holds 7 (by decide) (by decide +kernel) 71 rfl
                    obtain ⟨xs, d, rfl⟩ := grow_of_below hH.below
                    clear hH
                    try simp only [World.grow_drew] at hK ⊢
                    try simp only [World.grow_grow] at hK ⊢
                    simp only [e66, e71] at hK ⊢
                    clear e66 e71
                    go_simp
                    go_wp2_with fail
                    exact ⟨_, rfl, rfl, (by repeat (first | exact below_of_grow _ _ | exact Below.refl _ _ | exact below_more _ _ _ _ | (simp only [← Array.append_assoc]; first | exact below_more _ _ _ _ | exact below_same _ _ _ | exact Below.refl _ _) | exact below_same _ _ _ | (refine Below.alloc ?_ (by first | (simp; done) | (simp; omega)) _) | (refine Below.grow ?_ (by first | (simp; done) | (simp; omega)) _ _) | refine Below.drew ?_ | refine Below.drewN ?_ _ | (refine Below.putF ?_ (by first | (simp; done) | omega | (simp; omega)) _) | (refine Below.setCell ?_ (by first | (simp; done) | (simp; omega)) _))), fun h => by cases h⟩
                case hend =>
                  intro x w1 hH
                  have e64 : x 64 = _ := hH.holds 0 (by decide) trivial 64 rfl
                  have e65 : x 65 = _ := hH.holds 1 (by decide) trivial 65 rfl
                  have e66 : x 66 = _ := hH.holds 2 (by decide) trivial 66 rfl
                  have e67 : x 67 = _ := hH.holds 3 (by decide) trivial 67 rfl
                  have e68 : x 68 = _ := hH.holds 4 (by decide) trivial 68 rfl
                  have e69 : x 69 = _ := hH.holds 5 (by decide) trivial 69 rfl
                  have e70 : x 70 = _ := hH.holds 6 (by decide) trivial 70 rfl
                  have e71 : x 71 = _ := hH.holds 7 (by decide) trivial 71 rfl
                  have e72 : x 72 = _ := hH.holds 8 (by decide) trivial 72 rfl
                  obtain ⟨xs, d, rfl⟩ := grow_of_below hH.below
                  clear hH
                  simp only [e64, e65, e66, e67, e68, e69, e70, e71, e72]; clear e64 e65 e66 e67 e68 e69 e70 e71 e72
                  simp only [List.drop_succ_cons, List.drop_nil]
                  go_wp2_with fail
                  go_meet
                  exact ⟨by rw [HE1.out, Bool.true_and], _, _, rfl⟩
              | false =>
                have he1 : decide (er = 0) = false := by simpa using he0
                have HE1 := Lib.hid he1
                clear he1
                go_wp2_with fail
                go_quiet (fail)
                go_wp2_with fail
                go_meet
                exact ⟨by rw [HE1.out, Bool.false_and], grow_of_below ((Below.refl _ _).drewN _)⟩
            case rest =>
              obtain ⟨rfl, xs2, d2, rfl⟩ := hcut
              have HCUT2 := HCUT
              by_cases hwn : er = 0 ∧ y ≠ B
              · have hval : (decide (er = 0) && !decide (y = B)) = true := by simp [hwn.1, hwn.2]
                have hws := HW.out
                rw [if_pos hwn] at hws
                have hf1 := HF1.out
                rw [hws] at hf1
                have HF1' := Lib.hid hf1
                have hc0 : X.cell? ⟨b18, 0, none⟩ = some (.bool y.is_) := by
                  have := (cut_spec hcc).2 0 (by decide)
                  rw [cellA_0] at this
                  simpa using this
                have hcr := cut_sub (i := 1) (m := 9) hcc (by decide)
                rw [cellA_rec] at hcr
                simp only [Nat.zero_add] at hcr
                rw [hval]
                clear hval hws hf1 hwn
                go_wp2_with (at_builtin; refine wpList_append (B := w4.heap.size) (xs := ((K.take i).filterMap (wrOf a b c m)).map wrtA) (ys := [wrtA ⟨k, !y.is_, y.r⟩]) row_wrt rfl (.tmp 73) (.tmp 81) rfl (v := u14) rfl ?_ rfl ?_ ?_ ?_ ?_ ?_)
                case refine_1 => exact (HCUT.out.2.1.grow xs2 d2).alloc _
                case refine_2 =>
                  refine ⟨_, sl_one (Nat.le_refl _) (by decide) (cut_heap ((heap_al _ _ _).trans (if_pos ?_)) (by simp))⟩
                  simp
                case refine_3 => intro x hx; simp at hx; subst hx; exact one_wrtA _
                case refine_4 =>
                  have := List.length_filterMap_le (wrOf a b c m) (K.take i)
                  simp at this ⊢
                  omega
                case refine_5 => simp; omega
                intro v3 w5 ho hg _
                have hb5 : Below w4.heap.size w4 w5 := Below.grown ((HCUT.out.1.grow h4c xs2 d2).alloc (by simp; omega) (.cells (wrtA ⟨k, !y.is_, y.r⟩) 67)) hg (by simp; omega) (fun q hq => (HCUT.out.2.1.lt q hq).1)
                have ho15 := (HCUT.out.2.2.1.grow xs2 d2).keep (w' := w5) (fun q hq hlt => (hg.block q (by simp at hlt ⊢; omega) (fun e => own_ne HCUT.out.2.1 HCUT.out.2.2.1 (by decide) q e.symm hq)).trans (heap_alloc_old (w := X.grow xs2 d2) _ hlt))
                have ho14 : OwnA w5 w4.heap.size 35 67 v3 (((K.take (i + 1)).filterMap (wrOf a b c m)).map wrtA) := by rw [HF1'.out]; simpa using ho
                have HFIN := Lib.hid (And.intro hb5 (And.intro ho14 ho15))
                clear ho hg hb5 ho15 ho14
                go_wp2_with fail
                go_roundw
                case rel => exact ⟨i + 1, by omega, by go_num, HFIN⟩
                case measure => simp [intOf]; omega
              · have hval : (decide (er = 0) && !decide (y = B)) = false := by
                  rw [Bool.eq_false_iff]
                  intro h
                  simp only [Bool.and_eq_true, decide_eq_true_eq, Bool.not_eq_true', decide_eq_false_iff_not] at h
                  exact hwn h
                have hws := HW.out
                rw [if_neg hwn] at hws
                have hf1 := HF1.out
                rw [hws] at hf1
                simp only [Option.toList_none, List.append_nil] at hf1
                rw [hval]
                have hfin : Below w4.heap.size w4 (X.grow xs2 d2) ∧ OwnA (X.grow xs2 d2) w4.heap.size 35 67 u14 (((K.take (i + 1)).filterMap (wrOf a b c m)).map wrtA) ∧ OwnA (X.grow xs2 d2) w4.heap.size 25 38 u15 (rowK ((K.take (i + 1)).filter (clashOf a b c m))) :=
                  ⟨HCUT.out.1.grow h4c _ _, by rw [hf1]; exact HCUT.out.2.1.grow _ _, HCUT.out.2.2.1.grow _ _⟩
                have HFIN := Lib.hid hfin
                clear hval hws hf1 hwn hfin
                go_wp2_with fail
                go_roundw
                case rel => exact ⟨i + 1, by omega, by go_num, HFIN⟩
                case measure => simp [intOf]; omega
      · have hie : i = K.length := by omega
        subst hie
        have hgn : ¬ (K.length : Int) < K.length := by omega
        have hq := HQ.out
        rw [List.take_length] at hq
        have HQ2 := Lib.hid hq
        have hbw := HBX.out.trans (hq.1.mono hszw)
        have HBW2 := Lib.hid hbw
        obtain ⟨af, capf, hvf, _, hcf⟩ := hq.2.2.form
        subst hvf
        clear hq HQ hbw
        rw [List.length_map] at *
        have hll := HLM2.out
        generalize hFn : (K.filter (clashOf a b c m)).length = n at *
        have HFN := Lib.hid hFn
        have HLL := Lib.hid hll
        clear hll hFn HLM2
        have fin1 : ∀ (tm : Array Value), tm.getD 8 undef = .slice none 0 0 → tm.getD 9 undef = .slice af n capf → tm.getD 10 undef = .int .i64 11 → 0 < n ∧ m = 0 → bodyPost Try.prog Try.f6 (fun e w' => ∃ v1 v2, e = .returned (.tuple #[v1, v2, .int .i64 (listsM a b c m).2.2]) ∧ Below w.heap.size w w' ∧ OwnA w' w.heap.size 35 67 v1 ((listsM a b c m).1.map wrtA) ∧ OwnA w' w.heap.size 25 38 v2 (rowK (listsM a b c m).2.1)) .ret ⟨tm, []⟩ wr := by
          intro tm t8 t9 t10 hc
          refine bodyPost_ret (v := .tuple #[.slice none 0 0, .slice af n capf, .int .i64 11]) (lists_run t8 t9 t10) rfl ?_
          have h := HLL.out
          rw [if_pos hc] at h
          rw [h]
          exact ⟨_, _, rfl, HBW2.out, OwnA.nil _ _ _ _, HQ2.out.2.2.mono hszw⟩
        have fin2 : ∀ (tm : Array Value), tm.getD 8 undef = u14 → tm.getD 9 undef = .slice af n capf → tm.getD 10 undef = .int .i64 0 → ¬ (0 < n ∧ m = 0) → bodyPost Try.prog Try.f6 (fun e w' => ∃ v1 v2, e = .returned (.tuple #[v1, v2, .int .i64 (listsM a b c m).2.2]) ∧ Below w.heap.size w w' ∧ OwnA w' w.heap.size 35 67 v1 ((listsM a b c m).1.map wrtA) ∧ OwnA w' w.heap.size 25 38 v2 (rowK (listsM a b c m).2.1)) .ret ⟨tm, []⟩ wr := by
          intro tm t8 t9 t10 hc
          refine bodyPost_ret (v := .tuple #[u14, .slice af n capf, .int .i64 0]) (lists_run t8 t9 t10) rfl ?_
          have h := HLL.out
          rw [if_neg hc] at h
          rw [h]
          exact ⟨_, _, rfl, HBW2.out, HQ2.out.2.1.mono hszw, HQ2.out.2.2.mono hszw⟩
        have FIN1 := Lib.hid fin1
        have FIN2 := Lib.hid fin2
        clear fin1 fin2
        by_cases hcl : 0 < n
        · have hcI : (0 : Int) < n := by omega
          by_cases hm0 : m = 0
          · have hme : (m == 0) = true := by simpa using hm0
            have HCL' := Lib.hid (And.intro hcl hm0)
            clear hm0 hcl
            go_wp2_with fail
            exact FIN1.out _ rfl rfl rfl HCL'.out
          · have hme : (m == 0) = false := by simpa using hm0
            have HCL' := Lib.hid (show ¬ (0 < n ∧ m = 0) from fun h => hm0 h.2)
            clear hm0 hcl
            go_wp2_with fail
            exact FIN2.out _ rfl rfl rfl HCL'.out
        · have hcI : ¬ (0 : Int) < n := by omega
          have HCL' := Lib.hid (show ¬ (0 < n ∧ m = 0) from fun h => hcl h.1)
          clear hcl
          go_wp2_with fail
          exact FIN2.out _ rfl rfl rfl HCL'.out
end Go.Proofs.Ytbflpnkodpeggaa.Dp

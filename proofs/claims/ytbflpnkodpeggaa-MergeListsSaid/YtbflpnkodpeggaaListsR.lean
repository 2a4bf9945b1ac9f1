/- The document's Lists: the writes by which lists are merged, and the keys that clash. -/
import Derived.Test.YtbflpnkodpeggaaListsM
import Derived.Test.YtbflpnkodpeggaaInsR
namespace Go.Proofs.Ytbflpnkodpeggaa.Dp
set_option maxRecDepth 100000
open Go.RowKit

abbrev rowKD (ks : List K25) : List (Array Value) := ks.map fun k => rkey k.val
theorem listsR_run {tmps : Array Value} {v1 v2 v3 : Value} {w : World} (h8 : tmps.getD 8 undef = v1) (h9 : tmps.getD 9 undef = v2) (h10 : tmps.getD 10 undef = v3) :
    (results Try.f13 tmps).run Try.prog w = .ok (.tuple #[v1, v2, v3]) w := by
  simp only [results, Try.results13, List.mapM_toArray, List.mapM_cons, List.mapM_nil, bind_pure_comp, map_pure, Functor.map_map, Sem.run_map, Sem.run_bind, h8, h9, h10, pure_bind, Sem.run_pure]
  try rfl
set_option maxHeartbeats 20000000 in
theorem listsR_calls (a b c : List Ent) (va vb vc : Value) (m : Int) (w : World) (ha : a.length ≤ 100) (hb : b.length ≤ 100) (hc : c.length ≤ 100)
    (hva : SlA w w.heap.size 34 va (a.map entD)) (hvb : SlA w w.heap.size 34 vb (b.map entD)) (hvc : SlA w w.heap.size 34 vc (c.map entD)) :
    Calls Try.prog 13 #[va, vb, vc, .int .i64 m] w fun e w' => ∃ v1 v2, e = .returned (.tuple #[v1, v2, .int .i64 (listsR a b c m).2.2]) ∧ Below w.heap.size w w' ∧
      OwnA w' w.heap.size 35 64 v1 ((listsR a b c m).1.map wrtD) ∧ OwnA w' w.heap.size 25 60 v2 (rowKD (listsR a b c m).2.1) := by
  have hlm : listsR a b c m = if m < 0 ∨ 2 < m then ([], [], 5) else if m = 0 ∧ 0 < (((allR (a ++ b ++ c)).map (·.k)).filter (clashOfR a b c m)).length then ([], ((allR (a ++ b ++ c)).map (·.k)).filter (clashOfR a b c m), 11) else (((allR (a ++ b ++ c)).map (·.k)).filterMap (wrOfR a b c m), ((allR (a ++ b ++ c)).map (·.k)).filter (clashOfR a b c m), 0) := rfl
  have HU1 := Lib.hid hva
  have HU2 := Lib.hid hvb
  have HU3 := Lib.hid hvc
  have HLM := Lib.hid hlm
  clear hva hvb hvc hlm
  by_cases hm : m < 0 ∨ 2 < m
  · have h := HLM.out
    rw [if_pos hm] at h
    rw [h]
    clear HLM h
    by_cases h0 : m < 0
    · clear hm
      go_enter Try.func13, Try.ntmps13
      go_wp2_with fail
      exact bodyPost_ret (v := .tuple #[.slice none 0 0, .slice none 0 0, .int .i64 5]) (listsR_run rfl rfl rfl) rfl ⟨_, _, rfl, Below.refl _ _, OwnA.nil _ _ _ _, OwnA.nil _ _ _ _⟩
    · have h2 : 2 < m := by omega
      clear hm
      go_enter Try.func13, Try.ntmps13
      go_wp2_with fail
      exact bodyPost_ret (v := .tuple #[.slice none 0 0, .slice none 0 0, .int .i64 5]) (listsR_run rfl rfl rfl) rfl ⟨_, _, rfl, Below.refl _ _, OwnA.nil _ _ _ _, OwnA.nil _ _ _ _⟩
  · have m0 : ¬ m < 0 := by omega
    have m2 : ¬ 2 < m := by omega
    have h := HLM.out
    rw [if_neg hm] at h
    have HLM2 := Lib.hid h
    clear hm h HLM
    have HAA := Lib.hid (all_entD a)
    have HAB := Lib.hid (all_entD b)
    have HAC := Lib.hid (all_entD c)
    go_enter Try.func13, Try.ntmps13
    go_wp2_with (at_builtin; refine wpList_append (B := w.heap.size) (xs := []) (ys := a.map entD) row_entD rfl (.tmp 27) (.tmp 28) rfl rfl ?_ rfl ⟨_, HU1.out.alloc _ (Nat.le_refl _)⟩ HAA.out ?_ ?_ ?_)
    case refine_1 => exact own_empty (_root_.Go.heap_alloc_new w _) (Nat.le_refl _)
    case refine_2 => first | omega | (simp; omega)
    intro v7 w6 ho7 hg7 _
    have hk7 : ∀ q, q < w.heap.size → w6.heap[q]? = w.heap[q]? := fun q hq => (hg7.block q (by simp; omega) (by simp [Value.ownBlock, Act.eval]; omega)).trans (heap_alloc_old (w := w) _ hq)
    have hz7 : w.heap.size ≤ w6.heap.size := by have := hg7.size; simp at this; omega
    have hb7 : Below w.heap.size w w6 := ⟨hg7.os, hg7.tape, hg7.output, hz7, hk7⟩
    have hv7 := ho7.lt
    have HO7 := Lib.hid (show OwnA w6 w.heap.size 34 81 v7 (a.map entD) by simpa using ho7)
    have HB7 := Lib.hid hb7
    have HV7 := Lib.hid hv7
    clear ho7 hg7 hk7 hb7 hv7
    go_wp2_with (at_builtin; refine wpList_append (v := v7) (B := w.heap.size) (xs := a.map entD) (ys := b.map entD) row_entD rfl (.tmp 29) (.tmp 30) rfl rfl HO7.out rfl ⟨_, HU2.out.below HB7.out⟩ HAB.out ?_ ?_ ?_)
    case refine_1 => simp; omega
    case refine_2 => exact hz7
    intro v8 w7 ho8 hg8 _
    have hb8 : Below w.heap.size w w7 := Below.grown HB7.out hg8 hz7 (fun q hq => (HV7.out q hq).1)
    have HO8 := Lib.hid ho8
    have HB8 := Lib.hid hb8
    have HV8 := Lib.hid ho8.lt
    clear ho8 hg8 hb8 HO7 HB7 HV7 hz7
    have hz8 := HB8.out.size
    go_wp2_with (at_builtin; refine wpList_append (v := v8) (B := w.heap.size) (xs := a.map entD ++ b.map entD) (ys := c.map entD) row_entD rfl (.tmp 31) (.tmp 32) rfl rfl HO8.out rfl ⟨_, HU3.out.below HB8.out⟩ HAC.out ?_ ?_ ?_)
    case refine_1 => simp; omega
    case refine_2 => exact hz8
    intro v9 w8 ho9 hg9 _
    have hb9 : Below w.heap.size w w8 := Below.grown HB8.out hg9 hz8 (fun q hq => (HV8.out q hq).1)
    have hal : a.map entD ++ (b.map entD ++ c.map entD) = (a ++ b ++ c).map entD := by simp
    rw [hal] at ho9
    have hall : (a ++ b ++ c).length ≤ 300 := by simp; omega
    generalize hx : a ++ b ++ c = all at *
    clear hx
    have hz9 := hb9.size
    have HX := Lib.hid ho9.sl
    have HB9 := Lib.hid hb9
    clear ho9 hg9 hb9 hal HO8 HB8 HV8 hz8 HAA HAB HAC
    obtain ⟨a9, cap9, rfl, hcl9, hcm9⟩ := HX.out.form
    have hlx : (all.map entD).length = all.length := by simp
    rw [hlx] at *
    unfold maxLen at hcm9
    clear hlx
    go_wp2_with fail
    go_loopw [11, 13] (fun s11 s13 wr => ∃ i : Nat, i ≤ all.length ∧ s13 = .int .i64 i ∧ Hid (Below w8.heap.size w8 wr) ∧ Hid (SlA wr wr.heap.size 34 s11 ((allR (all.take i)).map entD))) (fun _ s13 _ => all.length - (intOf s13).toNat)
    case atStart => exact ⟨0, Nat.zero_le _, rfl, Lib.hid (Below.refl _ _), Lib.hid (SlA.nil _ _ _)⟩
    case round =>
    obtain ⟨i, hi, rfl, HB, HR⟩ := hrel
    by_cases hli : i < all.length
    · have hliI : (i : Int) < all.length := by omega
      obtain ⟨_, a5, cap5, he, _, _, hc5⟩ := HX.out.below HB.out
      simp only [Value.slice.injEq, List.length_map, true_and] at he
      obtain ⟨rfl, rfl⟩ := he
      obtain ⟨g, q, rfl, hlb, hcut⟩ := hc5 (by simp; omega)
      have hcute := hcut i (entD all[i]) (by simp [hli])
      have hsz := HB.out.size
      have hgr : g < wr.heap.size := by omega
      have hsu := allR_succ all i hli
      have hrl : (allR (all.take i)).length ≤ 300 := by have := allR_len (all.take i); simp at this; omega
      generalize all[i] = e at *
      generalize allR (all.take i) = R at *
      have HSU := Lib.hid hsu
      have hins := insR_calls R e false u11 wr (by omega) HR.out
      have HINS := Lib.hid hins
      clear hcut hc5 hsu hins
      go_wp2_with (go_at_call 25; refine HINS.out.mono ?_; rintro r w9 ⟨v10, rfl, hb10, hs10⟩)
      have HB10 := Lib.hid (HB.out.trans (hb10.mono hsz))
      rw [← HSU.out] at hs10
      have HS10 := Lib.hid hs10
      clear hb10 hs10
      go_roundw
      case rel => exact ⟨i + 1, by omega, by go_num, HB10, HS10⟩
      case measure => simp [intOf]; omega
    · have hie : i = all.length := by omega
      subst hie
      have hgn : ¬ (all.length : Int) < all.length := by omega
      have hr := HR.out
      rw [List.take_length] at hr
      have hEl : (allR all).length ≤ 300 := by have := allR_len all; omega
      generalize hE : allR all = E at *
      obtain ⟨K, hK⟩ : ∃ K, K = E.map (·.k) := ⟨_, rfl⟩
      have HKE := Lib.hid hK.symm
      have hKL : K.length = E.length := by rw [hK]; simp
      rw [← hK] at HLM2
      obtain ⟨w4, hw4⟩ : ∃ w4, w4 = wr := ⟨_, rfl⟩
      subst hw4
      have hb4 := HB9.out.trans (HB.out.mono HB9.out.size)
      have hs4 := hb4.size
      have HD1 := Lib.hid ((HU1.out.below hb4).more hs4)
      have HD2 := Lib.hid ((HU2.out.below hb4).more hs4)
      have HD3 := Lib.hid ((HU3.out.below hb4).more hs4)
      have HBX := Lib.hid hb4
      obtain ⟨a4, cap4, hv4, hcl4, hcm4⟩ := hr.form
      subst hv4
      have HS := Lib.hid hr
      rw [List.length_map] at *
      unfold maxLen at hcm4
      have hszw := hs4
      clear hr hb4 hs4 hE hK HR HB HB9 HX HU1 HU2 HU3
      rw [← hKL] at *
      have HKL := Lib.hid (show E.length = K.length by rw [← HKE.out]; simp)
      go_wp2_with fail
      go_loopw [14, 15, 16] (fun s14 s15 s16 wr => ∃ i : Nat, i ≤ K.length ∧ s16 = .int .i64 i ∧ Hid (Below w4.heap.size w4 wr ∧ OwnA wr w4.heap.size 35 64 s14 (((K.take i).filterMap (wrOfR a b c m)).map wrtD) ∧ OwnA wr w4.heap.size 25 60 s15 (rowKD ((K.take i).filter (clashOfR a b c m))))) (fun _ _ s16 _ => K.length - (intOf s16).toNat)
      case atStart => exact ⟨0, Nat.zero_le _, rfl, Lib.hid ⟨Below.refl _ _, OwnA.nil _ _ _ _, OwnA.nil _ _ _ _⟩⟩
      case round =>
        obtain ⟨i, hi, rfl, HQ⟩ := hrel
        by_cases hli : i < K.length
        · have hliI : (i : Int) < K.length := by omega
          obtain ⟨_, a5, cap5, he, _, _, hc5⟩ := HS.out.below HQ.out.1
          simp only [Value.slice.injEq, List.length_map, HKL.out, true_and] at he
          obtain ⟨rfl, rfl⟩ := he
          obtain ⟨g, q, rfl, hlb, hcut⟩ := hc5 (by have := HKL.out; simp; omega)
          have hiE : i < E.length := by have := HKL.out; omega
          have hcute := hcut i (entD E[i]) (by simp [hiE])
          have hcutk := cut_sub (i := 0) (m := 25) hcute (by decide)
          rw [Nat.add_zero, entD_key] at hcutk
          have hKi : E[i].k = K[i] := by
            have h1 := List.getElem?_eq_getElem hli
            have h2 : K[i]? = some E[i].k := by rw [← HKE.out, List.getElem?_map, List.getElem?_eq_getElem hiE]; rfl
            rw [h1] at h2
            exact (Option.some.inj h2).symm
          rw [hKi] at hcutk
          have hsz := HQ.out.1.size
          have hgr : g < wr.heap.size := by omega
          have hf1 : (K.take (i + 1)).filterMap (wrOfR a b c m) = (K.take i).filterMap (wrOfR a b c m) ++ ((wrOfR a b c m K[i]).toList) := by rw [List.take_succ_eq_append_getElem hli, List.filterMap_append]; cases hw : wrOfR a b c m K[i] <;> simp [hw]
          have hf2 : (K.take (i + 1)).filter (clashOfR a b c m) = (K.take i).filter (clashOfR a b c m) ++ (if clashOfR a b c m K[i] = true then [K[i]] else []) := by rw [List.take_succ_eq_append_getElem hli, List.filter_append]; cases hw : clashOfR a b c m K[i] <;> simp [hw]
          generalize K[i] = k at *
          have HF1 := Lib.hid hf1
          have HF2 := Lib.hid hf2
          clear hcut hc5 hf1 hf2 hcute hKi
          have hcA : ∀ W, Below w4.heap.size w4 W → Gives Try.prog 27 #[va, .agg (rkey k.val)] W (.agg (cellD (findE a k))) := fun W h => cellR_gives a k va W (by omega) ((HD1.out.below h).more h.size)
          have hcB : ∀ W, Below w4.heap.size w4 W → Gives Try.prog 27 #[vb, .agg (rkey k.val)] W (.agg (cellD (findE b k))) := fun W h => cellR_gives b k vb W (by omega) ((HD2.out.below h).more h.size)
          have hcC : ∀ W, Below w4.heap.size w4 W → Gives Try.prog 27 #[vc, .agg (rkey k.val)] W (.agg (cellD (findE c k))) := fun W h => cellR_gives c k vc W (by omega) ((HD3.out.below h).more h.size)
          have hw : wrOfR a b c m k = if (threeC (findE a k) (findE b k) (findE c k) m).2.2 = 0 ∧ (threeC (findE a k) (findE b k) (findE c k) m).1 ≠ findE b k then some ⟨k, !(threeC (findE a k) (findE b k) (findE c k) m).1.is_, (threeC (findE a k) (findE b k) (findE c k) m).1.r⟩ else none := rfl
          have hcl : clashOfR a b c m k = decide ((threeC (findE a k) (findE b k) (findE c k) m).2.1 = 3) := rfl
          have hT := threeR_gives (findE a k) (findE b k) (findE c k) m
          generalize findE a k = A at *
          generalize findE b k = B at *
          generalize findE c k = C at *
          generalize threeC A B C m = t at *
          obtain ⟨y, s, er⟩ := t
          simp only at hw hcl hT
          have HCA := Lib.hid hcA
          have HCB := Lib.hid hcB
          have HCC := Lib.hid hcC
          have HW := Lib.hid hw
          have HCL := Lib.hid hcl
          have HT := Lib.hid hT
          clear hcA hcB hcC hw hcl hT
          go_upto_region 15 with fail
          apply wp_region_specs (by rfl) [.val _, .val _, .val _, .val _, .val _, .val _, .val _, .val _, .val _, .val _, .val _, .val _, .val _, .pure _, .pure _, .new _] 16 (by rfl) [58, 59, 60, 61, 62, 63, 64, 65, 66, 67, 68, 57, 69, 70, 71, 18] [15] [13, 14] (by rfl) (by rfl) (by decide) (by decide +kernel) (fun _ _ _ _ _ h => h)
          case hF => intro x; simp only [over, List.foldl_cons, List.foldl_nil, List.setIfInBounds_toArray, List.set_cons_succ, List.set_cons_zero]; exact rfl
          case hops =>
            refine ⟨?o0, ?o1, ?o2, ?o3, ?o4, ?o5, ?o6, ?o7, ?o8, ?o9, ?o10, ?o11, ?o12, ?o13, ?o14, ?o15, trivial⟩
            case o0 =>
              intro x w1 hH K hK
              obtain ⟨xs, d, rfl⟩ := grow_of_below hH.below
              clear hH
              try simp only [World.grow_drew] at hK ⊢
              try simp only [World.grow_grow] at hK ⊢
              go_simp
              go_wp2_with fail
              exact ⟨_, rfl, rfl, (by repeat (first | exact below_of_grow _ _ | exact Below.refl _ _ | exact below_more _ _ _ _ | (simp only [← Array.append_assoc]; first | exact below_more _ _ _ _ | exact below_same _ _ _ | exact Below.refl _ _) | exact below_same _ _ _ | (refine Below.alloc ?_ (by first | (simp; done) | (simp; omega)) _) | (refine Below.grow ?_ (by first | (simp; done) | (simp; omega)) _ _) | refine Below.drew ?_ | refine Below.drewN ?_ _ | (refine Below.putF ?_ (by first | (simp; done) | omega | (simp; omega)) _) | (refine Below.setCell ?_ (by first | (simp; done) | (simp; omega)) _))), fun h => by cases h⟩
            case o1 =>
              intro x w1 hH K hK
              obtain ⟨xs, d, rfl⟩ := grow_of_below hH.below
              clear hH
              try simp only [World.grow_drew] at hK ⊢
              try simp only [World.grow_grow] at hK ⊢
              go_simp
              go_wp2_with fail
              exact ⟨_, rfl, rfl, (by repeat (first | exact below_of_grow _ _ | exact Below.refl _ _ | exact below_more _ _ _ _ | (simp only [← Array.append_assoc]; first | exact below_more _ _ _ _ | exact below_same _ _ _ | exact Below.refl _ _) | exact below_same _ _ _ | (refine Below.alloc ?_ (by first | (simp; done) | (simp; omega)) _) | (refine Below.grow ?_ (by first | (simp; done) | (simp; omega)) _ _) | refine Below.drew ?_ | refine Below.drewN ?_ _ | (refine Below.putF ?_ (by first | (simp; done) | omega | (simp; omega)) _) | (refine Below.setCell ?_ (by first | (simp; done) | (simp; omega)) _))), fun h => by cases h⟩
            case o2 =>
              intro x w1 hH K hK
              have e58 : x 58 = _ := hH.holds 0 (by decide) (by decide +kernel) 58 rfl
              have e59 : x 59 = _ := hH.holds 1 (by decide) (by decide +kernel) 59 rfl
              obtain ⟨xs, d, rfl⟩ := grow_of_below hH.below
              clear hH
              try simp only [World.grow_drew] at hK ⊢
              try simp only [World.grow_grow] at hK ⊢
              simp only [e58, e59] at hK ⊢
              clear e58 e59
              go_simp
              go_wp2_with (refine Gives.use (HCA.out _ ((HQ.out.1.alloc hsz _).grow (by rw [World.alloc_size1]; omega) _ _)) ?_; intro ys e)
              exact ⟨_, rfl, rfl, (by first | exact below_more _ _ _ _ | exact (by repeat (first | exact below_of_grow _ _ | exact Below.refl _ _ | exact below_more _ _ _ _ | (simp only [← Array.append_assoc]; first | exact below_more _ _ _ _ | exact below_same _ _ _ | exact Below.refl _ _) | exact below_same _ _ _ | (refine Below.alloc ?_ (by first | (simp; done) | (simp; omega)) _) | (refine Below.grow ?_ (by first | (simp; done) | (simp; omega)) _ _) | refine Below.drew ?_ | refine Below.drewN ?_ _ | (refine Below.putF ?_ (by first | (simp; done) | omega | (simp; omega)) _) | (refine Below.setCell ?_ (by first | (simp; done) | (simp; omega)) _)))), fun h => by cases h⟩
            case o3 =>
              intro x w1 hH K hK
              obtain ⟨xs, d, rfl⟩ := grow_of_below hH.below
              clear hH
              try simp only [World.grow_drew] at hK ⊢
              try simp only [World.grow_grow] at hK ⊢
              go_simp
              go_wp2_with fail
              exact ⟨_, rfl, rfl, (by repeat (first | exact below_of_grow _ _ | exact Below.refl _ _ | exact below_more _ _ _ _ | (simp only [← Array.append_assoc]; first | exact below_more _ _ _ _ | exact below_same _ _ _ | exact Below.refl _ _) | exact below_same _ _ _ | (refine Below.alloc ?_ (by first | (simp; done) | (simp; omega)) _) | (refine Below.grow ?_ (by first | (simp; done) | (simp; omega)) _ _) | refine Below.drew ?_ | refine Below.drewN ?_ _ | (refine Below.putF ?_ (by first | (simp; done) | omega | (simp; omega)) _) | (refine Below.setCell ?_ (by first | (simp; done) | (simp; omega)) _))), fun h => by cases h⟩
            case o4 =>
              intro x w1 hH K hK
              obtain ⟨xs, d, rfl⟩ := grow_of_below hH.below
              clear hH
              try simp only [World.grow_drew] at hK ⊢
              try simp only [World.grow_grow] at hK ⊢
              go_simp
              go_wp2_with fail
              exact ⟨_, rfl, rfl, (by repeat (first | exact below_of_grow _ _ | exact Below.refl _ _ | exact below_more _ _ _ _ | (simp only [← Array.append_assoc]; first | exact below_more _ _ _ _ | exact below_same _ _ _ | exact Below.refl _ _) | exact below_same _ _ _ | (refine Below.alloc ?_ (by first | (simp; done) | (simp; omega)) _) | (refine Below.grow ?_ (by first | (simp; done) | (simp; omega)) _ _) | refine Below.drew ?_ | refine Below.drewN ?_ _ | (refine Below.putF ?_ (by first | (simp; done) | omega | (simp; omega)) _) | (refine Below.setCell ?_ (by first | (simp; done) | (simp; omega)) _))), fun h => by cases h⟩
            case o5 =>
              intro x w1 hH K hK
              have e61 : x 61 = _ := hH.holds 3 (by decide) (by decide +kernel) 61 rfl
              have e62 : x 62 = _ := hH.holds 4 (by decide) (by decide +kernel) 62 rfl
              obtain ⟨xs, d, rfl⟩ := grow_of_below hH.below
              clear hH
              try simp only [World.grow_drew] at hK ⊢
              try simp only [World.grow_grow] at hK ⊢
              simp only [e61, e62] at hK ⊢
              clear e61 e62
              go_simp
              go_wp2_with (refine Gives.use (HCB.out _ ((HQ.out.1.alloc hsz _).grow (by rw [World.alloc_size1]; omega) _ _)) ?_; intro ys e)
              exact ⟨_, rfl, rfl, (by first | exact below_more _ _ _ _ | exact (by repeat (first | exact below_of_grow _ _ | exact Below.refl _ _ | exact below_more _ _ _ _ | (simp only [← Array.append_assoc]; first | exact below_more _ _ _ _ | exact below_same _ _ _ | exact Below.refl _ _) | exact below_same _ _ _ | (refine Below.alloc ?_ (by first | (simp; done) | (simp; omega)) _) | (refine Below.grow ?_ (by first | (simp; done) | (simp; omega)) _ _) | refine Below.drew ?_ | refine Below.drewN ?_ _ | (refine Below.putF ?_ (by first | (simp; done) | omega | (simp; omega)) _) | (refine Below.setCell ?_ (by first | (simp; done) | (simp; omega)) _)))), fun h => by cases h⟩
            case o6 =>
              intro x w1 hH K hK
              obtain ⟨xs, d, rfl⟩ := grow_of_below hH.below
              clear hH
              try simp only [World.grow_drew] at hK ⊢
              try simp only [World.grow_grow] at hK ⊢
              go_simp
              go_wp2_with fail
              exact ⟨_, rfl, rfl, (by repeat (first | exact below_of_grow _ _ | exact Below.refl _ _ | exact below_more _ _ _ _ | (simp only [← Array.append_assoc]; first | exact below_more _ _ _ _ | exact below_same _ _ _ | exact Below.refl _ _) | exact below_same _ _ _ | (refine Below.alloc ?_ (by first | (simp; done) | (simp; omega)) _) | (refine Below.grow ?_ (by first | (simp; done) | (simp; omega)) _ _) | refine Below.drew ?_ | refine Below.drewN ?_ _ | (refine Below.putF ?_ (by first | (simp; done) | omega | (simp; omega)) _) | (refine Below.setCell ?_ (by first | (simp; done) | (simp; omega)) _))), fun h => by cases h⟩
            case o7 =>
              intro x w1 hH K hK
              obtain ⟨xs, d, rfl⟩ := grow_of_below hH.below
              clear hH
              try simp only [World.grow_drew] at hK ⊢
              try simp only [World.grow_grow] at hK ⊢
              go_simp
              go_wp2_with fail
              exact ⟨_, rfl, rfl, (by repeat (first | exact below_of_grow _ _ | exact Below.refl _ _ | exact below_more _ _ _ _ | (simp only [← Array.append_assoc]; first | exact below_more _ _ _ _ | exact below_same _ _ _ | exact Below.refl _ _) | exact below_same _ _ _ | (refine Below.alloc ?_ (by first | (simp; done) | (simp; omega)) _) | (refine Below.grow ?_ (by first | (simp; done) | (simp; omega)) _ _) | refine Below.drew ?_ | refine Below.drewN ?_ _ | (refine Below.putF ?_ (by first | (simp; done) | omega | (simp; omega)) _) | (refine Below.setCell ?_ (by first | (simp; done) | (simp; omega)) _))), fun h => by cases h⟩
            case o8 =>
              intro x w1 hH K hK
              have e64 : x 64 = _ := hH.holds 6 (by decide) (by decide +kernel) 64 rfl
              have e65 : x 65 = _ := hH.holds 7 (by decide) (by decide +kernel) 65 rfl
              obtain ⟨xs, d, rfl⟩ := grow_of_below hH.below
              clear hH
              try simp only [World.grow_drew] at hK ⊢
              try simp only [World.grow_grow] at hK ⊢
              simp only [e64, e65] at hK ⊢
              clear e64 e65
              go_simp
              go_wp2_with (refine Gives.use (HCC.out _ ((HQ.out.1.alloc hsz _).grow (by rw [World.alloc_size1]; omega) _ _)) ?_; intro ys e)
              exact ⟨_, rfl, rfl, (by first | exact below_more _ _ _ _ | exact (by repeat (first | exact below_of_grow _ _ | exact Below.refl _ _ | exact below_more _ _ _ _ | (simp only [← Array.append_assoc]; first | exact below_more _ _ _ _ | exact below_same _ _ _ | exact Below.refl _ _) | exact below_same _ _ _ | (refine Below.alloc ?_ (by first | (simp; done) | (simp; omega)) _) | (refine Below.grow ?_ (by first | (simp; done) | (simp; omega)) _ _) | refine Below.drew ?_ | refine Below.drewN ?_ _ | (refine Below.putF ?_ (by first | (simp; done) | omega | (simp; omega)) _) | (refine Below.setCell ?_ (by first | (simp; done) | (simp; omega)) _)))), fun h => by cases h⟩
            case o9 =>
              intro x w1 hH K hK
              obtain ⟨xs, d, rfl⟩ := grow_of_below hH.below
              clear hH
              try simp only [World.grow_drew] at hK ⊢
              try simp only [World.grow_grow] at hK ⊢
              go_simp
              go_wp2_with fail
              exact ⟨_, rfl, rfl, (by repeat (first | exact below_of_grow _ _ | exact Below.refl _ _ | exact below_more _ _ _ _ | (simp only [← Array.append_assoc]; first | exact below_more _ _ _ _ | exact below_same _ _ _ | exact Below.refl _ _) | exact below_same _ _ _ | (refine Below.alloc ?_ (by first | (simp; done) | (simp; omega)) _) | (refine Below.grow ?_ (by first | (simp; done) | (simp; omega)) _ _) | refine Below.drew ?_ | refine Below.drewN ?_ _ | (refine Below.putF ?_ (by first | (simp; done) | omega | (simp; omega)) _) | (refine Below.setCell ?_ (by first | (simp; done) | (simp; omega)) _))), fun h => by cases h⟩
            case o10 =>
              intro x w1 hH K hK
              have e60 : x 60 = _ := hH.holds 2 (by decide) (by decide +kernel) 60 rfl
              have e63 : x 63 = _ := hH.holds 5 (by decide) (by decide +kernel) 63 rfl
              have e66 : x 66 = _ := hH.holds 8 (by decide) (by decide +kernel) 66 rfl
              have e67 : x 67 = _ := hH.holds 9 (by decide) (by decide +kernel) 67 rfl
              obtain ⟨xs, d, rfl⟩ := grow_of_below hH.below
              clear hH
              try simp only [World.grow_drew] at hK ⊢
              try simp only [World.grow_grow] at hK ⊢
              simp only [e60, e63, e66, e67] at hK ⊢
              clear e60 e63 e66 e67
              go_simp
              go_wp2_with (refine Gives.use (HT.out _) ?_; intro ys e)
              exact ⟨_, rfl, rfl, (by first | exact below_more _ _ _ _ | exact (by repeat (first | exact below_of_grow _ _ | exact Below.refl _ _ | exact below_more _ _ _ _ | (simp only [← Array.append_assoc]; first | exact below_more _ _ _ _ | exact below_same _ _ _ | exact Below.refl _ _) | exact below_same _ _ _ | (refine Below.alloc ?_ (by first | (simp; done) | (simp; omega)) _) | (refine Below.grow ?_ (by first | (simp; done) | (simp; omega)) _ _) | refine Below.drew ?_ | refine Below.drewN ?_ _ | (refine Below.putF ?_ (by first | (simp; done) | omega | (simp; omega)) _) | (refine Below.setCell ?_ (by first | (simp; done) | (simp; omega)) _)))), fun h => by cases h⟩
            case o11 =>
              intro x w1 hH K hK
              have e68 : x 68 = _ := hH.holds 10 (by decide) (by decide +kernel) 68 rfl
              obtain ⟨xs, d, rfl⟩ := grow_of_below hH.below
              clear hH
              try simp only [World.grow_drew] at hK ⊢
              try simp only [World.grow_grow] at hK ⊢
              simp only [e68] at hK ⊢
              clear e68
              go_simp
              go_wp2_with fail
              exact ⟨_, rfl, rfl, (by repeat (first | exact below_of_grow _ _ | exact Below.refl _ _ | exact below_more _ _ _ _ | (simp only [← Array.append_assoc]; first | exact below_more _ _ _ _ | exact below_same _ _ _ | exact Below.refl _ _) | exact below_same _ _ _ | (refine Below.alloc ?_ (by first | (simp; done) | (simp; omega)) _) | (refine Below.grow ?_ (by first | (simp; done) | (simp; omega)) _ _) | refine Below.drew ?_ | refine Below.drewN ?_ _ | (refine Below.putF ?_ (by first | (simp; done) | omega | (simp; omega)) _) | (refine Below.setCell ?_ (by first | (simp; done) | (simp; omega)) _))), fun h => by cases h⟩
            case o12 =>
              intro x w1 hH K hK
              have e57 : x 57 = _ := hH.holds 11 (by decide) (by decide +kernel) 57 rfl
              obtain ⟨xs, d, rfl⟩ := grow_of_below hH.below
              clear hH
              try simp only [World.grow_drew] at hK ⊢
              try simp only [World.grow_grow] at hK ⊢
              simp only [e57] at hK ⊢
              clear e57
              go_simp
              go_wp2_with fail
              exact ⟨_, rfl, rfl, (by repeat (first | exact below_of_grow _ _ | exact Below.refl _ _ | exact below_more _ _ _ _ | (simp only [← Array.append_assoc]; first | exact below_more _ _ _ _ | exact below_same _ _ _ | exact Below.refl _ _) | exact below_same _ _ _ | (refine Below.alloc ?_ (by first | (simp; done) | (simp; omega)) _) | (refine Below.grow ?_ (by first | (simp; done) | (simp; omega)) _ _) | refine Below.drew ?_ | refine Below.drewN ?_ _ | (refine Below.putF ?_ (by first | (simp; done) | omega | (simp; omega)) _) | (refine Below.setCell ?_ (by first | (simp; done) | (simp; omega)) _))), fun h => by cases h⟩
            case o13 =>
              intro x w1 hH
              have e57 : x 57 = _ := hH.holds 11 (by decide) (by decide +kernel) 57 rfl
              clear hH
              simp only [e57]
              exact Or.inl ⟨rfl, fun _ => rfl⟩
            case o14 =>
              intro x w1 hH
              have e57 : x 57 = _ := hH.holds 11 (by decide) (by decide +kernel) 57 rfl
              clear hH
              simp only [e57]
              exact Or.inl ⟨rfl, fun _ => rfl⟩
            case o15 =>
              intro x w1 hH K hK
              obtain ⟨xs, d, rfl⟩ := grow_of_below hH.below
              clear hH
              try simp only [World.grow_drew] at hK ⊢
              try simp only [World.grow_grow] at hK ⊢
              go_simp
              go_wp2_with fail
              exact left_new rfl (by simp) (by first | (simp; done) | (simp; omega))
          case hend =>
            intro x w1 hH
            have e58 : x 58 = _ := hH.holds 0 (by decide) trivial 58 rfl
            have e59 : x 59 = _ := hH.holds 1 (by decide) trivial 59 rfl
            have e60 : x 60 = _ := hH.holds 2 (by decide) trivial 60 rfl
            have e61 : x 61 = _ := hH.holds 3 (by decide) trivial 61 rfl
            have e62 : x 62 = _ := hH.holds 4 (by decide) trivial 62 rfl
            have e63 : x 63 = _ := hH.holds 5 (by decide) trivial 63 rfl
            have e64 : x 64 = _ := hH.holds 6 (by decide) trivial 64 rfl
            have e65 : x 65 = _ := hH.holds 7 (by decide) trivial 65 rfl
            have e66 : x 66 = _ := hH.holds 8 (by decide) trivial 66 rfl
            have e67 : x 67 = _ := hH.holds 9 (by decide) trivial 67 rfl
            have e68 : x 68 = _ := hH.holds 10 (by decide) trivial 68 rfl
            have e57 : x 57 = _ := hH.holds 11 (by decide) trivial 57 rfl
            have e69 : x 69 = _ := hH.holds 12 (by decide) trivial 69 rfl
            have e70 : x 70 = _ := hH.holds 13 (by decide) trivial 70 rfl
            have e71 : x 71 = _ := hH.holds 14 (by decide) trivial 71 rfl
            obtain ⟨b18, e18, l18, u18, o18⟩ := hH.holds 15 (by decide) trivial 18 rfl
            obtain ⟨xs, d, rfl⟩ := grow_of_below hH.below
            clear hH
            simp only [e58, e59, e60, e61, e62, e63, e64, e65, e66, e67, e68, e57, e69, e70, e71, e18]; clear e58 e59 e60 e61 e62 e63 e64 e65 e66 e67 e68 e57 e69 e70 e71 e18
            refine new_known1 o18 l18 u18 ?_
            clear o18
            simp [go_sem] at l18 u18
            simp only [List.drop_succ_cons, List.drop_zero]
            go_upto_if 73 with fail
            simp only [List.getElem_toArray, List.getElem_cons_succ, List.getElem_cons_zero]
            obtain ⟨W, hW⟩ : ∃ W, W = (((wr.alloc (.cells (rkey k.val) 60)).grow xs d).putF (wr.heap.size + 1) b18 (.cells (cellD y) 85)) := ⟨_, rfl⟩
            have hWs : W.heap.size = wr.heap.size + 1 + xs.size := by rw [hW]; simp
            have hW18 : W.heap[b18]? = some (.cells (cellD y) 85) := by rw [hW]; exact World.putF_heap_eq _ (by simp; omega)
            have hW17 : W.heap[wr.heap.size]? = some (.cells (rkey k.val) 60) := by
              rw [hW, World.putF_heap_ne _ (by omega), World.grow_heap _ _ _ (by simp)]
              exact _root_.Go.heap_alloc_new wr _
            have hWb : Below wr.heap.size wr W := by rw [hW]; exact Below.putF (((Below.refl _ _).alloc (Nat.le_refl _) _).grow (by simp) _ _) (by omega) _
            rw [← hW]
            have hW17s : wr.heap.size < W.heap.size := by omega
            have hW18s : b18 < W.heap.size := by omega
            have HWB := Lib.hid hWb
            have HW17 := Lib.hid hW17
            have HW18 := Lib.hid hW18
            have HWL := Lib.hid (And.intro l18 u18)
            clear hW hWs hW17 hW18 hWb l18 u18
            go_cut [15] (fun s15 wx => Hid (Below w4.heap.size w4 wx ∧ OwnA wx w4.heap.size 35 64 u14 (((K.take i).filterMap (wrOfR a b c m)).map wrtD) ∧ OwnA wx w4.heap.size 25 60 s15 (rowKD ((K.take (i + 1)).filter (clashOfR a b c m))) ∧ wx.heap[wr.heap.size]? = some (.cells (rkey k.val) 60) ∧ wx.heap[b18]? = some (.cells (cellD y) 85)))
            case first =>
              have q14 := HQ.out.2.1.below HWB.out
              have q15 := HQ.out.2.2.below HWB.out
              have qb := HQ.out.1.trans (HWB.out.mono hsz)
              have HQ14 := Lib.hid q14
              have HQ15 := Lib.hid q15
              have HQB := Lib.hid qb
              have l14 := HQ.out.2.1.lt
              have l15 := HQ.out.2.2.lt
              have HL14 := Lib.hid l14
              have HL15 := Lib.hid l15
              clear q14 q15 qb l14 l15
              cases hs3 : (s == 3) with
              | true =>
                have hc3 : clashOfR a b c m k = true := by rw [HCL.out]; simpa using hs3
                have HC3' := Lib.hid hc3
                have hkW := cut_heap HW17.out (sz := 25) (by simp)
                clear hc3
                go_wp2_with (at_builtin; refine wpList_append (B := w4.heap.size) (xs := rowKD ((K.take i).filter (clashOfR a b c m))) (ys := [rkey k.val]) row_keyD rfl (.tmp 74) (.tmp 76) rfl (v := u15) rfl ?_ rfl ?_ ?_ ?_ ?_ ?_)
                case refine_1 => exact HQ15.out.alloc _
                case refine_2 =>
                  refine ⟨_, sl_one (Nat.le_refl _) (by decide) (cut_heap ((heap_al _ _ _).trans (if_pos ?_)) (by simp))⟩
                  simp
                case refine_3 => intro x hx; simp at hx; subst hx; exact one_rkey _
                case refine_4 =>
                  have := List.length_filter_le (clashOfR a b c m) (K.take i)
                  simp at this ⊢
                  omega
                case refine_5 => simp; omega
                intro v3 w5 ho hg _
                have hz5 : w4.heap.size ≤ w5.heap.size := by have := hg.size; simp at this; omega
                have k1 : ∀ q, q < W.heap.size → some q ≠ u15.ownBlock → w5.heap[q]? = W.heap[q]? := fun q hq hne => (hg.block q (by simp; omega) hne).trans (heap_alloc_old (w := W) _ hq)
                have hb5 : Below w4.heap.size w4 w5 := Below.grown (HQB.out.alloc (by omega) (.cells (rkey k.val) 60)) hg (by simp; omega) (fun q hq => (HL15.out q hq).1)
                have ho14 := HQ14.out.keep (w' := w5) (fun q hq hlt => k1 q hlt (fun e => own_ne HQ14.out HQ15.out (by decide) q hq e.symm))
                have h17 := (k1 wr.heap.size hW17s (fun e => by have := HL15.out _ e.symm; omega)).trans HW17.out
                have h18 := (k1 b18 hW18s (fun e => by have := HL15.out _ e.symm; have := HWL.out; omega)).trans HW18.out
                have hf2 := HF2.out
                rw [HC3'.out, if_pos rfl] at hf2
                have ho15 : OwnA w5 w4.heap.size 25 60 v3 (rowKD ((K.take (i + 1)).filter (clashOfR a b c m))) := by rw [hf2]; simpa [rowKD] using ho
                have HFIN := Lib.hid (And.intro hb5 (And.intro ho14 (And.intro ho15 (And.intro h17 h18))))
                clear ho hg hb5 ho14 h17 h18 ho15 hf2 k1 hz5
                go_wp2_with fail
                go_meet
                exact HFIN
              | false =>
                have hc3 : clashOfR a b c m k = false := by rw [HCL.out]; simpa using hs3
                have HC3' := Lib.hid hc3
                clear hc3
                go_wp2_with fail
                go_meet
                have hf2 := HF2.out
                rw [HC3'.out, if_neg (by decide), List.append_nil] at hf2
                exact Lib.hid ⟨HQB.out, HQ14.out, by rw [hf2]; exact HQ15.out, HW17.out, HW18.out⟩
            case rest =>
              have q17 := hcut.out.2.2.2.1
              have q18 := hcut.out.2.2.2.2
              have s17 : wr.heap.size < wc.heap.size := (Array.getElem?_eq_some_iff.1 q17).1
              have s18 : b18 < wc.heap.size := (Array.getElem?_eq_some_iff.1 q18).1
              have hkc := cut_heap q17 (sz := 25) (by simp)
              have hcc := cut_heap q18 (sz := 10) (by simp)
              have HCUT := hcut
              have h4c := hcut.out.1.size
              clear q17 q18 hcut hcutk hgr hsz HWB HW17 HW18 hW17s hW18s HWL
              obtain ⟨X, rfl⟩ : ∃ X, X = wc := ⟨_, rfl⟩
              go_upto_region 18 with fail
              go_cut [86] (fun s86 wx => s86 = .bool (decide (er = 0) && !decide (y = B)) ∧ ∃ xs d, wx = X.grow xs d)
              case first =>
                cases he0 : (er == 0) with
                | true =>
                  have he1 : decide (er = 0) = true := by simpa using he0
                  have HE1 := Lib.hid he1
                  clear he1
                  go_wp2_with fail
                  apply wp_region_specs (by rfl) [.val _, .val _, .val _, .val _, .val _, .val _, .val _, .val _, .val _] 9 (by rfl) [78, 79, 80, 81, 82, 83, 84, 85, 86] [] [] (by rfl) (by rfl) (by decide) (by decide +kernel) (fun _ _ _ _ _ h => h)
                  case hF => intro x; simp only [over, List.foldl_cons, List.foldl_nil, List.setIfInBounds_toArray, List.set_cons_succ, List.set_cons_zero]; exact rfl
                  case hops =>
                    refine ⟨?o0, ?o1, ?o2, ?o3, ?o4, ?o5, ?o6, ?o7, ?o8, trivial⟩
                    case o0 =>
                      intro x w1 hH K hK
                      obtain ⟨xs, d, rfl⟩ := grow_of_below hH.below
                      clear hH
                      try simp only [World.grow_drew] at hK ⊢
                      try simp only [World.grow_grow] at hK ⊢
                      go_simp
                      go_wp2_with fail
                      exact ⟨_, rfl, rfl, (by repeat (first | exact below_of_grow _ _ | exact Below.refl _ _ | exact below_more _ _ _ _ | (simp only [← Array.append_assoc]; first | exact below_more _ _ _ _ | exact below_same _ _ _ | exact Below.refl _ _) | exact below_same _ _ _ | (refine Below.alloc ?_ (by first | (simp; done) | (simp; omega)) _) | (refine Below.grow ?_ (by first | (simp; done) | (simp; omega)) _ _) | refine Below.drew ?_ | refine Below.drewN ?_ _ | (refine Below.putF ?_ (by first | (simp; done) | omega | (simp; omega)) _) | (refine Below.setCell ?_ (by first | (simp; done) | (simp; omega)) _))), fun h => by cases h⟩
                    case o1 =>
                      intro x w1 hH K hK
                      have e78 : x 78 = _ := hH.holds 0 (by decide) (by decide +kernel) 78 rfl
                      obtain ⟨xs, d, rfl⟩ := grow_of_below hH.below
                      clear hH
                      try simp only [World.grow_drew] at hK ⊢
                      try simp only [World.grow_grow] at hK ⊢
                      simp only [e78] at hK ⊢
                      clear e78
                      go_simp
                      go_wp2_with fail
                      exact ⟨_, rfl, rfl, (by repeat (first | exact below_of_grow _ _ | exact Below.refl _ _ | exact below_more _ _ _ _ | (simp only [← Array.append_assoc]; first | exact below_more _ _ _ _ | exact below_same _ _ _ | exact Below.refl _ _) | exact below_same _ _ _ | (refine Below.alloc ?_ (by first | (simp; done) | (simp; omega)) _) | (refine Below.grow ?_ (by first | (simp; done) | (simp; omega)) _ _) | refine Below.drew ?_ | refine Below.drewN ?_ _ | (refine Below.putF ?_ (by first | (simp; done) | omega | (simp; omega)) _) | (refine Below.setCell ?_ (by first | (simp; done) | (simp; omega)) _))), fun h => by cases h⟩
                    case o2 =>
                      intro x w1 hH K hK
                      have e79 : x 79 = _ := hH.holds 1 (by decide) (by decide +kernel) 79 rfl
                      obtain ⟨xs, d, rfl⟩ := grow_of_below hH.below
                      clear hH
                      try simp only [World.grow_drew] at hK ⊢
                      try simp only [World.grow_grow] at hK ⊢
                      simp only [e79] at hK ⊢
                      clear e79
                      go_simp
                      go_wp2_with fail
                      exact ⟨_, rfl, rfl, (by repeat (first | exact below_of_grow _ _ | exact Below.refl _ _ | exact below_more _ _ _ _ | (simp only [← Array.append_assoc]; first | exact below_more _ _ _ _ | exact below_same _ _ _ | exact Below.refl _ _) | exact below_same _ _ _ | (refine Below.alloc ?_ (by first | (simp; done) | (simp; omega)) _) | (refine Below.grow ?_ (by first | (simp; done) | (simp; omega)) _ _) | refine Below.drew ?_ | refine Below.drewN ?_ _ | (refine Below.putF ?_ (by first | (simp; done) | omega | (simp; omega)) _) | (refine Below.setCell ?_ (by first | (simp; done) | (simp; omega)) _))), fun h => by cases h⟩
                    case o3 =>
                      intro x w1 hH K hK
                      have e80 : x 80 = _ := hH.holds 2 (by decide) (by decide +kernel) 80 rfl
                      obtain ⟨xs, d, rfl⟩ := grow_of_below hH.below
                      clear hH
                      try simp only [World.grow_drew] at hK ⊢
                      try simp only [World.grow_grow] at hK ⊢
                      simp only [e80] at hK ⊢
                      clear e80
                      go_simp
                      go_wp2_with fail
                      exact ⟨_, rfl, rfl, (by repeat (first | exact below_of_grow _ _ | exact Below.refl _ _ | exact below_more _ _ _ _ | (simp only [← Array.append_assoc]; first | exact below_more _ _ _ _ | exact below_same _ _ _ | exact Below.refl _ _) | exact below_same _ _ _ | (refine Below.alloc ?_ (by first | (simp; done) | (simp; omega)) _) | (refine Below.grow ?_ (by first | (simp; done) | (simp; omega)) _ _) | refine Below.drew ?_ | refine Below.drewN ?_ _ | (refine Below.putF ?_ (by first | (simp; done) | omega | (simp; omega)) _) | (refine Below.setCell ?_ (by first | (simp; done) | (simp; omega)) _))), fun h => by cases h⟩
                    case o4 =>
                      intro x w1 hH K hK
                      have e80 : x 80 = _ := hH.holds 2 (by decide) (by decide +kernel) 80 rfl
                      obtain ⟨xs, d, rfl⟩ := grow_of_below hH.below
                      clear hH
                      try simp only [World.grow_drew] at hK ⊢
                      try simp only [World.grow_grow] at hK ⊢
                      simp only [e80] at hK ⊢
                      clear e80
                      go_simp
                      go_wp2_with fail
                      exact ⟨_, rfl, rfl, (by repeat (first | exact below_of_grow _ _ | exact Below.refl _ _ | exact below_more _ _ _ _ | (simp only [← Array.append_assoc]; first | exact below_more _ _ _ _ | exact below_same _ _ _ | exact Below.refl _ _) | exact below_same _ _ _ | (refine Below.alloc ?_ (by first | (simp; done) | (simp; omega)) _) | (refine Below.grow ?_ (by first | (simp; done) | (simp; omega)) _ _) | refine Below.drew ?_ | refine Below.drewN ?_ _ | (refine Below.putF ?_ (by first | (simp; done) | omega | (simp; omega)) _) | (refine Below.setCell ?_ (by first | (simp; done) | (simp; omega)) _))), fun h => by cases h⟩
                    case o5 =>
                      intro x w1 hH K hK
                      have e80 : x 80 = _ := hH.holds 2 (by decide) (by decide +kernel) 80 rfl
                      obtain ⟨xs, d, rfl⟩ := grow_of_below hH.below
                      clear hH
                      try simp only [World.grow_drew] at hK ⊢
                      try simp only [World.grow_grow] at hK ⊢
                      simp only [e80] at hK ⊢
                      clear e80
                      go_simp
                      go_wp2_with fail
                      exact ⟨_, rfl, rfl, (by repeat (first | exact below_of_grow _ _ | exact Below.refl _ _ | exact below_more _ _ _ _ | (simp only [← Array.append_assoc]; first | exact below_more _ _ _ _ | exact below_same _ _ _ | exact Below.refl _ _) | exact below_same _ _ _ | (refine Below.alloc ?_ (by first | (simp; done) | (simp; omega)) _) | (refine Below.grow ?_ (by first | (simp; done) | (simp; omega)) _ _) | refine Below.drew ?_ | refine Below.drewN ?_ _ | (refine Below.putF ?_ (by first | (simp; done) | omega | (simp; omega)) _) | (refine Below.setCell ?_ (by first | (simp; done) | (simp; omega)) _))), fun h => by cases h⟩
                    case o6 =>
                      intro x w1 hH K hK
                      have e80 : x 80 = _ := hH.holds 2 (by decide) (by decide +kernel) 80 rfl
                      have e82 : x 82 = _ := hH.holds 4 (by decide) (by decide +kernel) 82 rfl
                      have e83 : x 83 = _ := hH.holds 5 (by decide) (by decide +kernel) 83 rfl
                      obtain ⟨xs, d, rfl⟩ := grow_of_below hH.below
                      clear hH
                      try simp only [World.grow_drew] at hK ⊢
                      try simp only [World.grow_grow] at hK ⊢
                      simp only [e80, e82, e83] at hK ⊢
                      clear e80 e82 e83
                      go_simp
                      go_wp2_with (refine Gives.use (HCB.out _ (HCUT.out.1.grow h4c _ _)) ?_; intro ys e)
                      exact ⟨_, rfl, rfl, (by first | exact below_more _ _ _ _ | exact (by repeat (first | exact below_of_grow _ _ | exact Below.refl _ _ | exact below_more _ _ _ _ | (simp only [← Array.append_assoc]; first | exact below_more _ _ _ _ | exact below_same _ _ _ | exact Below.refl _ _) | exact below_same _ _ _ | (refine Below.alloc ?_ (by first | (simp; done) | (simp; omega)) _) | (refine Below.grow ?_ (by first | (simp; done) | (simp; omega)) _ _) | refine Below.drew ?_ | refine Below.drewN ?_ _ | (refine Below.putF ?_ (by first | (simp; done) | omega | (simp; omega)) _) | (refine Below.setCell ?_ (by first | (simp; done) | (simp; omega)) _)))), fun h => by cases h⟩
                    case o7 =>
                      intro x w1 hH K hK
                      have e80 : x 80 = _ := hH.holds 2 (by decide) (by decide +kernel) 80 rfl
                      have e81 : x 81 = _ := hH.holds 3 (by decide) (by decide +kernel) 81 rfl
                      have e84 : x 84 = _ := hH.holds 6 (by decide) (by decide +kernel) 84 rfl
                      obtain ⟨xs, d, rfl⟩ := grow_of_below hH.below
                      clear hH
                      try simp only [World.grow_drew] at hK ⊢
                      try simp only [World.grow_grow] at hK ⊢
                      simp only [e80, e81, e84] at hK ⊢
                      clear e80 e81 e84
                      go_simp
                      go_wp2_with fail
                      exact ⟨_, rfl, rfl, (by repeat (first | exact below_of_grow _ _ | exact Below.refl _ _ | exact below_more _ _ _ _ | (simp only [← Array.append_assoc]; first | exact below_more _ _ _ _ | exact below_same _ _ _ | exact Below.refl _ _) | exact below_same _ _ _ | (refine Below.alloc ?_ (by first | (simp; done) | (simp; omega)) _) | (refine Below.grow ?_ (by first | (simp; done) | (simp; omega)) _ _) | refine Below.drew ?_ | refine Below.drewN ?_ _ | (refine Below.putF ?_ (by first | (simp; done) | omega | (simp; omega)) _) | (refine Below.setCell ?_ (by first | (simp; done) | (simp; omega)) _))), fun h => by cases h⟩
                    case o8 =>
                      intro x w1 hH K hK
                      have e80 : x 80 = _ := hH.holds 2 (by decide) (by decide +kernel) 80 rfl
                      have e85 : x 85 = _ := hH.holds 7 (by decide) (by decide +kernel) 85 rfl
                      obtain ⟨xs, d, rfl⟩ := grow_of_below hH.below
                      clear hH
                      try simp only [World.grow_drew] at hK ⊢
                      try simp only [World.grow_grow] at hK ⊢
                      simp only [e80, e85] at hK ⊢
                      clear e80 e85
                      go_simp
                      go_wp2_with fail
                      exact ⟨_, rfl, rfl, (by repeat (first | exact below_of_grow _ _ | exact Below.refl _ _ | exact below_more _ _ _ _ | (simp only [← Array.append_assoc]; first | exact below_more _ _ _ _ | exact below_same _ _ _ | exact Below.refl _ _) | exact below_same _ _ _ | (refine Below.alloc ?_ (by first | (simp; done) | (simp; omega)) _) | (refine Below.grow ?_ (by first | (simp; done) | (simp; omega)) _ _) | refine Below.drew ?_ | refine Below.drewN ?_ _ | (refine Below.putF ?_ (by first | (simp; done) | omega | (simp; omega)) _) | (refine Below.setCell ?_ (by first | (simp; done) | (simp; omega)) _))), fun h => by cases h⟩
                  case hend =>
                    intro x w1 hH
                    have e78 : x 78 = _ := hH.holds 0 (by decide) trivial 78 rfl
                    have e79 : x 79 = _ := hH.holds 1 (by decide) trivial 79 rfl
                    have e80 : x 80 = _ := hH.holds 2 (by decide) trivial 80 rfl
                    have e81 : x 81 = _ := hH.holds 3 (by decide) trivial 81 rfl
                    have e82 : x 82 = _ := hH.holds 4 (by decide) trivial 82 rfl
                    have e83 : x 83 = _ := hH.holds 5 (by decide) trivial 83 rfl
                    have e84 : x 84 = _ := hH.holds 6 (by decide) trivial 84 rfl
                    have e85 : x 85 = _ := hH.holds 7 (by decide) trivial 85 rfl
                    have e86 : x 86 = _ := hH.holds 8 (by decide) trivial 86 rfl
                    obtain ⟨xs, d, rfl⟩ := grow_of_below hH.below
                    clear hH
                    simp only [e78, e79, e80, e81, e82, e83, e84, e85, e86]; clear e78 e79 e80 e81 e82 e83 e84 e85 e86
                    simp only [List.drop_succ_cons, List.drop_nil]
                    go_wp2_with fail
                    go_meet
                    exact ⟨by rw [HE1.out, Bool.true_and], _, _, rfl⟩
                | false =>
                  have he1 : decide (er = 0) = false := by simpa using he0
                  have HE1 := Lib.hid he1
                  clear he1
                  go_wp2_with fail
                  go_quiet (fail)
                  go_wp2_with fail
                  go_meet
                  exact ⟨by rw [HE1.out, Bool.false_and], grow_of_below ((Below.refl _ _).drewN _)⟩
              case rest =>
                obtain ⟨rfl, xs2, d2, rfl⟩ := hcut
                have HCUT2 := HCUT
                by_cases hwn : er = 0 ∧ y ≠ B
                · have hval : (decide (er = 0) && !decide (y = B)) = true := by simp [hwn.1, hwn.2]
                  have hws := HW.out
                  rw [if_pos hwn] at hws
                  have hf1 := HF1.out
                  rw [hws] at hf1
                  have HF1' := Lib.hid hf1
                  have hc0 : X.cell? ⟨b18, 0, none⟩ = some (.bool y.is_) := by
                    have := (cut_spec hcc).2 0 (by decide)
                    rw [cellD_0] at this
                    simpa using this
                  have hcr := cut_sub (i := 1) (m := 9) hcc (by decide)
                  rw [cellD_rec] at hcr
                  simp only [Nat.zero_add] at hcr
                  rw [hval]
                  clear hval hws hf1 hwn
                  go_wp2_with (at_builtin; refine wpList_append (B := w4.heap.size) (xs := ((K.take i).filterMap (wrOfR a b c m)).map wrtD) (ys := [wrtD ⟨k, !y.is_, y.r⟩]) row_wrtD rfl (.tmp 87) (.tmp 95) rfl (v := u14) rfl ?_ rfl ?_ ?_ ?_ ?_ ?_)
                  case refine_1 => exact (HCUT.out.2.1.grow xs2 d2).alloc _
                  case refine_2 =>
                    refine ⟨_, sl_one (Nat.le_refl _) (by decide) (cut_heap ((heap_al _ _ _).trans (if_pos ?_)) (by simp))⟩
                    simp
                  case refine_3 => intro x hx; simp at hx; subst hx; exact one_wrtD _
                  case refine_4 =>
                    have := List.length_filterMap_le (wrOfR a b c m) (K.take i)
                    simp at this ⊢
                    omega
                  case refine_5 => simp; omega
                  intro v3 w5 ho hg _
                  have hb5 : Below w4.heap.size w4 w5 := Below.grown ((HCUT.out.1.grow h4c xs2 d2).alloc (by simp; omega) (.cells (wrtD ⟨k, !y.is_, y.r⟩) 64)) hg (by simp; omega) (fun q hq => (HCUT.out.2.1.lt q hq).1)
                  have ho15 := (HCUT.out.2.2.1.grow xs2 d2).keep (w' := w5) (fun q hq hlt => (hg.block q (by simp at hlt ⊢; omega) (fun e => own_ne HCUT.out.2.1 HCUT.out.2.2.1 (by decide) q e.symm hq)).trans (heap_alloc_old (w := X.grow xs2 d2) _ hlt))
                  have ho14 : OwnA w5 w4.heap.size 35 64 v3 (((K.take (i + 1)).filterMap (wrOfR a b c m)).map wrtD) := by rw [HF1'.out]; simpa using ho
                  have HFIN := Lib.hid (And.intro hb5 (And.intro ho14 ho15))
                  clear ho hg hb5 ho15 ho14
                  go_wp2_with fail
                  go_roundw
                  case rel => exact ⟨i + 1, by omega, by go_num, HFIN⟩
                  case measure => simp [intOf]; omega
                · have hval : (decide (er = 0) && !decide (y = B)) = false := by
                    rw [Bool.eq_false_iff]
                    intro h
                    simp only [Bool.and_eq_true, decide_eq_true_eq, Bool.not_eq_true', decide_eq_false_iff_not] at h
                    exact hwn h
                  have hws := HW.out
                  rw [if_neg hwn] at hws
                  have hf1 := HF1.out
                  rw [hws] at hf1
                  simp only [Option.toList_none, List.append_nil] at hf1
                  rw [hval]
                  have hfin : Below w4.heap.size w4 (X.grow xs2 d2) ∧ OwnA (X.grow xs2 d2) w4.heap.size 35 64 u14 (((K.take (i + 1)).filterMap (wrOfR a b c m)).map wrtD) ∧ OwnA (X.grow xs2 d2) w4.heap.size 25 60 u15 (rowKD ((K.take (i + 1)).filter (clashOfR a b c m))) :=
                    ⟨HCUT.out.1.grow h4c _ _, by rw [hf1]; exact HCUT.out.2.1.grow _ _, HCUT.out.2.2.1.grow _ _⟩
                  have HFIN := Lib.hid hfin
                  clear hval hws hf1 hwn hfin
                  go_wp2_with fail
                  go_roundw
                  case rel => exact ⟨i + 1, by omega, by go_num, HFIN⟩
                  case measure => simp [intOf]; omega
        · have hie : i = K.length := by omega
          subst hie
          have hgn : ¬ (K.length : Int) < K.length := by omega
          have hq := HQ.out
          rw [List.take_length] at hq
          have HQ2 := Lib.hid hq
          have hbw := HBX.out.trans (hq.1.mono hszw)
          have HBW2 := Lib.hid hbw
          obtain ⟨af, capf, hvf, _, hcf⟩ := hq.2.2.form
          subst hvf
          clear hq HQ hbw
          rw [List.length_map] at *
          have hll := HLM2.out
          generalize hFn : (K.filter (clashOfR a b c m)).length = n at *
          have HFN := Lib.hid hFn
          have HLL := Lib.hid hll
          clear hll hFn HLM2
          have fin1 : ∀ (tm : Array Value), tm.getD 8 undef = .slice none 0 0 → tm.getD 9 undef = .slice af n capf → tm.getD 10 undef = .int .i64 11 → m = 0 ∧ 0 < n → bodyPost Try.prog Try.f13 (fun e w' => ∃ v1 v2, e = .returned (.tuple #[v1, v2, .int .i64 (listsR a b c m).2.2]) ∧ Below w.heap.size w w' ∧ OwnA w' w.heap.size 35 64 v1 ((listsR a b c m).1.map wrtD) ∧ OwnA w' w.heap.size 25 60 v2 (rowKD (listsR a b c m).2.1)) .ret ⟨tm, []⟩ wr := by
            intro tm t8 t9 t10 hc
            refine bodyPost_ret (v := .tuple #[.slice none 0 0, .slice af n capf, .int .i64 11]) (listsR_run t8 t9 t10) rfl ?_
            have h := HLL.out
            rw [if_pos hc] at h
            rw [h]
            exact ⟨_, _, rfl, HBW2.out, OwnA.nil _ _ _ _, HQ2.out.2.2.mono hszw⟩
          have fin2 : ∀ (tm : Array Value), tm.getD 8 undef = u14 → tm.getD 9 undef = .slice af n capf → tm.getD 10 undef = .int .i64 0 → ¬ (m = 0 ∧ 0 < n) → bodyPost Try.prog Try.f13 (fun e w' => ∃ v1 v2, e = .returned (.tuple #[v1, v2, .int .i64 (listsR a b c m).2.2]) ∧ Below w.heap.size w w' ∧ OwnA w' w.heap.size 35 64 v1 ((listsR a b c m).1.map wrtD) ∧ OwnA w' w.heap.size 25 60 v2 (rowKD (listsR a b c m).2.1)) .ret ⟨tm, []⟩ wr := by
            intro tm t8 t9 t10 hc
            refine bodyPost_ret (v := .tuple #[u14, .slice af n capf, .int .i64 0]) (listsR_run t8 t9 t10) rfl ?_
            have h := HLL.out
            rw [if_neg hc] at h
            rw [h]
            exact ⟨_, _, rfl, HBW2.out, HQ2.out.2.1.mono hszw, HQ2.out.2.2.mono hszw⟩
          have FIN1 := Lib.hid fin1
          have FIN2 := Lib.hid fin2
          clear fin1 fin2
          by_cases hm0 : m = 0
          · have hme : (m == 0) = true := by simpa using hm0
            by_cases hcl : 0 < n
            · have hcI : decide ((0 : Int) < n) = true := by simp; omega
              have hcI2 : (0 : Int) < n := by omega
              have HCL' := Lib.hid (And.intro hm0 hcl)
              clear hm0 hcl
              go_wp2_with fail
              exact FIN1.out _ rfl rfl rfl HCL'.out
            · have hcI : ¬ (0 : Int) < n := by omega
              have HCL' := Lib.hid (show ¬ (m = 0 ∧ 0 < n) from fun h => hcl h.2)
              clear hm0 hcl
              go_wp2_with fail
              exact FIN2.out _ rfl rfl rfl HCL'.out
          · have hme : (m == 0) = false := by simpa using hm0
            have HCL' := Lib.hid (show ¬ (m = 0 ∧ 0 < n) from fun h => hm0 h.1)
            clear hm0
            go_wp2_with fail
            exact FIN2.out _ rfl rfl rfl HCL'.out
end Go.Proofs.Ytbflpnkodpeggaa.Dp

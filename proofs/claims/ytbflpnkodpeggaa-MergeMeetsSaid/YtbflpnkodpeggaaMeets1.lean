/- Layer 24's law MergeMeets: the walk. -/
import Derived.Test.YtbflpnkodpeggaaListsM
import Derived.Test.YtbflpnkodpeggaaOverM
import Derived.Test.YtbflpnkodpeggaaFindM
import Derived.Test.YtbflpnkodpeggaaSameM
import Derived.Test.YtbflpnkodpeggaaKnown24
import Derived.Test.YtbflpnkodpeggaaRise
namespace Go.Proofs.Ytbflpnkodpeggaa.Dp
set_option maxRecDepth 100000
open Go.RowKit

theorem mode_12 (m : Int) : wrap64 (1 + wrap64 ((IntKind.u64.wrap m).tmod 2)) = 1 ∨ wrap64 (1 + wrap64 ((IntKind.u64.wrap m).tmod 2)) = 2 := by
  have h0 : 0 ≤ IntKind.u64.wrap m := by simp [IntKind.wrap, IntKind.bits, IntKind.signed]; omega
  generalize IntKind.u64.wrap m = u at *
  rw [Int.tmod_eq_emod_of_nonneg h0]
  have h : u % 2 = 0 ∨ u % 2 = 1 := by omega
  rcases h with h | h <;> rw [h] <;> simp [wrap64]
theorem over_len (l : List Ent) (ws : List Wr) : (overM l ws).length ≤ l.length + ws.length := by
  unfold overM
  rw [ents_len]
  have h1 := wrAll_len ws (putAll [] l)
  have h2 := putAll_len l []
  simp only [List.length_nil] at h2
  omega
theorem lists_len (a b c : List Ent) (m : Int) : (listsM a b c m).1.length ≤ a.length + b.length + c.length := by
  have h := keysL_len a b c
  have h2 := List.length_filterMap_le (wrOf a b c m) (keysL a b c)
  unfold listsM
  split
  · simp
  · split
    · simp
    · simp only; omega
set_option maxHeartbeats 20000000 in
theorem meets_walk (La Lb Lc : List Ent) (va vb vc : Value) (m : Int) (w : World) (hva : SlA w w.heap.size 34 va (La.map entA)) (hvb : SlA w w.heap.size 34 vb (Lb.map entA)) (hvc : SlA w w.heap.size 34 vc (Lc.map entA)) :
    Gives Try.prog 3 #[va, vb, vc, .int .i64 m] w (.bool true) := by
  have hsa := rise_sorted La
  have hsb := rise_sorted Lb
  have hsc := rise_sorted Lc
  have hla := rise_len30 La
  have hlb := rise_len30 Lb
  have hlc := rise_len30 Lc
  have hra := rise_calls La va w hva
  have HVB := Lib.hid hvb
  have HVC := Lib.hid hvc
  have HRA := Lib.hid hra
  clear hva hvb hvc hra
  generalize ha : rise La = a at *
  generalize hb : rise Lb = b at *
  generalize hc : rise Lc = c at *
  have HEB := Lib.hid hb
  have HEC := Lib.hid hc
  have HSA := Lib.hid hsa
  have HSB := Lib.hid hsb
  have HSC := Lib.hid hsc
  clear ha hb hc hsa hsb hsc
  unfold Gives
  go_enter Try.func3, Try.ntmps3
  go_wp2_with fail
  refine HRA.out.mono ?_
  clear HRA
  rintro e w1 ⟨v1, rfl, hb1, ho1⟩
  go_wp2_with fail
  refine (rise_calls Lb _ _ ((HVB.out.below hb1).more hb1.size)).mono ?_
  rw [HEB.out]
  rintro e w2 ⟨v2, rfl, hb2, ho2⟩
  go_wp2_with fail
  refine (rise_calls Lc _ _ ((HVC.out.below (hb1.trans (hb2.mono hb1.size))).more (by have := hb1.size; have := hb2.size; omega))).mono ?_
  rw [HEC.out]
  rintro e w3 ⟨v3, rfl, hb3, ho3⟩
  have hs1 := hb1.size
  have hs2 := hb2.size
  have hs3 := hb3.size
  have HS1 := Lib.hid ((ho1.sl.below (hb2.trans (hb3.mono hs2))).more (show w1.heap.size ≤ w3.heap.size by omega))
  have HS2 := Lib.hid ((ho2.sl.below hb3).more (show w2.heap.size ≤ w3.heap.size by omega))
  have HS3 := Lib.hid ho3.sl
  have HB3 := Lib.hid ((hb1.trans (hb2.mono hs1)).trans (hb3.mono (by omega)))
  clear hb1 hb2 hb3 ho1 ho2 ho3 hs1 hs2 hs3 HVB HVC HEB HEC
  go_wp2_with fail
  have hn := mode_12 m
  generalize wrap64 (1 + wrap64 ((IntKind.u64.wrap m).tmod 2)) = n at *
  generalize wrap64 ((IntKind.u64.wrap m).tmod 2) = n1
  generalize (IntKind.u64.wrap m).tmod 2 = n2
  generalize IntKind.u64.wrap m = n3
  have hcon := lists_calls a b c v1 v2 v3 n w3 (by omega) (by omega) (by omega) HS1.out HS2.out HS3.out
  have hpl := lists_over HSA.out HSB.out HSC.out hn
  have hlen := lists_len a b c n
  generalize listsM a b c n = t at *
  obtain ⟨ws, cl, er⟩ := t
  simp only at hcon hpl hlen
  obtain ⟨rfl, hfo, hcc⟩ := hpl
  refine hcon.mono ?_
  clear hcon
  rintro e w4 ⟨v4, v5, rfl, hb4, ho4, ho5⟩
  have hs4 := hb4.size
  have HT1 := Lib.hid ((HS1.out.below hb4).more hs4)
  have HT2 := Lib.hid ((HS2.out.below hb4).more hs4)
  have HT3 := Lib.hid ((HS3.out.below hb4).more hs4)
  have HT4 := Lib.hid ho4.sl
  have HT5 := Lib.hid ho5.sl
  have HB4 := Lib.hid (HB3.out.trans (hb4.mono HB3.out.size))
  have HFO := Lib.hid hfo
  have HCC := Lib.hid hcc
  have HN := Lib.hid hn
  clear hb4 hs4 ho4 ho5 HS1 HS2 HS3 HB3 hfo hcc hn
  go_wp2_with fail
  have hol := over_len b ws
  have hos := over_sorted b ws
  refine (over_calls b ws v2 v4 w4 (by omega) (by omega) HT2.out HT4.out).mono ?_
  generalize overM b ws = out at *
  rintro e w5 ⟨v6, rfl, hb5, ho6⟩
  have hs5 := hb5.size
  have HU1 := Lib.hid ((HT1.out.below hb5).more hs5)
  have HU2 := Lib.hid ((HT2.out.below hb5).more hs5)
  have HU3 := Lib.hid ((HT3.out.below hb5).more hs5)
  have HU5 := Lib.hid ((HT5.out.below hb5).more hs5)
  have HU6 := Lib.hid ho6.sl
  have HB5 := Lib.hid (HB4.out.trans (hb5.mono HB4.out.size))
  have HOS := Lib.hid hos
  have hol2 : out.length ≤ 120 := by omega
  clear hb5 hs5 ho6 HT1 HT2 HT3 HT4 HT5 HB4 hos hol hlen
  have hAa : ∀ x ∈ a.map entA, allOne x = true := by intro x hx; obtain ⟨y, _, rfl⟩ := List.mem_map.1 hx; exact one_entA y
  have hAb : ∀ x ∈ b.map entA, allOne x = true := by intro x hx; obtain ⟨y, _, rfl⟩ := List.mem_map.1 hx; exact one_entA y
  have hAc : ∀ x ∈ c.map entA, allOne x = true := by intro x hx; obtain ⟨y, _, rfl⟩ := List.mem_map.1 hx; exact one_entA y
  have HAA := Lib.hid hAa
  have HAB := Lib.hid hAb
  have HAC := Lib.hid hAc
  clear hAa hAb hAc
  go_wp2_with (at_builtin; refine wpList_append (B := w5.heap.size) (xs := []) (ys := a.map entA) row_ent rfl (.tmp 57) (.tmp 58) rfl rfl ?_ rfl ⟨_, HU1.out.alloc _ (Nat.le_refl _)⟩ HAA.out ?_ ?_ ?_)
  case refine_1 => exact own_empty (_root_.Go.heap_alloc_new w5 _) (Nat.le_refl _)
  case refine_2 => simp; omega
  case refine_3 => simp
  intro v7 w6 ho7 hg7 _
  have hk7 : ∀ q, q < w5.heap.size → w6.heap[q]? = w5.heap[q]? := fun q hq => (hg7.block q (by simp; omega) (by simp [Value.ownBlock, Act.eval]; omega)).trans (heap_alloc_old (w := w5) _ hq)
  have hz7 : w5.heap.size ≤ w6.heap.size := by have := hg7.size; simp at this; omega
  have hb7 : Below w5.heap.size w5 w6 := ⟨hg7.os, hg7.tape, hg7.output, hz7, hk7⟩
  have hv7 := ho7.lt
  have HO7 := Lib.hid (show OwnA w6 w5.heap.size 34 43 v7 (a.map entA) by simpa using ho7)
  have HB7 := Lib.hid hb7
  have HV7 := Lib.hid hv7
  clear ho7 hg7 hk7 hb7 hv7
  go_wp2_with (at_builtin; refine wpList_append (v := v7) (B := w5.heap.size) (xs := a.map entA) (ys := b.map entA) row_ent rfl (.tmp 59) (.tmp 60) rfl rfl HO7.out rfl ⟨_, HU2.out.below HB7.out⟩ HAB.out ?_ ?_ ?_)
  case refine_1 => simp; omega
  case refine_2 => exact hz7
  intro v8 w7 ho8 hg8 _
  have hb8 : Below w5.heap.size w5 w7 := Below.grown HB7.out hg8 hz7 (fun q hq => (HV7.out q hq).1)
  have HO8 := Lib.hid ho8
  have HB8 := Lib.hid hb8
  have HV8 := Lib.hid ho8.lt
  clear ho8 hg8 hb8 HO7 HB7 HV7 hz7
  have hz8 := HB8.out.size
  go_wp2_with (at_builtin; refine wpList_append (v := v8) (B := w5.heap.size) (xs := a.map entA ++ b.map entA) (ys := c.map entA) row_ent rfl (.tmp 61) (.tmp 62) rfl rfl HO8.out rfl ⟨_, HU3.out.below HB8.out⟩ HAC.out ?_ ?_ ?_)
  case refine_1 => simp; omega
  case refine_2 => exact hz8
  intro v9 w8 ho9 hg9 _
  have hb9 : Below w5.heap.size w5 w8 := Below.grown HB8.out hg9 hz8 (fun q hq => (HV8.out q hq).1)
  have hal : a.map entA ++ (b.map entA ++ c.map entA) = (a ++ b ++ c).map entA := by simp
  rw [hal] at ho9
  have hall : (a ++ b ++ c).length ≤ 90 := by simp; omega
  generalize a ++ b ++ c = all at *
  have hz9 := hb9.size
  have HX := Lib.hid ho9.sl
  have HX1 := Lib.hid ((HU1.out.below hb9).more hz9)
  have HX2 := Lib.hid ((HU2.out.below hb9).more hz9)
  have HX3 := Lib.hid ((HU3.out.below hb9).more hz9)
  have HX5 := Lib.hid ((HU5.out.below hb9).more hz9)
  have HX6 := Lib.hid ((HU6.out.below hb9).more hz9)
  have HB9 := Lib.hid (HB5.out.trans (hb9.mono HB5.out.size))
  clear ho9 hg9 hb9 hal HO8 HB8 HV8 hz8 hz9 HU1 HU2 HU3 HU5 HU6 HB5 HAA HAB HAC
  obtain ⟨a9, cap9, rfl, hcl9, hcm9⟩ := HX.out.form
  have hlx : (all.map entA).length = all.length := by simp
  rw [hlx] at *
  unfold maxLen at hcm9
  clear hlx
  go_upto_block 0 with fail
  go_cut [] (fun wx => Hid (Below w8.heap.size w8 wx))
  case first =>
    go_wp2_with fail
    go_loopw [18] (fun s18 wr => ∃ i : Nat, i ≤ all.length ∧ s18 = .int .i64 i ∧ Hid (Below w8.heap.size w8 wr)) (fun s18 _ => all.length - (intOf s18).toNat)
    case atStart => exact ⟨0, Nat.zero_le _, rfl, Lib.hid (Below.refl _ _)⟩
    case round =>
      obtain ⟨i, hi, rfl, HB⟩ := hrel
      by_cases hli : i < all.length
      · have hliI : (i : Int) < all.length := by omega
        obtain ⟨_, a5, cap5, he, _, _, hc5⟩ := HX.out.below HB.out
        simp only [Value.slice.injEq, List.length_map, true_and] at he
        obtain ⟨rfl, rfl⟩ := he
        obtain ⟨g, q, rfl, hlb, hcut⟩ := hc5 (by simp; omega)
        have hcute := hcut i (entA all[i]) (by simp [hli])
        have hcutk := cut_sub (i := 0) (m := 25) hcute (by decide)
        rw [Nat.add_zero, entA_key] at hcutk
        have hsz := HB.out.size
        have hgr : g < wr.heap.size := by omega
        generalize all[i] = e at *
        have hk25 := e.k.len
        have hfa : ∀ W, Below w8.heap.size w8 W → Gives Try.prog 9 #[v1, .agg (row8 e.k.val)] W (.agg (cellA (findE a e.k))) := fun W h => findM_gives a e.k v1 W (by omega) ((HX1.out.below h).more h.size)
        have hfb : ∀ W, Below w8.heap.size w8 W → Gives Try.prog 9 #[v2, .agg (row8 e.k.val)] W (.agg (cellA (findE b e.k))) := fun W h => findM_gives b e.k v2 W (by omega) ((HX2.out.below h).more h.size)
        have hfc : ∀ W, Below w8.heap.size w8 W → Gives Try.prog 9 #[v3, .agg (row8 e.k.val)] W (.agg (cellA (findE c e.k))) := fun W h => findM_gives c e.k v3 W (by omega) ((HX3.out.below h).more h.size)
        have hfo : ∀ W, Below w8.heap.size w8 W → Gives Try.prog 9 #[v6, .agg (row8 e.k.val)] W (.agg (cellA (findE out e.k))) := fun W h => findM_gives out e.k v6 W (by omega) ((HX6.out.below h).more h.size)
        have hm := HN.out
        have hm' : ¬ (n < 0 ∨ 2 < n) := by omega
        have hmz : n ≠ 0 := by omega
        have h1 := three_one (findE a e.k) (findE b e.k) (findE c e.k) hm'
        have h2 := err_zero (a := findE a e.k) (b := findE b e.k) (c := findE c e.k) hm' (.inr hmz)
        have hT := threeM_gives (findE a e.k) (findE b e.k) (findE c e.k) n
        rw [HFO.out] at hfo
        generalize findE a e.k = A at *
        generalize findE b e.k = B at *
        generalize findE c e.k = C at *
        generalize threeC A B C n = t at *
        obtain ⟨y, s, er⟩ := t
        simp only at hfo h1 h2 hT
        obtain ⟨h1a, h1b⟩ := h1
        rw [← h1a] at h1b
        subst h2
        have HFA := Lib.hid hfa
        have HFB := Lib.hid hfb
        have HFC := Lib.hid hfc
        have HFX := Lib.hid hfo
        have HT := Lib.hid hT
        have H1B := Lib.hid h1b
        clear hfa hfb hfc hfo hT h1a h1b hm hm' hmz hcut hc5 hcute
        generalize e.k = k at *
        go_upto_region 12 with fail
        apply wp_region_specs (by rfl) [.val _, .val _, .val _, .val _, .val _, .val _, .val _, .val _, .val _, .val _, .val _, .val _, .val _, .pure _, .pure _, .new _] 16 (by rfl) [76, 77, 78, 79, 80, 81, 82, 83, 84, 85, 86, 75, 87, 88, 89, 20] [15] [13, 14] (by rfl) (by rfl) (by decide) (by decide +kernel) (fun _ _ _ _ _ h => h)
        case hF => intro x; simp only [over, List.foldl_cons, List.foldl_nil, List.setIfInBounds_toArray, List.set_cons_succ, List.set_cons_zero]; exact rfl
        case hops =>
          refine ⟨?o0, ?o1, ?o2, ?o3, ?o4, ?o5, ?o6, ?o7, ?o8, ?o9, ?o10, ?o11, ?o12, ?o13, ?o14, ?o15, trivial⟩
          case o0 =>
            intro x w1 hH K hK
            obtain ⟨xs, d, rfl⟩ := grow_of_below hH.below
            clear hH
            try simp only [World.grow_drew] at hK ⊢
            try simp only [World.grow_grow] at hK ⊢
            go_simp
            go_wp2_with fail
            exact ⟨_, rfl, rfl, (by repeat (first | exact below_of_grow _ _ | exact Below.refl _ _ | exact below_more _ _ _ _ | (simp only [← Array.append_assoc]; first | exact below_more _ _ _ _ | exact below_same _ _ _ | exact Below.refl _ _) | exact below_same _ _ _ | (refine Below.alloc ?_ (by first | (simp; done) | (simp; omega)) _) | (refine Below.grow ?_ (by first | (simp; done) | (simp; omega)) _ _) | refine Below.drew ?_ | refine Below.drewN ?_ _ | (refine Below.putF ?_ (by first | (simp; done) | omega | (simp; omega)) _) | (refine Below.setCell ?_ (by first | (simp; done) | (simp; omega)) _))), fun h => by cases h⟩
          case o1 =>
            intro x w1 hH K hK
            obtain ⟨xs, d, rfl⟩ := grow_of_below hH.below
            clear hH
            try simp only [World.grow_drew] at hK ⊢
            try simp only [World.grow_grow] at hK ⊢
            go_simp
            go_wp2_with fail
            exact ⟨_, rfl, rfl, (by repeat (first | exact below_of_grow _ _ | exact Below.refl _ _ | exact below_more _ _ _ _ | (simp only [← Array.append_assoc]; first | exact below_more _ _ _ _ | exact below_same _ _ _ | exact Below.refl _ _) | exact below_same _ _ _ | (refine Below.alloc ?_ (by first | (simp; done) | (simp; omega)) _) | (refine Below.grow ?_ (by first | (simp; done) | (simp; omega)) _ _) | refine Below.drew ?_ | refine Below.drewN ?_ _ | (refine Below.putF ?_ (by first | (simp; done) | omega | (simp; omega)) _) | (refine Below.setCell ?_ (by first | (simp; done) | (simp; omega)) _))), fun h => by cases h⟩
          case o2 =>
            intro x w1 hH K hK
            have e76 : x 76 = _ := hH.holds 0 (by decide) (by decide +kernel) 76 rfl
            have e77 : x 77 = _ := hH.holds 1 (by decide) (by decide +kernel) 77 rfl
            obtain ⟨xs, d, rfl⟩ := grow_of_below hH.below
            clear hH
            try simp only [World.grow_drew] at hK ⊢
            try simp only [World.grow_grow] at hK ⊢
            simp only [e76, e77] at hK ⊢
            clear e76 e77
            go_simp
            go_wp2_with (refine Gives.use (HFA.out _ ((HB.out.alloc hsz _).grow (by rw [World.alloc_size1]; omega) _ _)) ?_; intro ys e)
            exact ⟨_, rfl, rfl, (by first | exact below_more _ _ _ _ | exact (by repeat (first | exact below_of_grow _ _ | exact Below.refl _ _ | exact below_more _ _ _ _ | (simp only [← Array.append_assoc]; first | exact below_more _ _ _ _ | exact below_same _ _ _ | exact Below.refl _ _) | exact below_same _ _ _ | (refine Below.alloc ?_ (by first | (simp; done) | (simp; omega)) _) | (refine Below.grow ?_ (by first | (simp; done) | (simp; omega)) _ _) | refine Below.drew ?_ | refine Below.drewN ?_ _ | (refine Below.putF ?_ (by first | (simp; done) | omega | (simp; omega)) _) | (refine Below.setCell ?_ (by first | (simp; done) | (simp; omega)) _)))), fun h => by cases h⟩
          case o3 =>
            intro x w1 hH K hK
            obtain ⟨xs, d, rfl⟩ := grow_of_below hH.below
            clear hH
            try simp only [World.grow_drew] at hK ⊢
            try simp only [World.grow_grow] at hK ⊢
            go_simp
            go_wp2_with fail
            exact ⟨_, rfl, rfl, (by repeat (first | exact below_of_grow _ _ | exact Below.refl _ _ | exact below_more _ _ _ _ | (simp only [← Array.append_assoc]; first | exact below_more _ _ _ _ | exact below_same _ _ _ | exact Below.refl _ _) | exact below_same _ _ _ | (refine Below.alloc ?_ (by first | (simp; done) | (simp; omega)) _) | (refine Below.grow ?_ (by first | (simp; done) | (simp; omega)) _ _) | refine Below.drew ?_ | refine Below.drewN ?_ _ | (refine Below.putF ?_ (by first | (simp; done) | omega | (simp; omega)) _) | (refine Below.setCell ?_ (by first | (simp; done) | (simp; omega)) _))), fun h => by cases h⟩
          case o4 =>
            intro x w1 hH K hK
            obtain ⟨xs, d, rfl⟩ := grow_of_below hH.below
            clear hH
            try simp only [World.grow_drew] at hK ⊢
            try simp only [World.grow_grow] at hK ⊢
            go_simp
            go_wp2_with fail
            exact ⟨_, rfl, rfl, (by repeat (first | exact below_of_grow _ _ | exact Below.refl _ _ | exact below_more _ _ _ _ | (simp only [← Array.append_assoc]; first | exact below_more _ _ _ _ | exact below_same _ _ _ | exact Below.refl _ _) | exact below_same _ _ _ | (refine Below.alloc ?_ (by first | (simp; done) | (simp; omega)) _) | (refine Below.grow ?_ (by first | (simp; done) | (simp; omega)) _ _) | refine Below.drew ?_ | refine Below.drewN ?_ _ | (refine Below.putF ?_ (by first | (simp; done) | omega | (simp; omega)) _) | (refine Below.setCell ?_ (by first | (simp; done) | (simp; omega)) _))), fun h => by cases h⟩
          case o5 =>
            intro x w1 hH K hK
            have e79 : x 79 = _ := hH.holds 3 (by decide) (by decide +kernel) 79 rfl
            have e80 : x 80 = _ := hH.holds 4 (by decide) (by decide +kernel) 80 rfl
            obtain ⟨xs, d, rfl⟩ := grow_of_below hH.below
            clear hH
            try simp only [World.grow_drew] at hK ⊢
            try simp only [World.grow_grow] at hK ⊢
            simp only [e79, e80] at hK ⊢
            clear e79 e80
            go_simp
            go_wp2_with (refine Gives.use (HFB.out _ ((HB.out.alloc hsz _).grow (by rw [World.alloc_size1]; omega) _ _)) ?_; intro ys e)
            exact ⟨_, rfl, rfl, (by first | exact below_more _ _ _ _ | exact (by repeat (first | exact below_of_grow _ _ | exact Below.refl _ _ | exact below_more _ _ _ _ | (simp only [← Array.append_assoc]; first | exact below_more _ _ _ _ | exact below_same _ _ _ | exact Below.refl _ _) | exact below_same _ _ _ | (refine Below.alloc ?_ (by first | (simp; done) | (simp; omega)) _) | (refine Below.grow ?_ (by first | (simp; done) | (simp; omega)) _ _) | refine Below.drew ?_ | refine Below.drewN ?_ _ | (refine Below.putF ?_ (by first | (simp; done) | omega | (simp; omega)) _) | (refine Below.setCell ?_ (by first | (simp; done) | (simp; omega)) _)))), fun h => by cases h⟩
          case o6 =>
            intro x w1 hH K hK
            obtain ⟨xs, d, rfl⟩ := grow_of_below hH.below
            clear hH
            try simp only [World.grow_drew] at hK ⊢
            try simp only [World.grow_grow] at hK ⊢
            go_simp
            go_wp2_with fail
            exact ⟨_, rfl, rfl, (by repeat (first | exact below_of_grow _ _ | exact Below.refl _ _ | exact below_more _ _ _ _ | (simp only [← Array.append_assoc]; first | exact below_more _ _ _ _ | exact below_same _ _ _ | exact Below.refl _ _) | exact below_same _ _ _ | (refine Below.alloc ?_ (by first | (simp; done) | (simp; omega)) _) | (refine Below.grow ?_ (by first | (simp; done) | (simp; omega)) _ _) | refine Below.drew ?_ | refine Below.drewN ?_ _ | (refine Below.putF ?_ (by first | (simp; done) | omega | (simp; omega)) _) | (refine Below.setCell ?_ (by first | (simp; done) | (simp; omega)) _))), fun h => by cases h⟩
          case o7 =>
            intro x w1 hH K hK
            obtain ⟨xs, d, rfl⟩ := grow_of_below hH.below
            clear hH
            try simp only [World.grow_drew] at hK ⊢
            try simp only [World.grow_grow] at hK ⊢
            go_simp
            go_wp2_with fail
            exact ⟨_, rfl, rfl, (by repeat (first | exact below_of_grow _ _ | exact Below.refl _ _ | exact below_more _ _ _ _ | (simp only [← Array.append_assoc]; first | exact below_more _ _ _ _ | exact below_same _ _ _ | exact Below.refl _ _) | exact below_same _ _ _ | (refine Below.alloc ?_ (by first | (simp; done) | (simp; omega)) _) | (refine Below.grow ?_ (by first | (simp; done) | (simp; omega)) _ _) | refine Below.drew ?_ | refine Below.drewN ?_ _ | (refine Below.putF ?_ (by first | (simp; done) | omega | (simp; omega)) _) | (refine Below.setCell ?_ (by first | (simp; done) | (simp; omega)) _))), fun h => by cases h⟩
          case o8 =>
            intro x w1 hH K hK
            have e82 : x 82 = _ := hH.holds 6 (by decide) (by decide +kernel) 82 rfl
            have e83 : x 83 = _ := hH.holds 7 (by decide) (by decide +kernel) 83 rfl
            obtain ⟨xs, d, rfl⟩ := grow_of_below hH.below
            clear hH
            try simp only [World.grow_drew] at hK ⊢
            try simp only [World.grow_grow] at hK ⊢
            simp only [e82, e83] at hK ⊢
            clear e82 e83
            go_simp
            go_wp2_with (refine Gives.use (HFC.out _ ((HB.out.alloc hsz _).grow (by rw [World.alloc_size1]; omega) _ _)) ?_; intro ys e)
            exact ⟨_, rfl, rfl, (by first | exact below_more _ _ _ _ | exact (by repeat (first | exact below_of_grow _ _ | exact Below.refl _ _ | exact below_more _ _ _ _ | (simp only [← Array.append_assoc]; first | exact below_more _ _ _ _ | exact below_same _ _ _ | exact Below.refl _ _) | exact below_same _ _ _ | (refine Below.alloc ?_ (by first | (simp; done) | (simp; omega)) _) | (refine Below.grow ?_ (by first | (simp; done) | (simp; omega)) _ _) | refine Below.drew ?_ | refine Below.drewN ?_ _ | (refine Below.putF ?_ (by first | (simp; done) | omega | (simp; omega)) _) | (refine Below.setCell ?_ (by first | (simp; done) | (simp; omega)) _)))), fun h => by cases h⟩
          case o9 =>
            intro x w1 hH K hK
            obtain ⟨xs, d, rfl⟩ := grow_of_below hH.below
            clear hH
            try simp only [World.grow_drew] at hK ⊢
            try simp only [World.grow_grow] at hK ⊢
            go_simp
            go_wp2_with fail
            exact ⟨_, rfl, rfl, (by repeat (first | exact below_of_grow _ _ | exact Below.refl _ _ | exact below_more _ _ _ _ | (simp only [← Array.append_assoc]; first | exact below_more _ _ _ _ | exact below_same _ _ _ | exact Below.refl _ _) | exact below_same _ _ _ | (refine Below.alloc ?_ (by first | (simp; done) | (simp; omega)) _) | (refine Below.grow ?_ (by first | (simp; done) | (simp; omega)) _ _) | refine Below.drew ?_ | refine Below.drewN ?_ _ | (refine Below.putF ?_ (by first | (simp; done) | omega | (simp; omega)) _) | (refine Below.setCell ?_ (by first | (simp; done) | (simp; omega)) _))), fun h => by cases h⟩
          case o10 =>
            intro x w1 hH K hK
            have e78 : x 78 = _ := hH.holds 2 (by decide) (by decide +kernel) 78 rfl
            have e81 : x 81 = _ := hH.holds 5 (by decide) (by decide +kernel) 81 rfl
            have e84 : x 84 = _ := hH.holds 8 (by decide) (by decide +kernel) 84 rfl
            have e85 : x 85 = _ := hH.holds 9 (by decide) (by decide +kernel) 85 rfl
            obtain ⟨xs, d, rfl⟩ := grow_of_below hH.below
            clear hH
            try simp only [World.grow_drew] at hK ⊢
            try simp only [World.grow_grow] at hK ⊢
            simp only [e78, e81, e84, e85] at hK ⊢
            clear e78 e81 e84 e85
            go_simp
            go_wp2_with (refine Gives.use (HT.out _) ?_; intro ys e)
            exact ⟨_, rfl, rfl, (by first | exact below_more _ _ _ _ | exact (by repeat (first | exact below_of_grow _ _ | exact Below.refl _ _ | exact below_more _ _ _ _ | (simp only [← Array.append_assoc]; first | exact below_more _ _ _ _ | exact below_same _ _ _ | exact Below.refl _ _) | exact below_same _ _ _ | (refine Below.alloc ?_ (by first | (simp; done) | (simp; omega)) _) | (refine Below.grow ?_ (by first | (simp; done) | (simp; omega)) _ _) | refine Below.drew ?_ | refine Below.drewN ?_ _ | (refine Below.putF ?_ (by first | (simp; done) | omega | (simp; omega)) _) | (refine Below.setCell ?_ (by first | (simp; done) | (simp; omega)) _)))), fun h => by cases h⟩
          case o11 =>
            intro x w1 hH K hK
            have e86 : x 86 = _ := hH.holds 10 (by decide) (by decide +kernel) 86 rfl
            obtain ⟨xs, d, rfl⟩ := grow_of_below hH.below
            clear hH
            try simp only [World.grow_drew] at hK ⊢
            try simp only [World.grow_grow] at hK ⊢
            simp only [e86] at hK ⊢
            clear e86
            go_simp
            go_wp2_with fail
            exact ⟨_, rfl, rfl, (by repeat (first | exact below_of_grow _ _ | exact Below.refl _ _ | exact below_more _ _ _ _ | (simp only [← Array.append_assoc]; first | exact below_more _ _ _ _ | exact below_same _ _ _ | exact Below.refl _ _) | exact below_same _ _ _ | (refine Below.alloc ?_ (by first | (simp; done) | (simp; omega)) _) | (refine Below.grow ?_ (by first | (simp; done) | (simp; omega)) _ _) | refine Below.drew ?_ | refine Below.drewN ?_ _ | (refine Below.putF ?_ (by first | (simp; done) | omega | (simp; omega)) _) | (refine Below.setCell ?_ (by first | (simp; done) | (simp; omega)) _))), fun h => by cases h⟩
          case o12 =>
            intro x w1 hH K hK
            have e75 : x 75 = _ := hH.holds 11 (by decide) (by decide +kernel) 75 rfl
            obtain ⟨xs, d, rfl⟩ := grow_of_below hH.below
            clear hH
            try simp only [World.grow_drew] at hK ⊢
            try simp only [World.grow_grow] at hK ⊢
            simp only [e75] at hK ⊢
            clear e75
            go_simp
            go_wp2_with fail
            exact ⟨_, rfl, rfl, (by repeat (first | exact below_of_grow _ _ | exact Below.refl _ _ | exact below_more _ _ _ _ | (simp only [← Array.append_assoc]; first | exact below_more _ _ _ _ | exact below_same _ _ _ | exact Below.refl _ _) | exact below_same _ _ _ | (refine Below.alloc ?_ (by first | (simp; done) | (simp; omega)) _) | (refine Below.grow ?_ (by first | (simp; done) | (simp; omega)) _ _) | refine Below.drew ?_ | refine Below.drewN ?_ _ | (refine Below.putF ?_ (by first | (simp; done) | omega | (simp; omega)) _) | (refine Below.setCell ?_ (by first | (simp; done) | (simp; omega)) _))), fun h => by cases h⟩
          case o13 =>
            intro x w1 hH
            have e75 : x 75 = _ := hH.holds 11 (by decide) (by decide +kernel) 75 rfl
            clear hH
            simp only [e75]
            exact Or.inl ⟨rfl, fun _ => rfl⟩
          case o14 =>
            intro x w1 hH
            have e75 : x 75 = _ := hH.holds 11 (by decide) (by decide +kernel) 75 rfl
            clear hH
            simp only [e75]
            exact Or.inl ⟨rfl, fun _ => rfl⟩
          case o15 =>
            intro x w1 hH K hK
            obtain ⟨xs, d, rfl⟩ := grow_of_below hH.below
            clear hH
            try simp only [World.grow_drew] at hK ⊢
            try simp only [World.grow_grow] at hK ⊢
            go_simp
            go_wp2_with fail
            exact left_new rfl (by simp) (by first | (simp; done) | (simp; omega))
        case hend =>
          intro x w1 hH
          have e76 : x 76 = _ := hH.holds 0 (by decide) trivial 76 rfl
          have e77 : x 77 = _ := hH.holds 1 (by decide) trivial 77 rfl
          have e78 : x 78 = _ := hH.holds 2 (by decide) trivial 78 rfl
          have e79 : x 79 = _ := hH.holds 3 (by decide) trivial 79 rfl
          have e80 : x 80 = _ := hH.holds 4 (by decide) trivial 80 rfl
          have e81 : x 81 = _ := hH.holds 5 (by decide) trivial 81 rfl
          have e82 : x 82 = _ := hH.holds 6 (by decide) trivial 82 rfl
          have e83 : x 83 = _ := hH.holds 7 (by decide) trivial 83 rfl
          have e84 : x 84 = _ := hH.holds 8 (by decide) trivial 84 rfl
          have e85 : x 85 = _ := hH.holds 9 (by decide) trivial 85 rfl
          have e86 : x 86 = _ := hH.holds 10 (by decide) trivial 86 rfl
          have e75 : x 75 = _ := hH.holds 11 (by decide) trivial 75 rfl
          have e87 : x 87 = _ := hH.holds 12 (by decide) trivial 87 rfl
          have e88 : x 88 = _ := hH.holds 13 (by decide) trivial 88 rfl
          have e89 : x 89 = _ := hH.holds 14 (by decide) trivial 89 rfl
          obtain ⟨b20, e20, l20, u20, o20⟩ := hH.holds 15 (by decide) trivial 20 rfl
          obtain ⟨xs, d, rfl⟩ := grow_of_below hH.below
          clear hH
          simp only [e76, e77, e78, e79, e80, e81, e82, e83, e84, e85, e86, e75, e87, e88, e89, e20]; clear e76 e77 e78 e79 e80 e81 e82 e83 e84 e85 e86 e75 e87 e88 e89 e20
          refine new_known1 o20 l20 u20 ?_
          clear o20
          simp [go_sem] at l20 u20
          simp only [List.drop_succ_cons, List.drop_zero]
          go_upto_region 13 with fail
          simp only [List.getElem_toArray, List.getElem_cons_succ, List.getElem_cons_zero]
          obtain ⟨W, hW⟩ : ∃ W, W = (((wr.alloc (.cells (row8 k.val) 38)).grow xs d).putF (wr.heap.size + 1) b20 (.cells (cellA y) 45)) := ⟨_, rfl⟩
          have hWs : W.heap.size = wr.heap.size + 1 + xs.size := by rw [hW]; simp
          have hW20 : W.heap[b20]? = some (.cells (cellA y) 45) := by rw [hW]; exact World.putF_heap_eq _ (by simp; omega)
          have hW19 : W.heap[wr.heap.size]? = some (.cells (row8 k.val) 38) := by
            rw [hW, World.putF_heap_ne _ (by omega), World.grow_heap _ _ _ (by simp)]
            exact _root_.Go.heap_alloc_new wr _
          have hWb : Below w8.heap.size w8 W := HB.out.trans ((show Below wr.heap.size wr W by rw [hW]; exact Below.putF (((Below.refl _ _).alloc (Nat.le_refl _) _).grow (by simp) _ _) (by omega) _).mono hsz)
          rw [← hW]
          have hW19s : wr.heap.size < W.heap.size := by omega
          have hW20s : b20 < W.heap.size := by omega
          have hkc := cut_heap hW19 (sz := 25) (by simp)
          have hcc := cut_heap hW20 (sz := 10) (by simp)
          have hzW := hWb.size
          have HWB := Lib.hid hWb
          clear hW hWs hW19 hW20 hWb l20 u20 hcutk hgr hsz
          by_cases hs3 : s = 3
          · have hs : (s != 3) = false := by simp [hs3]
            clear hs3
            go_wp2_with fail
            apply wp_region_specs (by rfl) [.val _, .val _, .val _, .val _, .val _, .val _, .val _, .val _, .val _, .val _, .val _, .val _, .val _, .val _, .val _, .val _, .val _, .val _, .val _, .val _, .val _, .val _, .val _, .val _, .val _, .val _, .val _] 27 (by rfl) [90, 91, 92, 93, 94, 95, 96, 97, 98, 99, 100, 101, 102, 103, 104, 105, 106, 107, 108, 109, 110, 111, 112, 113, 114, 115, 116] [] [] (by rfl) (by rfl) (by decide) (by decide +kernel) (fun _ _ _ _ _ h => h)
            case hF => intro x; simp only [over, List.foldl_cons, List.foldl_nil, List.setIfInBounds_toArray, List.set_cons_succ, List.set_cons_zero]; exact rfl
            case hops =>
              refine ⟨?o0, ?o1, ?o2, ?o3, ?o4, ?o5, ?o6, ?o7, ?o8, ?o9, ?o10, ?o11, ?o12, ?o13, ?o14, ?o15, ?o16, ?o17, ?o18, ?o19, ?o20, ?o21, ?o22, ?o23, ?o24, ?o25, ?o26, trivial⟩
              case o0 =>
                intro x w1 hH K hK
                obtain ⟨xs, d, rfl⟩ := grow_of_below hH.below
                clear hH
                try simp only [World.grow_drew] at hK ⊢
                try simp only [World.grow_grow] at hK ⊢
                go_simp
                go_wp2_with fail
                exact ⟨_, rfl, rfl, (by repeat (first | exact below_of_grow _ _ | exact Below.refl _ _ | exact below_more _ _ _ _ | (simp only [← Array.append_assoc]; first | exact below_more _ _ _ _ | exact below_same _ _ _ | exact Below.refl _ _) | exact below_same _ _ _ | (refine Below.alloc ?_ (by first | (simp; done) | (simp; omega)) _) | (refine Below.grow ?_ (by first | (simp; done) | (simp; omega)) _ _) | refine Below.drew ?_ | refine Below.drewN ?_ _ | (refine Below.putF ?_ (by first | (simp; done) | omega | (simp; omega)) _) | (refine Below.setCell ?_ (by first | (simp; done) | (simp; omega)) _))), fun h => by cases h⟩
              case o1 =>
                intro x w1 hH K hK
                have e90 : x 90 = _ := hH.holds 0 (by decide) (by decide +kernel) 90 rfl
                obtain ⟨xs, d, rfl⟩ := grow_of_below hH.below
                clear hH
                try simp only [World.grow_drew] at hK ⊢
                try simp only [World.grow_grow] at hK ⊢
                simp only [e90] at hK ⊢
                clear e90
                go_simp
                go_wp2_with fail
                exact ⟨_, rfl, rfl, (by repeat (first | exact below_of_grow _ _ | exact Below.refl _ _ | exact below_more _ _ _ _ | (simp only [← Array.append_assoc]; first | exact below_more _ _ _ _ | exact below_same _ _ _ | exact Below.refl _ _) | exact below_same _ _ _ | (refine Below.alloc ?_ (by first | (simp; done) | (simp; omega)) _) | (refine Below.grow ?_ (by first | (simp; done) | (simp; omega)) _ _) | refine Below.drew ?_ | refine Below.drewN ?_ _ | (refine Below.putF ?_ (by first | (simp; done) | omega | (simp; omega)) _) | (refine Below.setCell ?_ (by first | (simp; done) | (simp; omega)) _))), fun h => by cases h⟩
              case o2 =>
                intro x w1 hH K hK
                have e91 : x 91 = _ := hH.holds 1 (by decide) (by decide +kernel) 91 rfl
                obtain ⟨xs, d, rfl⟩ := grow_of_below hH.below
                clear hH
                try simp only [World.grow_drew] at hK ⊢
                try simp only [World.grow_grow] at hK ⊢
                simp only [e91] at hK ⊢
                clear e91
                go_simp
                go_wp2_with fail
                exact ⟨_, rfl, rfl, (by repeat (first | exact below_of_grow _ _ | exact Below.refl _ _ | exact below_more _ _ _ _ | (simp only [← Array.append_assoc]; first | exact below_more _ _ _ _ | exact below_same _ _ _ | exact Below.refl _ _) | exact below_same _ _ _ | (refine Below.alloc ?_ (by first | (simp; done) | (simp; omega)) _) | (refine Below.grow ?_ (by first | (simp; done) | (simp; omega)) _ _) | refine Below.drew ?_ | refine Below.drewN ?_ _ | (refine Below.putF ?_ (by first | (simp; done) | omega | (simp; omega)) _) | (refine Below.setCell ?_ (by first | (simp; done) | (simp; omega)) _))), fun h => by cases h⟩
              case o3 =>
                intro x w1 hH K hK
                have e92 : x 92 = _ := hH.holds 2 (by decide) (by decide +kernel) 92 rfl
                obtain ⟨xs, d, rfl⟩ := grow_of_below hH.below
                clear hH
                try simp only [World.grow_drew] at hK ⊢
                try simp only [World.grow_grow] at hK ⊢
                simp only [e92] at hK ⊢
                clear e92
                go_simp
                go_wp2_with fail
                exact ⟨_, rfl, rfl, (by repeat (first | exact below_of_grow _ _ | exact Below.refl _ _ | exact below_more _ _ _ _ | (simp only [← Array.append_assoc]; first | exact below_more _ _ _ _ | exact below_same _ _ _ | exact Below.refl _ _) | exact below_same _ _ _ | (refine Below.alloc ?_ (by first | (simp; done) | (simp; omega)) _) | (refine Below.grow ?_ (by first | (simp; done) | (simp; omega)) _ _) | refine Below.drew ?_ | refine Below.drewN ?_ _ | (refine Below.putF ?_ (by first | (simp; done) | omega | (simp; omega)) _) | (refine Below.setCell ?_ (by first | (simp; done) | (simp; omega)) _))), fun h => by cases h⟩
              case o4 =>
                intro x w1 hH K hK
                have e92 : x 92 = _ := hH.holds 2 (by decide) (by decide +kernel) 92 rfl
                obtain ⟨xs, d, rfl⟩ := grow_of_below hH.below
                clear hH
                try simp only [World.grow_drew] at hK ⊢
                try simp only [World.grow_grow] at hK ⊢
                simp only [e92] at hK ⊢
                clear e92
                go_simp
                go_wp2_with fail
                exact ⟨_, rfl, rfl, (by repeat (first | exact below_of_grow _ _ | exact Below.refl _ _ | exact below_more _ _ _ _ | (simp only [← Array.append_assoc]; first | exact below_more _ _ _ _ | exact below_same _ _ _ | exact Below.refl _ _) | exact below_same _ _ _ | (refine Below.alloc ?_ (by first | (simp; done) | (simp; omega)) _) | (refine Below.grow ?_ (by first | (simp; done) | (simp; omega)) _ _) | refine Below.drew ?_ | refine Below.drewN ?_ _ | (refine Below.putF ?_ (by first | (simp; done) | omega | (simp; omega)) _) | (refine Below.setCell ?_ (by first | (simp; done) | (simp; omega)) _))), fun h => by cases h⟩
              case o5 =>
                intro x w1 hH K hK
                have e92 : x 92 = _ := hH.holds 2 (by decide) (by decide +kernel) 92 rfl
                have e93 : x 93 = _ := hH.holds 3 (by decide) (by decide +kernel) 93 rfl
                have e94 : x 94 = _ := hH.holds 4 (by decide) (by decide +kernel) 94 rfl
                obtain ⟨xs, d, rfl⟩ := grow_of_below hH.below
                clear hH
                try simp only [World.grow_drew] at hK ⊢
                try simp only [World.grow_grow] at hK ⊢
                simp only [e92, e93, e94] at hK ⊢
                clear e92 e93 e94
                go_simp
                go_wp2_with (refine Gives.use (HFX.out _ (HWB.out.grow hzW _ _)) ?_; intro ys e)
                exact ⟨_, rfl, rfl, (by first | exact below_more _ _ _ _ | exact (by repeat (first | exact below_of_grow _ _ | exact Below.refl _ _ | exact below_more _ _ _ _ | (simp only [← Array.append_assoc]; first | exact below_more _ _ _ _ | exact below_same _ _ _ | exact Below.refl _ _) | exact below_same _ _ _ | (refine Below.alloc ?_ (by first | (simp; done) | (simp; omega)) _) | (refine Below.grow ?_ (by first | (simp; done) | (simp; omega)) _ _) | refine Below.drew ?_ | refine Below.drewN ?_ _ | (refine Below.putF ?_ (by first | (simp; done) | omega | (simp; omega)) _) | (refine Below.setCell ?_ (by first | (simp; done) | (simp; omega)) _)))), fun h => by cases h⟩
              case o6 =>
                intro x w1 hH K hK
                have e92 : x 92 = _ := hH.holds 2 (by decide) (by decide +kernel) 92 rfl
                obtain ⟨xs, d, rfl⟩ := grow_of_below hH.below
                clear hH
                try simp only [World.grow_drew] at hK ⊢
                try simp only [World.grow_grow] at hK ⊢
                simp only [e92] at hK ⊢
                clear e92
                go_simp
                go_wp2_with fail
                exact ⟨_, rfl, rfl, (by repeat (first | exact below_of_grow _ _ | exact Below.refl _ _ | exact below_more _ _ _ _ | (simp only [← Array.append_assoc]; first | exact below_more _ _ _ _ | exact below_same _ _ _ | exact Below.refl _ _) | exact below_same _ _ _ | (refine Below.alloc ?_ (by first | (simp; done) | (simp; omega)) _) | (refine Below.grow ?_ (by first | (simp; done) | (simp; omega)) _ _) | refine Below.drew ?_ | refine Below.drewN ?_ _ | (refine Below.putF ?_ (by first | (simp; done) | omega | (simp; omega)) _) | (refine Below.setCell ?_ (by first | (simp; done) | (simp; omega)) _))), fun h => by cases h⟩
              case o7 =>
                intro x w1 hH K hK
                have e92 : x 92 = _ := hH.holds 2 (by decide) (by decide +kernel) 92 rfl
                have e95 : x 95 = _ := hH.holds 5 (by decide) (by decide +kernel) 95 rfl
                have e96 : x 96 = _ := hH.holds 6 (by decide) (by decide +kernel) 96 rfl
                obtain ⟨xs, d, rfl⟩ := grow_of_below hH.below
                clear hH
                try simp only [World.grow_drew] at hK ⊢
                try simp only [World.grow_grow] at hK ⊢
                simp only [e92, e95, e96] at hK ⊢
                clear e92 e95 e96
                go_simp
                go_wp2_with fail
                exact ⟨_, rfl, rfl, (by repeat (first | exact below_of_grow _ _ | exact Below.refl _ _ | exact below_more _ _ _ _ | (simp only [← Array.append_assoc]; first | exact below_more _ _ _ _ | exact below_same _ _ _ | exact Below.refl _ _) | exact below_same _ _ _ | (refine Below.alloc ?_ (by first | (simp; done) | (simp; omega)) _) | (refine Below.grow ?_ (by first | (simp; done) | (simp; omega)) _ _) | refine Below.drew ?_ | refine Below.drewN ?_ _ | (refine Below.putF ?_ (by first | (simp; done) | omega | (simp; omega)) _) | (refine Below.setCell ?_ (by first | (simp; done) | (simp; omega)) _))), fun h => by cases h⟩
              case o8 =>
                intro x w1 hH K hK
                have e92 : x 92 = _ := hH.holds 2 (by decide) (by decide +kernel) 92 rfl
                have e97 : x 97 = _ := hH.holds 7 (by decide) (by decide +kernel) 97 rfl
                obtain ⟨xs, d, rfl⟩ := grow_of_below hH.below
                clear hH
                try simp only [World.grow_drew] at hK ⊢
                try simp only [World.grow_grow] at hK ⊢
                simp only [e92, e97] at hK ⊢
                clear e92 e97
                go_simp
                go_wp2_with fail
                exact ⟨_, rfl, rfl, (by repeat (first | exact below_of_grow _ _ | exact Below.refl _ _ | exact below_more _ _ _ _ | (simp only [← Array.append_assoc]; first | exact below_more _ _ _ _ | exact below_same _ _ _ | exact Below.refl _ _) | exact below_same _ _ _ | (refine Below.alloc ?_ (by first | (simp; done) | (simp; omega)) _) | (refine Below.grow ?_ (by first | (simp; done) | (simp; omega)) _ _) | refine Below.drew ?_ | refine Below.drewN ?_ _ | (refine Below.putF ?_ (by first | (simp; done) | omega | (simp; omega)) _) | (refine Below.setCell ?_ (by first | (simp; done) | (simp; omega)) _))), fun h => by cases h⟩
              case o9 =>
                intro x w1 hH K hK
                have e98 : x 98 = _ := hH.holds 8 (by decide) (by decide +kernel) 98 rfl
                obtain ⟨xs, d, rfl⟩ := grow_of_below hH.below
                clear hH
                try simp only [World.grow_drew] at hK ⊢
                try simp only [World.grow_grow] at hK ⊢
                simp only [e98] at hK ⊢
                clear e98
                go_simp
                go_wp2_with fail
                exact ⟨_, rfl, rfl, (by repeat (first | exact below_of_grow _ _ | exact Below.refl _ _ | exact below_more _ _ _ _ | (simp only [← Array.append_assoc]; first | exact below_more _ _ _ _ | exact below_same _ _ _ | exact Below.refl _ _) | exact below_same _ _ _ | (refine Below.alloc ?_ (by first | (simp; done) | (simp; omega)) _) | (refine Below.grow ?_ (by first | (simp; done) | (simp; omega)) _ _) | refine Below.drew ?_ | refine Below.drewN ?_ _ | (refine Below.putF ?_ (by first | (simp; done) | omega | (simp; omega)) _) | (refine Below.setCell ?_ (by first | (simp; done) | (simp; omega)) _))), fun h => by cases h⟩
              case o10 =>
                intro x w1 hH K hK
                have e99 : x 99 = _ := hH.holds 9 (by decide) (by decide +kernel) 99 rfl
                obtain ⟨xs, d, rfl⟩ := grow_of_below hH.below
                clear hH
                try simp only [World.grow_drew] at hK ⊢
                try simp only [World.grow_grow] at hK ⊢
                simp only [e99] at hK ⊢
                clear e99
                go_simp
                go_wp2_with fail
                exact ⟨_, rfl, rfl, (by repeat (first | exact below_of_grow _ _ | exact Below.refl _ _ | exact below_more _ _ _ _ | (simp only [← Array.append_assoc]; first | exact below_more _ _ _ _ | exact below_same _ _ _ | exact Below.refl _ _) | exact below_same _ _ _ | (refine Below.alloc ?_ (by first | (simp; done) | (simp; omega)) _) | (refine Below.grow ?_ (by first | (simp; done) | (simp; omega)) _ _) | refine Below.drew ?_ | refine Below.drewN ?_ _ | (refine Below.putF ?_ (by first | (simp; done) | omega | (simp; omega)) _) | (refine Below.setCell ?_ (by first | (simp; done) | (simp; omega)) _))), fun h => by cases h⟩
              case o11 =>
                intro x w1 hH K hK
                have e99 : x 99 = _ := hH.holds 9 (by decide) (by decide +kernel) 99 rfl
                have e100 : x 100 = _ := hH.holds 10 (by decide) (by decide +kernel) 100 rfl
                obtain ⟨xs, d, rfl⟩ := grow_of_below hH.below
                clear hH
                try simp only [World.grow_drew] at hK ⊢
                try simp only [World.grow_grow] at hK ⊢
                simp only [e99, e100] at hK ⊢
                clear e99 e100
                go_simp
                go_wp2_with fail
                exact ⟨_, rfl, rfl, (by repeat (first | exact below_of_grow _ _ | exact Below.refl _ _ | exact below_more _ _ _ _ | (simp only [← Array.append_assoc]; first | exact below_more _ _ _ _ | exact below_same _ _ _ | exact Below.refl _ _) | exact below_same _ _ _ | (refine Below.alloc ?_ (by first | (simp; done) | (simp; omega)) _) | (refine Below.grow ?_ (by first | (simp; done) | (simp; omega)) _ _) | refine Below.drew ?_ | refine Below.drewN ?_ _ | (refine Below.putF ?_ (by first | (simp; done) | omega | (simp; omega)) _) | (refine Below.setCell ?_ (by first | (simp; done) | (simp; omega)) _))), fun h => by cases h⟩
              case o12 =>
                intro x w1 hH K hK
                have e99 : x 99 = _ := hH.holds 9 (by decide) (by decide +kernel) 99 rfl
                have e101 : x 101 = _ := hH.holds 11 (by decide) (by decide +kernel) 101 rfl
                obtain ⟨xs, d, rfl⟩ := grow_of_below hH.below
                clear hH
                try simp only [World.grow_drew] at hK ⊢
                try simp only [World.grow_grow] at hK ⊢
                simp only [e99, e101] at hK ⊢
                clear e99 e101
                go_simp
                go_wp2_with fail
                exact ⟨_, rfl, rfl, (by repeat (first | exact below_of_grow _ _ | exact Below.refl _ _ | exact below_more _ _ _ _ | (simp only [← Array.append_assoc]; first | exact below_more _ _ _ _ | exact below_same _ _ _ | exact Below.refl _ _) | exact below_same _ _ _ | (refine Below.alloc ?_ (by first | (simp; done) | (simp; omega)) _) | (refine Below.grow ?_ (by first | (simp; done) | (simp; omega)) _ _) | refine Below.drew ?_ | refine Below.drewN ?_ _ | (refine Below.putF ?_ (by first | (simp; done) | omega | (simp; omega)) _) | (refine Below.setCell ?_ (by first | (simp; done) | (simp; omega)) _))), fun h => by cases h⟩
              case o13 =>
                intro x w1 hH K hK
                have e102 : x 102 = _ := hH.holds 12 (by decide) (by decide +kernel) 102 rfl
                obtain ⟨xs, d, rfl⟩ := grow_of_below hH.below
                clear hH
                try simp only [World.grow_drew] at hK ⊢
                try simp only [World.grow_grow] at hK ⊢
                simp only [e102] at hK ⊢
                clear e102
                go_simp
                go_wp2_with fail
                exact ⟨_, rfl, rfl, (by repeat (first | exact below_of_grow _ _ | exact Below.refl _ _ | exact below_more _ _ _ _ | (simp only [← Array.append_assoc]; first | exact below_more _ _ _ _ | exact below_same _ _ _ | exact Below.refl _ _) | exact below_same _ _ _ | (refine Below.alloc ?_ (by first | (simp; done) | (simp; omega)) _) | (refine Below.grow ?_ (by first | (simp; done) | (simp; omega)) _ _) | refine Below.drew ?_ | refine Below.drewN ?_ _ | (refine Below.putF ?_ (by first | (simp; done) | omega | (simp; omega)) _) | (refine Below.setCell ?_ (by first | (simp; done) | (simp; omega)) _))), fun h => by cases h⟩
              case o14 =>
                intro x w1 hH K hK
                have e102 : x 102 = _ := hH.holds 12 (by decide) (by decide +kernel) 102 rfl
                obtain ⟨xs, d, rfl⟩ := grow_of_below hH.below
                clear hH
                try simp only [World.grow_drew] at hK ⊢
                try simp only [World.grow_grow] at hK ⊢
                simp only [e102] at hK ⊢
                clear e102
                go_simp
                go_wp2_with fail
                exact ⟨_, rfl, rfl, (by repeat (first | exact below_of_grow _ _ | exact Below.refl _ _ | exact below_more _ _ _ _ | (simp only [← Array.append_assoc]; first | exact below_more _ _ _ _ | exact below_same _ _ _ | exact Below.refl _ _) | exact below_same _ _ _ | (refine Below.alloc ?_ (by first | (simp; done) | (simp; omega)) _) | (refine Below.grow ?_ (by first | (simp; done) | (simp; omega)) _ _) | refine Below.drew ?_ | refine Below.drewN ?_ _ | (refine Below.putF ?_ (by first | (simp; done) | omega | (simp; omega)) _) | (refine Below.setCell ?_ (by first | (simp; done) | (simp; omega)) _))), fun h => by cases h⟩
              case o15 =>
                intro x w1 hH K hK
                have e102 : x 102 = _ := hH.holds 12 (by decide) (by decide +kernel) 102 rfl
                obtain ⟨xs, d, rfl⟩ := grow_of_below hH.below
                clear hH
                try simp only [World.grow_drew] at hK ⊢
                try simp only [World.grow_grow] at hK ⊢
                simp only [e102] at hK ⊢
                clear e102
                go_simp
                go_wp2_with fail
                exact ⟨_, rfl, rfl, (by repeat (first | exact below_of_grow _ _ | exact Below.refl _ _ | exact below_more _ _ _ _ | (simp only [← Array.append_assoc]; first | exact below_more _ _ _ _ | exact below_same _ _ _ | exact Below.refl _ _) | exact below_same _ _ _ | (refine Below.alloc ?_ (by first | (simp; done) | (simp; omega)) _) | (refine Below.grow ?_ (by first | (simp; done) | (simp; omega)) _ _) | refine Below.drew ?_ | refine Below.drewN ?_ _ | (refine Below.putF ?_ (by first | (simp; done) | omega | (simp; omega)) _) | (refine Below.setCell ?_ (by first | (simp; done) | (simp; omega)) _))), fun h => by cases h⟩
              case o16 =>
                intro x w1 hH K hK
                have e102 : x 102 = _ := hH.holds 12 (by decide) (by decide +kernel) 102 rfl
                have e104 : x 104 = _ := hH.holds 14 (by decide) (by decide +kernel) 104 rfl
                have e105 : x 105 = _ := hH.holds 15 (by decide) (by decide +kernel) 105 rfl
                obtain ⟨xs, d, rfl⟩ := grow_of_below hH.below
                clear hH
                try simp only [World.grow_drew] at hK ⊢
                try simp only [World.grow_grow] at hK ⊢
                simp only [e102, e104, e105] at hK ⊢
                clear e102 e104 e105
                go_simp
                go_wp2_with (refine Gives.use (HFB.out _ (HWB.out.grow hzW _ _)) ?_; intro ys e)
                exact ⟨_, rfl, rfl, (by first | exact below_more _ _ _ _ | exact (by repeat (first | exact below_of_grow _ _ | exact Below.refl _ _ | exact below_more _ _ _ _ | (simp only [← Array.append_assoc]; first | exact below_more _ _ _ _ | exact below_same _ _ _ | exact Below.refl _ _) | exact below_same _ _ _ | (refine Below.alloc ?_ (by first | (simp; done) | (simp; omega)) _) | (refine Below.grow ?_ (by first | (simp; done) | (simp; omega)) _ _) | refine Below.drew ?_ | refine Below.drewN ?_ _ | (refine Below.putF ?_ (by first | (simp; done) | omega | (simp; omega)) _) | (refine Below.setCell ?_ (by first | (simp; done) | (simp; omega)) _)))), fun h => by cases h⟩
              case o17 =>
                intro x w1 hH K hK
                have e102 : x 102 = _ := hH.holds 12 (by decide) (by decide +kernel) 102 rfl
                have e103 : x 103 = _ := hH.holds 13 (by decide) (by decide +kernel) 103 rfl
                have e106 : x 106 = _ := hH.holds 16 (by decide) (by decide +kernel) 106 rfl
                obtain ⟨xs, d, rfl⟩ := grow_of_below hH.below
                clear hH
                try simp only [World.grow_drew] at hK ⊢
                try simp only [World.grow_grow] at hK ⊢
                simp only [e102, e103, e106] at hK ⊢
                clear e102 e103 e106
                go_simp
                go_wp2_with fail
                exact ⟨_, rfl, rfl, (by repeat (first | exact below_of_grow _ _ | exact Below.refl _ _ | exact below_more _ _ _ _ | (simp only [← Array.append_assoc]; first | exact below_more _ _ _ _ | exact below_same _ _ _ | exact Below.refl _ _) | exact below_same _ _ _ | (refine Below.alloc ?_ (by first | (simp; done) | (simp; omega)) _) | (refine Below.grow ?_ (by first | (simp; done) | (simp; omega)) _ _) | refine Below.drew ?_ | refine Below.drewN ?_ _ | (refine Below.putF ?_ (by first | (simp; done) | omega | (simp; omega)) _) | (refine Below.setCell ?_ (by first | (simp; done) | (simp; omega)) _))), fun h => by cases h⟩
              case o18 =>
                intro x w1 hH K hK
                have e99 : x 99 = _ := hH.holds 9 (by decide) (by decide +kernel) 99 rfl
                have e102 : x 102 = _ := hH.holds 12 (by decide) (by decide +kernel) 102 rfl
                have e107 : x 107 = _ := hH.holds 17 (by decide) (by decide +kernel) 107 rfl
                obtain ⟨xs, d, rfl⟩ := grow_of_below hH.below
                clear hH
                try simp only [World.grow_drew] at hK ⊢
                try simp only [World.grow_grow] at hK ⊢
                simp only [e99, e102, e107] at hK ⊢
                clear e99 e102 e107
                go_simp
                go_wp2_with fail
                exact ⟨_, rfl, rfl, (by repeat (first | exact below_of_grow _ _ | exact Below.refl _ _ | exact below_more _ _ _ _ | (simp only [← Array.append_assoc]; first | exact below_more _ _ _ _ | exact below_same _ _ _ | exact Below.refl _ _) | exact below_same _ _ _ | (refine Below.alloc ?_ (by first | (simp; done) | (simp; omega)) _) | (refine Below.grow ?_ (by first | (simp; done) | (simp; omega)) _ _) | refine Below.drew ?_ | refine Below.drewN ?_ _ | (refine Below.putF ?_ (by first | (simp; done) | omega | (simp; omega)) _) | (refine Below.setCell ?_ (by first | (simp; done) | (simp; omega)) _))), fun h => by cases h⟩
              case o19 =>
                intro x w1 hH K hK
                have e99 : x 99 = _ := hH.holds 9 (by decide) (by decide +kernel) 99 rfl
                have e108 : x 108 = _ := hH.holds 18 (by decide) (by decide +kernel) 108 rfl
                obtain ⟨xs, d, rfl⟩ := grow_of_below hH.below
                clear hH
                try simp only [World.grow_drew] at hK ⊢
                try simp only [World.grow_grow] at hK ⊢
                simp only [e99, e108] at hK ⊢
                clear e99 e108
                go_simp
                go_wp2_with fail
                exact ⟨_, rfl, rfl, (by repeat (first | exact below_of_grow _ _ | exact Below.refl _ _ | exact below_more _ _ _ _ | (simp only [← Array.append_assoc]; first | exact below_more _ _ _ _ | exact below_same _ _ _ | exact Below.refl _ _) | exact below_same _ _ _ | (refine Below.alloc ?_ (by first | (simp; done) | (simp; omega)) _) | (refine Below.grow ?_ (by first | (simp; done) | (simp; omega)) _ _) | refine Below.drew ?_ | refine Below.drewN ?_ _ | (refine Below.putF ?_ (by first | (simp; done) | omega | (simp; omega)) _) | (refine Below.setCell ?_ (by first | (simp; done) | (simp; omega)) _))), fun h => by cases h⟩
              case o20 =>
                intro x w1 hH K hK
                have e109 : x 109 = _ := hH.holds 19 (by decide) (by decide +kernel) 109 rfl
                obtain ⟨xs, d, rfl⟩ := grow_of_below hH.below
                clear hH
                try simp only [World.grow_drew] at hK ⊢
                try simp only [World.grow_grow] at hK ⊢
                simp only [e109] at hK ⊢
                clear e109
                go_simp
                go_wp2_with fail
                exact ⟨_, rfl, rfl, (by repeat (first | exact below_of_grow _ _ | exact Below.refl _ _ | exact below_more _ _ _ _ | (simp only [← Array.append_assoc]; first | exact below_more _ _ _ _ | exact below_same _ _ _ | exact Below.refl _ _) | exact below_same _ _ _ | (refine Below.alloc ?_ (by first | (simp; done) | (simp; omega)) _) | (refine Below.grow ?_ (by first | (simp; done) | (simp; omega)) _ _) | refine Below.drew ?_ | refine Below.drewN ?_ _ | (refine Below.putF ?_ (by first | (simp; done) | omega | (simp; omega)) _) | (refine Below.setCell ?_ (by first | (simp; done) | (simp; omega)) _))), fun h => by cases h⟩
              case o21 =>
                intro x w1 hH K hK
                have e109 : x 109 = _ := hH.holds 19 (by decide) (by decide +kernel) 109 rfl
                obtain ⟨xs, d, rfl⟩ := grow_of_below hH.below
                clear hH
                try simp only [World.grow_drew] at hK ⊢
                try simp only [World.grow_grow] at hK ⊢
                simp only [e109] at hK ⊢
                clear e109
                go_simp
                go_wp2_with fail
                exact ⟨_, rfl, rfl, (by repeat (first | exact below_of_grow _ _ | exact Below.refl _ _ | exact below_more _ _ _ _ | (simp only [← Array.append_assoc]; first | exact below_more _ _ _ _ | exact below_same _ _ _ | exact Below.refl _ _) | exact below_same _ _ _ | (refine Below.alloc ?_ (by first | (simp; done) | (simp; omega)) _) | (refine Below.grow ?_ (by first | (simp; done) | (simp; omega)) _ _) | refine Below.drew ?_ | refine Below.drewN ?_ _ | (refine Below.putF ?_ (by first | (simp; done) | omega | (simp; omega)) _) | (refine Below.setCell ?_ (by first | (simp; done) | (simp; omega)) _))), fun h => by cases h⟩
              case o22 =>
                intro x w1 hH K hK
                have e109 : x 109 = _ := hH.holds 19 (by decide) (by decide +kernel) 109 rfl
                obtain ⟨xs, d, rfl⟩ := grow_of_below hH.below
                clear hH
                try simp only [World.grow_drew] at hK ⊢
                try simp only [World.grow_grow] at hK ⊢
                simp only [e109] at hK ⊢
                clear e109
                go_simp
                go_wp2_with fail
                exact ⟨_, rfl, rfl, (by repeat (first | exact below_of_grow _ _ | exact Below.refl _ _ | exact below_more _ _ _ _ | (simp only [← Array.append_assoc]; first | exact below_more _ _ _ _ | exact below_same _ _ _ | exact Below.refl _ _) | exact below_same _ _ _ | (refine Below.alloc ?_ (by first | (simp; done) | (simp; omega)) _) | (refine Below.grow ?_ (by first | (simp; done) | (simp; omega)) _ _) | refine Below.drew ?_ | refine Below.drewN ?_ _ | (refine Below.putF ?_ (by first | (simp; done) | omega | (simp; omega)) _) | (refine Below.setCell ?_ (by first | (simp; done) | (simp; omega)) _))), fun h => by cases h⟩
              case o23 =>
                intro x w1 hH K hK
                have e109 : x 109 = _ := hH.holds 19 (by decide) (by decide +kernel) 109 rfl
                have e111 : x 111 = _ := hH.holds 21 (by decide) (by decide +kernel) 111 rfl
                have e112 : x 112 = _ := hH.holds 22 (by decide) (by decide +kernel) 112 rfl
                obtain ⟨xs, d, rfl⟩ := grow_of_below hH.below
                clear hH
                try simp only [World.grow_drew] at hK ⊢
                try simp only [World.grow_grow] at hK ⊢
                simp only [e109, e111, e112] at hK ⊢
                clear e109 e111 e112
                go_simp
                go_wp2_with (refine Gives.use (HFC.out _ (HWB.out.grow hzW _ _)) ?_; intro ys e)
                exact ⟨_, rfl, rfl, (by first | exact below_more _ _ _ _ | exact (by repeat (first | exact below_of_grow _ _ | exact Below.refl _ _ | exact below_more _ _ _ _ | (simp only [← Array.append_assoc]; first | exact below_more _ _ _ _ | exact below_same _ _ _ | exact Below.refl _ _) | exact below_same _ _ _ | (refine Below.alloc ?_ (by first | (simp; done) | (simp; omega)) _) | (refine Below.grow ?_ (by first | (simp; done) | (simp; omega)) _ _) | refine Below.drew ?_ | refine Below.drewN ?_ _ | (refine Below.putF ?_ (by first | (simp; done) | omega | (simp; omega)) _) | (refine Below.setCell ?_ (by first | (simp; done) | (simp; omega)) _)))), fun h => by cases h⟩
              case o24 =>
                intro x w1 hH K hK
                have e109 : x 109 = _ := hH.holds 19 (by decide) (by decide +kernel) 109 rfl
                have e110 : x 110 = _ := hH.holds 20 (by decide) (by decide +kernel) 110 rfl
                have e113 : x 113 = _ := hH.holds 23 (by decide) (by decide +kernel) 113 rfl
                obtain ⟨xs, d, rfl⟩ := grow_of_below hH.below
                clear hH
                try simp only [World.grow_drew] at hK ⊢
                try simp only [World.grow_grow] at hK ⊢
                simp only [e109, e110, e113] at hK ⊢
                clear e109 e110 e113
                go_simp
                go_wp2_with fail
                exact ⟨_, rfl, rfl, (by repeat (first | exact below_of_grow _ _ | exact Below.refl _ _ | exact below_more _ _ _ _ | (simp only [← Array.append_assoc]; first | exact below_more _ _ _ _ | exact below_same _ _ _ | exact Below.refl _ _) | exact below_same _ _ _ | (refine Below.alloc ?_ (by first | (simp; done) | (simp; omega)) _) | (refine Below.grow ?_ (by first | (simp; done) | (simp; omega)) _ _) | refine Below.drew ?_ | refine Below.drewN ?_ _ | (refine Below.putF ?_ (by first | (simp; done) | omega | (simp; omega)) _) | (refine Below.setCell ?_ (by first | (simp; done) | (simp; omega)) _))), fun h => by cases h⟩
              case o25 =>
                intro x w1 hH K hK
                have e99 : x 99 = _ := hH.holds 9 (by decide) (by decide +kernel) 99 rfl
                have e109 : x 109 = _ := hH.holds 19 (by decide) (by decide +kernel) 109 rfl
                have e114 : x 114 = _ := hH.holds 24 (by decide) (by decide +kernel) 114 rfl
                obtain ⟨xs, d, rfl⟩ := grow_of_below hH.below
                clear hH
                try simp only [World.grow_drew] at hK ⊢
                try simp only [World.grow_grow] at hK ⊢
                simp only [e99, e109, e114] at hK ⊢
                clear e99 e109 e114
                go_simp
                go_wp2_with fail
                exact ⟨_, rfl, rfl, (by repeat (first | exact below_of_grow _ _ | exact Below.refl _ _ | exact below_more _ _ _ _ | (simp only [← Array.append_assoc]; first | exact below_more _ _ _ _ | exact below_same _ _ _ | exact Below.refl _ _) | exact below_same _ _ _ | (refine Below.alloc ?_ (by first | (simp; done) | (simp; omega)) _) | (refine Below.grow ?_ (by first | (simp; done) | (simp; omega)) _ _) | refine Below.drew ?_ | refine Below.drewN ?_ _ | (refine Below.putF ?_ (by first | (simp; done) | omega | (simp; omega)) _) | (refine Below.setCell ?_ (by first | (simp; done) | (simp; omega)) _))), fun h => by cases h⟩
              case o26 =>
                intro x w1 hH K hK
                have e99 : x 99 = _ := hH.holds 9 (by decide) (by decide +kernel) 99 rfl
                have e115 : x 115 = _ := hH.holds 25 (by decide) (by decide +kernel) 115 rfl
                obtain ⟨xs, d, rfl⟩ := grow_of_below hH.below
                clear hH
                try simp only [World.grow_drew] at hK ⊢
                try simp only [World.grow_grow] at hK ⊢
                simp only [e99, e115] at hK ⊢
                clear e99 e115
                go_simp
                go_wp2_with fail
                exact ⟨_, rfl, rfl, (by repeat (first | exact below_of_grow _ _ | exact Below.refl _ _ | exact below_more _ _ _ _ | (simp only [← Array.append_assoc]; first | exact below_more _ _ _ _ | exact below_same _ _ _ | exact Below.refl _ _) | exact below_same _ _ _ | (refine Below.alloc ?_ (by first | (simp; done) | (simp; omega)) _) | (refine Below.grow ?_ (by first | (simp; done) | (simp; omega)) _ _) | refine Below.drew ?_ | refine Below.drewN ?_ _ | (refine Below.putF ?_ (by first | (simp; done) | omega | (simp; omega)) _) | (refine Below.setCell ?_ (by first | (simp; done) | (simp; omega)) _))), fun h => by cases h⟩
            case hend =>
              intro x w1 hH
              have e90 : x 90 = _ := hH.holds 0 (by decide) trivial 90 rfl
              have e91 : x 91 = _ := hH.holds 1 (by decide) trivial 91 rfl
              have e92 : x 92 = _ := hH.holds 2 (by decide) trivial 92 rfl
              have e93 : x 93 = _ := hH.holds 3 (by decide) trivial 93 rfl
              have e94 : x 94 = _ := hH.holds 4 (by decide) trivial 94 rfl
              have e95 : x 95 = _ := hH.holds 5 (by decide) trivial 95 rfl
              have e96 : x 96 = _ := hH.holds 6 (by decide) trivial 96 rfl
              have e97 : x 97 = _ := hH.holds 7 (by decide) trivial 97 rfl
              have e98 : x 98 = _ := hH.holds 8 (by decide) trivial 98 rfl
              have e99 : x 99 = _ := hH.holds 9 (by decide) trivial 99 rfl
              have e100 : x 100 = _ := hH.holds 10 (by decide) trivial 100 rfl
              have e101 : x 101 = _ := hH.holds 11 (by decide) trivial 101 rfl
              have e102 : x 102 = _ := hH.holds 12 (by decide) trivial 102 rfl
              have e103 : x 103 = _ := hH.holds 13 (by decide) trivial 103 rfl
              have e104 : x 104 = _ := hH.holds 14 (by decide) trivial 104 rfl
              have e105 : x 105 = _ := hH.holds 15 (by decide) trivial 105 rfl
              have e106 : x 106 = _ := hH.holds 16 (by decide) trivial 106 rfl
              have e107 : x 107 = _ := hH.holds 17 (by decide) trivial 107 rfl
              have e108 : x 108 = _ := hH.holds 18 (by decide) trivial 108 rfl
              have e109 : x 109 = _ := hH.holds 19 (by decide) trivial 109 rfl
              have e110 : x 110 = _ := hH.holds 20 (by decide) trivial 110 rfl
              have e111 : x 111 = _ := hH.holds 21 (by decide) trivial 111 rfl
              have e112 : x 112 = _ := hH.holds 22 (by decide) trivial 112 rfl
              have e113 : x 113 = _ := hH.holds 23 (by decide) trivial 113 rfl
              have e114 : x 114 = _ := hH.holds 24 (by decide) trivial 114 rfl
              have e115 : x 115 = _ := hH.holds 25 (by decide) trivial 115 rfl
              have e116 : x 116 = _ := hH.holds 26 (by decide) trivial 116 rfl
              obtain ⟨xs, d, rfl⟩ := grow_of_below hH.below
              clear hH
              simp only [e90, e91, e92, e93, e94, e95, e96, e97, e98, e99, e100, e101, e102, e103, e104, e105, e106, e107, e108, e109, e110, e111, e112, e113, e114, e115, e116]; clear e90 e91 e92 e93 e94 e95 e96 e97 e98 e99 e100 e101 e102 e103 e104 e105 e106 e107 e108 e109 e110 e111 e112 e113 e114 e115 e116
              simp only [List.drop_succ_cons, List.drop_nil]
              go_wp2_with fail
              go_roundw
              case rel => exact ⟨i + 1, by omega, by go_num, Lib.hid (HWB.out.grow hzW _ _)⟩
              case measure => simp [intOf]; omega
          · have hs : (s != 3) = true := by simp [hs3]
            by_cases hyB : y = B
            · have hd : decide (y = B) = true := by simp [hyB]
              clear hs3 hyB
              go_wp2_with fail
              apply wp_region_specs (by rfl) [.val _, .val _, .val _, .val _, .val _, .val _, .val _, .val _, .val _, .val _, .val _, .val _, .val _, .val _, .val _, .val _, .val _, .val _, .val _, .val _, .val _, .val _, .val _, .val _, .val _, .val _, .val _] 27 (by rfl) [90, 91, 92, 93, 94, 95, 96, 97, 98, 99, 100, 101, 102, 103, 104, 105, 106, 107, 108, 109, 110, 111, 112, 113, 114, 115, 116] [] [] (by rfl) (by rfl) (by decide) (by decide +kernel) (fun _ _ _ _ _ h => h)
              case hF => intro x; simp only [over, List.foldl_cons, List.foldl_nil, List.setIfInBounds_toArray, List.set_cons_succ, List.set_cons_zero]; exact rfl
              case hops =>
                refine ⟨?o0, ?o1, ?o2, ?o3, ?o4, ?o5, ?o6, ?o7, ?o8, ?o9, ?o10, ?o11, ?o12, ?o13, ?o14, ?o15, ?o16, ?o17, ?o18, ?o19, ?o20, ?o21, ?o22, ?o23, ?o24, ?o25, ?o26, trivial⟩
                case o0 =>
                  intro x w1 hH K hK
                  obtain ⟨xs, d, rfl⟩ := grow_of_below hH.below
                  clear hH
                  try simp only [World.grow_drew] at hK ⊢
                  try simp only [World.grow_grow] at hK ⊢
                  go_simp
                  go_wp2_with fail
                  exact ⟨_, rfl, rfl, (by repeat (first | exact below_of_grow _ _ | exact Below.refl _ _ | exact below_more _ _ _ _ | (simp only [← Array.append_assoc]; first | exact below_more _ _ _ _ | exact below_same _ _ _ | exact Below.refl _ _) | exact below_same _ _ _ | (refine Below.alloc ?_ (by first | (simp; done) | (simp; omega)) _) | (refine Below.grow ?_ (by first | (simp; done) | (simp; omega)) _ _) | refine Below.drew ?_ | refine Below.drewN ?_ _ | (refine Below.putF ?_ (by first | (simp; done) | omega | (simp; omega)) _) | (refine Below.setCell ?_ (by first | (simp; done) | (simp; omega)) _))), fun h => by cases h⟩
                case o1 =>
                  intro x w1 hH K hK
                  have e90 : x 90 = _ := hH.holds 0 (by decide) (by decide +kernel) 90 rfl
                  obtain ⟨xs, d, rfl⟩ := grow_of_below hH.below
                  clear hH
                  try simp only [World.grow_drew] at hK ⊢
                  try simp only [World.grow_grow] at hK ⊢
                  simp only [e90] at hK ⊢
                  clear e90
                  go_simp
                  go_wp2_with fail
                  exact ⟨_, rfl, rfl, (by repeat (first | exact below_of_grow _ _ | exact Below.refl _ _ | exact below_more _ _ _ _ | (simp only [← Array.append_assoc]; first | exact below_more _ _ _ _ | exact below_same _ _ _ | exact Below.refl _ _) | exact below_same _ _ _ | (refine Below.alloc ?_ (by first | (simp; done) | (simp; omega)) _) | (refine Below.grow ?_ (by first | (simp; done) | (simp; omega)) _ _) | refine Below.drew ?_ | refine Below.drewN ?_ _ | (refine Below.putF ?_ (by first | (simp; done) | omega | (simp; omega)) _) | (refine Below.setCell ?_ (by first | (simp; done) | (simp; omega)) _))), fun h => by cases h⟩
                case o2 =>
                  intro x w1 hH K hK
                  have e91 : x 91 = _ := hH.holds 1 (by decide) (by decide +kernel) 91 rfl
                  obtain ⟨xs, d, rfl⟩ := grow_of_below hH.below
                  clear hH
                  try simp only [World.grow_drew] at hK ⊢
                  try simp only [World.grow_grow] at hK ⊢
                  simp only [e91] at hK ⊢
                  clear e91
                  go_simp
                  go_wp2_with fail
                  exact ⟨_, rfl, rfl, (by repeat (first | exact below_of_grow _ _ | exact Below.refl _ _ | exact below_more _ _ _ _ | (simp only [← Array.append_assoc]; first | exact below_more _ _ _ _ | exact below_same _ _ _ | exact Below.refl _ _) | exact below_same _ _ _ | (refine Below.alloc ?_ (by first | (simp; done) | (simp; omega)) _) | (refine Below.grow ?_ (by first | (simp; done) | (simp; omega)) _ _) | refine Below.drew ?_ | refine Below.drewN ?_ _ | (refine Below.putF ?_ (by first | (simp; done) | omega | (simp; omega)) _) | (refine Below.setCell ?_ (by first | (simp; done) | (simp; omega)) _))), fun h => by cases h⟩
                case o3 =>
                  intro x w1 hH K hK
                  have e92 : x 92 = _ := hH.holds 2 (by decide) (by decide +kernel) 92 rfl
                  obtain ⟨xs, d, rfl⟩ := grow_of_below hH.below
                  clear hH
                  try simp only [World.grow_drew] at hK ⊢
                  try simp only [World.grow_grow] at hK ⊢
                  simp only [e92] at hK ⊢
                  clear e92
                  go_simp
                  go_wp2_with fail
                  exact ⟨_, rfl, rfl, (by repeat (first | exact below_of_grow _ _ | exact Below.refl _ _ | exact below_more _ _ _ _ | (simp only [← Array.append_assoc]; first | exact below_more _ _ _ _ | exact below_same _ _ _ | exact Below.refl _ _) | exact below_same _ _ _ | (refine Below.alloc ?_ (by first | (simp; done) | (simp; omega)) _) | (refine Below.grow ?_ (by first | (simp; done) | (simp; omega)) _ _) | refine Below.drew ?_ | refine Below.drewN ?_ _ | (refine Below.putF ?_ (by first | (simp; done) | omega | (simp; omega)) _) | (refine Below.setCell ?_ (by first | (simp; done) | (simp; omega)) _))), fun h => by cases h⟩
                case o4 =>
                  intro x w1 hH K hK
                  have e92 : x 92 = _ := hH.holds 2 (by decide) (by decide +kernel) 92 rfl
                  obtain ⟨xs, d, rfl⟩ := grow_of_below hH.below
                  clear hH
                  try simp only [World.grow_drew] at hK ⊢
                  try simp only [World.grow_grow] at hK ⊢
                  simp only [e92] at hK ⊢
                  clear e92
                  go_simp
                  go_wp2_with fail
                  exact ⟨_, rfl, rfl, (by repeat (first | exact below_of_grow _ _ | exact Below.refl _ _ | exact below_more _ _ _ _ | (simp only [← Array.append_assoc]; first | exact below_more _ _ _ _ | exact below_same _ _ _ | exact Below.refl _ _) | exact below_same _ _ _ | (refine Below.alloc ?_ (by first | (simp; done) | (simp; omega)) _) | (refine Below.grow ?_ (by first | (simp; done) | (simp; omega)) _ _) | refine Below.drew ?_ | refine Below.drewN ?_ _ | (refine Below.putF ?_ (by first | (simp; done) | omega | (simp; omega)) _) | (refine Below.setCell ?_ (by first | (simp; done) | (simp; omega)) _))), fun h => by cases h⟩
                case o5 =>
                  intro x w1 hH K hK
                  have e92 : x 92 = _ := hH.holds 2 (by decide) (by decide +kernel) 92 rfl
                  have e93 : x 93 = _ := hH.holds 3 (by decide) (by decide +kernel) 93 rfl
                  have e94 : x 94 = _ := hH.holds 4 (by decide) (by decide +kernel) 94 rfl
                  obtain ⟨xs, d, rfl⟩ := grow_of_below hH.below
                  clear hH
                  try simp only [World.grow_drew] at hK ⊢
                  try simp only [World.grow_grow] at hK ⊢
                  simp only [e92, e93, e94] at hK ⊢
                  clear e92 e93 e94
                  go_simp
                  go_wp2_with (refine Gives.use (HFX.out _ (HWB.out.grow hzW _ _)) ?_; intro ys e)
                  exact ⟨_, rfl, rfl, (by first | exact below_more _ _ _ _ | exact (by repeat (first | exact below_of_grow _ _ | exact Below.refl _ _ | exact below_more _ _ _ _ | (simp only [← Array.append_assoc]; first | exact below_more _ _ _ _ | exact below_same _ _ _ | exact Below.refl _ _) | exact below_same _ _ _ | (refine Below.alloc ?_ (by first | (simp; done) | (simp; omega)) _) | (refine Below.grow ?_ (by first | (simp; done) | (simp; omega)) _ _) | refine Below.drew ?_ | refine Below.drewN ?_ _ | (refine Below.putF ?_ (by first | (simp; done) | omega | (simp; omega)) _) | (refine Below.setCell ?_ (by first | (simp; done) | (simp; omega)) _)))), fun h => by cases h⟩
                case o6 =>
                  intro x w1 hH K hK
                  have e92 : x 92 = _ := hH.holds 2 (by decide) (by decide +kernel) 92 rfl
                  obtain ⟨xs, d, rfl⟩ := grow_of_below hH.below
                  clear hH
                  try simp only [World.grow_drew] at hK ⊢
                  try simp only [World.grow_grow] at hK ⊢
                  simp only [e92] at hK ⊢
                  clear e92
                  go_simp
                  go_wp2_with fail
                  exact ⟨_, rfl, rfl, (by repeat (first | exact below_of_grow _ _ | exact Below.refl _ _ | exact below_more _ _ _ _ | (simp only [← Array.append_assoc]; first | exact below_more _ _ _ _ | exact below_same _ _ _ | exact Below.refl _ _) | exact below_same _ _ _ | (refine Below.alloc ?_ (by first | (simp; done) | (simp; omega)) _) | (refine Below.grow ?_ (by first | (simp; done) | (simp; omega)) _ _) | refine Below.drew ?_ | refine Below.drewN ?_ _ | (refine Below.putF ?_ (by first | (simp; done) | omega | (simp; omega)) _) | (refine Below.setCell ?_ (by first | (simp; done) | (simp; omega)) _))), fun h => by cases h⟩
                case o7 =>
                  intro x w1 hH K hK
                  have e92 : x 92 = _ := hH.holds 2 (by decide) (by decide +kernel) 92 rfl
                  have e95 : x 95 = _ := hH.holds 5 (by decide) (by decide +kernel) 95 rfl
                  have e96 : x 96 = _ := hH.holds 6 (by decide) (by decide +kernel) 96 rfl
                  obtain ⟨xs, d, rfl⟩ := grow_of_below hH.below
                  clear hH
                  try simp only [World.grow_drew] at hK ⊢
                  try simp only [World.grow_grow] at hK ⊢
                  simp only [e92, e95, e96] at hK ⊢
                  clear e92 e95 e96
                  go_simp
                  go_wp2_with fail
                  exact ⟨_, rfl, rfl, (by repeat (first | exact below_of_grow _ _ | exact Below.refl _ _ | exact below_more _ _ _ _ | (simp only [← Array.append_assoc]; first | exact below_more _ _ _ _ | exact below_same _ _ _ | exact Below.refl _ _) | exact below_same _ _ _ | (refine Below.alloc ?_ (by first | (simp; done) | (simp; omega)) _) | (refine Below.grow ?_ (by first | (simp; done) | (simp; omega)) _ _) | refine Below.drew ?_ | refine Below.drewN ?_ _ | (refine Below.putF ?_ (by first | (simp; done) | omega | (simp; omega)) _) | (refine Below.setCell ?_ (by first | (simp; done) | (simp; omega)) _))), fun h => by cases h⟩
                case o8 =>
                  intro x w1 hH K hK
                  have e92 : x 92 = _ := hH.holds 2 (by decide) (by decide +kernel) 92 rfl
                  have e97 : x 97 = _ := hH.holds 7 (by decide) (by decide +kernel) 97 rfl
                  obtain ⟨xs, d, rfl⟩ := grow_of_below hH.below
                  clear hH
                  try simp only [World.grow_drew] at hK ⊢
                  try simp only [World.grow_grow] at hK ⊢
                  simp only [e92, e97] at hK ⊢
                  clear e92 e97
                  go_simp
                  go_wp2_with fail
                  exact ⟨_, rfl, rfl, (by repeat (first | exact below_of_grow _ _ | exact Below.refl _ _ | exact below_more _ _ _ _ | (simp only [← Array.append_assoc]; first | exact below_more _ _ _ _ | exact below_same _ _ _ | exact Below.refl _ _) | exact below_same _ _ _ | (refine Below.alloc ?_ (by first | (simp; done) | (simp; omega)) _) | (refine Below.grow ?_ (by first | (simp; done) | (simp; omega)) _ _) | refine Below.drew ?_ | refine Below.drewN ?_ _ | (refine Below.putF ?_ (by first | (simp; done) | omega | (simp; omega)) _) | (refine Below.setCell ?_ (by first | (simp; done) | (simp; omega)) _))), fun h => by cases h⟩
                case o9 =>
                  intro x w1 hH K hK
                  have e98 : x 98 = _ := hH.holds 8 (by decide) (by decide +kernel) 98 rfl
                  obtain ⟨xs, d, rfl⟩ := grow_of_below hH.below
                  clear hH
                  try simp only [World.grow_drew] at hK ⊢
                  try simp only [World.grow_grow] at hK ⊢
                  simp only [e98] at hK ⊢
                  clear e98
                  go_simp
                  go_wp2_with fail
                  exact ⟨_, rfl, rfl, (by repeat (first | exact below_of_grow _ _ | exact Below.refl _ _ | exact below_more _ _ _ _ | (simp only [← Array.append_assoc]; first | exact below_more _ _ _ _ | exact below_same _ _ _ | exact Below.refl _ _) | exact below_same _ _ _ | (refine Below.alloc ?_ (by first | (simp; done) | (simp; omega)) _) | (refine Below.grow ?_ (by first | (simp; done) | (simp; omega)) _ _) | refine Below.drew ?_ | refine Below.drewN ?_ _ | (refine Below.putF ?_ (by first | (simp; done) | omega | (simp; omega)) _) | (refine Below.setCell ?_ (by first | (simp; done) | (simp; omega)) _))), fun h => by cases h⟩
                case o10 =>
                  intro x w1 hH K hK
                  have e99 : x 99 = _ := hH.holds 9 (by decide) (by decide +kernel) 99 rfl
                  obtain ⟨xs, d, rfl⟩ := grow_of_below hH.below
                  clear hH
                  try simp only [World.grow_drew] at hK ⊢
                  try simp only [World.grow_grow] at hK ⊢
                  simp only [e99] at hK ⊢
                  clear e99
                  go_simp
                  go_wp2_with fail
                  exact ⟨_, rfl, rfl, (by repeat (first | exact below_of_grow _ _ | exact Below.refl _ _ | exact below_more _ _ _ _ | (simp only [← Array.append_assoc]; first | exact below_more _ _ _ _ | exact below_same _ _ _ | exact Below.refl _ _) | exact below_same _ _ _ | (refine Below.alloc ?_ (by first | (simp; done) | (simp; omega)) _) | (refine Below.grow ?_ (by first | (simp; done) | (simp; omega)) _ _) | refine Below.drew ?_ | refine Below.drewN ?_ _ | (refine Below.putF ?_ (by first | (simp; done) | omega | (simp; omega)) _) | (refine Below.setCell ?_ (by first | (simp; done) | (simp; omega)) _))), fun h => by cases h⟩
                case o11 =>
                  intro x w1 hH K hK
                  have e99 : x 99 = _ := hH.holds 9 (by decide) (by decide +kernel) 99 rfl
                  have e100 : x 100 = _ := hH.holds 10 (by decide) (by decide +kernel) 100 rfl
                  obtain ⟨xs, d, rfl⟩ := grow_of_below hH.below
                  clear hH
                  try simp only [World.grow_drew] at hK ⊢
                  try simp only [World.grow_grow] at hK ⊢
                  simp only [e99, e100] at hK ⊢
                  clear e99 e100
                  go_simp
                  go_wp2_with fail
                  exact ⟨_, rfl, rfl, (by repeat (first | exact below_of_grow _ _ | exact Below.refl _ _ | exact below_more _ _ _ _ | (simp only [← Array.append_assoc]; first | exact below_more _ _ _ _ | exact below_same _ _ _ | exact Below.refl _ _) | exact below_same _ _ _ | (refine Below.alloc ?_ (by first | (simp; done) | (simp; omega)) _) | (refine Below.grow ?_ (by first | (simp; done) | (simp; omega)) _ _) | refine Below.drew ?_ | refine Below.drewN ?_ _ | (refine Below.putF ?_ (by first | (simp; done) | omega | (simp; omega)) _) | (refine Below.setCell ?_ (by first | (simp; done) | (simp; omega)) _))), fun h => by cases h⟩
                case o12 =>
                  intro x w1 hH K hK
                  have e99 : x 99 = _ := hH.holds 9 (by decide) (by decide +kernel) 99 rfl
                  have e101 : x 101 = _ := hH.holds 11 (by decide) (by decide +kernel) 101 rfl
                  obtain ⟨xs, d, rfl⟩ := grow_of_below hH.below
                  clear hH
                  try simp only [World.grow_drew] at hK ⊢
                  try simp only [World.grow_grow] at hK ⊢
                  simp only [e99, e101] at hK ⊢
                  clear e99 e101
                  go_simp
                  go_wp2_with fail
                  exact ⟨_, rfl, rfl, (by repeat (first | exact below_of_grow _ _ | exact Below.refl _ _ | exact below_more _ _ _ _ | (simp only [← Array.append_assoc]; first | exact below_more _ _ _ _ | exact below_same _ _ _ | exact Below.refl _ _) | exact below_same _ _ _ | (refine Below.alloc ?_ (by first | (simp; done) | (simp; omega)) _) | (refine Below.grow ?_ (by first | (simp; done) | (simp; omega)) _ _) | refine Below.drew ?_ | refine Below.drewN ?_ _ | (refine Below.putF ?_ (by first | (simp; done) | omega | (simp; omega)) _) | (refine Below.setCell ?_ (by first | (simp; done) | (simp; omega)) _))), fun h => by cases h⟩
                case o13 =>
                  intro x w1 hH K hK
                  have e102 : x 102 = _ := hH.holds 12 (by decide) (by decide +kernel) 102 rfl
                  obtain ⟨xs, d, rfl⟩ := grow_of_below hH.below
                  clear hH
                  try simp only [World.grow_drew] at hK ⊢
                  try simp only [World.grow_grow] at hK ⊢
                  simp only [e102] at hK ⊢
                  clear e102
                  go_simp
                  go_wp2_with fail
                  exact ⟨_, rfl, rfl, (by repeat (first | exact below_of_grow _ _ | exact Below.refl _ _ | exact below_more _ _ _ _ | (simp only [← Array.append_assoc]; first | exact below_more _ _ _ _ | exact below_same _ _ _ | exact Below.refl _ _) | exact below_same _ _ _ | (refine Below.alloc ?_ (by first | (simp; done) | (simp; omega)) _) | (refine Below.grow ?_ (by first | (simp; done) | (simp; omega)) _ _) | refine Below.drew ?_ | refine Below.drewN ?_ _ | (refine Below.putF ?_ (by first | (simp; done) | omega | (simp; omega)) _) | (refine Below.setCell ?_ (by first | (simp; done) | (simp; omega)) _))), fun h => by cases h⟩
                case o14 =>
                  intro x w1 hH K hK
                  have e102 : x 102 = _ := hH.holds 12 (by decide) (by decide +kernel) 102 rfl
                  obtain ⟨xs, d, rfl⟩ := grow_of_below hH.below
                  clear hH
                  try simp only [World.grow_drew] at hK ⊢
                  try simp only [World.grow_grow] at hK ⊢
                  simp only [e102] at hK ⊢
                  clear e102
                  go_simp
                  go_wp2_with fail
                  exact ⟨_, rfl, rfl, (by repeat (first | exact below_of_grow _ _ | exact Below.refl _ _ | exact below_more _ _ _ _ | (simp only [← Array.append_assoc]; first | exact below_more _ _ _ _ | exact below_same _ _ _ | exact Below.refl _ _) | exact below_same _ _ _ | (refine Below.alloc ?_ (by first | (simp; done) | (simp; omega)) _) | (refine Below.grow ?_ (by first | (simp; done) | (simp; omega)) _ _) | refine Below.drew ?_ | refine Below.drewN ?_ _ | (refine Below.putF ?_ (by first | (simp; done) | omega | (simp; omega)) _) | (refine Below.setCell ?_ (by first | (simp; done) | (simp; omega)) _))), fun h => by cases h⟩
                case o15 =>
                  intro x w1 hH K hK
                  have e102 : x 102 = _ := hH.holds 12 (by decide) (by decide +kernel) 102 rfl
                  obtain ⟨xs, d, rfl⟩ := grow_of_below hH.below
                  clear hH
                  try simp only [World.grow_drew] at hK ⊢
                  try simp only [World.grow_grow] at hK ⊢
                  simp only [e102] at hK ⊢
                  clear e102
                  go_simp
                  go_wp2_with fail
                  exact ⟨_, rfl, rfl, (by repeat (first | exact below_of_grow _ _ | exact Below.refl _ _ | exact below_more _ _ _ _ | (simp only [← Array.append_assoc]; first | exact below_more _ _ _ _ | exact below_same _ _ _ | exact Below.refl _ _) | exact below_same _ _ _ | (refine Below.alloc ?_ (by first | (simp; done) | (simp; omega)) _) | (refine Below.grow ?_ (by first | (simp; done) | (simp; omega)) _ _) | refine Below.drew ?_ | refine Below.drewN ?_ _ | (refine Below.putF ?_ (by first | (simp; done) | omega | (simp; omega)) _) | (refine Below.setCell ?_ (by first | (simp; done) | (simp; omega)) _))), fun h => by cases h⟩
                case o16 =>
                  intro x w1 hH K hK
                  have e102 : x 102 = _ := hH.holds 12 (by decide) (by decide +kernel) 102 rfl
                  have e104 : x 104 = _ := hH.holds 14 (by decide) (by decide +kernel) 104 rfl
                  have e105 : x 105 = _ := hH.holds 15 (by decide) (by decide +kernel) 105 rfl
                  obtain ⟨xs, d, rfl⟩ := grow_of_below hH.below
                  clear hH
                  try simp only [World.grow_drew] at hK ⊢
                  try simp only [World.grow_grow] at hK ⊢
                  simp only [e102, e104, e105] at hK ⊢
                  clear e102 e104 e105
                  go_simp
                  go_wp2_with (refine Gives.use (HFB.out _ (HWB.out.grow hzW _ _)) ?_; intro ys e)
                  exact ⟨_, rfl, rfl, (by first | exact below_more _ _ _ _ | exact (by repeat (first | exact below_of_grow _ _ | exact Below.refl _ _ | exact below_more _ _ _ _ | (simp only [← Array.append_assoc]; first | exact below_more _ _ _ _ | exact below_same _ _ _ | exact Below.refl _ _) | exact below_same _ _ _ | (refine Below.alloc ?_ (by first | (simp; done) | (simp; omega)) _) | (refine Below.grow ?_ (by first | (simp; done) | (simp; omega)) _ _) | refine Below.drew ?_ | refine Below.drewN ?_ _ | (refine Below.putF ?_ (by first | (simp; done) | omega | (simp; omega)) _) | (refine Below.setCell ?_ (by first | (simp; done) | (simp; omega)) _)))), fun h => by cases h⟩
                case o17 =>
                  intro x w1 hH K hK
                  have e102 : x 102 = _ := hH.holds 12 (by decide) (by decide +kernel) 102 rfl
                  have e103 : x 103 = _ := hH.holds 13 (by decide) (by decide +kernel) 103 rfl
                  have e106 : x 106 = _ := hH.holds 16 (by decide) (by decide +kernel) 106 rfl
                  obtain ⟨xs, d, rfl⟩ := grow_of_below hH.below
                  clear hH
                  try simp only [World.grow_drew] at hK ⊢
                  try simp only [World.grow_grow] at hK ⊢
                  simp only [e102, e103, e106] at hK ⊢
                  clear e102 e103 e106
                  go_simp
                  go_wp2_with fail
                  exact ⟨_, rfl, rfl, (by repeat (first | exact below_of_grow _ _ | exact Below.refl _ _ | exact below_more _ _ _ _ | (simp only [← Array.append_assoc]; first | exact below_more _ _ _ _ | exact below_same _ _ _ | exact Below.refl _ _) | exact below_same _ _ _ | (refine Below.alloc ?_ (by first | (simp; done) | (simp; omega)) _) | (refine Below.grow ?_ (by first | (simp; done) | (simp; omega)) _ _) | refine Below.drew ?_ | refine Below.drewN ?_ _ | (refine Below.putF ?_ (by first | (simp; done) | omega | (simp; omega)) _) | (refine Below.setCell ?_ (by first | (simp; done) | (simp; omega)) _))), fun h => by cases h⟩
                case o18 =>
                  intro x w1 hH K hK
                  have e99 : x 99 = _ := hH.holds 9 (by decide) (by decide +kernel) 99 rfl
                  have e102 : x 102 = _ := hH.holds 12 (by decide) (by decide +kernel) 102 rfl
                  have e107 : x 107 = _ := hH.holds 17 (by decide) (by decide +kernel) 107 rfl
                  obtain ⟨xs, d, rfl⟩ := grow_of_below hH.below
                  clear hH
                  try simp only [World.grow_drew] at hK ⊢
                  try simp only [World.grow_grow] at hK ⊢
                  simp only [e99, e102, e107] at hK ⊢
                  clear e99 e102 e107
                  go_simp
                  go_wp2_with fail
                  exact ⟨_, rfl, rfl, (by repeat (first | exact below_of_grow _ _ | exact Below.refl _ _ | exact below_more _ _ _ _ | (simp only [← Array.append_assoc]; first | exact below_more _ _ _ _ | exact below_same _ _ _ | exact Below.refl _ _) | exact below_same _ _ _ | (refine Below.alloc ?_ (by first | (simp; done) | (simp; omega)) _) | (refine Below.grow ?_ (by first | (simp; done) | (simp; omega)) _ _) | refine Below.drew ?_ | refine Below.drewN ?_ _ | (refine Below.putF ?_ (by first | (simp; done) | omega | (simp; omega)) _) | (refine Below.setCell ?_ (by first | (simp; done) | (simp; omega)) _))), fun h => by cases h⟩
                case o19 =>
                  intro x w1 hH K hK
                  have e99 : x 99 = _ := hH.holds 9 (by decide) (by decide +kernel) 99 rfl
                  have e108 : x 108 = _ := hH.holds 18 (by decide) (by decide +kernel) 108 rfl
                  obtain ⟨xs, d, rfl⟩ := grow_of_below hH.below
                  clear hH
                  try simp only [World.grow_drew] at hK ⊢
                  try simp only [World.grow_grow] at hK ⊢
                  simp only [e99, e108] at hK ⊢
                  clear e99 e108
                  go_simp
                  go_wp2_with fail
                  exact ⟨_, rfl, rfl, (by repeat (first | exact below_of_grow _ _ | exact Below.refl _ _ | exact below_more _ _ _ _ | (simp only [← Array.append_assoc]; first | exact below_more _ _ _ _ | exact below_same _ _ _ | exact Below.refl _ _) | exact below_same _ _ _ | (refine Below.alloc ?_ (by first | (simp; done) | (simp; omega)) _) | (refine Below.grow ?_ (by first | (simp; done) | (simp; omega)) _ _) | refine Below.drew ?_ | refine Below.drewN ?_ _ | (refine Below.putF ?_ (by first | (simp; done) | omega | (simp; omega)) _) | (refine Below.setCell ?_ (by first | (simp; done) | (simp; omega)) _))), fun h => by cases h⟩
                case o20 =>
                  intro x w1 hH K hK
                  have e109 : x 109 = _ := hH.holds 19 (by decide) (by decide +kernel) 109 rfl
                  obtain ⟨xs, d, rfl⟩ := grow_of_below hH.below
                  clear hH
                  try simp only [World.grow_drew] at hK ⊢
                  try simp only [World.grow_grow] at hK ⊢
                  simp only [e109] at hK ⊢
                  clear e109
                  go_simp
                  go_wp2_with fail
                  exact ⟨_, rfl, rfl, (by repeat (first | exact below_of_grow _ _ | exact Below.refl _ _ | exact below_more _ _ _ _ | (simp only [← Array.append_assoc]; first | exact below_more _ _ _ _ | exact below_same _ _ _ | exact Below.refl _ _) | exact below_same _ _ _ | (refine Below.alloc ?_ (by first | (simp; done) | (simp; omega)) _) | (refine Below.grow ?_ (by first | (simp; done) | (simp; omega)) _ _) | refine Below.drew ?_ | refine Below.drewN ?_ _ | (refine Below.putF ?_ (by first | (simp; done) | omega | (simp; omega)) _) | (refine Below.setCell ?_ (by first | (simp; done) | (simp; omega)) _))), fun h => by cases h⟩
                case o21 =>
                  intro x w1 hH K hK
                  have e109 : x 109 = _ := hH.holds 19 (by decide) (by decide +kernel) 109 rfl
                  obtain ⟨xs, d, rfl⟩ := grow_of_below hH.below
                  clear hH
                  try simp only [World.grow_drew] at hK ⊢
                  try simp only [World.grow_grow] at hK ⊢
                  simp only [e109] at hK ⊢
                  clear e109
                  go_simp
                  go_wp2_with fail
                  exact ⟨_, rfl, rfl, (by repeat (first | exact below_of_grow _ _ | exact Below.refl _ _ | exact below_more _ _ _ _ | (simp only [← Array.append_assoc]; first | exact below_more _ _ _ _ | exact below_same _ _ _ | exact Below.refl _ _) | exact below_same _ _ _ | (refine Below.alloc ?_ (by first | (simp; done) | (simp; omega)) _) | (refine Below.grow ?_ (by first | (simp; done) | (simp; omega)) _ _) | refine Below.drew ?_ | refine Below.drewN ?_ _ | (refine Below.putF ?_ (by first | (simp; done) | omega | (simp; omega)) _) | (refine Below.setCell ?_ (by first | (simp; done) | (simp; omega)) _))), fun h => by cases h⟩
                case o22 =>
                  intro x w1 hH K hK
                  have e109 : x 109 = _ := hH.holds 19 (by decide) (by decide +kernel) 109 rfl
                  obtain ⟨xs, d, rfl⟩ := grow_of_below hH.below
                  clear hH
                  try simp only [World.grow_drew] at hK ⊢
                  try simp only [World.grow_grow] at hK ⊢
                  simp only [e109] at hK ⊢
                  clear e109
                  go_simp
                  go_wp2_with fail
                  exact ⟨_, rfl, rfl, (by repeat (first | exact below_of_grow _ _ | exact Below.refl _ _ | exact below_more _ _ _ _ | (simp only [← Array.append_assoc]; first | exact below_more _ _ _ _ | exact below_same _ _ _ | exact Below.refl _ _) | exact below_same _ _ _ | (refine Below.alloc ?_ (by first | (simp; done) | (simp; omega)) _) | (refine Below.grow ?_ (by first | (simp; done) | (simp; omega)) _ _) | refine Below.drew ?_ | refine Below.drewN ?_ _ | (refine Below.putF ?_ (by first | (simp; done) | omega | (simp; omega)) _) | (refine Below.setCell ?_ (by first | (simp; done) | (simp; omega)) _))), fun h => by cases h⟩
                case o23 =>
                  intro x w1 hH K hK
                  have e109 : x 109 = _ := hH.holds 19 (by decide) (by decide +kernel) 109 rfl
                  have e111 : x 111 = _ := hH.holds 21 (by decide) (by decide +kernel) 111 rfl
                  have e112 : x 112 = _ := hH.holds 22 (by decide) (by decide +kernel) 112 rfl
                  obtain ⟨xs, d, rfl⟩ := grow_of_below hH.below
                  clear hH
                  try simp only [World.grow_drew] at hK ⊢
                  try simp only [World.grow_grow] at hK ⊢
                  simp only [e109, e111, e112] at hK ⊢
                  clear e109 e111 e112
                  go_simp
                  go_wp2_with (refine Gives.use (HFC.out _ (HWB.out.grow hzW _ _)) ?_; intro ys e)
                  exact ⟨_, rfl, rfl, (by first | exact below_more _ _ _ _ | exact (by repeat (first | exact below_of_grow _ _ | exact Below.refl _ _ | exact below_more _ _ _ _ | (simp only [← Array.append_assoc]; first | exact below_more _ _ _ _ | exact below_same _ _ _ | exact Below.refl _ _) | exact below_same _ _ _ | (refine Below.alloc ?_ (by first | (simp; done) | (simp; omega)) _) | (refine Below.grow ?_ (by first | (simp; done) | (simp; omega)) _ _) | refine Below.drew ?_ | refine Below.drewN ?_ _ | (refine Below.putF ?_ (by first | (simp; done) | omega | (simp; omega)) _) | (refine Below.setCell ?_ (by first | (simp; done) | (simp; omega)) _)))), fun h => by cases h⟩
                case o24 =>
                  intro x w1 hH K hK
                  have e109 : x 109 = _ := hH.holds 19 (by decide) (by decide +kernel) 109 rfl
                  have e110 : x 110 = _ := hH.holds 20 (by decide) (by decide +kernel) 110 rfl
                  have e113 : x 113 = _ := hH.holds 23 (by decide) (by decide +kernel) 113 rfl
                  obtain ⟨xs, d, rfl⟩ := grow_of_below hH.below
                  clear hH
                  try simp only [World.grow_drew] at hK ⊢
                  try simp only [World.grow_grow] at hK ⊢
                  simp only [e109, e110, e113] at hK ⊢
                  clear e109 e110 e113
                  go_simp
                  go_wp2_with fail
                  exact ⟨_, rfl, rfl, (by repeat (first | exact below_of_grow _ _ | exact Below.refl _ _ | exact below_more _ _ _ _ | (simp only [← Array.append_assoc]; first | exact below_more _ _ _ _ | exact below_same _ _ _ | exact Below.refl _ _) | exact below_same _ _ _ | (refine Below.alloc ?_ (by first | (simp; done) | (simp; omega)) _) | (refine Below.grow ?_ (by first | (simp; done) | (simp; omega)) _ _) | refine Below.drew ?_ | refine Below.drewN ?_ _ | (refine Below.putF ?_ (by first | (simp; done) | omega | (simp; omega)) _) | (refine Below.setCell ?_ (by first | (simp; done) | (simp; omega)) _))), fun h => by cases h⟩
                case o25 =>
                  intro x w1 hH K hK
                  have e99 : x 99 = _ := hH.holds 9 (by decide) (by decide +kernel) 99 rfl
                  have e109 : x 109 = _ := hH.holds 19 (by decide) (by decide +kernel) 109 rfl
                  have e114 : x 114 = _ := hH.holds 24 (by decide) (by decide +kernel) 114 rfl
                  obtain ⟨xs, d, rfl⟩ := grow_of_below hH.below
                  clear hH
                  try simp only [World.grow_drew] at hK ⊢
                  try simp only [World.grow_grow] at hK ⊢
                  simp only [e99, e109, e114] at hK ⊢
                  clear e99 e109 e114
                  go_simp
                  go_wp2_with fail
                  exact ⟨_, rfl, rfl, (by repeat (first | exact below_of_grow _ _ | exact Below.refl _ _ | exact below_more _ _ _ _ | (simp only [← Array.append_assoc]; first | exact below_more _ _ _ _ | exact below_same _ _ _ | exact Below.refl _ _) | exact below_same _ _ _ | (refine Below.alloc ?_ (by first | (simp; done) | (simp; omega)) _) | (refine Below.grow ?_ (by first | (simp; done) | (simp; omega)) _ _) | refine Below.drew ?_ | refine Below.drewN ?_ _ | (refine Below.putF ?_ (by first | (simp; done) | omega | (simp; omega)) _) | (refine Below.setCell ?_ (by first | (simp; done) | (simp; omega)) _))), fun h => by cases h⟩
                case o26 =>
                  intro x w1 hH K hK
                  have e99 : x 99 = _ := hH.holds 9 (by decide) (by decide +kernel) 99 rfl
                  have e115 : x 115 = _ := hH.holds 25 (by decide) (by decide +kernel) 115 rfl
                  obtain ⟨xs, d, rfl⟩ := grow_of_below hH.below
                  clear hH
                  try simp only [World.grow_drew] at hK ⊢
                  try simp only [World.grow_grow] at hK ⊢
                  simp only [e99, e115] at hK ⊢
                  clear e99 e115
                  go_simp
                  go_wp2_with fail
                  exact ⟨_, rfl, rfl, (by repeat (first | exact below_of_grow _ _ | exact Below.refl _ _ | exact below_more _ _ _ _ | (simp only [← Array.append_assoc]; first | exact below_more _ _ _ _ | exact below_same _ _ _ | exact Below.refl _ _) | exact below_same _ _ _ | (refine Below.alloc ?_ (by first | (simp; done) | (simp; omega)) _) | (refine Below.grow ?_ (by first | (simp; done) | (simp; omega)) _ _) | refine Below.drew ?_ | refine Below.drewN ?_ _ | (refine Below.putF ?_ (by first | (simp; done) | omega | (simp; omega)) _) | (refine Below.setCell ?_ (by first | (simp; done) | (simp; omega)) _))), fun h => by cases h⟩
              case hend =>
                intro x w1 hH
                have e90 : x 90 = _ := hH.holds 0 (by decide) trivial 90 rfl
                have e91 : x 91 = _ := hH.holds 1 (by decide) trivial 91 rfl
                have e92 : x 92 = _ := hH.holds 2 (by decide) trivial 92 rfl
                have e93 : x 93 = _ := hH.holds 3 (by decide) trivial 93 rfl
                have e94 : x 94 = _ := hH.holds 4 (by decide) trivial 94 rfl
                have e95 : x 95 = _ := hH.holds 5 (by decide) trivial 95 rfl
                have e96 : x 96 = _ := hH.holds 6 (by decide) trivial 96 rfl
                have e97 : x 97 = _ := hH.holds 7 (by decide) trivial 97 rfl
                have e98 : x 98 = _ := hH.holds 8 (by decide) trivial 98 rfl
                have e99 : x 99 = _ := hH.holds 9 (by decide) trivial 99 rfl
                have e100 : x 100 = _ := hH.holds 10 (by decide) trivial 100 rfl
                have e101 : x 101 = _ := hH.holds 11 (by decide) trivial 101 rfl
                have e102 : x 102 = _ := hH.holds 12 (by decide) trivial 102 rfl
                have e103 : x 103 = _ := hH.holds 13 (by decide) trivial 103 rfl
                have e104 : x 104 = _ := hH.holds 14 (by decide) trivial 104 rfl
                have e105 : x 105 = _ := hH.holds 15 (by decide) trivial 105 rfl
                have e106 : x 106 = _ := hH.holds 16 (by decide) trivial 106 rfl
                have e107 : x 107 = _ := hH.holds 17 (by decide) trivial 107 rfl
                have e108 : x 108 = _ := hH.holds 18 (by decide) trivial 108 rfl
                have e109 : x 109 = _ := hH.holds 19 (by decide) trivial 109 rfl
                have e110 : x 110 = _ := hH.holds 20 (by decide) trivial 110 rfl
                have e111 : x 111 = _ := hH.holds 21 (by decide) trivial 111 rfl
                have e112 : x 112 = _ := hH.holds 22 (by decide) trivial 112 rfl
                have e113 : x 113 = _ := hH.holds 23 (by decide) trivial 113 rfl
                have e114 : x 114 = _ := hH.holds 24 (by decide) trivial 114 rfl
                have e115 : x 115 = _ := hH.holds 25 (by decide) trivial 115 rfl
                have e116 : x 116 = _ := hH.holds 26 (by decide) trivial 116 rfl
                obtain ⟨xs, d, rfl⟩ := grow_of_below hH.below
                clear hH
                simp only [e90, e91, e92, e93, e94, e95, e96, e97, e98, e99, e100, e101, e102, e103, e104, e105, e106, e107, e108, e109, e110, e111, e112, e113, e114, e115, e116]; clear e90 e91 e92 e93 e94 e95 e96 e97 e98 e99 e100 e101 e102 e103 e104 e105 e106 e107 e108 e109 e110 e111 e112 e113 e114 e115 e116
                simp only [List.drop_succ_cons, List.drop_nil]
                go_wp2_with fail
                go_roundw
                case rel => exact ⟨i + 1, by omega, by go_num, Lib.hid (HWB.out.grow hzW _ _)⟩
                case measure => simp [intOf]; omega
            · have hyC : y = C := by
                rcases H1B.out with h | h | h
                · exact (hs3 h).elim
                · exact (hyB h).elim
                · exact h
              have hd : decide (y = B) = false := by simp [hyB]
              have hd2 : decide (y = C) = true := by simp [hyC]
              clear hs3 hyB hyC
              go_wp2_with fail
              apply wp_region_specs (by rfl) [.val _, .val _, .val _, .val _, .val _, .val _, .val _, .val _, .val _, .val _, .val _, .val _, .val _, .val _, .val _, .val _, .val _, .val _, .val _, .val _, .val _, .val _, .val _, .val _, .val _, .val _, .val _] 27 (by rfl) [90, 91, 92, 93, 94, 95, 96, 97, 98, 99, 100, 101, 102, 103, 104, 105, 106, 107, 108, 109, 110, 111, 112, 113, 114, 115, 116] [] [] (by rfl) (by rfl) (by decide) (by decide +kernel) (fun _ _ _ _ _ h => h)
              case hF => intro x; simp only [over, List.foldl_cons, List.foldl_nil, List.setIfInBounds_toArray, List.set_cons_succ, List.set_cons_zero]; exact rfl
              case hops =>
                refine ⟨?o0, ?o1, ?o2, ?o3, ?o4, ?o5, ?o6, ?o7, ?o8, ?o9, ?o10, ?o11, ?o12, ?o13, ?o14, ?o15, ?o16, ?o17, ?o18, ?o19, ?o20, ?o21, ?o22, ?o23, ?o24, ?o25, ?o26, trivial⟩
                case o0 =>
                  intro x w1 hH K hK
                  obtain ⟨xs, d, rfl⟩ := grow_of_below hH.below
                  clear hH
                  try simp only [World.grow_drew] at hK ⊢
                  try simp only [World.grow_grow] at hK ⊢
                  go_simp
                  go_wp2_with fail
                  exact ⟨_, rfl, rfl, (by repeat (first | exact below_of_grow _ _ | exact Below.refl _ _ | exact below_more _ _ _ _ | (simp only [← Array.append_assoc]; first | exact below_more _ _ _ _ | exact below_same _ _ _ | exact Below.refl _ _) | exact below_same _ _ _ | (refine Below.alloc ?_ (by first | (simp; done) | (simp; omega)) _) | (refine Below.grow ?_ (by first | (simp; done) | (simp; omega)) _ _) | refine Below.drew ?_ | refine Below.drewN ?_ _ | (refine Below.putF ?_ (by first | (simp; done) | omega | (simp; omega)) _) | (refine Below.setCell ?_ (by first | (simp; done) | (simp; omega)) _))), fun h => by cases h⟩
                case o1 =>
                  intro x w1 hH K hK
                  have e90 : x 90 = _ := hH.holds 0 (by decide) (by decide +kernel) 90 rfl
                  obtain ⟨xs, d, rfl⟩ := grow_of_below hH.below
                  clear hH
                  try simp only [World.grow_drew] at hK ⊢
                  try simp only [World.grow_grow] at hK ⊢
                  simp only [e90] at hK ⊢
                  clear e90
                  go_simp
                  go_wp2_with fail
                  exact ⟨_, rfl, rfl, (by repeat (first | exact below_of_grow _ _ | exact Below.refl _ _ | exact below_more _ _ _ _ | (simp only [← Array.append_assoc]; first | exact below_more _ _ _ _ | exact below_same _ _ _ | exact Below.refl _ _) | exact below_same _ _ _ | (refine Below.alloc ?_ (by first | (simp; done) | (simp; omega)) _) | (refine Below.grow ?_ (by first | (simp; done) | (simp; omega)) _ _) | refine Below.drew ?_ | refine Below.drewN ?_ _ | (refine Below.putF ?_ (by first | (simp; done) | omega | (simp; omega)) _) | (refine Below.setCell ?_ (by first | (simp; done) | (simp; omega)) _))), fun h => by cases h⟩
                case o2 =>
                  intro x w1 hH K hK
                  have e91 : x 91 = _ := hH.holds 1 (by decide) (by decide +kernel) 91 rfl
                  obtain ⟨xs, d, rfl⟩ := grow_of_below hH.below
                  clear hH
                  try simp only [World.grow_drew] at hK ⊢
                  try simp only [World.grow_grow] at hK ⊢
                  simp only [e91] at hK ⊢
                  clear e91
                  go_simp
                  go_wp2_with fail
                  exact ⟨_, rfl, rfl, (by repeat (first | exact below_of_grow _ _ | exact Below.refl _ _ | exact below_more _ _ _ _ | (simp only [← Array.append_assoc]; first | exact below_more _ _ _ _ | exact below_same _ _ _ | exact Below.refl _ _) | exact below_same _ _ _ | (refine Below.alloc ?_ (by first | (simp; done) | (simp; omega)) _) | (refine Below.grow ?_ (by first | (simp; done) | (simp; omega)) _ _) | refine Below.drew ?_ | refine Below.drewN ?_ _ | (refine Below.putF ?_ (by first | (simp; done) | omega | (simp; omega)) _) | (refine Below.setCell ?_ (by first | (simp; done) | (simp; omega)) _))), fun h => by cases h⟩
                case o3 =>
                  intro x w1 hH K hK
                  have e92 : x 92 = _ := hH.holds 2 (by decide) (by decide +kernel) 92 rfl
                  obtain ⟨xs, d, rfl⟩ := grow_of_below hH.below
                  clear hH
                  try simp only [World.grow_drew] at hK ⊢
                  try simp only [World.grow_grow] at hK ⊢
                  simp only [e92] at hK ⊢
                  clear e92
                  go_simp
                  go_wp2_with fail
                  exact ⟨_, rfl, rfl, (by repeat (first | exact below_of_grow _ _ | exact Below.refl _ _ | exact below_more _ _ _ _ | (simp only [← Array.append_assoc]; first | exact below_more _ _ _ _ | exact below_same _ _ _ | exact Below.refl _ _) | exact below_same _ _ _ | (refine Below.alloc ?_ (by first | (simp; done) | (simp; omega)) _) | (refine Below.grow ?_ (by first | (simp; done) | (simp; omega)) _ _) | refine Below.drew ?_ | refine Below.drewN ?_ _ | (refine Below.putF ?_ (by first | (simp; done) | omega | (simp; omega)) _) | (refine Below.setCell ?_ (by first | (simp; done) | (simp; omega)) _))), fun h => by cases h⟩
                case o4 =>
                  intro x w1 hH K hK
                  have e92 : x 92 = _ := hH.holds 2 (by decide) (by decide +kernel) 92 rfl
                  obtain ⟨xs, d, rfl⟩ := grow_of_below hH.below
                  clear hH
                  try simp only [World.grow_drew] at hK ⊢
                  try simp only [World.grow_grow] at hK ⊢
                  simp only [e92] at hK ⊢
                  clear e92
                  go_simp
                  go_wp2_with fail
                  exact ⟨_, rfl, rfl, (by repeat (first | exact below_of_grow _ _ | exact Below.refl _ _ | exact below_more _ _ _ _ | (simp only [← Array.append_assoc]; first | exact below_more _ _ _ _ | exact below_same _ _ _ | exact Below.refl _ _) | exact below_same _ _ _ | (refine Below.alloc ?_ (by first | (simp; done) | (simp; omega)) _) | (refine Below.grow ?_ (by first | (simp; done) | (simp; omega)) _ _) | refine Below.drew ?_ | refine Below.drewN ?_ _ | (refine Below.putF ?_ (by first | (simp; done) | omega | (simp; omega)) _) | (refine Below.setCell ?_ (by first | (simp; done) | (simp; omega)) _))), fun h => by cases h⟩
                case o5 =>
                  intro x w1 hH K hK
                  have e92 : x 92 = _ := hH.holds 2 (by decide) (by decide +kernel) 92 rfl
                  have e93 : x 93 = _ := hH.holds 3 (by decide) (by decide +kernel) 93 rfl
                  have e94 : x 94 = _ := hH.holds 4 (by decide) (by decide +kernel) 94 rfl
                  obtain ⟨xs, d, rfl⟩ := grow_of_below hH.below
                  clear hH
                  try simp only [World.grow_drew] at hK ⊢
                  try simp only [World.grow_grow] at hK ⊢
                  simp only [e92, e93, e94] at hK ⊢
                  clear e92 e93 e94
                  go_simp
                  go_wp2_with (refine Gives.use (HFX.out _ (HWB.out.grow hzW _ _)) ?_; intro ys e)
                  exact ⟨_, rfl, rfl, (by first | exact below_more _ _ _ _ | exact (by repeat (first | exact below_of_grow _ _ | exact Below.refl _ _ | exact below_more _ _ _ _ | (simp only [← Array.append_assoc]; first | exact below_more _ _ _ _ | exact below_same _ _ _ | exact Below.refl _ _) | exact below_same _ _ _ | (refine Below.alloc ?_ (by first | (simp; done) | (simp; omega)) _) | (refine Below.grow ?_ (by first | (simp; done) | (simp; omega)) _ _) | refine Below.drew ?_ | refine Below.drewN ?_ _ | (refine Below.putF ?_ (by first | (simp; done) | omega | (simp; omega)) _) | (refine Below.setCell ?_ (by first | (simp; done) | (simp; omega)) _)))), fun h => by cases h⟩
                case o6 =>
                  intro x w1 hH K hK
                  have e92 : x 92 = _ := hH.holds 2 (by decide) (by decide +kernel) 92 rfl
                  obtain ⟨xs, d, rfl⟩ := grow_of_below hH.below
                  clear hH
                  try simp only [World.grow_drew] at hK ⊢
                  try simp only [World.grow_grow] at hK ⊢
                  simp only [e92] at hK ⊢
                  clear e92
                  go_simp
                  go_wp2_with fail
                  exact ⟨_, rfl, rfl, (by repeat (first | exact below_of_grow _ _ | exact Below.refl _ _ | exact below_more _ _ _ _ | (simp only [← Array.append_assoc]; first | exact below_more _ _ _ _ | exact below_same _ _ _ | exact Below.refl _ _) | exact below_same _ _ _ | (refine Below.alloc ?_ (by first | (simp; done) | (simp; omega)) _) | (refine Below.grow ?_ (by first | (simp; done) | (simp; omega)) _ _) | refine Below.drew ?_ | refine Below.drewN ?_ _ | (refine Below.putF ?_ (by first | (simp; done) | omega | (simp; omega)) _) | (refine Below.setCell ?_ (by first | (simp; done) | (simp; omega)) _))), fun h => by cases h⟩
                case o7 =>
                  intro x w1 hH K hK
                  have e92 : x 92 = _ := hH.holds 2 (by decide) (by decide +kernel) 92 rfl
                  have e95 : x 95 = _ := hH.holds 5 (by decide) (by decide +kernel) 95 rfl
                  have e96 : x 96 = _ := hH.holds 6 (by decide) (by decide +kernel) 96 rfl
                  obtain ⟨xs, d, rfl⟩ := grow_of_below hH.below
                  clear hH
                  try simp only [World.grow_drew] at hK ⊢
                  try simp only [World.grow_grow] at hK ⊢
                  simp only [e92, e95, e96] at hK ⊢
                  clear e92 e95 e96
                  go_simp
                  go_wp2_with fail
                  exact ⟨_, rfl, rfl, (by repeat (first | exact below_of_grow _ _ | exact Below.refl _ _ | exact below_more _ _ _ _ | (simp only [← Array.append_assoc]; first | exact below_more _ _ _ _ | exact below_same _ _ _ | exact Below.refl _ _) | exact below_same _ _ _ | (refine Below.alloc ?_ (by first | (simp; done) | (simp; omega)) _) | (refine Below.grow ?_ (by first | (simp; done) | (simp; omega)) _ _) | refine Below.drew ?_ | refine Below.drewN ?_ _ | (refine Below.putF ?_ (by first | (simp; done) | omega | (simp; omega)) _) | (refine Below.setCell ?_ (by first | (simp; done) | (simp; omega)) _))), fun h => by cases h⟩
                case o8 =>
                  intro x w1 hH K hK
                  have e92 : x 92 = _ := hH.holds 2 (by decide) (by decide +kernel) 92 rfl
                  have e97 : x 97 = _ := hH.holds 7 (by decide) (by decide +kernel) 97 rfl
                  obtain ⟨xs, d, rfl⟩ := grow_of_below hH.below
                  clear hH
                  try simp only [World.grow_drew] at hK ⊢
                  try simp only [World.grow_grow] at hK ⊢
                  simp only [e92, e97] at hK ⊢
                  clear e92 e97
                  go_simp
                  go_wp2_with fail
                  exact ⟨_, rfl, rfl, (by repeat (first | exact below_of_grow _ _ | exact Below.refl _ _ | exact below_more _ _ _ _ | (simp only [← Array.append_assoc]; first | exact below_more _ _ _ _ | exact below_same _ _ _ | exact Below.refl _ _) | exact below_same _ _ _ | (refine Below.alloc ?_ (by first | (simp; done) | (simp; omega)) _) | (refine Below.grow ?_ (by first | (simp; done) | (simp; omega)) _ _) | refine Below.drew ?_ | refine Below.drewN ?_ _ | (refine Below.putF ?_ (by first | (simp; done) | omega | (simp; omega)) _) | (refine Below.setCell ?_ (by first | (simp; done) | (simp; omega)) _))), fun h => by cases h⟩
                case o9 =>
                  intro x w1 hH K hK
                  have e98 : x 98 = _ := hH.holds 8 (by decide) (by decide +kernel) 98 rfl
                  obtain ⟨xs, d, rfl⟩ := grow_of_below hH.below
                  clear hH
                  try simp only [World.grow_drew] at hK ⊢
                  try simp only [World.grow_grow] at hK ⊢
                  simp only [e98] at hK ⊢
                  clear e98
                  go_simp
                  go_wp2_with fail
                  exact ⟨_, rfl, rfl, (by repeat (first | exact below_of_grow _ _ | exact Below.refl _ _ | exact below_more _ _ _ _ | (simp only [← Array.append_assoc]; first | exact below_more _ _ _ _ | exact below_same _ _ _ | exact Below.refl _ _) | exact below_same _ _ _ | (refine Below.alloc ?_ (by first | (simp; done) | (simp; omega)) _) | (refine Below.grow ?_ (by first | (simp; done) | (simp; omega)) _ _) | refine Below.drew ?_ | refine Below.drewN ?_ _ | (refine Below.putF ?_ (by first | (simp; done) | omega | (simp; omega)) _) | (refine Below.setCell ?_ (by first | (simp; done) | (simp; omega)) _))), fun h => by cases h⟩
                case o10 =>
                  intro x w1 hH K hK
                  have e99 : x 99 = _ := hH.holds 9 (by decide) (by decide +kernel) 99 rfl
                  obtain ⟨xs, d, rfl⟩ := grow_of_below hH.below
                  clear hH
                  try simp only [World.grow_drew] at hK ⊢
                  try simp only [World.grow_grow] at hK ⊢
                  simp only [e99] at hK ⊢
                  clear e99
                  go_simp
                  go_wp2_with fail
                  exact ⟨_, rfl, rfl, (by repeat (first | exact below_of_grow _ _ | exact Below.refl _ _ | exact below_more _ _ _ _ | (simp only [← Array.append_assoc]; first | exact below_more _ _ _ _ | exact below_same _ _ _ | exact Below.refl _ _) | exact below_same _ _ _ | (refine Below.alloc ?_ (by first | (simp; done) | (simp; omega)) _) | (refine Below.grow ?_ (by first | (simp; done) | (simp; omega)) _ _) | refine Below.drew ?_ | refine Below.drewN ?_ _ | (refine Below.putF ?_ (by first | (simp; done) | omega | (simp; omega)) _) | (refine Below.setCell ?_ (by first | (simp; done) | (simp; omega)) _))), fun h => by cases h⟩
                case o11 =>
                  intro x w1 hH K hK
                  have e99 : x 99 = _ := hH.holds 9 (by decide) (by decide +kernel) 99 rfl
                  have e100 : x 100 = _ := hH.holds 10 (by decide) (by decide +kernel) 100 rfl
                  obtain ⟨xs, d, rfl⟩ := grow_of_below hH.below
                  clear hH
                  try simp only [World.grow_drew] at hK ⊢
                  try simp only [World.grow_grow] at hK ⊢
                  simp only [e99, e100] at hK ⊢
                  clear e99 e100
                  go_simp
                  go_wp2_with fail
                  exact ⟨_, rfl, rfl, (by repeat (first | exact below_of_grow _ _ | exact Below.refl _ _ | exact below_more _ _ _ _ | (simp only [← Array.append_assoc]; first | exact below_more _ _ _ _ | exact below_same _ _ _ | exact Below.refl _ _) | exact below_same _ _ _ | (refine Below.alloc ?_ (by first | (simp; done) | (simp; omega)) _) | (refine Below.grow ?_ (by first | (simp; done) | (simp; omega)) _ _) | refine Below.drew ?_ | refine Below.drewN ?_ _ | (refine Below.putF ?_ (by first | (simp; done) | omega | (simp; omega)) _) | (refine Below.setCell ?_ (by first | (simp; done) | (simp; omega)) _))), fun h => by cases h⟩
                case o12 =>
                  intro x w1 hH K hK
                  have e99 : x 99 = _ := hH.holds 9 (by decide) (by decide +kernel) 99 rfl
                  have e101 : x 101 = _ := hH.holds 11 (by decide) (by decide +kernel) 101 rfl
                  obtain ⟨xs, d, rfl⟩ := grow_of_below hH.below
                  clear hH
                  try simp only [World.grow_drew] at hK ⊢
                  try simp only [World.grow_grow] at hK ⊢
                  simp only [e99, e101] at hK ⊢
                  clear e99 e101
                  go_simp
                  go_wp2_with fail
                  exact ⟨_, rfl, rfl, (by repeat (first | exact below_of_grow _ _ | exact Below.refl _ _ | exact below_more _ _ _ _ | (simp only [← Array.append_assoc]; first | exact below_more _ _ _ _ | exact below_same _ _ _ | exact Below.refl _ _) | exact below_same _ _ _ | (refine Below.alloc ?_ (by first | (simp; done) | (simp; omega)) _) | (refine Below.grow ?_ (by first | (simp; done) | (simp; omega)) _ _) | refine Below.drew ?_ | refine Below.drewN ?_ _ | (refine Below.putF ?_ (by first | (simp; done) | omega | (simp; omega)) _) | (refine Below.setCell ?_ (by first | (simp; done) | (simp; omega)) _))), fun h => by cases h⟩
                case o13 =>
                  intro x w1 hH K hK
                  have e102 : x 102 = _ := hH.holds 12 (by decide) (by decide +kernel) 102 rfl
                  obtain ⟨xs, d, rfl⟩ := grow_of_below hH.below
                  clear hH
                  try simp only [World.grow_drew] at hK ⊢
                  try simp only [World.grow_grow] at hK ⊢
                  simp only [e102] at hK ⊢
                  clear e102
                  go_simp
                  go_wp2_with fail
                  exact ⟨_, rfl, rfl, (by repeat (first | exact below_of_grow _ _ | exact Below.refl _ _ | exact below_more _ _ _ _ | (simp only [← Array.append_assoc]; first | exact below_more _ _ _ _ | exact below_same _ _ _ | exact Below.refl _ _) | exact below_same _ _ _ | (refine Below.alloc ?_ (by first | (simp; done) | (simp; omega)) _) | (refine Below.grow ?_ (by first | (simp; done) | (simp; omega)) _ _) | refine Below.drew ?_ | refine Below.drewN ?_ _ | (refine Below.putF ?_ (by first | (simp; done) | omega | (simp; omega)) _) | (refine Below.setCell ?_ (by first | (simp; done) | (simp; omega)) _))), fun h => by cases h⟩
                case o14 =>
                  intro x w1 hH K hK
                  have e102 : x 102 = _ := hH.holds 12 (by decide) (by decide +kernel) 102 rfl
                  obtain ⟨xs, d, rfl⟩ := grow_of_below hH.below
                  clear hH
                  try simp only [World.grow_drew] at hK ⊢
                  try simp only [World.grow_grow] at hK ⊢
                  simp only [e102] at hK ⊢
                  clear e102
                  go_simp
                  go_wp2_with fail
                  exact ⟨_, rfl, rfl, (by repeat (first | exact below_of_grow _ _ | exact Below.refl _ _ | exact below_more _ _ _ _ | (simp only [← Array.append_assoc]; first | exact below_more _ _ _ _ | exact below_same _ _ _ | exact Below.refl _ _) | exact below_same _ _ _ | (refine Below.alloc ?_ (by first | (simp; done) | (simp; omega)) _) | (refine Below.grow ?_ (by first | (simp; done) | (simp; omega)) _ _) | refine Below.drew ?_ | refine Below.drewN ?_ _ | (refine Below.putF ?_ (by first | (simp; done) | omega | (simp; omega)) _) | (refine Below.setCell ?_ (by first | (simp; done) | (simp; omega)) _))), fun h => by cases h⟩
                case o15 =>
                  intro x w1 hH K hK
                  have e102 : x 102 = _ := hH.holds 12 (by decide) (by decide +kernel) 102 rfl
                  obtain ⟨xs, d, rfl⟩ := grow_of_below hH.below
                  clear hH
                  try simp only [World.grow_drew] at hK ⊢
                  try simp only [World.grow_grow] at hK ⊢
                  simp only [e102] at hK ⊢
                  clear e102
                  go_simp
                  go_wp2_with fail
                  exact ⟨_, rfl, rfl, (by repeat (first | exact below_of_grow _ _ | exact Below.refl _ _ | exact below_more _ _ _ _ | (simp only [← Array.append_assoc]; first | exact below_more _ _ _ _ | exact below_same _ _ _ | exact Below.refl _ _) | exact below_same _ _ _ | (refine Below.alloc ?_ (by first | (simp; done) | (simp; omega)) _) | (refine Below.grow ?_ (by first | (simp; done) | (simp; omega)) _ _) | refine Below.drew ?_ | refine Below.drewN ?_ _ | (refine Below.putF ?_ (by first | (simp; done) | omega | (simp; omega)) _) | (refine Below.setCell ?_ (by first | (simp; done) | (simp; omega)) _))), fun h => by cases h⟩
                case o16 =>
                  intro x w1 hH K hK
                  have e102 : x 102 = _ := hH.holds 12 (by decide) (by decide +kernel) 102 rfl
                  have e104 : x 104 = _ := hH.holds 14 (by decide) (by decide +kernel) 104 rfl
                  have e105 : x 105 = _ := hH.holds 15 (by decide) (by decide +kernel) 105 rfl
                  obtain ⟨xs, d, rfl⟩ := grow_of_below hH.below
                  clear hH
                  try simp only [World.grow_drew] at hK ⊢
                  try simp only [World.grow_grow] at hK ⊢
                  simp only [e102, e104, e105] at hK ⊢
                  clear e102 e104 e105
                  go_simp
                  go_wp2_with (refine Gives.use (HFB.out _ (HWB.out.grow hzW _ _)) ?_; intro ys e)
                  exact ⟨_, rfl, rfl, (by first | exact below_more _ _ _ _ | exact (by repeat (first | exact below_of_grow _ _ | exact Below.refl _ _ | exact below_more _ _ _ _ | (simp only [← Array.append_assoc]; first | exact below_more _ _ _ _ | exact below_same _ _ _ | exact Below.refl _ _) | exact below_same _ _ _ | (refine Below.alloc ?_ (by first | (simp; done) | (simp; omega)) _) | (refine Below.grow ?_ (by first | (simp; done) | (simp; omega)) _ _) | refine Below.drew ?_ | refine Below.drewN ?_ _ | (refine Below.putF ?_ (by first | (simp; done) | omega | (simp; omega)) _) | (refine Below.setCell ?_ (by first | (simp; done) | (simp; omega)) _)))), fun h => by cases h⟩
                case o17 =>
                  intro x w1 hH K hK
                  have e102 : x 102 = _ := hH.holds 12 (by decide) (by decide +kernel) 102 rfl
                  have e103 : x 103 = _ := hH.holds 13 (by decide) (by decide +kernel) 103 rfl
                  have e106 : x 106 = _ := hH.holds 16 (by decide) (by decide +kernel) 106 rfl
                  obtain ⟨xs, d, rfl⟩ := grow_of_below hH.below
                  clear hH
                  try simp only [World.grow_drew] at hK ⊢
                  try simp only [World.grow_grow] at hK ⊢
                  simp only [e102, e103, e106] at hK ⊢
                  clear e102 e103 e106
                  go_simp
                  go_wp2_with fail
                  exact ⟨_, rfl, rfl, (by repeat (first | exact below_of_grow _ _ | exact Below.refl _ _ | exact below_more _ _ _ _ | (simp only [← Array.append_assoc]; first | exact below_more _ _ _ _ | exact below_same _ _ _ | exact Below.refl _ _) | exact below_same _ _ _ | (refine Below.alloc ?_ (by first | (simp; done) | (simp; omega)) _) | (refine Below.grow ?_ (by first | (simp; done) | (simp; omega)) _ _) | refine Below.drew ?_ | refine Below.drewN ?_ _ | (refine Below.putF ?_ (by first | (simp; done) | omega | (simp; omega)) _) | (refine Below.setCell ?_ (by first | (simp; done) | (simp; omega)) _))), fun h => by cases h⟩
                case o18 =>
                  intro x w1 hH K hK
                  have e99 : x 99 = _ := hH.holds 9 (by decide) (by decide +kernel) 99 rfl
                  have e102 : x 102 = _ := hH.holds 12 (by decide) (by decide +kernel) 102 rfl
                  have e107 : x 107 = _ := hH.holds 17 (by decide) (by decide +kernel) 107 rfl
                  obtain ⟨xs, d, rfl⟩ := grow_of_below hH.below
                  clear hH
                  try simp only [World.grow_drew] at hK ⊢
                  try simp only [World.grow_grow] at hK ⊢
                  simp only [e99, e102, e107] at hK ⊢
                  clear e99 e102 e107
                  go_simp
                  go_wp2_with fail
                  exact ⟨_, rfl, rfl, (by repeat (first | exact below_of_grow _ _ | exact Below.refl _ _ | exact below_more _ _ _ _ | (simp only [← Array.append_assoc]; first | exact below_more _ _ _ _ | exact below_same _ _ _ | exact Below.refl _ _) | exact below_same _ _ _ | (refine Below.alloc ?_ (by first | (simp; done) | (simp; omega)) _) | (refine Below.grow ?_ (by first | (simp; done) | (simp; omega)) _ _) | refine Below.drew ?_ | refine Below.drewN ?_ _ | (refine Below.putF ?_ (by first | (simp; done) | omega | (simp; omega)) _) | (refine Below.setCell ?_ (by first | (simp; done) | (simp; omega)) _))), fun h => by cases h⟩
                case o19 =>
                  intro x w1 hH K hK
                  have e99 : x 99 = _ := hH.holds 9 (by decide) (by decide +kernel) 99 rfl
                  have e108 : x 108 = _ := hH.holds 18 (by decide) (by decide +kernel) 108 rfl
                  obtain ⟨xs, d, rfl⟩ := grow_of_below hH.below
                  clear hH
                  try simp only [World.grow_drew] at hK ⊢
                  try simp only [World.grow_grow] at hK ⊢
                  simp only [e99, e108] at hK ⊢
                  clear e99 e108
                  go_simp
                  go_wp2_with fail
                  exact ⟨_, rfl, rfl, (by repeat (first | exact below_of_grow _ _ | exact Below.refl _ _ | exact below_more _ _ _ _ | (simp only [← Array.append_assoc]; first | exact below_more _ _ _ _ | exact below_same _ _ _ | exact Below.refl _ _) | exact below_same _ _ _ | (refine Below.alloc ?_ (by first | (simp; done) | (simp; omega)) _) | (refine Below.grow ?_ (by first | (simp; done) | (simp; omega)) _ _) | refine Below.drew ?_ | refine Below.drewN ?_ _ | (refine Below.putF ?_ (by first | (simp; done) | omega | (simp; omega)) _) | (refine Below.setCell ?_ (by first | (simp; done) | (simp; omega)) _))), fun h => by cases h⟩
                case o20 =>
                  intro x w1 hH K hK
                  have e109 : x 109 = _ := hH.holds 19 (by decide) (by decide +kernel) 109 rfl
                  obtain ⟨xs, d, rfl⟩ := grow_of_below hH.below
                  clear hH
                  try simp only [World.grow_drew] at hK ⊢
                  try simp only [World.grow_grow] at hK ⊢
                  simp only [e109] at hK ⊢
                  clear e109
                  go_simp
                  go_wp2_with fail
                  exact ⟨_, rfl, rfl, (by repeat (first | exact below_of_grow _ _ | exact Below.refl _ _ | exact below_more _ _ _ _ | (simp only [← Array.append_assoc]; first | exact below_more _ _ _ _ | exact below_same _ _ _ | exact Below.refl _ _) | exact below_same _ _ _ | (refine Below.alloc ?_ (by first | (simp; done) | (simp; omega)) _) | (refine Below.grow ?_ (by first | (simp; done) | (simp; omega)) _ _) | refine Below.drew ?_ | refine Below.drewN ?_ _ | (refine Below.putF ?_ (by first | (simp; done) | omega | (simp; omega)) _) | (refine Below.setCell ?_ (by first | (simp; done) | (simp; omega)) _))), fun h => by cases h⟩
                case o21 =>
                  intro x w1 hH K hK
                  have e109 : x 109 = _ := hH.holds 19 (by decide) (by decide +kernel) 109 rfl
                  obtain ⟨xs, d, rfl⟩ := grow_of_below hH.below
                  clear hH
                  try simp only [World.grow_drew] at hK ⊢
                  try simp only [World.grow_grow] at hK ⊢
                  simp only [e109] at hK ⊢
                  clear e109
                  go_simp
                  go_wp2_with fail
                  exact ⟨_, rfl, rfl, (by repeat (first | exact below_of_grow _ _ | exact Below.refl _ _ | exact below_more _ _ _ _ | (simp only [← Array.append_assoc]; first | exact below_more _ _ _ _ | exact below_same _ _ _ | exact Below.refl _ _) | exact below_same _ _ _ | (refine Below.alloc ?_ (by first | (simp; done) | (simp; omega)) _) | (refine Below.grow ?_ (by first | (simp; done) | (simp; omega)) _ _) | refine Below.drew ?_ | refine Below.drewN ?_ _ | (refine Below.putF ?_ (by first | (simp; done) | omega | (simp; omega)) _) | (refine Below.setCell ?_ (by first | (simp; done) | (simp; omega)) _))), fun h => by cases h⟩
                case o22 =>
                  intro x w1 hH K hK
                  have e109 : x 109 = _ := hH.holds 19 (by decide) (by decide +kernel) 109 rfl
                  obtain ⟨xs, d, rfl⟩ := grow_of_below hH.below
                  clear hH
                  try simp only [World.grow_drew] at hK ⊢
                  try simp only [World.grow_grow] at hK ⊢
                  simp only [e109] at hK ⊢
                  clear e109
                  go_simp
                  go_wp2_with fail
                  exact ⟨_, rfl, rfl, (by repeat (first | exact below_of_grow _ _ | exact Below.refl _ _ | exact below_more _ _ _ _ | (simp only [← Array.append_assoc]; first | exact below_more _ _ _ _ | exact below_same _ _ _ | exact Below.refl _ _) | exact below_same _ _ _ | (refine Below.alloc ?_ (by first | (simp; done) | (simp; omega)) _) | (refine Below.grow ?_ (by first | (simp; done) | (simp; omega)) _ _) | refine Below.drew ?_ | refine Below.drewN ?_ _ | (refine Below.putF ?_ (by first | (simp; done) | omega | (simp; omega)) _) | (refine Below.setCell ?_ (by first | (simp; done) | (simp; omega)) _))), fun h => by cases h⟩
                case o23 =>
                  intro x w1 hH K hK
                  have e109 : x 109 = _ := hH.holds 19 (by decide) (by decide +kernel) 109 rfl
                  have e111 : x 111 = _ := hH.holds 21 (by decide) (by decide +kernel) 111 rfl
                  have e112 : x 112 = _ := hH.holds 22 (by decide) (by decide +kernel) 112 rfl
                  obtain ⟨xs, d, rfl⟩ := grow_of_below hH.below
                  clear hH
                  try simp only [World.grow_drew] at hK ⊢
                  try simp only [World.grow_grow] at hK ⊢
                  simp only [e109, e111, e112] at hK ⊢
                  clear e109 e111 e112
                  go_simp
                  go_wp2_with (refine Gives.use (HFC.out _ (HWB.out.grow hzW _ _)) ?_; intro ys e)
                  exact ⟨_, rfl, rfl, (by first | exact below_more _ _ _ _ | exact (by repeat (first | exact below_of_grow _ _ | exact Below.refl _ _ | exact below_more _ _ _ _ | (simp only [← Array.append_assoc]; first | exact below_more _ _ _ _ | exact below_same _ _ _ | exact Below.refl _ _) | exact below_same _ _ _ | (refine Below.alloc ?_ (by first | (simp; done) | (simp; omega)) _) | (refine Below.grow ?_ (by first | (simp; done) | (simp; omega)) _ _) | refine Below.drew ?_ | refine Below.drewN ?_ _ | (refine Below.putF ?_ (by first | (simp; done) | omega | (simp; omega)) _) | (refine Below.setCell ?_ (by first | (simp; done) | (simp; omega)) _)))), fun h => by cases h⟩
                case o24 =>
                  intro x w1 hH K hK
                  have e109 : x 109 = _ := hH.holds 19 (by decide) (by decide +kernel) 109 rfl
                  have e110 : x 110 = _ := hH.holds 20 (by decide) (by decide +kernel) 110 rfl
                  have e113 : x 113 = _ := hH.holds 23 (by decide) (by decide +kernel) 113 rfl
                  obtain ⟨xs, d, rfl⟩ := grow_of_below hH.below
                  clear hH
                  try simp only [World.grow_drew] at hK ⊢
                  try simp only [World.grow_grow] at hK ⊢
                  simp only [e109, e110, e113] at hK ⊢
                  clear e109 e110 e113
                  go_simp
                  go_wp2_with fail
                  exact ⟨_, rfl, rfl, (by repeat (first | exact below_of_grow _ _ | exact Below.refl _ _ | exact below_more _ _ _ _ | (simp only [← Array.append_assoc]; first | exact below_more _ _ _ _ | exact below_same _ _ _ | exact Below.refl _ _) | exact below_same _ _ _ | (refine Below.alloc ?_ (by first | (simp; done) | (simp; omega)) _) | (refine Below.grow ?_ (by first | (simp; done) | (simp; omega)) _ _) | refine Below.drew ?_ | refine Below.drewN ?_ _ | (refine Below.putF ?_ (by first | (simp; done) | omega | (simp; omega)) _) | (refine Below.setCell ?_ (by first | (simp; done) | (simp; omega)) _))), fun h => by cases h⟩
                case o25 =>
                  intro x w1 hH K hK
                  have e99 : x 99 = _ := hH.holds 9 (by decide) (by decide +kernel) 99 rfl
                  have e109 : x 109 = _ := hH.holds 19 (by decide) (by decide +kernel) 109 rfl
                  have e114 : x 114 = _ := hH.holds 24 (by decide) (by decide +kernel) 114 rfl
                  obtain ⟨xs, d, rfl⟩ := grow_of_below hH.below
                  clear hH
                  try simp only [World.grow_drew] at hK ⊢
                  try simp only [World.grow_grow] at hK ⊢
                  simp only [e99, e109, e114] at hK ⊢
                  clear e99 e109 e114
                  go_simp
                  go_wp2_with fail
                  exact ⟨_, rfl, rfl, (by repeat (first | exact below_of_grow _ _ | exact Below.refl _ _ | exact below_more _ _ _ _ | (simp only [← Array.append_assoc]; first | exact below_more _ _ _ _ | exact below_same _ _ _ | exact Below.refl _ _) | exact below_same _ _ _ | (refine Below.alloc ?_ (by first | (simp; done) | (simp; omega)) _) | (refine Below.grow ?_ (by first | (simp; done) | (simp; omega)) _ _) | refine Below.drew ?_ | refine Below.drewN ?_ _ | (refine Below.putF ?_ (by first | (simp; done) | omega | (simp; omega)) _) | (refine Below.setCell ?_ (by first | (simp; done) | (simp; omega)) _))), fun h => by cases h⟩
                case o26 =>
                  intro x w1 hH K hK
                  have e99 : x 99 = _ := hH.holds 9 (by decide) (by decide +kernel) 99 rfl
                  have e115 : x 115 = _ := hH.holds 25 (by decide) (by decide +kernel) 115 rfl
                  obtain ⟨xs, d, rfl⟩ := grow_of_below hH.below
                  clear hH
                  try simp only [World.grow_drew] at hK ⊢
                  try simp only [World.grow_grow] at hK ⊢
                  simp only [e99, e115] at hK ⊢
                  clear e99 e115
                  go_simp
                  go_wp2_with fail
                  exact ⟨_, rfl, rfl, (by repeat (first | exact below_of_grow _ _ | exact Below.refl _ _ | exact below_more _ _ _ _ | (simp only [← Array.append_assoc]; first | exact below_more _ _ _ _ | exact below_same _ _ _ | exact Below.refl _ _) | exact below_same _ _ _ | (refine Below.alloc ?_ (by first | (simp; done) | (simp; omega)) _) | (refine Below.grow ?_ (by first | (simp; done) | (simp; omega)) _ _) | refine Below.drew ?_ | refine Below.drewN ?_ _ | (refine Below.putF ?_ (by first | (simp; done) | omega | (simp; omega)) _) | (refine Below.setCell ?_ (by first | (simp; done) | (simp; omega)) _))), fun h => by cases h⟩
              case hend =>
                intro x w1 hH
                have e90 : x 90 = _ := hH.holds 0 (by decide) trivial 90 rfl
                have e91 : x 91 = _ := hH.holds 1 (by decide) trivial 91 rfl
                have e92 : x 92 = _ := hH.holds 2 (by decide) trivial 92 rfl
                have e93 : x 93 = _ := hH.holds 3 (by decide) trivial 93 rfl
                have e94 : x 94 = _ := hH.holds 4 (by decide) trivial 94 rfl
                have e95 : x 95 = _ := hH.holds 5 (by decide) trivial 95 rfl
                have e96 : x 96 = _ := hH.holds 6 (by decide) trivial 96 rfl
                have e97 : x 97 = _ := hH.holds 7 (by decide) trivial 97 rfl
                have e98 : x 98 = _ := hH.holds 8 (by decide) trivial 98 rfl
                have e99 : x 99 = _ := hH.holds 9 (by decide) trivial 99 rfl
                have e100 : x 100 = _ := hH.holds 10 (by decide) trivial 100 rfl
                have e101 : x 101 = _ := hH.holds 11 (by decide) trivial 101 rfl
                have e102 : x 102 = _ := hH.holds 12 (by decide) trivial 102 rfl
                have e103 : x 103 = _ := hH.holds 13 (by decide) trivial 103 rfl
                have e104 : x 104 = _ := hH.holds 14 (by decide) trivial 104 rfl
                have e105 : x 105 = _ := hH.holds 15 (by decide) trivial 105 rfl
                have e106 : x 106 = _ := hH.holds 16 (by decide) trivial 106 rfl
                have e107 : x 107 = _ := hH.holds 17 (by decide) trivial 107 rfl
                have e108 : x 108 = _ := hH.holds 18 (by decide) trivial 108 rfl
                have e109 : x 109 = _ := hH.holds 19 (by decide) trivial 109 rfl
                have e110 : x 110 = _ := hH.holds 20 (by decide) trivial 110 rfl
                have e111 : x 111 = _ := hH.holds 21 (by decide) trivial 111 rfl
                have e112 : x 112 = _ := hH.holds 22 (by decide) trivial 112 rfl
                have e113 : x 113 = _ := hH.holds 23 (by decide) trivial 113 rfl
                have e114 : x 114 = _ := hH.holds 24 (by decide) trivial 114 rfl
                have e115 : x 115 = _ := hH.holds 25 (by decide) trivial 115 rfl
                have e116 : x 116 = _ := hH.holds 26 (by decide) trivial 116 rfl
                obtain ⟨xs, d, rfl⟩ := grow_of_below hH.below
                clear hH
                simp only [e90, e91, e92, e93, e94, e95, e96, e97, e98, e99, e100, e101, e102, e103, e104, e105, e106, e107, e108, e109, e110, e111, e112, e113, e114, e115, e116]; clear e90 e91 e92 e93 e94 e95 e96 e97 e98 e99 e100 e101 e102 e103 e104 e105 e106 e107 e108 e109 e110 e111 e112 e113 e114 e115 e116
                simp only [List.drop_succ_cons, List.drop_nil]
                go_wp2_with fail
                go_roundw
                case rel => exact ⟨i + 1, by omega, by go_num, Lib.hid (HWB.out.grow hzW _ _)⟩
                case measure => simp [intOf]; omega
      · have hie : i = all.length := by omega
        subst hie
        have hgn : ¬ (all.length : Int) < all.length := by omega
        go_wp2_with fail
        go_meet
        exact HB
  case rest =>
    obtain ⟨X, rfl⟩ : ∃ X, X = wc := ⟨_, rfl⟩
    have HBX := hcut
    clear hcut HX
    go_upto_if 118 with fail
    go_cut [] (fun wx => Hid (Below w8.heap.size w8 wx))
    case first =>
      by_cases hn1 : n = 1
      · subst hn1
        obtain ⟨a5, cap5, hv5, hcl5, hcm5⟩ := HX5.out.form
        rw [List.length_map] at hv5 hcl5
        subst hv5
        unfold maxLen at hcm5
        have hsX := HBX.out.size
        go_wp2_with fail
        go_loopw [23] (fun s23 wr => ∃ i : Nat, i ≤ cl.length ∧ s23 = .int .i64 i ∧ Hid (Below w8.heap.size w8 wr)) (fun s23 _ => cl.length - (intOf s23).toNat)
        case atStart => exact ⟨0, Nat.zero_le _, rfl, HBX⟩
        case round =>
          obtain ⟨i, hi, rfl, HB⟩ := hrel
          by_cases hli : i < cl.length
          · have hliI : (i : Int) < cl.length := by omega
            obtain ⟨_, a6, cap6, he, _, _, hc6⟩ := HX5.out.below HB.out
            simp only [Value.slice.injEq, List.length_map, true_and] at he
            obtain ⟨rfl, rfl⟩ := he
            obtain ⟨g, q, rfl, hlb, hcut⟩ := hc6 (by simp; omega)
            have hcutk := hcut i (row8 cl[i].val) (by simp [hli])
            have hsz := HB.out.size
            have hgr : g < wr.heap.size := by omega
            have hkm : cl[i] ∈ cl := List.getElem_mem hli
            generalize cl[i] = k at *
            have hk25 := k.len
            have hob : findE out k = findE b k := by rw [HFO.out]; exact three_mine (HCC.out k hkm)
            have hfb : ∀ W, Below w8.heap.size w8 W → Gives Try.prog 9 #[v2, .agg (row8 k.val)] W (.agg (cellA (findE b k))) := fun W h => findM_gives b k v2 W (by omega) ((HX2.out.below h).more h.size)
            have hfo : ∀ W, Below w8.heap.size w8 W → Gives Try.prog 9 #[v6, .agg (row8 k.val)] W (.agg (cellA (findE out k))) := fun W h => findM_gives out k v6 W (by omega) ((HX6.out.below h).more h.size)
            rw [hob] at hfo
            generalize findE b k = B at *
            have HFB := Lib.hid hfb
            have HFX := Lib.hid hfo
            clear hfb hfo hob hkm hcut hc6
            go_wp2_with fail
            apply wp_region_specs (by rfl) [.val _, .val _, .val _, .val _, .val _, .val _, .val _, .val _, .val _, .val _, .val _, .val _, .val _] 13 (by rfl) [125, 126, 127, 128, 129, 130, 131, 132, 133, 134, 135, 136, 137] [] [] (by rfl) (by rfl) (by decide) (by decide +kernel) (fun _ _ _ _ _ h => h)
            case hF => intro x; simp only [over, List.foldl_cons, List.foldl_nil, List.setIfInBounds_toArray, List.set_cons_succ, List.set_cons_zero]; exact rfl
            case hops =>
              refine ⟨?o0, ?o1, ?o2, ?o3, ?o4, ?o5, ?o6, ?o7, ?o8, ?o9, ?o10, ?o11, ?o12, trivial⟩
              case o0 =>
                intro x w1 hH K hK
                obtain ⟨xs, d, rfl⟩ := grow_of_below hH.below
                clear hH
                try simp only [World.grow_drew] at hK ⊢
                try simp only [World.grow_grow] at hK ⊢
                go_simp
                go_wp2_with fail
                exact ⟨_, rfl, rfl, (by repeat (first | exact below_of_grow _ _ | exact Below.refl _ _ | exact below_more _ _ _ _ | (simp only [← Array.append_assoc]; first | exact below_more _ _ _ _ | exact below_same _ _ _ | exact Below.refl _ _) | exact below_same _ _ _ | (refine Below.alloc ?_ (by first | (simp; done) | (simp; omega)) _) | (refine Below.grow ?_ (by first | (simp; done) | (simp; omega)) _ _) | refine Below.drew ?_ | refine Below.drewN ?_ _ | (refine Below.putF ?_ (by first | (simp; done) | omega | (simp; omega)) _) | (refine Below.setCell ?_ (by first | (simp; done) | (simp; omega)) _))), fun h => by cases h⟩
              case o1 =>
                intro x w1 hH K hK
                obtain ⟨xs, d, rfl⟩ := grow_of_below hH.below
                clear hH
                try simp only [World.grow_drew] at hK ⊢
                try simp only [World.grow_grow] at hK ⊢
                go_simp
                go_wp2_with fail
                exact ⟨_, rfl, rfl, (by repeat (first | exact below_of_grow _ _ | exact Below.refl _ _ | exact below_more _ _ _ _ | (simp only [← Array.append_assoc]; first | exact below_more _ _ _ _ | exact below_same _ _ _ | exact Below.refl _ _) | exact below_same _ _ _ | (refine Below.alloc ?_ (by first | (simp; done) | (simp; omega)) _) | (refine Below.grow ?_ (by first | (simp; done) | (simp; omega)) _ _) | refine Below.drew ?_ | refine Below.drewN ?_ _ | (refine Below.putF ?_ (by first | (simp; done) | omega | (simp; omega)) _) | (refine Below.setCell ?_ (by first | (simp; done) | (simp; omega)) _))), fun h => by cases h⟩
              case o2 =>
                intro x w1 hH K hK
                obtain ⟨xs, d, rfl⟩ := grow_of_below hH.below
                clear hH
                try simp only [World.grow_drew] at hK ⊢
                try simp only [World.grow_grow] at hK ⊢
                go_simp
                go_wp2_with fail
                exact ⟨_, rfl, rfl, (by repeat (first | exact below_of_grow _ _ | exact Below.refl _ _ | exact below_more _ _ _ _ | (simp only [← Array.append_assoc]; first | exact below_more _ _ _ _ | exact below_same _ _ _ | exact Below.refl _ _) | exact below_same _ _ _ | (refine Below.alloc ?_ (by first | (simp; done) | (simp; omega)) _) | (refine Below.grow ?_ (by first | (simp; done) | (simp; omega)) _ _) | refine Below.drew ?_ | refine Below.drewN ?_ _ | (refine Below.putF ?_ (by first | (simp; done) | omega | (simp; omega)) _) | (refine Below.setCell ?_ (by first | (simp; done) | (simp; omega)) _))), fun h => by cases h⟩
              case o3 =>
                intro x w1 hH K hK
                have e126 : x 126 = _ := hH.holds 1 (by decide) (by decide +kernel) 126 rfl
                have e127 : x 127 = _ := hH.holds 2 (by decide) (by decide +kernel) 127 rfl
                obtain ⟨xs, d, rfl⟩ := grow_of_below hH.below
                clear hH
                try simp only [World.grow_drew] at hK ⊢
                try simp only [World.grow_grow] at hK ⊢
                simp only [e126, e127] at hK ⊢
                clear e126 e127
                go_simp
                go_wp2_with fail
                exact ⟨_, rfl, rfl, (by repeat (first | exact below_of_grow _ _ | exact Below.refl _ _ | exact below_more _ _ _ _ | (simp only [← Array.append_assoc]; first | exact below_more _ _ _ _ | exact below_same _ _ _ | exact Below.refl _ _) | exact below_same _ _ _ | (refine Below.alloc ?_ (by first | (simp; done) | (simp; omega)) _) | (refine Below.grow ?_ (by first | (simp; done) | (simp; omega)) _ _) | refine Below.drew ?_ | refine Below.drewN ?_ _ | (refine Below.putF ?_ (by first | (simp; done) | omega | (simp; omega)) _) | (refine Below.setCell ?_ (by first | (simp; done) | (simp; omega)) _))), fun h => by cases h⟩
              case o4 =>
                intro x w1 hH K hK
                have e128 : x 128 = _ := hH.holds 3 (by decide) (by decide +kernel) 128 rfl
                obtain ⟨xs, d, rfl⟩ := grow_of_below hH.below
                clear hH
                try simp only [World.grow_drew] at hK ⊢
                try simp only [World.grow_grow] at hK ⊢
                simp only [e128] at hK ⊢
                clear e128
                go_simp
                go_wp2_with fail
                exact ⟨_, rfl, rfl, (by repeat (first | exact below_of_grow _ _ | exact Below.refl _ _ | exact below_more _ _ _ _ | (simp only [← Array.append_assoc]; first | exact below_more _ _ _ _ | exact below_same _ _ _ | exact Below.refl _ _) | exact below_same _ _ _ | (refine Below.alloc ?_ (by first | (simp; done) | (simp; omega)) _) | (refine Below.grow ?_ (by first | (simp; done) | (simp; omega)) _ _) | refine Below.drew ?_ | refine Below.drewN ?_ _ | (refine Below.putF ?_ (by first | (simp; done) | omega | (simp; omega)) _) | (refine Below.setCell ?_ (by first | (simp; done) | (simp; omega)) _))), fun h => by cases h⟩
              case o5 =>
                intro x w1 hH K hK
                have e125 : x 125 = _ := hH.holds 0 (by decide) (by decide +kernel) 125 rfl
                have e129 : x 129 = _ := hH.holds 4 (by decide) (by decide +kernel) 129 rfl
                obtain ⟨xs, d, rfl⟩ := grow_of_below hH.below
                clear hH
                try simp only [World.grow_drew] at hK ⊢
                try simp only [World.grow_grow] at hK ⊢
                simp only [e125, e129] at hK ⊢
                clear e125 e129
                go_simp
                go_wp2_with (refine Gives.use (HFX.out _ (HB.out.grow hsz _ _)) ?_; intro ys e)
                exact ⟨_, rfl, rfl, (by first | exact below_more _ _ _ _ | exact (by repeat (first | exact below_of_grow _ _ | exact Below.refl _ _ | exact below_more _ _ _ _ | (simp only [← Array.append_assoc]; first | exact below_more _ _ _ _ | exact below_same _ _ _ | exact Below.refl _ _) | exact below_same _ _ _ | (refine Below.alloc ?_ (by first | (simp; done) | (simp; omega)) _) | (refine Below.grow ?_ (by first | (simp; done) | (simp; omega)) _ _) | refine Below.drew ?_ | refine Below.drewN ?_ _ | (refine Below.putF ?_ (by first | (simp; done) | omega | (simp; omega)) _) | (refine Below.setCell ?_ (by first | (simp; done) | (simp; omega)) _)))), fun h => by cases h⟩
              case o6 =>
                intro x w1 hH K hK
                obtain ⟨xs, d, rfl⟩ := grow_of_below hH.below
                clear hH
                try simp only [World.grow_drew] at hK ⊢
                try simp only [World.grow_grow] at hK ⊢
                go_simp
                go_wp2_with fail
                exact ⟨_, rfl, rfl, (by repeat (first | exact below_of_grow _ _ | exact Below.refl _ _ | exact below_more _ _ _ _ | (simp only [← Array.append_assoc]; first | exact below_more _ _ _ _ | exact below_same _ _ _ | exact Below.refl _ _) | exact below_same _ _ _ | (refine Below.alloc ?_ (by first | (simp; done) | (simp; omega)) _) | (refine Below.grow ?_ (by first | (simp; done) | (simp; omega)) _ _) | refine Below.drew ?_ | refine Below.drewN ?_ _ | (refine Below.putF ?_ (by first | (simp; done) | omega | (simp; omega)) _) | (refine Below.setCell ?_ (by first | (simp; done) | (simp; omega)) _))), fun h => by cases h⟩
              case o7 =>
                intro x w1 hH K hK
                obtain ⟨xs, d, rfl⟩ := grow_of_below hH.below
                clear hH
                try simp only [World.grow_drew] at hK ⊢
                try simp only [World.grow_grow] at hK ⊢
                go_simp
                go_wp2_with fail
                exact ⟨_, rfl, rfl, (by repeat (first | exact below_of_grow _ _ | exact Below.refl _ _ | exact below_more _ _ _ _ | (simp only [← Array.append_assoc]; first | exact below_more _ _ _ _ | exact below_same _ _ _ | exact Below.refl _ _) | exact below_same _ _ _ | (refine Below.alloc ?_ (by first | (simp; done) | (simp; omega)) _) | (refine Below.grow ?_ (by first | (simp; done) | (simp; omega)) _ _) | refine Below.drew ?_ | refine Below.drewN ?_ _ | (refine Below.putF ?_ (by first | (simp; done) | omega | (simp; omega)) _) | (refine Below.setCell ?_ (by first | (simp; done) | (simp; omega)) _))), fun h => by cases h⟩
              case o8 =>
                intro x w1 hH K hK
                obtain ⟨xs, d, rfl⟩ := grow_of_below hH.below
                clear hH
                try simp only [World.grow_drew] at hK ⊢
                try simp only [World.grow_grow] at hK ⊢
                go_simp
                go_wp2_with fail
                exact ⟨_, rfl, rfl, (by repeat (first | exact below_of_grow _ _ | exact Below.refl _ _ | exact below_more _ _ _ _ | (simp only [← Array.append_assoc]; first | exact below_more _ _ _ _ | exact below_same _ _ _ | exact Below.refl _ _) | exact below_same _ _ _ | (refine Below.alloc ?_ (by first | (simp; done) | (simp; omega)) _) | (refine Below.grow ?_ (by first | (simp; done) | (simp; omega)) _ _) | refine Below.drew ?_ | refine Below.drewN ?_ _ | (refine Below.putF ?_ (by first | (simp; done) | omega | (simp; omega)) _) | (refine Below.setCell ?_ (by first | (simp; done) | (simp; omega)) _))), fun h => by cases h⟩
              case o9 =>
                intro x w1 hH K hK
                have e132 : x 132 = _ := hH.holds 7 (by decide) (by decide +kernel) 132 rfl
                have e133 : x 133 = _ := hH.holds 8 (by decide) (by decide +kernel) 133 rfl
                obtain ⟨xs, d, rfl⟩ := grow_of_below hH.below
                clear hH
                try simp only [World.grow_drew] at hK ⊢
                try simp only [World.grow_grow] at hK ⊢
                simp only [e132, e133] at hK ⊢
                clear e132 e133
                go_simp
                go_wp2_with fail
                exact ⟨_, rfl, rfl, (by repeat (first | exact below_of_grow _ _ | exact Below.refl _ _ | exact below_more _ _ _ _ | (simp only [← Array.append_assoc]; first | exact below_more _ _ _ _ | exact below_same _ _ _ | exact Below.refl _ _) | exact below_same _ _ _ | (refine Below.alloc ?_ (by first | (simp; done) | (simp; omega)) _) | (refine Below.grow ?_ (by first | (simp; done) | (simp; omega)) _ _) | refine Below.drew ?_ | refine Below.drewN ?_ _ | (refine Below.putF ?_ (by first | (simp; done) | omega | (simp; omega)) _) | (refine Below.setCell ?_ (by first | (simp; done) | (simp; omega)) _))), fun h => by cases h⟩
              case o10 =>
                intro x w1 hH K hK
                have e134 : x 134 = _ := hH.holds 9 (by decide) (by decide +kernel) 134 rfl
                obtain ⟨xs, d, rfl⟩ := grow_of_below hH.below
                clear hH
                try simp only [World.grow_drew] at hK ⊢
                try simp only [World.grow_grow] at hK ⊢
                simp only [e134] at hK ⊢
                clear e134
                go_simp
                go_wp2_with fail
                exact ⟨_, rfl, rfl, (by repeat (first | exact below_of_grow _ _ | exact Below.refl _ _ | exact below_more _ _ _ _ | (simp only [← Array.append_assoc]; first | exact below_more _ _ _ _ | exact below_same _ _ _ | exact Below.refl _ _) | exact below_same _ _ _ | (refine Below.alloc ?_ (by first | (simp; done) | (simp; omega)) _) | (refine Below.grow ?_ (by first | (simp; done) | (simp; omega)) _ _) | refine Below.drew ?_ | refine Below.drewN ?_ _ | (refine Below.putF ?_ (by first | (simp; done) | omega | (simp; omega)) _) | (refine Below.setCell ?_ (by first | (simp; done) | (simp; omega)) _))), fun h => by cases h⟩
              case o11 =>
                intro x w1 hH K hK
                have e131 : x 131 = _ := hH.holds 6 (by decide) (by decide +kernel) 131 rfl
                have e135 : x 135 = _ := hH.holds 10 (by decide) (by decide +kernel) 135 rfl
                obtain ⟨xs, d, rfl⟩ := grow_of_below hH.below
                clear hH
                try simp only [World.grow_drew] at hK ⊢
                try simp only [World.grow_grow] at hK ⊢
                simp only [e131, e135] at hK ⊢
                clear e131 e135
                go_simp
                go_wp2_with (refine Gives.use (HFB.out _ (HB.out.grow hsz _ _)) ?_; intro ys e)
                exact ⟨_, rfl, rfl, (by first | exact below_more _ _ _ _ | exact (by repeat (first | exact below_of_grow _ _ | exact Below.refl _ _ | exact below_more _ _ _ _ | (simp only [← Array.append_assoc]; first | exact below_more _ _ _ _ | exact below_same _ _ _ | exact Below.refl _ _) | exact below_same _ _ _ | (refine Below.alloc ?_ (by first | (simp; done) | (simp; omega)) _) | (refine Below.grow ?_ (by first | (simp; done) | (simp; omega)) _ _) | refine Below.drew ?_ | refine Below.drewN ?_ _ | (refine Below.putF ?_ (by first | (simp; done) | omega | (simp; omega)) _) | (refine Below.setCell ?_ (by first | (simp; done) | (simp; omega)) _)))), fun h => by cases h⟩
              case o12 =>
                intro x w1 hH K hK
                have e130 : x 130 = _ := hH.holds 5 (by decide) (by decide +kernel) 130 rfl
                have e136 : x 136 = _ := hH.holds 11 (by decide) (by decide +kernel) 136 rfl
                obtain ⟨xs, d, rfl⟩ := grow_of_below hH.below
                clear hH
                try simp only [World.grow_drew] at hK ⊢
                try simp only [World.grow_grow] at hK ⊢
                simp only [e130, e136] at hK ⊢
                clear e130 e136
                go_simp
                go_wp2_with fail
                exact ⟨_, rfl, rfl, (by repeat (first | exact below_of_grow _ _ | exact Below.refl _ _ | exact below_more _ _ _ _ | (simp only [← Array.append_assoc]; first | exact below_more _ _ _ _ | exact below_same _ _ _ | exact Below.refl _ _) | exact below_same _ _ _ | (refine Below.alloc ?_ (by first | (simp; done) | (simp; omega)) _) | (refine Below.grow ?_ (by first | (simp; done) | (simp; omega)) _ _) | refine Below.drew ?_ | refine Below.drewN ?_ _ | (refine Below.putF ?_ (by first | (simp; done) | omega | (simp; omega)) _) | (refine Below.setCell ?_ (by first | (simp; done) | (simp; omega)) _))), fun h => by cases h⟩
            case hend =>
              intro x w1 hH
              have e125 : x 125 = _ := hH.holds 0 (by decide) trivial 125 rfl
              have e126 : x 126 = _ := hH.holds 1 (by decide) trivial 126 rfl
              have e127 : x 127 = _ := hH.holds 2 (by decide) trivial 127 rfl
              have e128 : x 128 = _ := hH.holds 3 (by decide) trivial 128 rfl
              have e129 : x 129 = _ := hH.holds 4 (by decide) trivial 129 rfl
              have e130 : x 130 = _ := hH.holds 5 (by decide) trivial 130 rfl
              have e131 : x 131 = _ := hH.holds 6 (by decide) trivial 131 rfl
              have e132 : x 132 = _ := hH.holds 7 (by decide) trivial 132 rfl
              have e133 : x 133 = _ := hH.holds 8 (by decide) trivial 133 rfl
              have e134 : x 134 = _ := hH.holds 9 (by decide) trivial 134 rfl
              have e135 : x 135 = _ := hH.holds 10 (by decide) trivial 135 rfl
              have e136 : x 136 = _ := hH.holds 11 (by decide) trivial 136 rfl
              have e137 : x 137 = _ := hH.holds 12 (by decide) trivial 137 rfl
              obtain ⟨xs, d, rfl⟩ := grow_of_below hH.below
              clear hH
              simp only [e125, e126, e127, e128, e129, e130, e131, e132, e133, e134, e135, e136, e137]; clear e125 e126 e127 e128 e129 e130 e131 e132 e133 e134 e135 e136 e137
              simp only [List.drop_succ_cons, List.drop_nil]
              go_wp2_with fail
              go_roundw
              case rel => exact ⟨i + 1, by omega, by go_num, Lib.hid (HB.out.grow hsz _ _)⟩
              case measure => simp [intOf]; omega
          · have hie : i = cl.length := by omega
            subst hie
            have hgn : ¬ (cl.length : Int) < cl.length := by omega
            go_wp2_with fail
            go_meet
            exact HB
      · have hnf : (n == 1) = false := by simpa using hn1
        clear hn1
        go_wp2_with fail
        go_meet
        exact HBX
    case rest =>
      obtain ⟨Y, rfl⟩ : ∃ Y, Y = wc := ⟨_, rfl⟩
      have hBY := hcut.out
      clear hcut HBX HFO HCC
      have hsY := hBY.size
      have e1 := lists_theirs_base c out 0 (by omega)
      obtain ⟨ws2, e2, e3⟩ := lists_ours_base a c HSA.out HSC.out 0 (by omega)
      have e4 := lists_theirs_base a b 0 (by omega)
      have hl2 := lists_len a a c 0
      rw [e2] at hl2
      simp only at hl2
      have E3 := Lib.hid e3
      have hc1 := lists_calls c out c v3 v6 v3 0 Y (by omega) (by omega) (by omega) ((HX3.out.below hBY).more hsY) ((HX6.out.below hBY).more hsY) ((HX3.out.below hBY).more hsY)
      rw [e1] at hc1
      have HC1 := Lib.hid hc1
      have HBY := Lib.hid hBY
      clear hc1 e1 hBY e3
      go_wp2_with fail
      refine HC1.out.mono ?_
      clear HC1
      rintro e w10 ⟨v10, v11, rfl, hb10, ho10, ho11⟩
      obtain ⟨a10, cap10, rfl, _, _⟩ := ho10.form
      obtain ⟨a11, cap11, rfl, _, _⟩ := ho11.form
      simp only [List.map_nil, List.length_nil] at *
      have hB10 := HBY.out.trans (hb10.mono hsY)
      have hs10 := hB10.size
      have hc2 := lists_calls a a c v1 v1 v3 0 w10 (by omega) (by omega) (by omega) ((HX1.out.below hB10).more hs10) ((HX1.out.below hB10).more hs10) ((HX3.out.below hB10).more hs10)
      rw [e2] at hc2
      have HC2 := Lib.hid hc2
      have HB10 := Lib.hid hB10
      clear hc2 e2 hB10 hb10 ho10 ho11 HBY hsY
      go_wp2_with fail
      refine HC2.out.mono ?_
      clear HC2
      rintro e w11 ⟨v12, v13, rfl, hb11, ho12, ho13⟩
      obtain ⟨a13, cap13, rfl, _, _⟩ := ho13.form
      simp only [List.map_nil, List.length_nil] at *
      have hB11 := HB10.out.trans (hb11.mono hs10)
      have hs11 := hB11.size
      have hc3 := lists_calls a b a v1 v2 v1 0 w11 (by omega) (by omega) (by omega) ((HX1.out.below hB11).more hs11) ((HX2.out.below hB11).more hs11) ((HX1.out.below hB11).more hs11)
      rw [e4] at hc3
      have HC3 := Lib.hid hc3
      have HB11 := Lib.hid hB11
      have HS12 := Lib.hid ho12.sl
      clear hc3 e4 hB11 hb11 ho12 ho13 HB10 hs10
      go_wp2_with fail
      refine HC3.out.mono ?_
      clear HC3
      rintro e w12 ⟨v14, v15, rfl, hb12, ho14, ho15⟩
      obtain ⟨a14, cap14, rfl, _, _⟩ := ho14.form
      obtain ⟨a15, cap15, rfl, _, _⟩ := ho15.form
      simp only [List.map_nil, List.length_nil] at *
      have hB12 := HB11.out.trans (hb12.mono hs11)
      have hs12 := hB12.size
      have HY12 := Lib.hid ((HS12.out.below hb12).more hb12.size)
      have HY1 := Lib.hid ((HX1.out.below hB12).more hs12)
      have HY3 := Lib.hid ((HX3.out.below hB12).more hs12)
      have HBW := Lib.hid (HB9.out.trans (hB12.mono HB9.out.size))
      clear hb12 ho14 ho15 hB12 HB11 HS12 hs11 hs12 HX1 HX2 HX3 HX5 HX6 HB9
      have hkn := known24_gives
      have HKN := Lib.hid hkn
      clear hkn
      go_wp2_with fail
      refine Gives.use (HKN.out _) ?_
      intro xk dk
      go_wp2_with fail
      have hbk : Below w12.heap.size w12 (w12.grow xk dk) := below_of_grow _ _
      refine (over_calls a ws2 v1 v12 _ (by omega) (by omega) ((HY1.out.below hbk).more hbk.size) ((HY12.out.below hbk).more hbk.size)).mono ?_
      rw [E3.out]
      rintro e w13 ⟨v16, rfl, hb13, ho16⟩
      have hb1k := hbk.trans (hb13.mono hbk.size)
      have HB1K := Lib.hid hb1k
      have HS16 := Lib.hid ho16.sl
      clear hbk hb13 ho16 hb1k
      go_wp2_with fail
      refine (ofs_calls c v3 _ (by omega) ((HY3.out.below HB1K.out).more HB1K.out.size)).mono ?_
      rintro e w14 ⟨v17, rfl, hb14, ho17⟩
      have HS16' := Lib.hid ((HS16.out.below hb14).more hb14.size)
      have HS17 := Lib.hid ho17.sl
      have HB14 := Lib.hid (HBW.out.trans ((HB1K.out.trans (hb14.mono HB1K.out.size)).mono HBW.out.size))
      clear hb14 ho17 HB1K HS16
      go_wp2_with fail
      refine Gives.use (same_gives c c true (by simp) v16 v17 _ (by omega) (by omega) HS16'.out HS17.out) ?_
      intro xe de
      go_wp2_with fail
      go_ret
      exact ⟨congrArg Ending.returned (by simp), HB14.out.grow HB14.out.size _ _⟩
end Go.Proofs.Ytbflpnkodpeggaa.Dp

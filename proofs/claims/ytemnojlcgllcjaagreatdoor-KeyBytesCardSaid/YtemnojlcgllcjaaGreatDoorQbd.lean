/- Layers 5 and 6: the tag of bytes, the key of bytes; the document's digits. -/
import Derived.Test.YtemnojlcgllcjaaGreatDoorQah
import Derived.Test.YtemnojlcgllcjaaGreatDoorQax
import Derived.Test.YtemnojlcgllcjaaGreatDoorQab
import Derived.Handy
import Derived.Test.YtemnojlcgllcjaaGreatDoorQaw
import Derived.Test.YtemnojlcgllcjaaGreatDoorQam
namespace Go.Proofs.YtemnojlcgllcjaaGreatDoor
set_option maxRecDepth 100000
open Go.RowKit

/-- the error of the tag of bytes -/
def tagErr (t : List UInt8) : Int := if tagRight t = true then 0 else 14
def tagGot (t : List UInt8) : List UInt8 := if tagRight t = true then t else zeros 10
set_option maxHeartbeats 4000000 in
theorem tagOf_gives (t : List UInt8) (ht : t.length = 10) (w : World) : Gives Tryz.prog 106 #[.agg (row8 t)] w (.tuple #[.agg (row8 (tagGot t)), .int .i64 (tagErr t)]) := by
  have hs := tag_spl t ht
  have HR := Lib.hid (tagRight_gives t ht)
  obtain ⟨tg, htg⟩ : ∃ x, x = tagGot t := ⟨_, rfl⟩
  obtain ⟨te, hte⟩ : ∃ x, x = tagErr t := ⟨_, rfl⟩
  rw [← htg, ← hte]
  have HG := Lib.hid htg
  have HE := Lib.hid hte
  have HS := Lib.hid hs
  clear htg hte hs
  unfold Gives
  go_enter Tryz.func106, Tryz.ntmps106
  go_wp2_with fail
  apply wp_region_specs (by rfl) [.val _, .val _, .val _] 3 (by rfl) [5, 6, 7] [] [] (by rfl) (by rfl) (by decide) (by decide +kernel) (fun _ _ _ _ _ h => h)
  case hF => intro x; simp only [over, List.foldl_cons, List.foldl_nil, List.setIfInBounds_toArray, List.set_cons_succ, List.set_cons_zero]; exact rfl
  case hops =>
    refine ⟨?o0, ?o1, ?o2, trivial⟩
    case o0 =>
      intro x w1 hH K hK
      obtain ⟨xs, d, rfl⟩ := grow_of_below hH.below
      clear hH
      try simp only [World.grow_drew] at hK ⊢
      try simp only [World.grow_grow] at hK ⊢
      go_simp
      go_wp2_with fail
      exact ⟨_, rfl, rfl, (by repeat (first | exact below_of_grow _ _ | exact Below.refl _ _ | exact below_more _ _ _ _ | (simp only [← Array.append_assoc]; first | exact below_more _ _ _ _ | exact below_same _ _ _ | exact Below.refl _ _) | exact below_same _ _ _ | (refine Below.alloc ?_ (by first | (simp; done) | (simp; omega)) _) | (refine Below.grow ?_ (by first | (simp; done) | (simp; omega)) _ _) | refine Below.drew ?_ | refine Below.drewN ?_ _ | (refine Below.putF ?_ (by first | (simp; done) | omega | (simp; omega)) _) | (refine Below.setCell ?_ (by first | (simp; done) | (simp; omega)) _))), fun h => by cases h⟩
    case o1 =>
      intro x w1 hH K hK
      have e5 : x 5 = _ := hH.holds 0 (by decide) (by decide +kernel) 5 rfl
      obtain ⟨xs, d, rfl⟩ := grow_of_below hH.below
      clear hH
      try simp only [World.grow_drew] at hK ⊢
      try simp only [World.grow_grow] at hK ⊢
      simp only [e5] at hK ⊢
      clear e5
      go_simp
      go_wp2_with fail
      exact ⟨_, rfl, rfl, (by repeat (first | exact below_of_grow _ _ | exact Below.refl _ _ | exact below_more _ _ _ _ | (simp only [← Array.append_assoc]; first | exact below_more _ _ _ _ | exact below_same _ _ _ | exact Below.refl _ _) | exact below_same _ _ _ | (refine Below.alloc ?_ (by first | (simp; done) | (simp; omega)) _) | (refine Below.grow ?_ (by first | (simp; done) | (simp; omega)) _ _) | refine Below.drew ?_ | refine Below.drewN ?_ _ | (refine Below.putF ?_ (by first | (simp; done) | omega | (simp; omega)) _) | (refine Below.setCell ?_ (by first | (simp; done) | (simp; omega)) _))), fun h => by cases h⟩
    case o2 =>
      intro x w1 hH K hK
      obtain ⟨xs, d, rfl⟩ := grow_of_below hH.below
      clear hH
      try simp only [World.grow_drew] at hK ⊢
      try simp only [World.grow_grow] at hK ⊢
      go_simp
      go_wp2_with fail
      exact ⟨_, rfl, rfl, (by repeat (first | exact below_of_grow _ _ | exact Below.refl _ _ | exact below_more _ _ _ _ | (simp only [← Array.append_assoc]; first | exact below_more _ _ _ _ | exact below_same _ _ _ | exact Below.refl _ _) | exact below_same _ _ _ | (refine Below.alloc ?_ (by first | (simp; done) | (simp; omega)) _) | (refine Below.grow ?_ (by first | (simp; done) | (simp; omega)) _ _) | refine Below.drew ?_ | refine Below.drewN ?_ _ | (refine Below.putF ?_ (by first | (simp; done) | omega | (simp; omega)) _) | (refine Below.setCell ?_ (by first | (simp; done) | (simp; omega)) _))), fun h => by cases h⟩
  case hend =>
    intro x w1 hH
    have e5 : x 5 = _ := hH.holds 0 (by decide) trivial 5 rfl
    have e6 : x 6 = _ := hH.holds 1 (by decide) trivial 6 rfl
    have e7 : x 7 = _ := hH.holds 2 (by decide) trivial 7 rfl
    obtain ⟨xs, d, rfl⟩ := grow_of_below hH.below
    clear hH
    simp only [e5, e6, e7]; clear e5 e6 e7
    simp only [List.drop_succ_cons, List.drop_zero]
    go_wp2_with fail
    apply wp_region_specs (by rfl) [.val _, .val _, .val _] 3 (by rfl) [9, 10, 11] [] [] (by rfl) (by rfl) (by decide) (by decide +kernel) (fun _ _ _ _ _ h => h)
    case hF => intro x; simp only [over, List.foldl_cons, List.foldl_nil, List.setIfInBounds_toArray, List.set_cons_succ, List.set_cons_zero]; exact rfl
    case hops =>
      refine ⟨?o0, ?o1, ?o2, trivial⟩
      case o0 =>
        intro x w1 hH K hK
        obtain ⟨xs, d, rfl⟩ := grow_of_below hH.below
        clear hH
        try simp only [World.grow_drew] at hK ⊢
        try simp only [World.grow_grow] at hK ⊢
        go_simp
        go_wp2_with fail
        exact ⟨_, rfl, rfl, (by repeat (first | exact below_of_grow _ _ | exact Below.refl _ _ | exact below_more _ _ _ _ | (simp only [← Array.append_assoc]; first | exact below_more _ _ _ _ | exact below_same _ _ _ | exact Below.refl _ _) | exact below_same _ _ _ | (refine Below.alloc ?_ (by first | (simp; done) | (simp; omega)) _) | (refine Below.grow ?_ (by first | (simp; done) | (simp; omega)) _ _) | refine Below.drew ?_ | refine Below.drewN ?_ _ | (refine Below.putF ?_ (by first | (simp; done) | omega | (simp; omega)) _) | (refine Below.setCell ?_ (by first | (simp; done) | (simp; omega)) _))), fun h => by cases h⟩
      case o1 =>
        intro x w1 hH K hK
        have e9 : x 9 = _ := hH.holds 0 (by decide) (by decide +kernel) 9 rfl
        obtain ⟨xs, d, rfl⟩ := grow_of_below hH.below
        clear hH
        try simp only [World.grow_drew] at hK ⊢
        try simp only [World.grow_grow] at hK ⊢
        simp only [e9] at hK ⊢
        clear e9
        go_simp
        go_wp2_with fail
        exact ⟨_, rfl, rfl, (by repeat (first | exact below_of_grow _ _ | exact Below.refl _ _ | exact below_more _ _ _ _ | (simp only [← Array.append_assoc]; first | exact below_more _ _ _ _ | exact below_same _ _ _ | exact Below.refl _ _) | exact below_same _ _ _ | (refine Below.alloc ?_ (by first | (simp; done) | (simp; omega)) _) | (refine Below.grow ?_ (by first | (simp; done) | (simp; omega)) _ _) | refine Below.drew ?_ | refine Below.drewN ?_ _ | (refine Below.putF ?_ (by first | (simp; done) | omega | (simp; omega)) _) | (refine Below.setCell ?_ (by first | (simp; done) | (simp; omega)) _))), fun h => by cases h⟩
      case o2 =>
        intro x w1 hH K hK
        obtain ⟨xs, d, rfl⟩ := grow_of_below hH.below
        clear hH
        try simp only [World.grow_drew] at hK ⊢
        try simp only [World.grow_grow] at hK ⊢
        go_simp
        go_wp2_with fail
        exact ⟨_, rfl, rfl, (by repeat (first | exact below_of_grow _ _ | exact Below.refl _ _ | exact below_more _ _ _ _ | (simp only [← Array.append_assoc]; first | exact below_more _ _ _ _ | exact below_same _ _ _ | exact Below.refl _ _) | exact below_same _ _ _ | (refine Below.alloc ?_ (by first | (simp; done) | (simp; omega)) _) | (refine Below.grow ?_ (by first | (simp; done) | (simp; omega)) _ _) | refine Below.drew ?_ | refine Below.drewN ?_ _ | (refine Below.putF ?_ (by first | (simp; done) | omega | (simp; omega)) _) | (refine Below.setCell ?_ (by first | (simp; done) | (simp; omega)) _))), fun h => by cases h⟩
    case hend =>
      intro x w1 hH
      have e9 : x 9 = _ := hH.holds 0 (by decide) trivial 9 rfl
      have e10 : x 10 = _ := hH.holds 1 (by decide) trivial 10 rfl
      have e11 : x 11 = _ := hH.holds 2 (by decide) trivial 11 rfl
      obtain ⟨xs, d, rfl⟩ := grow_of_below hH.below
      clear hH
      simp only [e9, e10, e11]; clear e9 e10 e11
      simp only [List.drop_succ_cons, List.drop_zero]
      go_wp2_with fail
      apply wp_region_specs (by rfl) [.val _, .val _, .val _] 3 (by rfl) [13, 14, 15] [] [] (by rfl) (by rfl) (by decide) (by decide +kernel) (fun _ _ _ _ _ h => h)
      case hF => intro x; simp only [over, List.foldl_cons, List.foldl_nil, List.setIfInBounds_toArray, List.set_cons_succ, List.set_cons_zero]; exact rfl
      case hops =>
        refine ⟨?o0, ?o1, ?o2, trivial⟩
        case o0 =>
          intro x w1 hH K hK
          obtain ⟨xs, d, rfl⟩ := grow_of_below hH.below
          clear hH
          try simp only [World.grow_drew] at hK ⊢
          try simp only [World.grow_grow] at hK ⊢
          go_simp
          go_wp2_with fail
          exact ⟨_, rfl, rfl, (by repeat (first | exact below_of_grow _ _ | exact Below.refl _ _ | exact below_more _ _ _ _ | (simp only [← Array.append_assoc]; first | exact below_more _ _ _ _ | exact below_same _ _ _ | exact Below.refl _ _) | exact below_same _ _ _ | (refine Below.alloc ?_ (by first | (simp; done) | (simp; omega)) _) | (refine Below.grow ?_ (by first | (simp; done) | (simp; omega)) _ _) | refine Below.drew ?_ | refine Below.drewN ?_ _ | (refine Below.putF ?_ (by first | (simp; done) | omega | (simp; omega)) _) | (refine Below.setCell ?_ (by first | (simp; done) | (simp; omega)) _))), fun h => by cases h⟩
        case o1 =>
          intro x w1 hH K hK
          have e13 : x 13 = _ := hH.holds 0 (by decide) (by decide +kernel) 13 rfl
          obtain ⟨xs, d, rfl⟩ := grow_of_below hH.below
          clear hH
          try simp only [World.grow_drew] at hK ⊢
          try simp only [World.grow_grow] at hK ⊢
          simp only [e13] at hK ⊢
          clear e13
          go_simp
          go_wp2_with fail
          exact ⟨_, rfl, rfl, (by repeat (first | exact below_of_grow _ _ | exact Below.refl _ _ | exact below_more _ _ _ _ | (simp only [← Array.append_assoc]; first | exact below_more _ _ _ _ | exact below_same _ _ _ | exact Below.refl _ _) | exact below_same _ _ _ | (refine Below.alloc ?_ (by first | (simp; done) | (simp; omega)) _) | (refine Below.grow ?_ (by first | (simp; done) | (simp; omega)) _ _) | refine Below.drew ?_ | refine Below.drewN ?_ _ | (refine Below.putF ?_ (by first | (simp; done) | omega | (simp; omega)) _) | (refine Below.setCell ?_ (by first | (simp; done) | (simp; omega)) _))), fun h => by cases h⟩
        case o2 =>
          intro x w1 hH K hK
          obtain ⟨xs, d, rfl⟩ := grow_of_below hH.below
          clear hH
          try simp only [World.grow_drew] at hK ⊢
          try simp only [World.grow_grow] at hK ⊢
          go_simp
          go_wp2_with fail
          exact ⟨_, rfl, rfl, (by repeat (first | exact below_of_grow _ _ | exact Below.refl _ _ | exact below_more _ _ _ _ | (simp only [← Array.append_assoc]; first | exact below_more _ _ _ _ | exact below_same _ _ _ | exact Below.refl _ _) | exact below_same _ _ _ | (refine Below.alloc ?_ (by first | (simp; done) | (simp; omega)) _) | (refine Below.grow ?_ (by first | (simp; done) | (simp; omega)) _ _) | refine Below.drew ?_ | refine Below.drewN ?_ _ | (refine Below.putF ?_ (by first | (simp; done) | omega | (simp; omega)) _) | (refine Below.setCell ?_ (by first | (simp; done) | (simp; omega)) _))), fun h => by cases h⟩
      case hend =>
        intro x w1 hH
        have e13 : x 13 = _ := hH.holds 0 (by decide) trivial 13 rfl
        have e14 : x 14 = _ := hH.holds 1 (by decide) trivial 14 rfl
        have e15 : x 15 = _ := hH.holds 2 (by decide) trivial 15 rfl
        obtain ⟨xs, d, rfl⟩ := grow_of_below hH.below
        clear hH
        simp only [e13, e14, e15]; clear e13 e14 e15
        simp only [List.drop_succ_cons, List.drop_zero]
        go_upto_region 5 with fail
        refine wp_name ?_
        intro W hW
        obtain ⟨q, hq⟩ : ∃ q, q = w.heap.size := ⟨_, rfl⟩
        have hbl : Below w.heap.size w W := by rw [hW]; exact (by repeat (first | exact below_of_grow _ _ | exact Below.refl _ _ | exact below_more _ _ _ _ | (simp only [← Array.append_assoc]; first | exact below_more _ _ _ _ | exact below_same _ _ _ | exact Below.refl _ _) | exact below_same _ _ _ | (refine Below.alloc ?_ (by first | (simp; done) | (simp; omega)) _) | (refine Below.grow ?_ (by first | (simp; done) | (simp; omega)) _ _) | refine Below.drew ?_ | refine Below.drewN ?_ _ | (refine Below.putF ?_ (by first | (simp; done) | omega | (simp; omega)) _) | (refine Below.setCell ?_ (by first | (simp; done) | (simp; omega)) _)))
        have h2 : W.heap[q + 2]? = some (.cells (row8 t) 37) := by
          rw [hW, World.grow_heap _ _ _ (by simp; omega), heap_al, if_pos (by simp; omega), HS.out]
        have h1 : W.heap[q + 1]? = some (.cells (row8 (zeros 10)) 37) := by
          rw [hW, World.grow_heap _ _ _ (by simp; omega), heap_al, if_neg (by simp; omega), heap_al, if_pos (by simp; omega)]
        have c2 := cut_heap h2 (sz := 10) (by simp [ht])
        have th : W.there? (q + 1) 0 10 = true := by simp [World.there?, h1, zeros]
        have l1 : q + 1 < W.heap.size := (Array.getElem?_eq_some_iff.1 h1).1
        have l2 : q + 2 < W.heap.size := (Array.getElem?_eq_some_iff.1 h2).1
        have e1 : w.heap.size + 1 = q + 1 := by omega
        simp only [e1]
        have hfin : ∀ (W' : World) (y : List UInt8), Below W.heap.size W W' → y.length = 10 → (W'.lay (q + 1) 0 (row8 y)).cut? (q + 1) 0 10 = some (row8 y) ∧ Below w.heap.size w (W'.lay (q + 1) 0 (row8 y)) ∧ W'.there? (q + 1) 0 10 = true := fun W' y hb hy => by
          have h5 := (hb.block (q + 1) l1).trans h1
          refine ⟨cut_heap (by simp only [World.lay, Array.getElem?_modify, h5, if_true, Option.map_some]; rw [splice_full (by simp [hy, zeros])]) (by simp [hy]), (hbl.trans (hb.mono hbl.size)).lay (by omega), by simp [World.there?, h5, zeros]⟩
        have HF := Lib.hid hfin
        clear hW hq hbl h2 h1 e1 hfin HS
        cases hr : tagRight t
        · rw [hr] at HR
          have h0 : tg = zeros 10 ∧ te = 14 := by rw [HG.out, HE.out]; unfold tagGot tagErr; rw [hr]; exact ⟨rfl, rfl⟩
          obtain ⟨rfl, rfl⟩ := h0
          clear hr HG HE
          go_wp2_with fail
          refine Gives.use (HR.out _) ?_
          intro ys e
          have hff := HF.out (W.grow ys e) (zeros 10) (below_of_grow _ _) (by simp [zeros])
          have hth := hff.2.2
          have HFF := Lib.hid hff
          clear hff
          go_upto_region 6 with fail
          obtain ⟨WC, hWC⟩ : ∃ WC, WC = W.grow ys e := ⟨_, rfl⟩
          rw [← hWC] at hth HFF ⊢
          clear hWC
          go_wp21
          refine bodyPost_ret (v := .tuple #[.agg (row8 (zeros 10)), .int .i64 14]) (results_two Tryz.results106 (ResIs.row rfl agg_tag ?_) ?_) rfl ⟨?_, ?_⟩
          · exact HFF.out.1
          · rfl
          · rfl
          · exact HFF.out.2.1
        · rw [hr] at HR
          have h0 : tg = t ∧ te = 0 := by rw [HG.out, HE.out]; unfold tagGot tagErr; rw [hr]; exact ⟨rfl, rfl⟩
          obtain ⟨rfl, rfl⟩ := h0
          clear hr HG HE
          go_wp2_with fail
          refine Gives.use (HR.out _) ?_
          intro ys e
          have hff := HF.out (W.grow ys e) tg (below_of_grow _ _) ht
          have hth := hff.2.2
          have HFF := Lib.hid hff
          have c5 : (W.grow ys e).cut? (q + 2) 0 10 = some (row8 tg) := (cut_of_heap (World.grow_heap _ _ _ l2) 0 10).trans c2
          clear hff
          go_upto_region 7 with fail
          obtain ⟨WC, hWC⟩ : ∃ WC, WC = W.grow ys e := ⟨_, rfl⟩
          rw [← hWC] at hth HFF c5 ⊢
          clear hWC
          go_wp21
          refine bodyPost_ret (v := .tuple #[.agg (row8 tg), .int .i64 0]) (results_two Tryz.results106 (ResIs.row rfl agg_tag ?_) ?_) rfl ⟨?_, ?_⟩
          · exact HFF.out.1
          · rfl
          · rfl
          · exact HFF.out.2.1
end Go.Proofs.YtemnojlcgllcjaaGreatDoor
namespace Go.Proofs.YtemnojlcgllcjaaGreatDoor
set_option maxRecDepth 100000
open Go.RowKit

theorem zeros_right : tagRight (zeros 10) = true := by decide +kernel
theorem right_tag {b : List UInt8} (hb : b.length = 25) (h : keyRight b = true) : tagRight (b.drop 15) = true := by
  have h0 := right_err h
  have hm := right_made h
  obtain ⟨k1, k6, p0, p4, ha⟩ := keyErr_range h0
  have hn : (kName b).length = 12 := by unfold kName; simp [hb]
  have ht : (kTag b).length = 10 := by unfold kTag; simp [hb]
  obtain ⟨_, _, _, _, e5⟩ := made_parts (kKind b).toNat (kProj b).toNat (kAt b).toNat (kName b) (kTag b) hn ht
  rw [hm] at e5
  show tagRight (kTag b) = true
  by_cases u : usedTag (kKind b).toNat = true
  · by_cases hr : tagRight (kTag b) = true
    · exact hr
    · exfalso
      unfold keyErr at h0
      rw [if_neg (by omega), if_neg (by omega)] at h0
      split at h0
      · exact absurd h0 (by decide)
      · rw [if_pos ⟨u, .inl (by simpa using hr)⟩] at h0; exact absurd h0 (by decide)
  · rw [if_neg u] at e5
    rw [e5]; exact zeros_right
theorem read_spl (b : List UInt8) (h : b.length = 25) : spl ((((zeros 25).set 0 (byt b 0)).set 1 (byt b 1)).set 2 (byt b 2)) 3 ((b.take 15).drop 3) = b.take 15 ++ zeros 10 := by
  match b, h with
  | [a, b, c, d, e, f, g, i, j, l, m, n, o, p, q, r, s, t, u, v, w, x, y, z, a2], _ => rfl
theorem read_tag (b : List UInt8) (h : b.length = 25) : spl (zeros 10) 0 (b.drop 15) = b.drop 15 := by
  match b, h with
  | [a, b, c, d, e, f, g, i, j, l, m, n, o, p, q, r, s, t, u, v, w, x, y, z, a2], _ => rfl
theorem full_spl (b : List UInt8) (h : b.length = 25) : spl (b.take 15 ++ zeros 10) 15 (b.drop 15) = b := by
  match b, h with
  | [a, b, c, d, e, f, g, i, j, l, m, n, o, p, q, r, s, t, u, v, w, x, y, z, a2], _ => rfl
theorem lay_other {w : World} {b o : Nat} {vs : Array Value} {k : Nat} (h : k ≠ b) : (w.lay b o vs).heap[k]? = w.heap[k]? := by
  simp only [World.lay, Array.getElem?_modify]; rw [if_neg (Ne.symm h)]
theorem lay_part {w : World} {b o : Nat} {c vs : Array Value} {t : TypeId} (h : w.heap[b]? = some (.cells c t)) : (w.lay b o vs).heap[b]? = some (.cells (spliceA c o vs) t) := by
  simp [World.lay, Array.getElem?_modify, h]
set_option maxHeartbeats 4000000 in
theorem keyRead_gives (b : List UInt8) (hb : b.length = 25) (w : World) : Gives Tryz.prog 54 #[.agg (row8 b)] w (.tuple #[.agg (row8 (if keyRight b = true then b else zeros 25)), .int .i64 (if keyRight b = true then 0 else 3)]) := by
  have hs := read_spl b hb
  have hs2 := read_tag b hb
  have HT := Lib.hid (tagOf_gives (b.drop 15) (by simp [hb]))
  have HR := Lib.hid (keyRight_gives b hb)
  have HRT := Lib.hid (right_tag hb)
  obtain ⟨rv, hrv⟩ : ∃ x, x = (if keyRight b = true then b else zeros 25) := ⟨_, rfl⟩
  obtain ⟨re, hre⟩ : ∃ x : Int, x = (if keyRight b = true then 0 else 3) := ⟨_, rfl⟩
  rw [← hrv, ← hre]
  have HV := Lib.hid (And.intro hrv hre)
  have HS := Lib.hid (And.intro hs hs2)
  clear hrv hre hs hs2
  unfold Gives
  go_enter Tryz.func54, Tryz.ntmps54
  go_wp2_with fail
  apply wp_region_specs (by rfl) [.val _, .val _, .val _] 3 (by rfl) [15, 16, 17] [] [] (by rfl) (by rfl) (by decide) (by decide +kernel) (fun _ _ _ _ _ h => h)
  case hF => intro x; simp only [over, List.foldl_cons, List.foldl_nil, List.setIfInBounds_toArray, List.set_cons_succ, List.set_cons_zero]; exact rfl
  case hops =>
    refine ⟨?o0, ?o1, ?o2, trivial⟩
    case o0 =>
      intro x w1 hH K hK
      obtain ⟨xs, d, rfl⟩ := grow_of_below hH.below
      clear hH
      try simp only [World.grow_drew] at hK ⊢
      try simp only [World.grow_grow] at hK ⊢
      go_simp
      go_wp2_with fail
      exact ⟨_, rfl, rfl, (by repeat (first | exact below_of_grow _ _ | exact Below.refl _ _ | exact below_more _ _ _ _ | (simp only [← Array.append_assoc]; first | exact below_more _ _ _ _ | exact below_same _ _ _ | exact Below.refl _ _) | exact below_same _ _ _ | (refine Below.alloc ?_ (by first | (simp; done) | (simp; omega)) _) | (refine Below.grow ?_ (by first | (simp; done) | (simp; omega)) _ _) | refine Below.drew ?_ | refine Below.drewN ?_ _ | (refine Below.putF ?_ (by first | (simp; done) | omega | (simp; omega)) _) | (refine Below.setCell ?_ (by first | (simp; done) | (simp; omega)) _))), fun h => by cases h⟩
    case o1 =>
      intro x w1 hH K hK
      have e15 : x 15 = _ := hH.holds 0 (by decide) (by decide +kernel) 15 rfl
      obtain ⟨xs, d, rfl⟩ := grow_of_below hH.below
      clear hH
      try simp only [World.grow_drew] at hK ⊢
      try simp only [World.grow_grow] at hK ⊢
      simp only [e15] at hK ⊢
      clear e15
      go_simp
      go_wp2_with fail
      exact ⟨_, rfl, rfl, (by repeat (first | exact below_of_grow _ _ | exact Below.refl _ _ | exact below_more _ _ _ _ | (simp only [← Array.append_assoc]; first | exact below_more _ _ _ _ | exact below_same _ _ _ | exact Below.refl _ _) | exact below_same _ _ _ | (refine Below.alloc ?_ (by first | (simp; done) | (simp; omega)) _) | (refine Below.grow ?_ (by first | (simp; done) | (simp; omega)) _ _) | refine Below.drew ?_ | refine Below.drewN ?_ _ | (refine Below.putF ?_ (by first | (simp; done) | omega | (simp; omega)) _) | (refine Below.setCell ?_ (by first | (simp; done) | (simp; omega)) _))), fun h => by cases h⟩
    case o2 =>
      intro x w1 hH K hK
      obtain ⟨xs, d, rfl⟩ := grow_of_below hH.below
      clear hH
      try simp only [World.grow_drew] at hK ⊢
      try simp only [World.grow_grow] at hK ⊢
      go_simp
      go_wp2_with fail
      exact ⟨_, rfl, rfl, (by repeat (first | exact below_of_grow _ _ | exact Below.refl _ _ | exact below_more _ _ _ _ | (simp only [← Array.append_assoc]; first | exact below_more _ _ _ _ | exact below_same _ _ _ | exact Below.refl _ _) | exact below_same _ _ _ | (refine Below.alloc ?_ (by first | (simp; done) | (simp; omega)) _) | (refine Below.grow ?_ (by first | (simp; done) | (simp; omega)) _ _) | refine Below.drew ?_ | refine Below.drewN ?_ _ | (refine Below.putF ?_ (by first | (simp; done) | omega | (simp; omega)) _) | (refine Below.setCell ?_ (by first | (simp; done) | (simp; omega)) _))), fun h => by cases h⟩
  case hend =>
    intro x w1 hH
    have e15 : x 15 = _ := hH.holds 0 (by decide) trivial 15 rfl
    have e16 : x 16 = _ := hH.holds 1 (by decide) trivial 16 rfl
    have e17 : x 17 = _ := hH.holds 2 (by decide) trivial 17 rfl
    obtain ⟨xs, d, rfl⟩ := grow_of_below hH.below
    clear hH
    simp only [e15, e16, e17]; clear e15 e16 e17
    simp only [List.drop_succ_cons, List.drop_zero]
    go_wp2_with fail
    apply wp_region_specs (by rfl) [.val _, .val _] 2 (by rfl) [19, 20] [] [] (by rfl) (by rfl) (by decide) (by decide +kernel) (fun _ _ _ _ _ h => h)
    case hF => intro x; simp only [over, List.foldl_cons, List.foldl_nil, List.setIfInBounds_toArray, List.set_cons_succ, List.set_cons_zero]; exact rfl
    case hops =>
      refine ⟨?o0, ?o1, trivial⟩
      case o0 =>
        intro x w1 hH K hK
        obtain ⟨xs, d, rfl⟩ := grow_of_below hH.below
        clear hH
        try simp only [World.grow_drew] at hK ⊢
        try simp only [World.grow_grow] at hK ⊢
        go_simp
        go_wp2_with fail
        exact ⟨_, rfl, rfl, (by repeat (first | exact below_of_grow _ _ | exact Below.refl _ _ | exact below_more _ _ _ _ | (simp only [← Array.append_assoc]; first | exact below_more _ _ _ _ | exact below_same _ _ _ | exact Below.refl _ _) | exact below_same _ _ _ | (refine Below.alloc ?_ (by first | (simp; done) | (simp; omega)) _) | (refine Below.grow ?_ (by first | (simp; done) | (simp; omega)) _ _) | refine Below.drew ?_ | refine Below.drewN ?_ _ | (refine Below.putF ?_ (by first | (simp; done) | omega | (simp; omega)) _) | (refine Below.setCell ?_ (by first | (simp; done) | (simp; omega)) _))), fun h => by cases h⟩
      case o1 =>
        intro x w1 hH K hK
        obtain ⟨xs, d, rfl⟩ := grow_of_below hH.below
        clear hH
        try simp only [World.grow_drew] at hK ⊢
        try simp only [World.grow_grow] at hK ⊢
        go_simp
        go_wp2_with fail
        exact ⟨_, rfl, rfl, (by repeat (first | exact below_of_grow _ _ | exact Below.refl _ _ | exact below_more _ _ _ _ | (simp only [← Array.append_assoc]; first | exact below_more _ _ _ _ | exact below_same _ _ _ | exact Below.refl _ _) | exact below_same _ _ _ | (refine Below.alloc ?_ (by first | (simp; done) | (simp; omega)) _) | (refine Below.grow ?_ (by first | (simp; done) | (simp; omega)) _ _) | refine Below.drew ?_ | refine Below.drewN ?_ _ | (refine Below.putF ?_ (by first | (simp; done) | omega | (simp; omega)) _) | (refine Below.setCell ?_ (by first | (simp; done) | (simp; omega)) _))), fun h => by cases h⟩
    case hend =>
      intro x w1 hH
      have e19 : x 19 = _ := hH.holds 0 (by decide) trivial 19 rfl
      have e20 : x 20 = _ := hH.holds 1 (by decide) trivial 20 rfl
      obtain ⟨xs, d, rfl⟩ := grow_of_below hH.below
      clear hH
      simp only [e19, e20]; clear e19 e20
      simp only [List.drop_succ_cons, List.drop_zero]
      go_upto_region 5 with fail
      refine wp_name ?_
      intro W hW
      obtain ⟨q, hq⟩ : ∃ q, q = w.heap.size := ⟨_, rfl⟩
      have hbl : Below w.heap.size w W := by rw [hW]; exact (by repeat (first | exact below_of_grow _ _ | exact Below.refl _ _ | exact below_more _ _ _ _ | (simp only [← Array.append_assoc]; first | exact below_more _ _ _ _ | exact below_same _ _ _ | exact Below.refl _ _) | exact below_same _ _ _ | (refine Below.alloc ?_ (by first | (simp; done) | (simp; omega)) _) | (refine Below.grow ?_ (by first | (simp; done) | (simp; omega)) _ _) | refine Below.drew ?_ | refine Below.drewN ?_ _ | (refine Below.putF ?_ (by first | (simp; done) | omega | (simp; omega)) _) | (refine Below.setCell ?_ (by first | (simp; done) | (simp; omega)) _)))
      have h3 : W.heap[q + 1 + 1 + 1]? = some (.cells (row8 (b.drop 15)) 55) := by
        rw [hW, World.grow_heap _ _ _ (by simp; omega), heap_al, if_pos (by simp; omega)]
      have h2 : W.heap[q + 1 + 1]? = some (.cells (row8 (b.take 15 ++ zeros 10)) 39) := by
        rw [hW, World.grow_heap _ _ _ (by simp; omega), heap_al, if_neg (by simp; omega), heap_al, if_pos (by simp; omega), HS.out.1]
      have h1 : W.heap[q + 1]? = some (.cells (row8 (zeros 25)) 39) := by
        rw [hW, World.grow_heap _ _ _ (by simp; omega), heap_al, if_neg (by simp; omega), heap_al, if_neg (by simp; omega), heap_al, if_pos (by simp; omega)]
      have c3 := cut_heap h3 (sz := 10) (by simp [hb])
      have l1 : q + 1 < W.heap.size := (Array.getElem?_eq_some_iff.1 h1).1
      have l2 : q + 1 + 1 < W.heap.size := (Array.getElem?_eq_some_iff.1 h2).1
      have l3 : q + 1 + 1 + 1 < W.heap.size := (Array.getElem?_eq_some_iff.1 h3).1
      have th2 : W.there? (q + 1 + 1) 15 10 = true := by simp [World.there?, h2, zeros, hb]
      have e1 : w.heap.size + 1 = q + 1 := by omega
      simp only [e1]
      have HQ := Lib.hid (And.intro hbl (And.intro hq (And.intro h1 h2)))
      clear hW hq hbl h2 h1 h3 e1 HS
      go_wp2_with fail
      refine Gives.use (HT.out _) ?_
      intro ys e
      have hz10 : (zeros 10).length = 10 := rfl
      have th3 : ((W.grow ys e).alloc (.cells (row8 (tagGot (b.drop 15))) 37)).there? (q + 1 + 1) 15 10 = true := by
        have h2 := HQ.out.2.2.2
        have hh : ((W.grow ys e).alloc (.cells (row8 (tagGot (b.drop 15))) 37)).heap[q + 1 + 1]? = some (.cells (row8 (b.take 15 ++ zeros 10)) 39) := by
          rw [heap_al, if_neg (by rw [World.grow_size]; omega), World.grow_heap _ _ _ l2]; exact h2
        simp [World.there?, hh, zeros, hb]
      have hgl : (tagGot (b.drop 15)).length = 10 := by unfold tagGot; split <;> simp [hb, zeros]
      cases hr : tagRight (b.drop 15)
      · have hk : keyRight b = false := by
          cases h : keyRight b
          · rfl
          · have := HRT.out h; rw [hr] at this; cases this
        obtain ⟨hv1, hv2⟩ := HV.out
        rw [hk] at hv1 hv2
        have g1 : tagGot (b.drop 15) = zeros 10 := by unfold tagGot; rw [hr]; rfl
        have g2 : tagErr (b.drop 15) = 14 := by unfold tagErr; rw [hr]; rfl
        rw [g1] at th3 ⊢
        rw [g2]
        have HV2 := Lib.hid (And.intro hv1 hv2)
        clear hv1 hv2 g1 g2 hk hr HV HRT hgl
        go_upto_region 8 with fail
        refine wp_name ?_
        intro WC hWC
        obtain ⟨hbl, hq, h1, h2⟩ := HQ.out
        have k1 : WC.heap[q + 1]? = some (.cells (row8 (zeros 25)) 39) := by
          rw [hWC, heap_al, if_neg (by rw [World.grow_size]; simp [World.lay]; omega), World.grow_heap _ _ _ (by simpa [World.lay] using l1), lay_other (by omega)]; exact h1
        have hbc : Below w.heap.size w WC := by
          rw [hWC]; exact (((hbl.lay (by omega)).grow (by simp [World.lay]; omega) _ _).alloc (by rw [World.grow_size]; simp [World.lay]; omega) _)
        have hth : WC.there? (q + 1) 0 25 = true := by simp [World.there?, k1, zeros]
        have hfin : (WC.lay (q + 1) 0 (row8 (zeros 25))).cut? (q + 1) 0 25 = some (row8 (zeros 25)) := cut_heap (lay_part k1 |>.trans (by rw [splice_full rfl])) rfl
        have HF := Lib.hid (And.intro hfin (show Below w.heap.size w (WC.lay (q + 1) 0 (row8 (zeros 25))) from hbc.lay (by omega)))
        clear hWC hbl hq h1 h2 k1 hbc hfin th2 th3
        go_wp21
        refine bodyPost_ret (v := .tuple #[.agg (row8 (zeros 25)), .int .i64 3]) (results_two Tryz.results54 (ResIs.row rfl agg_key ?_) ?_) rfl ⟨?_, ?_⟩
        · exact HF.out.1
        · rfl
        · rw [HV2.out.1, HV2.out.2]; rfl
        · exact HF.out.2
      · have g1 : tagGot (b.drop 15) = b.drop 15 := by unfold tagGot; rw [hr]; rfl
        have g2 : tagErr (b.drop 15) = 0 := by unfold tagErr; rw [hr]; rfl
        have d10 : (b.drop 15).length = 10 := by simp [hb]
        rw [g1] at th3 ⊢
        rw [g2]
        clear g1 g2 hr HRT hgl
        go_upto_region 7 with fail
        refine wp_name ?_
        intro WC hWC
        obtain ⟨hbl, hq, h1, h2⟩ := HQ.out
        have k1 : WC.heap[q + 1]? = some (.cells (row8 (zeros 25)) 39) := by
          rw [hWC, heap_al, if_neg (by rw [World.grow_size]; simp [World.lay]; omega), World.grow_heap _ _ _ (by simpa [World.lay] using l1), lay_other (by omega)]; exact h1
        have k2 : WC.heap[q + 1 + 1]? = some (.cells (row8 b) 39) := by
          rw [hWC, heap_al, if_neg (by rw [World.grow_size]; simp [World.lay]; omega), World.grow_heap _ _ _ (by simpa [World.lay] using l2), lay_part h2]
          rw [show spliceA (row8 (b.take 15 ++ zeros 10)) 15 (row8 (b.drop 15)) = row8 b from by simp [go_sem, full_spl b hb, hb]]
        have hbc : Below w.heap.size w WC := by
          rw [hWC]; exact (((hbl.lay (by omega)).grow (by simp [World.lay]; omega) _ _).alloc (by rw [World.grow_size]; simp [World.lay]; omega) _)
        have m1 : q + 1 < WC.heap.size := (Array.getElem?_eq_some_iff.1 k1).1
        have m2 : q + 1 + 1 < WC.heap.size := (Array.getElem?_eq_some_iff.1 k2).1
        have c4 := cut_heap k2 (sz := 25) (by simp [hb])
        have hqw : w.heap.size ≤ q + 1 := by omega
        have HF := Lib.hid (show ∀ (W' : World) (y : List UInt8), Below WC.heap.size WC W' → y.length = 25 → (W'.lay (q + 1) 0 (row8 y)).cut? (q + 1) 0 25 = some (row8 y) ∧ Below w.heap.size w (W'.lay (q + 1) 0 (row8 y)) ∧ W'.there? (q + 1) 0 25 = true from fun W' y hb' hy => by
          have h5 := (hb'.block (q + 1) m1).trans k1
          exact ⟨cut_heap ((lay_part h5).trans (by rw [splice_full (by simp [hy, zeros])])) (by simp [hy]), (hbc.trans (hb'.mono hbc.size)).lay hqw, by simp [World.there?, h5, zeros]⟩)
        clear hWC hbl hq h1 h2 k1 k2 hbc th2 th3 hqw c3 l1 l2 l3
        cases hk : keyRight b
        · rw [hk] at HR
          obtain ⟨hv1, hv2⟩ := HV.out
          rw [hk] at hv1 hv2
          have HV2 := Lib.hid (And.intro hv1 hv2)
          clear hv1 hv2 HV hk
          go_wp2_with fail
          refine Gives.use (HR.out _) ?_
          intro zs f
          go_upto_region 8 with fail
          have hff := HF.out (WC.grow zs f) (zeros 25) (below_of_grow _ _) rfl
          have hth := hff.2.2
          have HFF := Lib.hid hff
          clear hff
          obtain ⟨WD, hWD⟩ : ∃ WD, WD = WC.grow zs f := ⟨_, rfl⟩
          rw [← hWD] at hth HFF ⊢
          clear hWD
          go_wp21
          refine bodyPost_ret (v := .tuple #[.agg (row8 (zeros 25)), .int .i64 3]) (results_two Tryz.results54 (ResIs.row rfl agg_key ?_) ?_) rfl ⟨?_, ?_⟩
          · exact HFF.out.1
          · rfl
          · rw [HV2.out.1, HV2.out.2]; rfl
          · exact HFF.out.2.1
        · rw [hk] at HR
          obtain ⟨hv1, hv2⟩ := HV.out
          rw [hk] at hv1 hv2
          have HV2 := Lib.hid (And.intro hv1 hv2)
          clear hv1 hv2 HV hk
          go_wp2_with fail
          refine Gives.use (HR.out _) ?_
          intro zs f
          go_upto_region 9 with fail
          have hff := HF.out (WC.grow zs f) b (below_of_grow _ _) hb
          have hth := hff.2.2
          have c5 : (WC.grow zs f).cut? (q + 1 + 1) 0 25 = some (row8 b) := (cut_of_heap (World.grow_heap _ _ _ m2) 0 25).trans c4
          have HFF := Lib.hid hff
          clear hff
          obtain ⟨WD, hWD⟩ : ∃ WD, WD = WC.grow zs f := ⟨_, rfl⟩
          rw [← hWD] at hth HFF c5 ⊢
          clear hWD
          go_wp21
          refine bodyPost_ret (v := .tuple #[.agg (row8 b), .int .i64 0]) (results_two Tryz.results54 (ResIs.row rfl agg_key ?_) ?_) rfl ⟨?_, ?_⟩
          · exact HFF.out.1
          · rfl
          · rw [HV2.out.1, HV2.out.2]; rfl
          · exact HFF.out.2.1
end Go.Proofs.YtemnojlcgllcjaaGreatDoor
namespace Go.Proofs.YtemnojlcgllcjaaGreatDoor
set_option maxRecDepth 100000
open Go.RowKit

theorem conv1 {w : World} {b : Nat} {c : UInt8} {t : TypeId} (h : w.heap[b]? = some (.cells #[.int .u8 (c.toNat : Int)] t)) : (convert 109 9 (.slice (some ⟨b, 0, none⟩) 1 1)).run Tryz.prog w = .ok (.string (bs [c])) w := by
  have hs : SlB w (b + 1) (.slice (some ⟨b, 0, none⟩) 1 1) [c] := ⟨some ⟨b, 0, none⟩, 1, rfl, Nat.le_refl _, by unfold maxLen; decide, fun _ => ⟨b, 0, rfl, by omega, cut_heap h rfl⟩⟩
  exact hs.text
theorem dig_nat {x : Nat} (h : x < 10) : ((UInt8.ofNat (48 + x)).toNat : Int) = 48 + x := by
  rw [UInt8.toNat_ofNat']; omega
theorem dec_two {n : Nat} (hn : n < 100) : Lib.decDigits n = if 9 < n then [UInt8.ofNat (48 + n / 10), UInt8.ofNat (48 + n % 10)] else [UInt8.ofNat (48 + n % 10)] := by
  have : ∀ n < 100, Lib.decDigits n = if 9 < n then [UInt8.ofNat (48 + n / 10), UInt8.ofNat (48 + n % 10)] else [UInt8.ofNat (48 + n % 10)] := by decide +kernel
  exact this n hn
set_option maxHeartbeats 4000000 in
theorem digits_gives (n : Nat) (hn : n < 100) (w : World) : Gives Tryz.prog 100 #[.int .i64 (n : Int)] w (.string (bs (Lib.decDigits n))) := by
  have hd := dec_two hn
  have h1 := dig_nat (x := n % 10) (Nat.mod_lt _ (by decide))
  have h2 := dig_nat (x := n / 10) (by omega)
  generalize UInt8.ofNat (48 + n % 10) = c1 at *
  generalize UInt8.ofNat (48 + n / 10) = c2 at *
  have e1 : (48 : Int) + (n : Int) % 10 = c1.toNat := by rw [h1]; omega
  have e2 : (48 : Int) + (n : Int) / 10 = c2.toNat := by rw [h2]; omega
  have v1 : (convert 109 9 (.slice (some ⟨w.heap.size, 0, none⟩) 1 1)).run Tryz.prog (w.alloc (.cells #[.int .u8 (48 + (n : Int) % 10)] 5)) = .ok (.string (bs [c1])) (w.alloc (.cells #[.int .u8 (48 + (n : Int) % 10)] 5)) := by
    rw [e1]; exact conv1 ((heap_al _ _ _).trans (if_pos rfl))
  have v2 : (convert 109 9 (.slice (some ⟨w.heap.size + 1, 0, none⟩) 1 1)).run Tryz.prog ((w.alloc (.cells #[.int .u8 (48 + (n : Int) % 10)] 5)).alloc (.cells #[.int .u8 (48 + (n : Int) / 10)] 5)) = .ok (.string (bs [c2])) ((w.alloc (.cells #[.int .u8 (48 + (n : Int) % 10)] 5)).alloc (.cells #[.int .u8 (48 + (n : Int) / 10)] 5)) := by
    rw [e2]; exact conv1 ((heap_al _ _ _).trans (if_pos (by simp)))
  have HD := Lib.hid hd
  clear h1 h2 e1 e2 hd
  have hz : ¬ 9223372036854775807 < (bs [c2]).size + (bs [c1]).size := by rw [bs_size, bs_size]; simp
  by_cases hg : 9 < n
  · have hgI : (9 : Int) < n := by omega
    have hd := HD.out
    rw [if_pos hg] at hd
    rw [hd]
    clear hd HD hg
    go_enter Tryz.func100, Tryz.ntmps100
    go_wp2_with fail
    all_goals go_ret
    all_goals exact ⟨rfl, (by repeat (first | exact below_of_grow _ _ | exact Below.refl _ _ | exact below_more _ _ _ _ | (simp only [← Array.append_assoc]; first | exact below_more _ _ _ _ | exact below_same _ _ _ | exact Below.refl _ _) | exact below_same _ _ _ | (refine Below.alloc ?_ (by first | (simp; done) | (simp; omega)) _) | (refine Below.grow ?_ (by first | (simp; done) | (simp; omega)) _ _) | refine Below.drew ?_ | refine Below.drewN ?_ _ | (refine Below.putF ?_ (by first | (simp; done) | omega | (simp; omega)) _) | (refine Below.setCell ?_ (by first | (simp; done) | (simp; omega)) _)))⟩
  · have hgI : ¬ (9 : Int) < n := by omega
    have hd := HD.out
    rw [if_neg hg] at hd
    rw [hd]
    clear hd HD hg
    go_enter Tryz.func100, Tryz.ntmps100
    go_wp2_with fail
    all_goals go_ret
    all_goals exact ⟨rfl, (by repeat (first | exact below_of_grow _ _ | exact Below.refl _ _ | exact below_more _ _ _ _ | (simp only [← Array.append_assoc]; first | exact below_more _ _ _ _ | exact below_same _ _ _ | exact Below.refl _ _) | exact below_same _ _ _ | (refine Below.alloc ?_ (by first | (simp; done) | (simp; omega)) _) | (refine Below.grow ?_ (by first | (simp; done) | (simp; omega)) _ _) | refine Below.drew ?_ | refine Below.drewN ?_ _ | (refine Below.putF ?_ (by first | (simp; done) | omega | (simp; omega)) _) | (refine Below.setCell ?_ (by first | (simp; done) | (simp; omega)) _)))⟩
end Go.Proofs.YtemnojlcgllcjaaGreatDoor
namespace Go.Proofs.YtemnojlcgllcjaaGreatDoor
set_option maxRecDepth 100000
open Go.RowKit

theorem fill22 {m : List UInt8} (hm : m.length = 22) {q : Nat} (hq : q < 22) : (padTo 22 (m.take q)).set q (byt m q) = padTo 22 (m.take (q + 1)) := by
  have h1 : (padTo 22 (m.take q)) = m.take q ++ zeros (22 - q) := by unfold padTo; rw [List.length_take, hm, Nat.min_eq_left (by omega)]
  have h2 : (padTo 22 (m.take (q + 1))) = m.take (q + 1) ++ zeros (22 - (q + 1)) := by unfold padTo; rw [List.length_take, hm, Nat.min_eq_left (by omega)]
  have h3 := List.take_succ_eq_append_getElem (l := m) (i := q) (by omega)
  have h4 : zeros (22 - q) = 0 :: zeros (22 - (q + 1)) := by unfold zeros; rw [show 22 - q = (22 - (q + 1)) + 1 by omega, List.replicate_succ]
  have hl : (m.take q).length = q := by rw [List.length_take, hm]; omega
  rw [h1, h2, h3, h4, List.set_append_right _ _ (by omega), hl, Nat.sub_self, List.set_cons_zero, ← byt_get (by omega), List.append_assoc]
  rfl
theorem pad22_len {m : List UInt8} (hm : m.length = 22) {q : Nat} (hq : q ≤ 22) : (padTo 22 (m.take q)).length = 22 := by
  unfold padTo; simp [hm, zeros]; omega
@[go_sem] theorem rk_setI (a b c : Int) (l : List UInt8) (i : Nat) (v : UInt8) : (rk a b c l).setIfInBounds (3 + i) (.int .u8 (v.toNat : Int)) = rk a b c (l.set i v) := rk_set a b c l i v
set_option maxHeartbeats 8000000 in
theorem refRead6_gives (b : List UInt8) (hb : b.length = 25) (w : World) : Gives Tryz.prog 55 #[.agg (row8 b)] w (.agg (rkey b)) := by
  have h0 : wrap64 ((byt b 0).toNat : Int) = (byt b 0).toNat := wrap64_byte _
  have h1 : wrap64 ((byt b 1).toNat : Int) = (byt b 1).toNat := wrap64_byte _
  have h2 : wrap64 ((byt b 2).toNat : Int) = (byt b 2).toNat := wrap64_byte _
  have hbyt : ∀ i, byt b (3 + i) = byt (b.drop 3) i := by
    intro i
    unfold byt
    rw [List.getD_eq_getElem?_getD, List.getD_eq_getElem?_getD, List.getElem?_drop]
  have hm : (b.drop 3).length = 22 := by simp [hb]
  unfold rkey
  generalize b.drop 3 = m at *
  have HBY := Lib.hid hbyt
  clear hbyt
  unfold Gives
  go_enter Tryz.func55, Tryz.ntmps55
  go_upto_block 0 with fail
  have e0 : padTo 22 (m.take 0) = zeros 22 := by simp [padTo]
  go_cut [4] (fun v4 wx => ∃ d, wx = (((w.alloc (.cells (row8 b) 104)).alloc (.cells (rk 0 0 0 (zeros 22)) 57)).alloc (.cells (rk (byt b 0).toNat (byt b 1).toNat (byt b 2).toNat (padTo 22 (m.take 12))) 57)).drewN d)
  case first =>
    go_wp2_with fail
    go_loopw [4] (fun i wr => ∃ (q d : Nat), q ≤ 12 ∧ i = .int .i64 q ∧ wr = (((w.alloc (.cells (row8 b) 104)).alloc (.cells (rk 0 0 0 (zeros 22)) 57)).alloc (.cells (rk (byt b 0).toNat (byt b 1).toNat (byt b 2).toNat (padTo 22 (m.take q))) 57)).drewN d) (fun i _ => 12 - (intOf i).toNat)
    case atStart => exact ⟨0, 0, by omega, rfl, by rw [e0]; rfl⟩
    case round =>
      obtain ⟨q, d, hq, rfl, rfl⟩ := hrel
      by_cases hlt : q < 12
      · have hset := fill22 hm (q := q) (by omega)
        have hlen := pad22_len hm (q := q) (by omega)
        have hby := HBY.out q
        generalize padTo 22 (m.take q) = tk at *
        have HSET := Lib.hid hset
        have HB2 := Lib.hid hby
        clear hset hby
        have hqI : (q : Int) < 12 := by omega
        have hqk : 3 + q < 25 := by omega
        go_wp2_with fail
        go_roundw
        case rel => exact ⟨q + 1, _, by omega, by go_num, by rw [← HSET.out, ← HB2.out]⟩
        case measure => simp [intOf]; omega
      · obtain rfl : q = 12 := by omega
        go_wp2_with fail
        go_meet
        exact ⟨_, rfl⟩
  case rest =>
    obtain ⟨d, rfl⟩ := hcut
    clear e0
    go_wp2_with fail
    go_loopw [5] (fun i wr => ∃ (q d : Nat), q ≤ 10 ∧ i = .int .i64 q ∧ wr = (((w.alloc (.cells (row8 b) 104)).alloc (.cells (rk 0 0 0 (zeros 22)) 57)).alloc (.cells (rk (byt b 0).toNat (byt b 1).toNat (byt b 2).toNat (padTo 22 (m.take (12 + q)))) 57)).drewN d) (fun i _ => 10 - (intOf i).toNat)
    case atStart => exact ⟨0, d, by omega, rfl, rfl⟩
    case round =>
      obtain ⟨q, d2, hq, rfl, rfl⟩ := hrel
      by_cases hlt : q < 10
      · have hset := fill22 hm (q := 12 + q) (by omega)
        have hlen := pad22_len hm (q := 12 + q) (by omega)
        have hby := HBY.out (12 + q)
        rw [show 3 + (12 + q) = 15 + q by omega] at hby
        generalize padTo 22 (m.take (12 + q)) = tk at *
        have HSET := Lib.hid hset
        have HB2 := Lib.hid hby
        clear hset hby
        have hqI : (q : Int) < 10 := by omega
        have hqk : 15 + q < 25 := by omega
        go_wp2_with fail
        go_roundw
        case rel => exact ⟨q + 1, _, by omega, by go_num, by rw [show 12 + (q + 1) = 12 + q + 1 by omega, ← HSET.out, ← HB2.out]⟩
        case measure => simp [intOf]; omega
      · obtain rfl : q = 10 := by omega
        have hp : padTo 22 (m.take (12 + 10)) = m := by rw [List.take_of_length_le (by omega)]; unfold padTo; simp [hm, zeros]
        rw [hp]
        clear hp
        go_wp2_with fail
        exact bodyPost_ret (v := .agg (rk (byt b 0).toNat (byt b 1).toNat (byt b 2).toNat m)) (results_one Tryz.results55 (ResIs.row rfl agg_rkey (by simp [go_sem, hm]))) rfl ⟨rfl, (by repeat (first | exact below_of_grow _ _ | exact Below.refl _ _ | exact below_more _ _ _ _ | (simp only [← Array.append_assoc]; first | exact below_more _ _ _ _ | exact below_same _ _ _ | exact Below.refl _ _) | exact below_same _ _ _ | (refine Below.alloc ?_ (by first | (simp; done) | (simp; omega)) _) | (refine Below.grow ?_ (by first | (simp; done) | (simp; omega)) _ _) | refine Below.drew ?_ | refine Below.drewN ?_ _ | (refine Below.putF ?_ (by first | (simp; done) | omega | (simp; omega)) _) | (refine Below.setCell ?_ (by first | (simp; done) | (simp; omega)) _)))⟩
end Go.Proofs.YtemnojlcgllcjaaGreatDoor

/- copy between rows in one step; keys' and tags' bytes, keys in order. -/
import Derived.Test.YtjdccgmoldmlmaaDoorSpl
import Derived.Laws.CopyOwn
namespace Go.Proofs.YtjdccgmoldmlmaaDoor
open Go.RowKit

/-- the number of cells of a slice type's elements -/
def _root_.Go.Program.sliceSize (P : Program) (t : TypeId) : Option Nat := match P.underlying t with | some (.slice e) => (P.info? e).map (·.size) | _ => none
@[go_sem] theorem allOne_row8 (l : List UInt8) : allOne (row8 l) = true := row8_one l
@[go_sem] theorem run_copy_lay {P : Program} {w : World} {dT sT ty : TypeId} {g o dLen dCap a p sLen sCap : Nat} (hs : P.sliceSize dT = some 1)
    (hd : w.there? g o (min sLen dLen) = true) (hr : (w.cut? a p (min sLen dLen)).isSome = true) (h1 : allOne ((w.cut? a p (min sLen dLen)).getD #[]) = true) :
    (Builtin.copy_ #[dT, sT] ty #[.slice (some ⟨g, o, none⟩) dLen dCap, .slice (some ⟨a, p, none⟩) sLen sCap]).run P w = .ok (goInt ((min sLen dLen : Nat) : Int)) (w.lay g o ((w.cut? a p (min sLen dLen)).getD #[])) := by
  obtain ⟨c, t, hg, hl⟩ := there_spec hd
  obtain ⟨cs, hcs⟩ := Option.isSome_iff_exists.1 hr
  rw [hcs] at h1 ⊢
  simp only [Option.getD_some] at h1 ⊢
  obtain ⟨h2, h3⟩ := cut_spec hcs
  unfold Program.sliceSize at hs
  split at hs
  · rename_i e hu
    have := run_copy_row (P := P) w dT sT ty e g o dLen dCap ⟨a, p, none⟩ sLen sCap c t cs.toList hu hs hg (by simpa using h2) (fun j v hv => by
      rw [addr_add, h3 j (by have := (List.getElem?_eq_some_iff.1 hv).1; simp at this; omega), ← hv]; simp) (by simp; omega) (fun v hv => (Array.all_eq_true_iff_forall_mem.1 (show cs.all (·.oneCell') = true from h1)) v (by simpa using hv))
    rw [this]
    congr 1
    · simp only [Array.length_toList, h2]
    · have e2 : (c.toList.take o ++ cs.toList ++ c.toList.drop (o + cs.toList.length)).toArray = spliceA c o cs := by
        apply Array.ext'
        simp [spliceA, List.extract_eq_take_drop]
        rw [List.take_of_length_le]; simp
      rw [e2, lay_setRow hg]
  · cases hs
@[go_sem] theorem ss_bytes : Tryd.prog.sliceSize 97 = some 1 := by kernel_rfl
theorem tag_spl (t : List UInt8) (h : t.length = 10) : spl (spl (spl (zeros 10) 0 (t.take 3)) 3 ((t.take 7).drop 3)) 7 (t.drop 7) = t := by
  match t, h with
  | [a, b, c, d, e, f, g, i, j, k], _ => rfl
set_option maxRecDepth 100000 in
set_option maxHeartbeats 800000 in
theorem tagBytes_gives (t : List UInt8) (ht : t.length = 10) (w : World) : Gives Tryd.prog 33 #[.agg (row8 t)] w (.agg (row8 t)) := by
  have hs := tag_spl t ht
  have HS := Lib.hid hs
  clear hs
  unfold Gives
  go_enter Tryd.func33, Tryd.ntmps33
  go_wp2_with fail
  apply wp_region_specs (by rfl) [.val _, .val _, .val _] 3 (by rfl) [4, 5, 6] [] [] (by rfl) (by rfl) (by decide) (by decide +kernel) (fun _ _ _ _ _ h => h)
  case hF => intro x; simp only [over, List.foldl_cons, List.foldl_nil, List.setIfInBounds_toArray, List.set_cons_succ, List.set_cons_zero]; exact rfl
  case hops =>
    refine ⟨?o0, ?o1, ?o2, trivial⟩
    case o0 =>
      intro x w1 hH K hK
      obtain ⟨xs, d, rfl⟩ := grow_of_below hH.below
      clear hH
      try simp only [World.grow_drew] at hK ⊢
      try simp only [World.grow_grow] at hK ⊢
      go_simp
      go_wp2_with fail
      exact ⟨_, rfl, rfl, (by repeat (first | exact below_of_grow _ _ | exact Below.refl _ _ | exact below_more _ _ _ _ | (simp only [← Array.append_assoc]; first | exact below_more _ _ _ _ | exact below_same _ _ _ | exact Below.refl _ _) | exact below_same _ _ _ | (refine Below.alloc ?_ (by first | (simp; done) | (simp; omega)) _) | (refine Below.grow ?_ (by first | (simp; done) | (simp; omega)) _ _) | refine Below.drew ?_ | refine Below.drewN ?_ _ | (refine Below.putF ?_ (by first | (simp; done) | omega | (simp; omega)) _) | (refine Below.setCell ?_ (by first | (simp; done) | (simp; omega)) _))), fun h => by cases h⟩
    case o1 =>
      intro x w1 hH K hK
      obtain ⟨xs, d, rfl⟩ := grow_of_below hH.below
      clear hH
      try simp only [World.grow_drew] at hK ⊢
      try simp only [World.grow_grow] at hK ⊢
      go_simp
      go_wp2_with fail
      exact ⟨_, rfl, rfl, (by repeat (first | exact below_of_grow _ _ | exact Below.refl _ _ | exact below_more _ _ _ _ | (simp only [← Array.append_assoc]; first | exact below_more _ _ _ _ | exact below_same _ _ _ | exact Below.refl _ _) | exact below_same _ _ _ | (refine Below.alloc ?_ (by first | (simp; done) | (simp; omega)) _) | (refine Below.grow ?_ (by first | (simp; done) | (simp; omega)) _ _) | refine Below.drew ?_ | refine Below.drewN ?_ _ | (refine Below.putF ?_ (by first | (simp; done) | omega | (simp; omega)) _) | (refine Below.setCell ?_ (by first | (simp; done) | (simp; omega)) _))), fun h => by cases h⟩
    case o2 =>
      intro x w1 hH K hK
      have e5 : x 5 = _ := hH.holds 1 (by decide) (by decide +kernel) 5 rfl
      obtain ⟨xs, d, rfl⟩ := grow_of_below hH.below
      clear hH
      try simp only [World.grow_drew] at hK ⊢
      try simp only [World.grow_grow] at hK ⊢
      simp only [e5] at hK ⊢
      clear e5
      go_simp
      go_wp2_with fail
      exact ⟨_, rfl, rfl, (by repeat (first | exact below_of_grow _ _ | exact Below.refl _ _ | exact below_more _ _ _ _ | (simp only [← Array.append_assoc]; first | exact below_more _ _ _ _ | exact below_same _ _ _ | exact Below.refl _ _) | exact below_same _ _ _ | (refine Below.alloc ?_ (by first | (simp; done) | (simp; omega)) _) | (refine Below.grow ?_ (by first | (simp; done) | (simp; omega)) _ _) | refine Below.drew ?_ | refine Below.drewN ?_ _ | (refine Below.putF ?_ (by first | (simp; done) | omega | (simp; omega)) _) | (refine Below.setCell ?_ (by first | (simp; done) | (simp; omega)) _))), fun h => by cases h⟩
  case hend =>
    intro x w1 hH
    have e4 : x 4 = _ := hH.holds 0 (by decide) trivial 4 rfl
    have e5 : x 5 = _ := hH.holds 1 (by decide) trivial 5 rfl
    have e6 : x 6 = _ := hH.holds 2 (by decide) trivial 6 rfl
    obtain ⟨xs, d, rfl⟩ := grow_of_below hH.below
    clear hH
    simp only [e4, e5, e6]; clear e4 e5 e6
    simp only [List.drop_succ_cons, List.drop_zero]
    go_wp2_with fail
    apply wp_region_specs (by rfl) [.val _, .val _, .val _] 3 (by rfl) [8, 9, 10] [] [] (by rfl) (by rfl) (by decide) (by decide +kernel) (fun _ _ _ _ _ h => h)
    case hF => intro x; simp only [over, List.foldl_cons, List.foldl_nil, List.setIfInBounds_toArray, List.set_cons_succ, List.set_cons_zero]; exact rfl
    case hops =>
      refine ⟨?o0, ?o1, ?o2, trivial⟩
      case o0 =>
        intro x w1 hH K hK
        obtain ⟨xs, d, rfl⟩ := grow_of_below hH.below
        clear hH
        try simp only [World.grow_drew] at hK ⊢
        try simp only [World.grow_grow] at hK ⊢
        go_simp
        go_wp2_with fail
        exact ⟨_, rfl, rfl, (by repeat (first | exact below_of_grow _ _ | exact Below.refl _ _ | exact below_more _ _ _ _ | (simp only [← Array.append_assoc]; first | exact below_more _ _ _ _ | exact below_same _ _ _ | exact Below.refl _ _) | exact below_same _ _ _ | (refine Below.alloc ?_ (by first | (simp; done) | (simp; omega)) _) | (refine Below.grow ?_ (by first | (simp; done) | (simp; omega)) _ _) | refine Below.drew ?_ | refine Below.drewN ?_ _ | (refine Below.putF ?_ (by first | (simp; done) | omega | (simp; omega)) _) | (refine Below.setCell ?_ (by first | (simp; done) | (simp; omega)) _))), fun h => by cases h⟩
      case o1 =>
        intro x w1 hH K hK
        obtain ⟨xs, d, rfl⟩ := grow_of_below hH.below
        clear hH
        try simp only [World.grow_drew] at hK ⊢
        try simp only [World.grow_grow] at hK ⊢
        go_simp
        go_wp2_with fail
        exact ⟨_, rfl, rfl, (by repeat (first | exact below_of_grow _ _ | exact Below.refl _ _ | exact below_more _ _ _ _ | (simp only [← Array.append_assoc]; first | exact below_more _ _ _ _ | exact below_same _ _ _ | exact Below.refl _ _) | exact below_same _ _ _ | (refine Below.alloc ?_ (by first | (simp; done) | (simp; omega)) _) | (refine Below.grow ?_ (by first | (simp; done) | (simp; omega)) _ _) | refine Below.drew ?_ | refine Below.drewN ?_ _ | (refine Below.putF ?_ (by first | (simp; done) | omega | (simp; omega)) _) | (refine Below.setCell ?_ (by first | (simp; done) | (simp; omega)) _))), fun h => by cases h⟩
      case o2 =>
        intro x w1 hH K hK
        have e9 : x 9 = _ := hH.holds 1 (by decide) (by decide +kernel) 9 rfl
        obtain ⟨xs, d, rfl⟩ := grow_of_below hH.below
        clear hH
        try simp only [World.grow_drew] at hK ⊢
        try simp only [World.grow_grow] at hK ⊢
        simp only [e9] at hK ⊢
        clear e9
        go_simp
        go_wp2_with fail
        exact ⟨_, rfl, rfl, (by repeat (first | exact below_of_grow _ _ | exact Below.refl _ _ | exact below_more _ _ _ _ | (simp only [← Array.append_assoc]; first | exact below_more _ _ _ _ | exact below_same _ _ _ | exact Below.refl _ _) | exact below_same _ _ _ | (refine Below.alloc ?_ (by first | (simp; done) | (simp; omega)) _) | (refine Below.grow ?_ (by first | (simp; done) | (simp; omega)) _ _) | refine Below.drew ?_ | refine Below.drewN ?_ _ | (refine Below.putF ?_ (by first | (simp; done) | omega | (simp; omega)) _) | (refine Below.setCell ?_ (by first | (simp; done) | (simp; omega)) _))), fun h => by cases h⟩
    case hend =>
      intro x w1 hH
      have e8 : x 8 = _ := hH.holds 0 (by decide) trivial 8 rfl
      have e9 : x 9 = _ := hH.holds 1 (by decide) trivial 9 rfl
      have e10 : x 10 = _ := hH.holds 2 (by decide) trivial 10 rfl
      obtain ⟨xs, d, rfl⟩ := grow_of_below hH.below
      clear hH
      simp only [e8, e9, e10]; clear e8 e9 e10
      simp only [List.drop_succ_cons, List.drop_zero]
      go_wp2_with fail
      apply wp_region_specs (by rfl) [.val _, .val _, .val _] 3 (by rfl) [12, 13, 14] [] [] (by rfl) (by rfl) (by decide) (by decide +kernel) (fun _ _ _ _ _ h => h)
      case hF => intro x; simp only [over, List.foldl_cons, List.foldl_nil, List.setIfInBounds_toArray, List.set_cons_succ, List.set_cons_zero]; exact rfl
      case hops =>
        refine ⟨?o0, ?o1, ?o2, trivial⟩
        case o0 =>
          intro x w1 hH K hK
          obtain ⟨xs, d, rfl⟩ := grow_of_below hH.below
          clear hH
          try simp only [World.grow_drew] at hK ⊢
          try simp only [World.grow_grow] at hK ⊢
          go_simp
          go_wp2_with fail
          exact ⟨_, rfl, rfl, (by repeat (first | exact below_of_grow _ _ | exact Below.refl _ _ | exact below_more _ _ _ _ | (simp only [← Array.append_assoc]; first | exact below_more _ _ _ _ | exact below_same _ _ _ | exact Below.refl _ _) | exact below_same _ _ _ | (refine Below.alloc ?_ (by first | (simp; done) | (simp; omega)) _) | (refine Below.grow ?_ (by first | (simp; done) | (simp; omega)) _ _) | refine Below.drew ?_ | refine Below.drewN ?_ _ | (refine Below.putF ?_ (by first | (simp; done) | omega | (simp; omega)) _) | (refine Below.setCell ?_ (by first | (simp; done) | (simp; omega)) _))), fun h => by cases h⟩
        case o1 =>
          intro x w1 hH K hK
          obtain ⟨xs, d, rfl⟩ := grow_of_below hH.below
          clear hH
          try simp only [World.grow_drew] at hK ⊢
          try simp only [World.grow_grow] at hK ⊢
          go_simp
          go_wp2_with fail
          exact ⟨_, rfl, rfl, (by repeat (first | exact below_of_grow _ _ | exact Below.refl _ _ | exact below_more _ _ _ _ | (simp only [← Array.append_assoc]; first | exact below_more _ _ _ _ | exact below_same _ _ _ | exact Below.refl _ _) | exact below_same _ _ _ | (refine Below.alloc ?_ (by first | (simp; done) | (simp; omega)) _) | (refine Below.grow ?_ (by first | (simp; done) | (simp; omega)) _ _) | refine Below.drew ?_ | refine Below.drewN ?_ _ | (refine Below.putF ?_ (by first | (simp; done) | omega | (simp; omega)) _) | (refine Below.setCell ?_ (by first | (simp; done) | (simp; omega)) _))), fun h => by cases h⟩
        case o2 =>
          intro x w1 hH K hK
          have e13 : x 13 = _ := hH.holds 1 (by decide) (by decide +kernel) 13 rfl
          obtain ⟨xs, d, rfl⟩ := grow_of_below hH.below
          clear hH
          try simp only [World.grow_drew] at hK ⊢
          try simp only [World.grow_grow] at hK ⊢
          simp only [e13] at hK ⊢
          clear e13
          go_simp
          go_wp2_with fail
          exact ⟨_, rfl, rfl, (by repeat (first | exact below_of_grow _ _ | exact Below.refl _ _ | exact below_more _ _ _ _ | (simp only [← Array.append_assoc]; first | exact below_more _ _ _ _ | exact below_same _ _ _ | exact Below.refl _ _) | exact below_same _ _ _ | (refine Below.alloc ?_ (by first | (simp; done) | (simp; omega)) _) | (refine Below.grow ?_ (by first | (simp; done) | (simp; omega)) _ _) | refine Below.drew ?_ | refine Below.drewN ?_ _ | (refine Below.putF ?_ (by first | (simp; done) | omega | (simp; omega)) _) | (refine Below.setCell ?_ (by first | (simp; done) | (simp; omega)) _))), fun h => by cases h⟩
      case hend =>
        intro x w1 hH
        have e12 : x 12 = _ := hH.holds 0 (by decide) trivial 12 rfl
        have e13 : x 13 = _ := hH.holds 1 (by decide) trivial 13 rfl
        have e14 : x 14 = _ := hH.holds 2 (by decide) trivial 14 rfl
        obtain ⟨xs, d, rfl⟩ := grow_of_below hH.below
        clear hH
        simp only [e12, e13, e14]; clear e12 e13 e14
        simp only [List.drop_succ_cons, List.drop_zero]
        go_wp2_with fail
        refine bodyPost_ret (v := .agg (row8 t)) (results_one Tryd.results33 (ResIs.row rfl agg_b10 ?_)) rfl ⟨rfl, (by repeat (first | exact below_of_grow _ _ | exact Below.refl _ _ | exact below_more _ _ _ _ | (simp only [← Array.append_assoc]; first | exact below_more _ _ _ _ | exact below_same _ _ _ | exact Below.refl _ _) | exact below_same _ _ _ | (refine Below.alloc ?_ (by first | (simp; done) | (simp; omega)) _) | (refine Below.grow ?_ (by first | (simp; done) | (simp; omega)) _ _) | refine Below.drew ?_ | refine Below.drewN ?_ _ | (refine Below.putF ?_ (by first | (simp; done) | omega | (simp; omega)) _) | (refine Below.setCell ?_ (by first | (simp; done) | (simp; omega)) _)))⟩
        simp [go_sem, HS.out, ht]

theorem key_spl (k : List UInt8) (h : k.length = 25) : spl (spl ((((zeros 25).set 0 (byt k 0)).set 1 (byt k 1)).set 2 (byt k 2)) 3 ((k.take 15).drop 3)) 15 (k.drop 15) = k := by
  match k, h with
  | [a, b, c, d, e, f, g, i, j, l, m, n, o, p, q, r, s, t, u, v, w, x, y, z, a2], _ => rfl
set_option maxRecDepth 100000 in
set_option maxHeartbeats 800000 in
theorem keyBytes_gives (k : List UInt8) (hk : k.length = 25) (w : World) : Gives Tryd.prog 23 #[.agg (row8 k)] w (.agg (row8 k)) := by
  have hs := key_spl k hk
  have HS := Lib.hid hs
  clear hs
  have ht := tagBytes_gives (k.drop 15) (by simp; omega)
  have HT := Lib.hid ht
  clear ht
  unfold Gives
  go_enter Tryd.func23, Tryd.ntmps23
  go_wp2_with (go_at_call 33; refine Gives.use (HT.out _) ?_; intro xs0 d0)
  apply wp_region_specs (by rfl) [.val _, .val _, .val _] 3 (by rfl) [15, 16, 17] [] [] (by rfl) (by rfl) (by decide) (by decide +kernel) (fun _ _ _ _ _ h => h)
  case hF => intro x; simp only [over, List.foldl_cons, List.foldl_nil, List.setIfInBounds_toArray, List.set_cons_succ, List.set_cons_zero]; exact rfl
  case hops =>
    refine ⟨?o0, ?o1, ?o2, trivial⟩
    case o0 =>
      intro x w1 hH K hK
      obtain ⟨xs, d, rfl⟩ := grow_of_below hH.below
      clear hH
      try simp only [World.grow_drew] at hK ⊢
      try simp only [World.grow_grow] at hK ⊢
      go_simp
      go_wp2_with fail
      exact ⟨_, rfl, rfl, (by repeat (first | exact below_of_grow _ _ | exact Below.refl _ _ | exact below_more _ _ _ _ | (simp only [← Array.append_assoc]; first | exact below_more _ _ _ _ | exact below_same _ _ _ | exact Below.refl _ _) | exact below_same _ _ _ | (refine Below.alloc ?_ (by first | (simp; done) | (simp; omega)) _) | (refine Below.grow ?_ (by first | (simp; done) | (simp; omega)) _ _) | refine Below.drew ?_ | refine Below.drewN ?_ _ | (refine Below.putF ?_ (by first | (simp; done) | omega | (simp; omega)) _) | (refine Below.setCell ?_ (by first | (simp; done) | (simp; omega)) _))), fun h => by cases h⟩
    case o1 =>
      intro x w1 hH K hK
      obtain ⟨xs, d, rfl⟩ := grow_of_below hH.below
      clear hH
      try simp only [World.grow_drew] at hK ⊢
      try simp only [World.grow_grow] at hK ⊢
      go_simp
      go_wp2_with fail
      exact ⟨_, rfl, rfl, (by repeat (first | exact below_of_grow _ _ | exact Below.refl _ _ | exact below_more _ _ _ _ | (simp only [← Array.append_assoc]; first | exact below_more _ _ _ _ | exact below_same _ _ _ | exact Below.refl _ _) | exact below_same _ _ _ | (refine Below.alloc ?_ (by first | (simp; done) | (simp; omega)) _) | (refine Below.grow ?_ (by first | (simp; done) | (simp; omega)) _ _) | refine Below.drew ?_ | refine Below.drewN ?_ _ | (refine Below.putF ?_ (by first | (simp; done) | omega | (simp; omega)) _) | (refine Below.setCell ?_ (by first | (simp; done) | (simp; omega)) _))), fun h => by cases h⟩
    case o2 =>
      intro x w1 hH K hK
      have e16 : x 16 = _ := hH.holds 1 (by decide) (by decide +kernel) 16 rfl
      obtain ⟨xs, d, rfl⟩ := grow_of_below hH.below
      clear hH
      try simp only [World.grow_drew] at hK ⊢
      try simp only [World.grow_grow] at hK ⊢
      simp only [e16] at hK ⊢
      clear e16
      go_simp
      go_wp2_with fail
      exact ⟨_, rfl, rfl, (by repeat (first | exact below_of_grow _ _ | exact Below.refl _ _ | exact below_more _ _ _ _ | (simp only [← Array.append_assoc]; first | exact below_more _ _ _ _ | exact below_same _ _ _ | exact Below.refl _ _) | exact below_same _ _ _ | (refine Below.alloc ?_ (by first | (simp; done) | (simp; omega)) _) | (refine Below.grow ?_ (by first | (simp; done) | (simp; omega)) _ _) | refine Below.drew ?_ | refine Below.drewN ?_ _ | (refine Below.putF ?_ (by first | (simp; done) | omega | (simp; omega)) _) | (refine Below.setCell ?_ (by first | (simp; done) | (simp; omega)) _))), fun h => by cases h⟩
  case hend =>
    intro x w1 hH
    have e15 : x 15 = _ := hH.holds 0 (by decide) trivial 15 rfl
    have e16 : x 16 = _ := hH.holds 1 (by decide) trivial 16 rfl
    have e17 : x 17 = _ := hH.holds 2 (by decide) trivial 17 rfl
    obtain ⟨xs, d, rfl⟩ := grow_of_below hH.below
    clear hH
    simp only [e15, e16, e17]; clear e15 e16 e17
    simp only [List.drop_succ_cons, List.drop_zero]
    go_wp2_with fail
    apply wp_region_specs (by rfl) [.val _, .val _] 2 (by rfl) [19, 20] [] [] (by rfl) (by rfl) (by decide) (by decide +kernel) (fun _ _ _ _ _ h => h)
    case hF => intro x; simp only [over, List.foldl_cons, List.foldl_nil, List.setIfInBounds_toArray, List.set_cons_succ, List.set_cons_zero]; exact rfl
    case hops =>
      refine ⟨?o0, ?o1, trivial⟩
      case o0 =>
        intro x w1 hH K hK
        obtain ⟨xs, d, rfl⟩ := grow_of_below hH.below
        clear hH
        try simp only [World.grow_drew] at hK ⊢
        try simp only [World.grow_grow] at hK ⊢
        go_simp
        go_wp2_with fail
        exact ⟨_, rfl, rfl, (by repeat (first | exact below_of_grow _ _ | exact Below.refl _ _ | exact below_more _ _ _ _ | (simp only [← Array.append_assoc]; first | exact below_more _ _ _ _ | exact below_same _ _ _ | exact Below.refl _ _) | exact below_same _ _ _ | (refine Below.alloc ?_ (by first | (simp; done) | (simp; omega)) _) | (refine Below.grow ?_ (by first | (simp; done) | (simp; omega)) _ _) | refine Below.drew ?_ | refine Below.drewN ?_ _ | (refine Below.putF ?_ (by first | (simp; done) | omega | (simp; omega)) _) | (refine Below.setCell ?_ (by first | (simp; done) | (simp; omega)) _))), fun h => by cases h⟩
      case o1 =>
        intro x w1 hH K hK
        obtain ⟨xs, d, rfl⟩ := grow_of_below hH.below
        clear hH
        try simp only [World.grow_drew] at hK ⊢
        try simp only [World.grow_grow] at hK ⊢
        go_simp
        go_wp2_with fail
        exact ⟨_, rfl, rfl, (by repeat (first | exact below_of_grow _ _ | exact Below.refl _ _ | exact below_more _ _ _ _ | (simp only [← Array.append_assoc]; first | exact below_more _ _ _ _ | exact below_same _ _ _ | exact Below.refl _ _) | exact below_same _ _ _ | (refine Below.alloc ?_ (by first | (simp; done) | (simp; omega)) _) | (refine Below.grow ?_ (by first | (simp; done) | (simp; omega)) _ _) | refine Below.drew ?_ | refine Below.drewN ?_ _ | (refine Below.putF ?_ (by first | (simp; done) | omega | (simp; omega)) _) | (refine Below.setCell ?_ (by first | (simp; done) | (simp; omega)) _))), fun h => by cases h⟩
    case hend =>
      intro x w1 hH
      have e19 : x 19 = _ := hH.holds 0 (by decide) trivial 19 rfl
      have e20 : x 20 = _ := hH.holds 1 (by decide) trivial 20 rfl
      obtain ⟨xs, d, rfl⟩ := grow_of_below hH.below
      clear hH
      simp only [e19, e20]; clear e19 e20
      simp only [List.drop_succ_cons, List.drop_zero]
      go_wp2_with fail
      refine bodyPost_ret (v := .agg (row8 k)) (results_one Tryd.results23 (ResIs.row rfl agg_b25 ?_)) rfl ⟨rfl, (by repeat (first | exact below_of_grow _ _ | exact Below.refl _ _ | exact below_more _ _ _ _ | (simp only [← Array.append_assoc]; first | exact below_more _ _ _ _ | exact below_same _ _ _ | exact Below.refl _ _) | exact below_same _ _ _ | (refine Below.alloc ?_ (by first | (simp; done) | (simp; omega)) _) | (refine Below.grow ?_ (by first | (simp; done) | (simp; omega)) _ _) | refine Below.drew ?_ | refine Below.drewN ?_ _ | (refine Below.putF ?_ (by first | (simp; done) | omega | (simp; omega)) _) | (refine Below.setCell ?_ (by first | (simp; done) | (simp; omega)) _)))⟩
      simp [go_sem, HS.out, hk]
end Go.Proofs.YtjdccgmoldmlmaaDoor

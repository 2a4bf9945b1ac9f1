/- The order of keys. -/
import Derived.Test.YtbflpnkodpeggaaCopy
import Derived.Lib.Bytealg
import Derived.Laws.Externs
import Derived.Lib.BytesEntry
namespace Go.Proofs.Ytbflpnkodpeggaa
open Go.RowKit

theorem lessL_compare : ∀ a b : List UInt8, a.length = b.length → (decide (Lib.compareBytes a b < 0)) = lessL a b
  | [], [], _ => rfl
  | [], _ :: _, h => by simp at h
  | _ :: _, [], h => by simp at h
  | a :: x, b :: y, h => by
    unfold Lib.compareBytes lessL
    by_cases he : a = b
    · subst he
      have : ¬ a < a := UInt8.lt_irrefl a
      rw [if_neg this, if_neg this, if_pos rfl]
      exact lessL_compare x y (by simpa using h)
    · rw [if_neg he]
      by_cases hl : a < b
      · rw [if_pos hl]; simp [hl]
      · have h2 : b < a := UInt8.lt_of_le_of_ne (UInt8.not_lt.1 hl) (Ne.symm he)
        rw [if_neg hl, if_pos h2]; simp [hl]
theorem bytesNum_row (l : List UInt8) : Lib.bytesOf (l.map fun b => (b.toNat : Int)) = l := by
  unfold Lib.bytesOf
  rw [List.map_map]
  conv => rhs; rw [← List.map_id l]
  apply List.map_congr_left
  intro b _
  simp
theorem run_bytesOf_row {P : Program} {w : World} {b o cap : Nat} {l : List UInt8} (h : w.cut? b o l.length = some (row8 l)) :
    (Extern.Bytes.bytesOf (.slice (some ⟨b, o, none⟩) l.length cap)).run P w = .ok (bs l) w := by
  obtain ⟨_, h2⟩ := cut_spec h
  have hr := Lib.run_loadBytesX (P := P) w (l.map fun b => (b.toNat : Int)) ⟨b, o, none⟩ .empty (fun j x hj => by
    rw [List.getElem?_map, Option.map_eq_some_iff] at hj
    obtain ⟨c, hc, rfl⟩ := hj
    have hl := (List.getElem?_eq_some_iff.1 hc).1
    rw [addr_add, h2 j hl, row8_get l j hl]
    rw [List.getElem?_eq_getElem hl, byt_get hl] at hc
    rw [Option.some.inj hc])
  rw [List.length_map, bytesNum_row] at hr
  show (Extern.Bytes.loadBytes ⟨b, o, none⟩ l.length .empty).run P w = _
  rw [hr]
  congr 1
  apply ByteArray.ext
  simp [bs]
theorem run_compare_rows {P : Program} {w : World} {b o cap b' o' cap' : Nat} {l l' : List UInt8} (h : w.cut? b o l.length = some (row8 l)) (h' : w.cut? b' o' l'.length = some (row8 l')) :
    (Extern.BytealgCompare.compare #[.slice (some ⟨b, o, none⟩) l.length cap, .slice (some ⟨b', o', none⟩) l'.length cap']).run P w = .ok (.int .i64 (Lib.compareBytes l l')) w := by
  change Sem.run P (do pure (goInt (Extern.BytealgCompare.cmp (← Extern.Bytes.bytesOf (.slice (some ⟨b, o, none⟩) l.length cap)) (← Extern.Bytes.bytesOf (.slice (some ⟨b', o', none⟩) l'.length cap'))))) w = _
  simp only [Sem.run_bind, run_bytesOf_row h, run_bytesOf_row h', Result.andThen, Sem.run_pure]
  rw [Lib.cmp_eq]
  simp [bs]
  rfl
theorem compare_gives {w : World} {b o cap b' o' cap' n : Nat} (l l' : List UInt8) (hn : l.length = n) (hn' : l'.length = n) (h : w.cut? b o n = some (row8 l)) (h' : w.cut? b' o' n = some (row8 l')) :
    Gives Try.prog 37 #[.slice (some ⟨b, o, none⟩) n cap, .slice (some ⟨b', o', none⟩) n cap'] w (.int .i64 (Lib.compareBytes l l')) := by
  subst hn
  have hr := run_compare_rows (P := Try.prog) (cap := cap) (cap' := cap') h (l' := l') (by rw [hn']; exact h')
  rw [hn'] at hr
  unfold Gives
  go_enter Try.func37, Try.ntmps37
  go_wp2
  rw [run_callFunc_extern Try.func49 (by kernel_rfl) (by kernel_rfl) (by kernel_rfl) (e := Extern.BytealgCompare.compare) (by kernel_rfl), hr]
  simp only [Result.andThen]
  rw [Oper.upon_value]
  go_wp2
  go_ret
  exact ⟨rfl, Below.refl _ _⟩

set_option maxRecDepth 100000 in
set_option maxHeartbeats 1600000 in
theorem keyLess_gives (a b : List UInt8) (ha : a.length = 25) (hb : b.length = 25) (w : World) : Gives Try.prog 33 #[.agg (row8 a), .agg (row8 b)] w (.bool (lessL a b)) := by
  have hl := lessL_compare a b (by omega)
  have HL := Lib.hid hl
  clear hl
  unfold Gives
  go_enter Try.func33, Try.ntmps33
  go_wp2_with fail
  apply wp_region_specs (by rfl) [.val _, .val _, .val _, .val _, .new _, .new _] 6 (by rfl) [7, 8, 9, 10, 5, 6] [4, 5] [] (by rfl) (by rfl) (by decide) (by decide +kernel) (fun _ _ _ _ _ h => h)
  case hF => intro x; simp only [over, List.foldl_cons, List.foldl_nil, List.setIfInBounds_toArray, List.set_cons_succ, List.set_cons_zero]; exact rfl
  case hops =>
    refine ⟨?o0, ?o1, ?o2, ?o3, ?o4, ?o5, trivial⟩
    case o0 =>
      intro x w1 hH K hK
      obtain ⟨xs, d, rfl⟩ := grow_of_below hH.below
      clear hH
      try simp only [World.grow_drew] at hK ⊢
      try simp only [World.grow_grow] at hK ⊢
      go_simp
      go_wp2_with fail
      exact ⟨_, rfl, rfl, (by repeat (first | exact below_of_grow _ _ | exact Below.refl _ _ | exact below_more _ _ _ _ | (simp only [← Array.append_assoc]; first | exact below_more _ _ _ _ | exact below_same _ _ _ | exact Below.refl _ _) | exact below_same _ _ _ | (refine Below.alloc ?_ (by first | (simp; done) | (simp; omega)) _) | (refine Below.grow ?_ (by first | (simp; done) | (simp; omega)) _ _) | refine Below.drew ?_ | refine Below.drewN ?_ _ | (refine Below.putF ?_ (by first | (simp; done) | omega | (simp; omega)) _) | (refine Below.setCell ?_ (by first | (simp; done) | (simp; omega)) _))), fun h => by cases h⟩
    case o1 =>
      intro x w1 hH K hK
      have e7 : x 7 = _ := hH.holds 0 (by decide) (by decide +kernel) 7 rfl
      obtain ⟨xs, d, rfl⟩ := grow_of_below hH.below
      clear hH
      try simp only [World.grow_drew] at hK ⊢
      try simp only [World.grow_grow] at hK ⊢
      simp only [e7] at hK ⊢
      clear e7
      go_simp
      go_wp2_with (refine Gives.use (keyBytes_gives a ha _) ?_; intro ys e)
      exact ⟨_, rfl, rfl, (by first | exact below_more _ _ _ _ | exact (by repeat (first | exact below_of_grow _ _ | exact Below.refl _ _ | exact below_more _ _ _ _ | (simp only [← Array.append_assoc]; first | exact below_more _ _ _ _ | exact below_same _ _ _ | exact Below.refl _ _) | exact below_same _ _ _ | (refine Below.alloc ?_ (by first | (simp; done) | (simp; omega)) _) | (refine Below.grow ?_ (by first | (simp; done) | (simp; omega)) _ _) | refine Below.drew ?_ | refine Below.drewN ?_ _ | (refine Below.putF ?_ (by first | (simp; done) | omega | (simp; omega)) _) | (refine Below.setCell ?_ (by first | (simp; done) | (simp; omega)) _)))), fun h => by cases h⟩
    case o2 =>
      intro x w1 hH K hK
      obtain ⟨xs, d, rfl⟩ := grow_of_below hH.below
      clear hH
      try simp only [World.grow_drew] at hK ⊢
      try simp only [World.grow_grow] at hK ⊢
      go_simp
      go_wp2_with fail
      exact ⟨_, rfl, rfl, (by repeat (first | exact below_of_grow _ _ | exact Below.refl _ _ | exact below_more _ _ _ _ | (simp only [← Array.append_assoc]; first | exact below_more _ _ _ _ | exact below_same _ _ _ | exact Below.refl _ _) | exact below_same _ _ _ | (refine Below.alloc ?_ (by first | (simp; done) | (simp; omega)) _) | (refine Below.grow ?_ (by first | (simp; done) | (simp; omega)) _ _) | refine Below.drew ?_ | refine Below.drewN ?_ _ | (refine Below.putF ?_ (by first | (simp; done) | omega | (simp; omega)) _) | (refine Below.setCell ?_ (by first | (simp; done) | (simp; omega)) _))), fun h => by cases h⟩
    case o3 =>
      intro x w1 hH K hK
      have e9 : x 9 = _ := hH.holds 2 (by decide) (by decide +kernel) 9 rfl
      obtain ⟨xs, d, rfl⟩ := grow_of_below hH.below
      clear hH
      try simp only [World.grow_drew] at hK ⊢
      try simp only [World.grow_grow] at hK ⊢
      simp only [e9] at hK ⊢
      clear e9
      go_simp
      go_wp2_with (refine Gives.use (keyBytes_gives b hb _) ?_; intro ys e)
      exact ⟨_, rfl, rfl, (by first | exact below_more _ _ _ _ | exact (by repeat (first | exact below_of_grow _ _ | exact Below.refl _ _ | exact below_more _ _ _ _ | (simp only [← Array.append_assoc]; first | exact below_more _ _ _ _ | exact below_same _ _ _ | exact Below.refl _ _) | exact below_same _ _ _ | (refine Below.alloc ?_ (by first | (simp; done) | (simp; omega)) _) | (refine Below.grow ?_ (by first | (simp; done) | (simp; omega)) _ _) | refine Below.drew ?_ | refine Below.drewN ?_ _ | (refine Below.putF ?_ (by first | (simp; done) | omega | (simp; omega)) _) | (refine Below.setCell ?_ (by first | (simp; done) | (simp; omega)) _)))), fun h => by cases h⟩
    case o4 =>
      intro x w1 hH K hK
      obtain ⟨xs, d, rfl⟩ := grow_of_below hH.below
      clear hH
      try simp only [World.grow_drew] at hK ⊢
      try simp only [World.grow_grow] at hK ⊢
      go_simp
      go_wp2_with fail
      exact left_new rfl (by simp) (by first | (simp; done) | (simp; omega))
    case o5 =>
      intro x w1 hH K hK
      obtain ⟨xs, d, rfl⟩ := grow_of_below hH.below
      clear hH
      try simp only [World.grow_drew] at hK ⊢
      try simp only [World.grow_grow] at hK ⊢
      go_simp
      go_wp2_with fail
      exact left_new rfl (by simp) (by first | (simp; done) | (simp; omega))
  case hend =>
    intro x w1 hH
    have e7 : x 7 = _ := hH.holds 0 (by decide) trivial 7 rfl
    have e8 : x 8 = _ := hH.holds 1 (by decide) trivial 8 rfl
    have e9 : x 9 = _ := hH.holds 2 (by decide) trivial 9 rfl
    have e10 : x 10 = _ := hH.holds 3 (by decide) trivial 10 rfl
    obtain ⟨b5, e5, l5, u5, o5⟩ := hH.holds 4 (by decide) trivial 5 rfl
    obtain ⟨b6, e6, l6, u6, o6⟩ := hH.holds 5 (by decide) trivial 6 rfl
    have n5_6 : b5 ≠ b6 := fun h => hH.apart 4 (by decide) 5 (by decide) (by decide) (by decide) trivial trivial (by decide) 5 6 rfl rfl (by rw [e5, e6, h])
    have n6_5 := n5_6.symm
    obtain ⟨xs, d, rfl⟩ := grow_of_below hH.below
    clear hH
    simp only [e7, e8, e9, e10, e5, e6]; clear e7 e8 e9 e10 e5 e6
    refine new_known2 o5 l5 u5 o6 l6 u6 ?_
    clear o5 o6
    simp [go_sem] at l5 u5 l6 u6
    simp only [List.drop_succ_cons, List.drop_zero]
    go_wp2_with fail
    apply wp_region_specs (by rfl) [.val _, .val _, .val _, .val _] 4 (by rfl) [11, 12, 13, 14] [] [] (by rfl) (by rfl) (by decide) (by decide +kernel) (fun _ _ _ _ _ h => h)
    case hF => intro x; simp only [over, List.foldl_cons, List.foldl_nil, List.setIfInBounds_toArray, List.set_cons_succ, List.set_cons_zero]; exact rfl
    case hops =>
      refine ⟨?o0, ?o1, ?o2, ?o3, trivial⟩
      case o0 =>
        intro x w1 hH K hK
        obtain ⟨xs, d, rfl⟩ := grow_of_below hH.below
        clear hH
        try simp only [World.grow_drew] at hK ⊢
        try simp only [World.grow_grow] at hK ⊢
        go_simp
        go_wp2_with fail
        exact ⟨_, rfl, rfl, (by repeat (first | exact below_of_grow _ _ | exact Below.refl _ _ | exact below_more _ _ _ _ | (simp only [← Array.append_assoc]; first | exact below_more _ _ _ _ | exact below_same _ _ _ | exact Below.refl _ _) | exact below_same _ _ _ | (refine Below.alloc ?_ (by first | (simp; done) | (simp; omega)) _) | (refine Below.grow ?_ (by first | (simp; done) | (simp; omega)) _ _) | refine Below.drew ?_ | refine Below.drewN ?_ _ | (refine Below.putF ?_ (by first | (simp; done) | omega | (simp; omega)) _) | (refine Below.setCell ?_ (by first | (simp; done) | (simp; omega)) _))), fun h => by cases h⟩
      case o1 =>
        intro x w1 hH K hK
        obtain ⟨xs, d, rfl⟩ := grow_of_below hH.below
        clear hH
        try simp only [World.grow_drew] at hK ⊢
        try simp only [World.grow_grow] at hK ⊢
        go_simp
        go_wp2_with fail
        exact ⟨_, rfl, rfl, (by repeat (first | exact below_of_grow _ _ | exact Below.refl _ _ | exact below_more _ _ _ _ | (simp only [← Array.append_assoc]; first | exact below_more _ _ _ _ | exact below_same _ _ _ | exact Below.refl _ _) | exact below_same _ _ _ | (refine Below.alloc ?_ (by first | (simp; done) | (simp; omega)) _) | (refine Below.grow ?_ (by first | (simp; done) | (simp; omega)) _ _) | refine Below.drew ?_ | refine Below.drewN ?_ _ | (refine Below.putF ?_ (by first | (simp; done) | omega | (simp; omega)) _) | (refine Below.setCell ?_ (by first | (simp; done) | (simp; omega)) _))), fun h => by cases h⟩
      case o2 =>
        intro x w1 hH K hK
        have e11 : x 11 = _ := hH.holds 0 (by decide) (by decide +kernel) 11 rfl
        have e12 : x 12 = _ := hH.holds 1 (by decide) (by decide +kernel) 12 rfl
        obtain ⟨xs, d, rfl⟩ := grow_of_below hH.below
        clear hH
        try simp only [World.grow_drew] at hK ⊢
        try simp only [World.grow_grow] at hK ⊢
        simp only [e11, e12] at hK ⊢
        clear e11 e12
        go_simp
        go_wp2_with (refine Gives.use (compare_gives a b ha hb (by simp [go_sem, ha, *]) (by simp [go_sem, hb, *])) ?_; intro ys e)
        exact ⟨_, rfl, rfl, (by first | exact below_more _ _ _ _ | exact (by repeat (first | exact below_of_grow _ _ | exact Below.refl _ _ | exact below_more _ _ _ _ | (simp only [← Array.append_assoc]; first | exact below_more _ _ _ _ | exact below_same _ _ _ | exact Below.refl _ _) | exact below_same _ _ _ | (refine Below.alloc ?_ (by first | (simp; done) | (simp; omega)) _) | (refine Below.grow ?_ (by first | (simp; done) | (simp; omega)) _ _) | refine Below.drew ?_ | refine Below.drewN ?_ _ | (refine Below.putF ?_ (by first | (simp; done) | omega | (simp; omega)) _) | (refine Below.setCell ?_ (by first | (simp; done) | (simp; omega)) _)))), fun h => by cases h⟩
      case o3 =>
        intro x w1 hH K hK
        have e13 : x 13 = _ := hH.holds 2 (by decide) (by decide +kernel) 13 rfl
        obtain ⟨xs, d, rfl⟩ := grow_of_below hH.below
        clear hH
        try simp only [World.grow_drew] at hK ⊢
        try simp only [World.grow_grow] at hK ⊢
        simp only [e13] at hK ⊢
        clear e13
        go_simp
        go_wp2_with fail
        exact ⟨_, rfl, rfl, (by repeat (first | exact below_of_grow _ _ | exact Below.refl _ _ | exact below_more _ _ _ _ | (simp only [← Array.append_assoc]; first | exact below_more _ _ _ _ | exact below_same _ _ _ | exact Below.refl _ _) | exact below_same _ _ _ | (refine Below.alloc ?_ (by first | (simp; done) | (simp; omega)) _) | (refine Below.grow ?_ (by first | (simp; done) | (simp; omega)) _ _) | refine Below.drew ?_ | refine Below.drewN ?_ _ | (refine Below.putF ?_ (by first | (simp; done) | omega | (simp; omega)) _) | (refine Below.setCell ?_ (by first | (simp; done) | (simp; omega)) _))), fun h => by cases h⟩
    case hend =>
      intro x w1 hH
      have e11 : x 11 = _ := hH.holds 0 (by decide) trivial 11 rfl
      have e12 : x 12 = _ := hH.holds 1 (by decide) trivial 12 rfl
      have e13 : x 13 = _ := hH.holds 2 (by decide) trivial 13 rfl
      have e14 : x 14 = _ := hH.holds 3 (by decide) trivial 14 rfl
      obtain ⟨xs, d, rfl⟩ := grow_of_below hH.below
      clear hH
      simp only [e11, e12, e13, e14]; clear e11 e12 e13 e14
      simp only [List.drop_succ_cons, List.drop_zero]
      go_wp2_with fail
      go_ret
      exact ⟨congrArg Ending.returned (congrArg Value.bool HL.out), (by repeat (first | exact below_of_grow _ _ | exact Below.refl _ _ | exact below_more _ _ _ _ | (simp only [← Array.append_assoc]; first | exact below_more _ _ _ _ | exact below_same _ _ _ | exact Below.refl _ _) | exact below_same _ _ _ | (refine Below.alloc ?_ (by first | (simp; done) | (simp; omega)) _) | (refine Below.grow ?_ (by first | (simp; done) | (simp; omega)) _ _) | refine Below.drew ?_ | refine Below.drewN ?_ _ | (refine Below.putF ?_ (by first | (simp; done) | omega | (simp; omega)) _) | (refine Below.setCell ?_ (by first | (simp; done) | (simp; omega)) _)))⟩
end Go.Proofs.Ytbflpnkodpeggaa

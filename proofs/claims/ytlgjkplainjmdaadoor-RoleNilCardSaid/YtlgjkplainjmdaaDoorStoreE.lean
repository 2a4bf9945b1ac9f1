/- Layers 11, 14, 19: a store without records, and what is read of it. -/
import Derived.Test.YtlgjkplainjmdaaDoorChainN
import Derived.Test.YtlgjkplainjmdaaDoorEnt
namespace Go.Proofs.YtlgjkplainjmdaaDoor
set_option maxRecDepth 100000
open Go.RowKit

@[go_sem] theorem agg_recE : Tryd.prog.aggSize 47 = some 9 := by kernel_rfl
@[go_sem ↓ high] theorem ld_recE (a : Addr) : loadVar 47 a = rowLoad 47 a := rfl
@[go_sem ↓ high] theorem st_recE (a : Addr) (v : Value) : storeVar 47 a v = rowStore 47 a v := rfl
@[go_sem] theorem zero_recE : (#[.int .u8 0, .int .u8 0, .int .u8 0, .int .u8 0, .int .u8 0, .bool false, .int .u32 0, .int .u64 0, .string { data := #[] }] : Array Value) = recA Rec.zero := id rfl

/-- at t there is a tree that holds nothing, at s a store over it -/
def EmptyT (w : World) (t : Nat) : Prop := w.heap[t]? = some (.cells #[.pointer none, .int .i64 0] 67)
def EmptyS (w : World) (s : Nat) : Prop := ∃ t, EmptyT w t ∧ w.heap[s]? = some (.cells #[.pointer (some ⟨t, 0, none⟩), .int .u64 0, .int .i64 0] 56)
theorem lt_of_heap {w : World} {t : Nat} {o : Obj} (h : w.heap[t]? = some o) : t < w.heap.size := (Array.getElem?_eq_some_iff.1 h).1
theorem EmptyS.keep {w w' : World} {s : Nat} (h : EmptyS w s) (hb : Below w.heap.size w w') : EmptyS w' s := by
  obtain ⟨t, h1, h2⟩ := h
  exact ⟨t, (hb.block _ (lt_of_heap h1)).trans h1, (hb.block _ (lt_of_heap h2)).trans h2⟩
theorem near_gives (k : List UInt8) (_ : k.length = 25) (t : Nat) (w : World) (h : EmptyT w t) : Gives Tryd.prog 84 #[.pointer (some ⟨t, 0, none⟩), .agg (row8 k)] w (.pointer none) := by
  have hlt := lt_of_heap h
  have hc : w.cell? ⟨t, 0, none⟩ = some (.pointer none) := by unfold EmptyT at h; simp [World.cell?, h]
  unfold Gives
  go_enter Tryd.func84, Tryd.ntmps84
  go_wp2_with fail
  go_loopw [5] (fun s5 wr => s5 = .pointer none ∧ wr = w.alloc (.cells (row8 k) 136)) (fun _ _ => 0)
  case atStart => exact ⟨rfl, rfl⟩
  case round =>
    obtain ⟨rfl, rfl⟩ := hrel
    go_wp2_with fail
    go_ret
    exact ⟨rfl, (by repeat (first | exact below_of_grow _ _ | exact Below.refl _ _ | exact below_more _ _ _ _ | (simp only [← Array.append_assoc]; first | exact below_more _ _ _ _ | exact below_same _ _ _ | exact Below.refl _ _) | exact below_same _ _ _ | (refine Below.alloc ?_ (by first | (simp; done) | (simp; omega)) _) | (refine Below.grow ?_ (by first | (simp; done) | (simp; omega)) _ _) | refine Below.drew ?_ | refine Below.drewN ?_ _ | (refine Below.putF ?_ (by first | (simp; done) | omega | (simp; omega)) _) | (refine Below.setCell ?_ (by first | (simp; done) | (simp; omega)) _)))⟩
theorem find_gives (k : List UInt8) (hk : k.length = 25) (t : Nat) (w : World) (h : EmptyT w t) : Gives Tryd.prog 82 #[.pointer (some ⟨t, 0, none⟩), .agg (row8 k)] w (.pointer none) := by
  have hlt := lt_of_heap h
  have hby := keyBytes_gives k hk
  have hne : ∀ W, Below w.heap.size w W → Gives Tryd.prog 84 #[.pointer (some ⟨t, 0, none⟩), .agg (row8 k)] W (.pointer none) := fun W hb => near_gives k hk t W ((hb.block _ hlt).trans h)
  have HB := Lib.hid hby
  have HN := Lib.hid hne
  clear hby hne h
  unfold Gives
  go_enter Tryd.func82, Tryd.ntmps82
  go_wp2_with fail
  refine Gives.use (HB.out _) ?_
  intro xs0 d0
  go_wp2_with fail
  refine Gives.use (HN.out _ (by repeat (first | exact below_of_grow _ _ | exact Below.refl _ _ | exact below_more _ _ _ _ | (simp only [← Array.append_assoc]; first | exact below_more _ _ _ _ | exact below_same _ _ _ | exact Below.refl _ _) | exact below_same _ _ _ | (refine Below.alloc ?_ (by first | (simp; done) | (simp; omega)) _) | (refine Below.grow ?_ (by first | (simp; done) | (simp; omega)) _ _) | refine Below.drew ?_ | refine Below.drewN ?_ _ | (refine Below.putF ?_ (by first | (simp; done) | omega | (simp; omega)) _) | (refine Below.setCell ?_ (by first | (simp; done) | (simp; omega)) _)))) ?_
  intro xs1 d1
  go_wp2_with fail
  clear HB HN
  go_quiet (fail)
  go_wp2_with fail
  all_goals
    go_ret
    exact ⟨rfl, (by repeat (first | exact below_of_grow _ _ | exact Below.refl _ _ | exact below_more _ _ _ _ | (simp only [← Array.append_assoc]; first | exact below_more _ _ _ _ | exact below_same _ _ _ | exact Below.refl _ _) | exact below_same _ _ _ | (refine Below.alloc ?_ (by first | (simp; done) | (simp; omega)) _) | (refine Below.grow ?_ (by first | (simp; done) | (simp; omega)) _ _) | refine Below.drew ?_ | refine Below.drewN ?_ _ | (refine Below.putF ?_ (by first | (simp; done) | omega | (simp; omega)) _) | (refine Below.setCell ?_ (by first | (simp; done) | (simp; omega)) _)))⟩
theorem get_gives (k : List UInt8) (hk : k.length = 25) (t : Nat) (w : World) (h : EmptyT w t) : Gives Tryd.prog 80 #[.pointer (some ⟨t, 0, none⟩), .agg (row8 k)] w (.tuple #[.pointer none, .bool false]) := by
  have hlt := lt_of_heap h
  have hne : ∀ W, Below w.heap.size w W → Gives Tryd.prog 82 #[.pointer (some ⟨t, 0, none⟩), .agg (row8 k)] W (.pointer none) := fun W hb => find_gives k hk t W ((hb.block _ hlt).trans h)
  have HN := Lib.hid hne
  clear hne h
  unfold Gives
  go_enter Tryd.func80, Tryd.ntmps80
  go_wp2_with fail
  refine Gives.use (HN.out _ (by repeat (first | exact below_of_grow _ _ | exact Below.refl _ _ | exact below_more _ _ _ _ | (simp only [← Array.append_assoc]; first | exact below_more _ _ _ _ | exact below_same _ _ _ | exact Below.refl _ _) | exact below_same _ _ _ | (refine Below.alloc ?_ (by first | (simp; done) | (simp; omega)) _) | (refine Below.grow ?_ (by first | (simp; done) | (simp; omega)) _ _) | refine Below.drew ?_ | refine Below.drewN ?_ _ | (refine Below.putF ?_ (by first | (simp; done) | omega | (simp; omega)) _) | (refine Below.setCell ?_ (by first | (simp; done) | (simp; omega)) _)))) ?_
  intro xs1 d1
  go_wp2_with fail
  exact bodyPost_ret (v := .tuple #[.pointer none, .bool false]) (by simp [results, Tryd.results80, go_sem]) rfl ⟨rfl, (by repeat (first | exact below_of_grow _ _ | exact Below.refl _ _ | exact below_more _ _ _ _ | (simp only [← Array.append_assoc]; first | exact below_more _ _ _ _ | exact below_same _ _ _ | exact Below.refl _ _) | exact below_same _ _ _ | (refine Below.alloc ?_ (by first | (simp; done) | (simp; omega)) _) | (refine Below.grow ?_ (by first | (simp; done) | (simp; omega)) _ _) | refine Below.drew ?_ | refine Below.drewN ?_ _ | (refine Below.putF ?_ (by first | (simp; done) | omega | (simp; omega)) _) | (refine Below.setCell ?_ (by first | (simp; done) | (simp; omega)) _)))⟩
theorem chain_gives (k : List UInt8) (hk : k.length = 25) (s : Nat) (w : World) (h : EmptyS w s) : Gives Tryd.prog 78 #[.pointer (some ⟨s, 0, none⟩), .agg (row8 k)] w (.pointer none) := by
  obtain ⟨t, h1, h2⟩ := h
  have hlt := lt_of_heap h1
  have hls := lt_of_heap h2
  have hc : w.cell? ⟨s, 0, none⟩ = some (.pointer (some ⟨t, 0, none⟩)) := by simp [World.cell?, h2]
  have hne : ∀ W, Below w.heap.size w W → Gives Tryd.prog 80 #[.pointer (some ⟨t, 0, none⟩), .agg (row8 k)] W (.tuple #[.pointer none, .bool false]) := fun W hb => get_gives k hk t W ((hb.block _ hlt).trans h1)
  have HN := Lib.hid hne
  clear hne h1 h2
  unfold Gives
  go_enter Tryd.func78, Tryd.ntmps78
  go_wp2_with fail
  apply wp_region_specs (by rfl) [.val _, .val _, .val _, .val _, .val _, .val _, .val _, .val _, .pure _] 9 (by rfl) [10, 11, 12, 13, 14, 15, 9, 16, 17] [] [8] (by rfl) (by rfl) (by decide) (by decide +kernel) (fun _ _ _ _ _ h => h)
  case hF => intro x; simp only [over, List.foldl_cons, List.foldl_nil, List.setIfInBounds_toArray, List.set_cons_succ, List.set_cons_zero]; exact rfl
  case hops =>
    refine ⟨?o0, ?o1, ?o2, ?o3, ?o4, ?o5, ?o6, ?o7, ?o8, trivial⟩
    case o0 =>
      intro x w1 hH K hK
      obtain ⟨xs, d, rfl⟩ := grow_of_below hH.below
      clear hH
      try simp only [World.grow_drew] at hK ⊢
      try simp only [World.grow_grow] at hK ⊢
      go_simp
      go_wp2_with fail
      exact ⟨_, rfl, rfl, (by repeat (first | exact below_of_grow _ _ | exact Below.refl _ _ | exact below_more _ _ _ _ | (simp only [← Array.append_assoc]; first | exact below_more _ _ _ _ | exact below_same _ _ _ | exact Below.refl _ _) | exact below_same _ _ _ | (refine Below.alloc ?_ (by first | (simp; done) | (simp; omega)) _) | (refine Below.grow ?_ (by first | (simp; done) | (simp; omega)) _ _) | refine Below.drew ?_ | refine Below.drewN ?_ _ | (refine Below.putF ?_ (by first | (simp; done) | omega | (simp; omega)) _) | (refine Below.setCell ?_ (by first | (simp; done) | (simp; omega)) _))), fun h => by cases h⟩
    case o1 =>
      intro x w1 hH K hK
      have e10 : x 10 = _ := hH.holds 0 (by decide) (by decide +kernel) 10 rfl
      obtain ⟨xs, d, rfl⟩ := grow_of_below hH.below
      clear hH
      try simp only [World.grow_drew] at hK ⊢
      try simp only [World.grow_grow] at hK ⊢
      simp only [e10] at hK ⊢
      clear e10
      go_simp
      go_wp2_with fail
      exact ⟨_, rfl, rfl, (by repeat (first | exact below_of_grow _ _ | exact Below.refl _ _ | exact below_more _ _ _ _ | (simp only [← Array.append_assoc]; first | exact below_more _ _ _ _ | exact below_same _ _ _ | exact Below.refl _ _) | exact below_same _ _ _ | (refine Below.alloc ?_ (by first | (simp; done) | (simp; omega)) _) | (refine Below.grow ?_ (by first | (simp; done) | (simp; omega)) _ _) | refine Below.drew ?_ | refine Below.drewN ?_ _ | (refine Below.putF ?_ (by first | (simp; done) | omega | (simp; omega)) _) | (refine Below.setCell ?_ (by first | (simp; done) | (simp; omega)) _))), fun h => by cases h⟩
    case o2 =>
      intro x w1 hH K hK
      have e11 : x 11 = _ := hH.holds 1 (by decide) (by decide +kernel) 11 rfl
      obtain ⟨xs, d, rfl⟩ := grow_of_below hH.below
      clear hH
      try simp only [World.grow_drew] at hK ⊢
      try simp only [World.grow_grow] at hK ⊢
      simp only [e11] at hK ⊢
      clear e11
      go_simp
      go_wp2_with fail
      exact ⟨_, rfl, rfl, (by repeat (first | exact below_of_grow _ _ | exact Below.refl _ _ | exact below_more _ _ _ _ | (simp only [← Array.append_assoc]; first | exact below_more _ _ _ _ | exact below_same _ _ _ | exact Below.refl _ _) | exact below_same _ _ _ | (refine Below.alloc ?_ (by first | (simp; done) | (simp; omega)) _) | (refine Below.grow ?_ (by first | (simp; done) | (simp; omega)) _ _) | refine Below.drew ?_ | refine Below.drewN ?_ _ | (refine Below.putF ?_ (by first | (simp; done) | omega | (simp; omega)) _) | (refine Below.setCell ?_ (by first | (simp; done) | (simp; omega)) _))), fun h => by cases h⟩
    case o3 =>
      intro x w1 hH K hK
      have e12 : x 12 = _ := hH.holds 2 (by decide) (by decide +kernel) 12 rfl
      obtain ⟨xs, d, rfl⟩ := grow_of_below hH.below
      clear hH
      try simp only [World.grow_drew] at hK ⊢
      try simp only [World.grow_grow] at hK ⊢
      simp only [e12] at hK ⊢
      clear e12
      go_simp
      go_wp2_with fail
      exact ⟨_, rfl, rfl, (by repeat (first | exact below_of_grow _ _ | exact Below.refl _ _ | exact below_more _ _ _ _ | (simp only [← Array.append_assoc]; first | exact below_more _ _ _ _ | exact below_same _ _ _ | exact Below.refl _ _) | exact below_same _ _ _ | (refine Below.alloc ?_ (by first | (simp; done) | (simp; omega)) _) | (refine Below.grow ?_ (by first | (simp; done) | (simp; omega)) _ _) | refine Below.drew ?_ | refine Below.drewN ?_ _ | (refine Below.putF ?_ (by first | (simp; done) | omega | (simp; omega)) _) | (refine Below.setCell ?_ (by first | (simp; done) | (simp; omega)) _))), fun h => by cases h⟩
    case o4 =>
      intro x w1 hH K hK
      obtain ⟨xs, d, rfl⟩ := grow_of_below hH.below
      clear hH
      try simp only [World.grow_drew] at hK ⊢
      try simp only [World.grow_grow] at hK ⊢
      go_simp
      go_wp2_with fail
      exact ⟨_, rfl, rfl, (by repeat (first | exact below_of_grow _ _ | exact Below.refl _ _ | exact below_more _ _ _ _ | (simp only [← Array.append_assoc]; first | exact below_more _ _ _ _ | exact below_same _ _ _ | exact Below.refl _ _) | exact below_same _ _ _ | (refine Below.alloc ?_ (by first | (simp; done) | (simp; omega)) _) | (refine Below.grow ?_ (by first | (simp; done) | (simp; omega)) _ _) | refine Below.drew ?_ | refine Below.drewN ?_ _ | (refine Below.putF ?_ (by first | (simp; done) | omega | (simp; omega)) _) | (refine Below.setCell ?_ (by first | (simp; done) | (simp; omega)) _))), fun h => by cases h⟩
    case o5 =>
      intro x w1 hH K hK
      have e13 : x 13 = _ := hH.holds 3 (by decide) (by decide +kernel) 13 rfl
      have e14 : x 14 = _ := hH.holds 4 (by decide) (by decide +kernel) 14 rfl
      obtain ⟨xs, d, rfl⟩ := grow_of_below hH.below
      clear hH
      try simp only [World.grow_drew] at hK ⊢
      try simp only [World.grow_grow] at hK ⊢
      simp only [e13, e14] at hK ⊢
      clear e13 e14
      go_simp
      go_wp2_with fail
      have hbx : Below w.heap.size w ((w.alloc (.cells (row8 k) 42)).grow xs d) := ((Below.refl _ w).alloc (Nat.le_refl _) _).grow (by simp) _ _
      refine Gives.use (HN.out _ hbx) ?_
      intro ys e
      go_wp2_with fail
      exact ⟨_, rfl, rfl, below_more _ _ _ _, fun h => by cases h⟩
    case o6 =>
      intro x w1 hH K hK
      have e15 : x 15 = _ := hH.holds 5 (by decide) (by decide +kernel) 15 rfl
      obtain ⟨xs, d, rfl⟩ := grow_of_below hH.below
      clear hH
      try simp only [World.grow_drew] at hK ⊢
      try simp only [World.grow_grow] at hK ⊢
      simp only [e15] at hK ⊢
      clear e15
      go_simp
      go_wp2_with fail
      exact ⟨_, rfl, rfl, (by repeat (first | exact below_of_grow _ _ | exact Below.refl _ _ | exact below_more _ _ _ _ | (simp only [← Array.append_assoc]; first | exact below_more _ _ _ _ | exact below_same _ _ _ | exact Below.refl _ _) | exact below_same _ _ _ | (refine Below.alloc ?_ (by first | (simp; done) | (simp; omega)) _) | (refine Below.grow ?_ (by first | (simp; done) | (simp; omega)) _ _) | refine Below.drew ?_ | refine Below.drewN ?_ _ | (refine Below.putF ?_ (by first | (simp; done) | omega | (simp; omega)) _) | (refine Below.setCell ?_ (by first | (simp; done) | (simp; omega)) _))), fun h => by cases h⟩
    case o7 =>
      intro x w1 hH K hK
      have e9 : x 9 = _ := hH.holds 6 (by decide) (by decide +kernel) 9 rfl
      obtain ⟨xs, d, rfl⟩ := grow_of_below hH.below
      clear hH
      try simp only [World.grow_drew] at hK ⊢
      try simp only [World.grow_grow] at hK ⊢
      simp only [e9] at hK ⊢
      clear e9
      go_simp
      go_wp2_with fail
      exact ⟨_, rfl, rfl, (by repeat (first | exact below_of_grow _ _ | exact Below.refl _ _ | exact below_more _ _ _ _ | (simp only [← Array.append_assoc]; first | exact below_more _ _ _ _ | exact below_same _ _ _ | exact Below.refl _ _) | exact below_same _ _ _ | (refine Below.alloc ?_ (by first | (simp; done) | (simp; omega)) _) | (refine Below.grow ?_ (by first | (simp; done) | (simp; omega)) _ _) | refine Below.drew ?_ | refine Below.drewN ?_ _ | (refine Below.putF ?_ (by first | (simp; done) | omega | (simp; omega)) _) | (refine Below.setCell ?_ (by first | (simp; done) | (simp; omega)) _))), fun h => by cases h⟩
    case o8 =>
      intro x w1 hH
      have e9 : x 9 = _ := hH.holds 6 (by decide) (by decide +kernel) 9 rfl
      clear hH
      simp only [e9]
      exact Or.inl ⟨rfl, fun _ => rfl⟩
  case hend =>
    intro x w1 hH
    have e10 : x 10 = _ := hH.holds 0 (by decide) trivial 10 rfl
    have e11 : x 11 = _ := hH.holds 1 (by decide) trivial 11 rfl
    have e12 : x 12 = _ := hH.holds 2 (by decide) trivial 12 rfl
    have e13 : x 13 = _ := hH.holds 3 (by decide) trivial 13 rfl
    have e14 : x 14 = _ := hH.holds 4 (by decide) trivial 14 rfl
    have e15 : x 15 = _ := hH.holds 5 (by decide) trivial 15 rfl
    have e9 : x 9 = _ := hH.holds 6 (by decide) trivial 9 rfl
    have e16 : x 16 = _ := hH.holds 7 (by decide) trivial 16 rfl
    have e17 : x 17 = _ := hH.holds 8 (by decide) trivial 17 rfl
    obtain ⟨xs, d, rfl⟩ := grow_of_below hH.below
    clear hH
    simp only [e10, e11, e12, e13, e14, e15, e9, e16, e17]; clear e10 e11 e12 e13 e14 e15 e9 e16 e17
    simp only [List.drop_succ_cons, List.drop_zero]
    go_wp2_with fail
    go_ret
    exact ⟨rfl, (by repeat (first | exact below_of_grow _ _ | exact Below.refl _ _ | exact below_more _ _ _ _ | (simp only [← Array.append_assoc]; first | exact below_more _ _ _ _ | exact below_same _ _ _ | exact Below.refl _ _) | exact below_same _ _ _ | (refine Below.alloc ?_ (by first | (simp; done) | (simp; omega)) _) | (refine Below.grow ?_ (by first | (simp; done) | (simp; omega)) _ _) | refine Below.drew ?_ | refine Below.drewN ?_ _ | (refine Below.putF ?_ (by first | (simp; done) | omega | (simp; omega)) _) | (refine Below.setCell ?_ (by first | (simp; done) | (simp; omega)) _)))⟩
theorem atN_gives (t : Int) (w : World) : Gives Tryd.prog 79 #[.pointer none, .int .u64 t] w (.tuple #[.agg (recA Rec.zero), .bool false]) := by
  have hsn : ∀ W, Gives Tryd.prog 81 #[.pointer none, .int .u64 t] W (.int .i64 (-1)) := fun W => seenN_calls t W
  have HS := Lib.hid hsn
  clear hsn
  unfold Gives
  go_enter Tryd.func79, Tryd.ntmps79
  go_wp2_with fail
  refine Gives.use (HS.out _) ?_
  intro xs1 d1
  go_wp2_with fail
  exact bodyPost_ret (v := .tuple #[.agg (recA Rec.zero), .bool false]) (results_two Tryd.results79 (ResIs.row rfl agg_recE (by simp [go_sem])) (by simp [ResIs])) rfl ⟨rfl, (by repeat (first | exact below_of_grow _ _ | exact Below.refl _ _ | exact below_more _ _ _ _ | (simp only [← Array.append_assoc]; first | exact below_more _ _ _ _ | exact below_same _ _ _ | exact Below.refl _ _) | exact below_same _ _ _ | (refine Below.alloc ?_ (by first | (simp; done) | (simp; omega)) _) | (refine Below.grow ?_ (by first | (simp; done) | (simp; omega)) _ _) | refine Below.drew ?_ | refine Below.drewN ?_ _ | (refine Below.putF ?_ (by first | (simp; done) | omega | (simp; omega)) _) | (refine Below.setCell ?_ (by first | (simp; done) | (simp; omega)) _)))⟩
theorem sread_gives (k : List UInt8) (hk : k.length = 25) (s : Nat) (t : Int) (w : World) (h : EmptyS w s) : Gives Tryd.prog 77 #[.pointer (some ⟨s, 0, none⟩), .agg (row8 k), .int .u64 t] w (.tuple #[.agg (recA Rec.zero), .bool false]) := by
  have hne : ∀ W, Below w.heap.size w W → Gives Tryd.prog 78 #[.pointer (some ⟨s, 0, none⟩), .agg (row8 k)] W (.pointer none) := fun W hb => chain_gives k hk s W (h.keep hb)
  have hat := atN_gives t
  have HN := Lib.hid hne
  have HA := Lib.hid hat
  clear hne h hat
  unfold Gives
  go_enter Tryd.func77, Tryd.ntmps77
  go_wp2_with fail
  refine Gives.use (HN.out _ (by repeat (first | exact below_of_grow _ _ | exact Below.refl _ _ | exact below_more _ _ _ _ | (simp only [← Array.append_assoc]; first | exact below_more _ _ _ _ | exact below_same _ _ _ | exact Below.refl _ _) | exact below_same _ _ _ | (refine Below.alloc ?_ (by first | (simp; done) | (simp; omega)) _) | (refine Below.grow ?_ (by first | (simp; done) | (simp; omega)) _ _) | refine Below.drew ?_ | refine Below.drewN ?_ _ | (refine Below.putF ?_ (by first | (simp; done) | omega | (simp; omega)) _) | (refine Below.setCell ?_ (by first | (simp; done) | (simp; omega)) _)))) ?_
  intro xs1 d1
  go_wp2_with fail
  refine Gives.use (HA.out _) ?_
  intro xs2 d2
  go_wp2_with fail
  exact bodyPost_ret (v := .tuple #[.agg (recA Rec.zero), .bool false]) (results_two Tryd.results77 (ResIs.row rfl agg_recE (by simp [go_sem])) (by simp [ResIs])) rfl ⟨rfl, (by repeat (first | exact below_of_grow _ _ | exact Below.refl _ _ | exact below_more _ _ _ _ | (simp only [← Array.append_assoc]; first | exact below_more _ _ _ _ | exact below_same _ _ _ | exact Below.refl _ _) | exact below_same _ _ _ | (refine Below.alloc ?_ (by first | (simp; done) | (simp; omega)) _) | (refine Below.grow ?_ (by first | (simp; done) | (simp; omega)) _ _) | refine Below.drew ?_ | refine Below.drewN ?_ _ | (refine Below.putF ?_ (by first | (simp; done) | omega | (simp; omega)) _) | (refine Below.setCell ?_ (by first | (simp; done) | (simp; omega)) _)))⟩
theorem snapRead_gives (k : List UInt8) (hk : k.length = 25) (s : Nat) (t : Int) (w : World) (h : EmptyS w s) : Gives Tryd.prog 91 #[.agg #[.pointer (some ⟨s, 0, none⟩), .int .u64 t], .agg (row8 k)] w (.tuple #[.agg (recA Rec.zero), .bool false]) := by
  have hne : ∀ W, Below w.heap.size w W → Gives Tryd.prog 77 #[.pointer (some ⟨s, 0, none⟩), .agg (row8 k), .int .u64 t] W (.tuple #[.agg (recA Rec.zero), .bool false]) := fun W hb => sread_gives k hk s t W (h.keep hb)
  have HN := Lib.hid hne
  clear hne h
  unfold Gives
  go_enter Tryd.func91, Tryd.ntmps91
  go_wp2_with fail
  refine Gives.use (HN.out _ (by repeat (first | exact below_of_grow _ _ | exact Below.refl _ _ | exact below_more _ _ _ _ | (simp only [← Array.append_assoc]; first | exact below_more _ _ _ _ | exact below_same _ _ _ | exact Below.refl _ _) | exact below_same _ _ _ | (refine Below.alloc ?_ (by first | (simp; done) | (simp; omega)) _) | (refine Below.grow ?_ (by first | (simp; done) | (simp; omega)) _ _) | refine Below.drew ?_ | refine Below.drewN ?_ _ | (refine Below.putF ?_ (by first | (simp; done) | omega | (simp; omega)) _) | (refine Below.setCell ?_ (by first | (simp; done) | (simp; omega)) _)))) ?_
  intro xs1 d1
  go_wp2_with fail
  exact bodyPost_ret (v := .tuple #[.agg (recA Rec.zero), .bool false]) (results_two Tryd.results91 (ResIs.row rfl agg_recE (by simp [go_sem])) (by simp [ResIs])) rfl ⟨rfl, (by repeat (first | exact below_of_grow _ _ | exact Below.refl _ _ | exact below_more _ _ _ _ | (simp only [← Array.append_assoc]; first | exact below_more _ _ _ _ | exact below_same _ _ _ | exact Below.refl _ _) | exact below_same _ _ _ | (refine Below.alloc ?_ (by first | (simp; done) | (simp; omega)) _) | (refine Below.grow ?_ (by first | (simp; done) | (simp; omega)) _ _) | refine Below.drew ?_ | refine Below.drewN ?_ _ | (refine Below.putF ?_ (by first | (simp; done) | omega | (simp; omega)) _) | (refine Below.setCell ?_ (by first | (simp; done) | (simp; omega)) _)))⟩
end Go.Proofs.YtlgjkplainjmdaaDoor

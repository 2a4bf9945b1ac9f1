/- Layer 10: a record without what its kind uses. -/
import Derived.Test.YtjdccgmoldmlmaaDoorChain
import Derived.Test.YtjdccgmoldmlmaaDoorPlug
import Derived.BigRegion
import Derived.Deep.CutBlock
import Derived.Handy
namespace Go.Proofs.YtjdccgmoldmlmaaDoor
set_option maxRecDepth 100000
open Go.RowKit

theorem set_cells {w : World} {b : Nat} {c : Array Value} {t : TypeId} (h : w.heap[b]? = some (.cells c t)) (o : Nat) (v : Value) : (w.setCell ⟨b, o, none⟩ v).heap[b]? = some (.cells (c.setIfInBounds o v) t) := by
  simp only [World.setCell, Array.getElem?_modify, h, if_true, Option.map_some]
  simp
theorem cells_is {w : World} {b : Nat} {c : Array Value} {t : TypeId} (h : w.heap[b]? = some (.cells c t)) (i : Nat) : w.cell? ⟨b, i, none⟩ = c[i]? ∧ w.frozen? ⟨b, i, none⟩ = false := by
  simp [World.cell?, World.frozen?, h]
/-- a field is set to zero -/
def Sets (f : Nat) (z : Value) : Prop := ∀ (b o : Nat) (v : Value) (w : World), w.cell? ⟨b, o, none⟩ = some v → w.frozen? ⟨b, o, none⟩ = false → v.oneCell' = true →
  Calls Tryd.prog f #[.pointer (some ⟨b, o, none⟩)] w fun e w' => e = .returned (.tuple #[]) ∧ w' = w.setCell ⟨b, o, none⟩ z
theorem bare1_sets : Sets 44 (.int .u8 0) := by
  intro b o v w h hf h1
  go_enter Tryd.func44, Tryd.ntmps44
  go_wp2_with fail
  go_end0
  exact ⟨rfl, rfl⟩
theorem bare2_sets : Sets 45 (.bool false) := by
  intro b o v w h hf h1
  go_enter Tryd.func45, Tryd.ntmps45
  go_wp2_with fail
  go_end0
  exact ⟨rfl, rfl⟩
theorem bare3_sets : Sets 46 (.int .u32 0) := by
  intro b o v w h hf h1
  go_enter Tryd.func46, Tryd.ntmps46
  go_wp2_with fail
  go_end0
  exact ⟨rfl, rfl⟩
theorem bare4_sets : Sets 47 (.int .u64 0) := by
  intro b o v w h hf h1
  go_enter Tryd.func47, Tryd.ntmps47
  go_wp2_with fail
  go_end0
  exact ⟨rfl, rfl⟩
theorem bare5_sets : Sets 48 (.string { data := #[] }) := by
  intro b o v w h hf h1
  go_enter Tryd.func48, Tryd.ntmps48
  go_wp2_with fail
  go_end0
  exact ⟨rfl, rfl⟩
def fv (f : Nat) : Value := .func (.func f) #[] #[]
def visA : Array Value := #[fv 44, fv 45, fv 46, fv 47, fv 48]
/-- a record without what its kind uses -/
def bareR (r : Rec) : Rec :=
  if r.kind = 1 then { r with user := 0 }
  else if r.kind = 2 then { r with mask := 0 }
  else if r.kind = 4 then { r with parent := 0, state := 0, at_ := 0 }
  else if r.kind = 5 then { r with gone := false, rev := 0, text := Txt.nil }
  else if r.kind = 6 then { r with state := 0, user := 0, rev := 0, text := Txt.nil }
  else r
set_option maxHeartbeats 8000000 in
theorem visit1 (r : Rec) (b : Nat) (w : World) (hk : r.kind = 1) (hb : w.heap[b]? = some (.cells (recA r) 44)) :
    Calls Tryd.prog 43 #[.pointer (some ⟨b, 0, none⟩), .agg visA] w fun e w' => e = .returned (.tuple #[]) ∧ w'.heap[b]? = some (.cells (recA (bareR r)) 44) ∧ But [b] w w' := by
  have hbl := (Array.getElem?_eq_some_iff.1 hb).1
  have k0 : w.cell? ⟨b, 0, none⟩ = some (.int .u8 1) := by rw [(cells_is hb 0).1]; simp [recA, recL, hk]
  have HB := Lib.hid hb
  have HK := Lib.hid hk
  clear hb hk
  unfold visA fv
  go_enter Tryd.func43, Tryd.ntmps43
  go_upto_region 3 with fail
  refine wp_name ?_
  intro W0 hW0
  have hb0 : W0.heap[b]? = some (.cells (recA r) 44) := by rw [hW0]; exact (Below.heap_alloc _ _ _ hbl).trans HB.out
  obtain ⟨vb, hvb⟩ : ∃ vb, vb = w.heap.size := ⟨_, rfl⟩
  have hv0 : W0.heap[vb]? = some (.cells visA 123) := by rw [hW0, hvb]; exact (heap_al _ _ _).trans (if_pos rfl)
  rw [← hvb]
  have hne : vb ≠ b := by omega
  have hbut0 : But [b] w W0 := by rw [hW0]; exact But.of_below ((Below.refl _ w).alloc (Nat.le_refl _) _) _
  clear hW0 hvb k0
  have v0 : W0.cell? ⟨vb, 0, none⟩ = some (.func (.func 44) #[] #[]) := (cells_is hv0 0).1
  have o0 : W0.cell? ⟨b, 2, none⟩ = some (.int .u8 r.user.toNat) := (cells_is hb0 2).1
  have f0 : W0.frozen? ⟨b, 2, none⟩ = false := (cells_is hb0 2).2
  have H0 := Lib.hid (And.intro hb0 (And.intro hv0 hbut0))
  clear hb0 hv0 hbut0
  go_region_with (go_at_call 44; refine (bare1_sets b 2 _ W0.drew o0 f0 rfl).mono ?_; rintro e w' ⟨rfl, rfl⟩)
  go_wp2_with fail
  go_end0
  have hbare : bareR r = { r with user := 0 } := by unfold bareR; simp [HK.out]
  refine ⟨rfl, ?_, H0.out.2.2.trans ((But.setCell W0 b _ _).trans (But.of_below ((Below.refl _ _).drew) _))⟩
  rw [hbare]
  exact set_cells H0.out.1 _ _
set_option maxHeartbeats 8000000 in
theorem visit2 (r : Rec) (b : Nat) (w : World) (hk : r.kind = 2) (hb : w.heap[b]? = some (.cells (recA r) 44)) :
    Calls Tryd.prog 43 #[.pointer (some ⟨b, 0, none⟩), .agg visA] w fun e w' => e = .returned (.tuple #[]) ∧ w'.heap[b]? = some (.cells (recA (bareR r)) 44) ∧ But [b] w w' := by
  have hbl := (Array.getElem?_eq_some_iff.1 hb).1
  have k0 : w.cell? ⟨b, 0, none⟩ = some (.int .u8 2) := by rw [(cells_is hb 0).1]; simp [recA, recL, hk]
  have HB := Lib.hid hb
  have HK := Lib.hid hk
  clear hb hk
  unfold visA fv
  go_enter Tryd.func43, Tryd.ntmps43
  go_upto_region 5 with fail
  refine wp_name ?_
  intro W0 hW0
  have hb0 : W0.heap[b]? = some (.cells (recA r) 44) := by rw [hW0]; exact (Below.heap_alloc _ _ _ hbl).trans HB.out
  obtain ⟨vb, hvb⟩ : ∃ vb, vb = w.heap.size := ⟨_, rfl⟩
  have hv0 : W0.heap[vb]? = some (.cells visA 123) := by rw [hW0, hvb]; exact (heap_al _ _ _).trans (if_pos rfl)
  rw [← hvb]
  have hne : vb ≠ b := by omega
  have hbut0 : But [b] w W0 := by rw [hW0]; exact But.of_below ((Below.refl _ w).alloc (Nat.le_refl _) _) _
  clear hW0 hvb k0
  have v0 : W0.cell? ⟨vb, 0, none⟩ = some (.func (.func 44) #[] #[]) := (cells_is hv0 0).1
  have o0 : W0.cell? ⟨b, 4, none⟩ = some (.int .u8 r.mask.toNat) := (cells_is hb0 4).1
  have f0 : W0.frozen? ⟨b, 4, none⟩ = false := (cells_is hb0 4).2
  have H0 := Lib.hid (And.intro hb0 (And.intro hv0 hbut0))
  clear hb0 hv0 hbut0
  go_region_with (go_at_call 44; refine (bare1_sets b 4 _ W0.drew o0 f0 rfl).mono ?_; rintro e w' ⟨rfl, rfl⟩)
  go_wp2_with fail
  go_end0
  have hbare : bareR r = { r with mask := 0 } := by unfold bareR; simp [HK.out]
  refine ⟨rfl, ?_, H0.out.2.2.trans ((But.setCell W0 b _ _).trans (But.of_below ((Below.refl _ _).drew) _))⟩
  rw [hbare]
  exact set_cells H0.out.1 _ _
set_option maxHeartbeats 8000000 in
theorem visit4 (r : Rec) (b : Nat) (w : World) (hk : r.kind = 4) (hb : w.heap[b]? = some (.cells (recA r) 44)) :
    Calls Tryd.prog 43 #[.pointer (some ⟨b, 0, none⟩), .agg visA] w fun e w' => e = .returned (.tuple #[]) ∧ w'.heap[b]? = some (.cells (recA (bareR r)) 44) ∧ But [b] w w' := by
  have hbl := (Array.getElem?_eq_some_iff.1 hb).1
  have k0 : w.cell? ⟨b, 0, none⟩ = some (.int .u8 4) := by rw [(cells_is hb 0).1]; simp [recA, recL, hk]
  have HB := Lib.hid hb
  have HK := Lib.hid hk
  clear hb hk
  unfold visA fv
  go_enter Tryd.func43, Tryd.ntmps43
  go_upto_region 7 with fail
  refine wp_name ?_
  intro W0 hW0
  have hb0 : W0.heap[b]? = some (.cells (recA r) 44) := by rw [hW0]; exact (Below.heap_alloc _ _ _ hbl).trans HB.out
  obtain ⟨vb, hvb⟩ : ∃ vb, vb = w.heap.size := ⟨_, rfl⟩
  have hv0 : W0.heap[vb]? = some (.cells visA 123) := by rw [hW0, hvb]; exact (heap_al _ _ _).trans (if_pos rfl)
  rw [← hvb]
  have hne : vb ≠ b := by omega
  have hbut0 : But [b] w W0 := by rw [hW0]; exact But.of_below ((Below.refl _ w).alloc (Nat.le_refl _) _) _
  clear hW0 hvb k0
  have v0 : W0.cell? ⟨vb, 0, none⟩ = some (.func (.func 44) #[] #[]) := (cells_is hv0 0).1
  have o0 : W0.cell? ⟨b, 3, none⟩ = some (.int .u8 r.parent.toNat) := (cells_is hb0 3).1
  have f0 : W0.frozen? ⟨b, 3, none⟩ = false := (cells_is hb0 3).2
  have H0 := Lib.hid (And.intro hb0 (And.intro hv0 hbut0))
  clear hb0 hv0 hbut0
  go_region_with (go_at_call 44; refine (bare1_sets b 3 _ W0.drew o0 f0 rfl).mono ?_; rintro e w' ⟨rfl, rfl⟩)
  go_upto_region 8 with fail
  refine wp_name ?_
  intro W1 hW1
  have hb1 : W1.heap[b]? = some (.cells (recA { r with parent := 0 }) 44) := by rw [hW1]; exact set_cells H0.out.1 _ _
  have hv1 : W1.heap[vb]? = some (.cells visA 123) := by rw [hW1]; exact (Below.heap_setCell _ ⟨b, _, none⟩ _ _ hne).trans H0.out.2.1
  have hbut1 : But [b] w W1 := by rw [hW1]; exact H0.out.2.2.trans ((But.setCell W0 b _ _).trans (But.of_below ((Below.refl _ _).drew) _))
  clear hW1 v0 o0 f0
  have v1 : W1.cell? ⟨vb, 0, none⟩ = some (.func (.func 44) #[] #[]) := (cells_is hv1 0).1
  have o1 : W1.cell? ⟨b, 1, none⟩ = some (.int .u8 r.state.toNat) := (cells_is hb1 1).1
  have f1 : W1.frozen? ⟨b, 1, none⟩ = false := (cells_is hb1 1).2
  have H1 := Lib.hid (And.intro hb1 (And.intro hv1 hbut1))
  clear hb1 hv1 hbut1
  go_region_with (go_at_call 44; refine (bare1_sets b 1 _ W1.drew o1 f1 rfl).mono ?_; rintro e w' ⟨rfl, rfl⟩)
  go_upto_region 9 with fail
  refine wp_name ?_
  intro W2 hW2
  have hb2 : W2.heap[b]? = some (.cells (recA { { r with parent := 0 } with state := 0 }) 44) := by rw [hW2]; exact set_cells H1.out.1 _ _
  have hv2 : W2.heap[vb]? = some (.cells visA 123) := by rw [hW2]; exact (Below.heap_setCell _ ⟨b, _, none⟩ _ _ hne).trans H1.out.2.1
  have hbut2 : But [b] w W2 := by rw [hW2]; exact H1.out.2.2.trans ((But.setCell W1 b _ _).trans (But.of_below ((Below.refl _ _).drew) _))
  clear hW2 v1 o1 f1
  have v2 : W2.cell? ⟨vb, 3, none⟩ = some (.func (.func 47) #[] #[]) := (cells_is hv2 3).1
  have o2 : W2.cell? ⟨b, 7, none⟩ = some (.int .u64 r.at_.toNat) := (cells_is hb2 7).1
  have f2 : W2.frozen? ⟨b, 7, none⟩ = false := (cells_is hb2 7).2
  have H2 := Lib.hid (And.intro hb2 (And.intro hv2 hbut2))
  clear hb2 hv2 hbut2
  go_region_with (go_at_call 47; refine (bare4_sets b 7 _ W2.drew o2 f2 rfl).mono ?_; rintro e w' ⟨rfl, rfl⟩)
  go_wp2_with fail
  go_end0
  have hbare : bareR r = { { { r with parent := 0 } with state := 0 } with at_ := 0 } := by unfold bareR; simp [HK.out]
  refine ⟨rfl, ?_, H2.out.2.2.trans ((But.setCell W2 b _ _).trans (But.of_below ((Below.refl _ _).drew) _))⟩
  rw [hbare]
  exact set_cells H2.out.1 _ _
set_option maxHeartbeats 8000000 in
theorem visit5 (r : Rec) (b : Nat) (w : World) (hk : r.kind = 5) (hb : w.heap[b]? = some (.cells (recA r) 44)) :
    Calls Tryd.prog 43 #[.pointer (some ⟨b, 0, none⟩), .agg visA] w fun e w' => e = .returned (.tuple #[]) ∧ w'.heap[b]? = some (.cells (recA (bareR r)) 44) ∧ But [b] w w' := by
  have hbl := (Array.getElem?_eq_some_iff.1 hb).1
  have k0 : w.cell? ⟨b, 0, none⟩ = some (.int .u8 5) := by rw [(cells_is hb 0).1]; simp [recA, recL, hk]
  have HB := Lib.hid hb
  have HK := Lib.hid hk
  clear hb hk
  unfold visA fv
  go_enter Tryd.func43, Tryd.ntmps43
  go_upto_region 11 with fail
  refine wp_name ?_
  intro W0 hW0
  have hb0 : W0.heap[b]? = some (.cells (recA r) 44) := by rw [hW0]; exact (Below.heap_alloc _ _ _ hbl).trans HB.out
  obtain ⟨vb, hvb⟩ : ∃ vb, vb = w.heap.size := ⟨_, rfl⟩
  have hv0 : W0.heap[vb]? = some (.cells visA 123) := by rw [hW0, hvb]; exact (heap_al _ _ _).trans (if_pos rfl)
  rw [← hvb]
  have hne : vb ≠ b := by omega
  have hbut0 : But [b] w W0 := by rw [hW0]; exact But.of_below ((Below.refl _ w).alloc (Nat.le_refl _) _) _
  clear hW0 hvb k0
  have v0 : W0.cell? ⟨vb, 1, none⟩ = some (.func (.func 45) #[] #[]) := (cells_is hv0 1).1
  have o0 : W0.cell? ⟨b, 5, none⟩ = some (.bool r.gone) := (cells_is hb0 5).1
  have f0 : W0.frozen? ⟨b, 5, none⟩ = false := (cells_is hb0 5).2
  have H0 := Lib.hid (And.intro hb0 (And.intro hv0 hbut0))
  clear hb0 hv0 hbut0
  go_region_with (go_at_call 45; refine (bare2_sets b 5 _ W0.drew o0 f0 rfl).mono ?_; rintro e w' ⟨rfl, rfl⟩)
  go_upto_region 12 with fail
  refine wp_name ?_
  intro W1 hW1
  have hb1 : W1.heap[b]? = some (.cells (recA { r with gone := false }) 44) := by rw [hW1]; exact set_cells H0.out.1 _ _
  have hv1 : W1.heap[vb]? = some (.cells visA 123) := by rw [hW1]; exact (Below.heap_setCell _ ⟨b, _, none⟩ _ _ hne).trans H0.out.2.1
  have hbut1 : But [b] w W1 := by rw [hW1]; exact H0.out.2.2.trans ((But.setCell W0 b _ _).trans (But.of_below ((Below.refl _ _).drew) _))
  clear hW1 v0 o0 f0
  have v1 : W1.cell? ⟨vb, 2, none⟩ = some (.func (.func 46) #[] #[]) := (cells_is hv1 2).1
  have o1 : W1.cell? ⟨b, 6, none⟩ = some (.int .u32 r.rev.toNat) := (cells_is hb1 6).1
  have f1 : W1.frozen? ⟨b, 6, none⟩ = false := (cells_is hb1 6).2
  have H1 := Lib.hid (And.intro hb1 (And.intro hv1 hbut1))
  clear hb1 hv1 hbut1
  go_region_with (go_at_call 46; refine (bare3_sets b 6 _ W1.drew o1 f1 rfl).mono ?_; rintro e w' ⟨rfl, rfl⟩)
  go_upto_region 13 with fail
  refine wp_name ?_
  intro W2 hW2
  have hb2 : W2.heap[b]? = some (.cells (recA { { r with gone := false } with rev := 0 }) 44) := by rw [hW2]; exact set_cells H1.out.1 _ _
  have hv2 : W2.heap[vb]? = some (.cells visA 123) := by rw [hW2]; exact (Below.heap_setCell _ ⟨b, _, none⟩ _ _ hne).trans H1.out.2.1
  have hbut2 : But [b] w W2 := by rw [hW2]; exact H1.out.2.2.trans ((But.setCell W1 b _ _).trans (But.of_below ((Below.refl _ _).drew) _))
  clear hW2 v1 o1 f1
  have v2 : W2.cell? ⟨vb, 4, none⟩ = some (.func (.func 48) #[] #[]) := (cells_is hv2 4).1
  have o2 : W2.cell? ⟨b, 8, none⟩ = some (.string (bs r.text.val)) := (cells_is hb2 8).1
  have f2 : W2.frozen? ⟨b, 8, none⟩ = false := (cells_is hb2 8).2
  have H2 := Lib.hid (And.intro hb2 (And.intro hv2 hbut2))
  clear hb2 hv2 hbut2
  go_region_with (go_at_call 48; refine (bare5_sets b 8 _ W2.drew o2 f2 rfl).mono ?_; rintro e w' ⟨rfl, rfl⟩)
  go_wp2_with fail
  go_end0
  have hbare : bareR r = { { { r with gone := false } with rev := 0 } with text := Txt.nil } := by unfold bareR; simp [HK.out]
  refine ⟨rfl, ?_, H2.out.2.2.trans ((But.setCell W2 b _ _).trans (But.of_below ((Below.refl _ _).drew) _))⟩
  rw [hbare]
  exact set_cells H2.out.1 _ _
set_option maxHeartbeats 8000000 in
theorem visit6 (r : Rec) (b : Nat) (w : World) (hk : r.kind = 6) (hb : w.heap[b]? = some (.cells (recA r) 44)) :
    Calls Tryd.prog 43 #[.pointer (some ⟨b, 0, none⟩), .agg visA] w fun e w' => e = .returned (.tuple #[]) ∧ w'.heap[b]? = some (.cells (recA (bareR r)) 44) ∧ But [b] w w' := by
  have hbl := (Array.getElem?_eq_some_iff.1 hb).1
  have k0 : w.cell? ⟨b, 0, none⟩ = some (.int .u8 6) := by rw [(cells_is hb 0).1]; simp [recA, recL, hk]
  have HB := Lib.hid hb
  have HK := Lib.hid hk
  clear hb hk
  unfold visA fv
  go_enter Tryd.func43, Tryd.ntmps43
  go_upto_region 15 with fail
  refine wp_name ?_
  intro W0 hW0
  have hb0 : W0.heap[b]? = some (.cells (recA r) 44) := by rw [hW0]; exact (Below.heap_alloc _ _ _ hbl).trans HB.out
  obtain ⟨vb, hvb⟩ : ∃ vb, vb = w.heap.size := ⟨_, rfl⟩
  have hv0 : W0.heap[vb]? = some (.cells visA 123) := by rw [hW0, hvb]; exact (heap_al _ _ _).trans (if_pos rfl)
  rw [← hvb]
  have hne : vb ≠ b := by omega
  have hbut0 : But [b] w W0 := by rw [hW0]; exact But.of_below ((Below.refl _ w).alloc (Nat.le_refl _) _) _
  clear hW0 hvb k0
  have v0 : W0.cell? ⟨vb, 0, none⟩ = some (.func (.func 44) #[] #[]) := (cells_is hv0 0).1
  have o0 : W0.cell? ⟨b, 1, none⟩ = some (.int .u8 r.state.toNat) := (cells_is hb0 1).1
  have f0 : W0.frozen? ⟨b, 1, none⟩ = false := (cells_is hb0 1).2
  have H0 := Lib.hid (And.intro hb0 (And.intro hv0 hbut0))
  clear hb0 hv0 hbut0
  go_region_with (go_at_call 44; refine (bare1_sets b 1 _ W0.drew o0 f0 rfl).mono ?_; rintro e w' ⟨rfl, rfl⟩)
  go_upto_region 16 with fail
  refine wp_name ?_
  intro W1 hW1
  have hb1 : W1.heap[b]? = some (.cells (recA { r with state := 0 }) 44) := by rw [hW1]; exact set_cells H0.out.1 _ _
  have hv1 : W1.heap[vb]? = some (.cells visA 123) := by rw [hW1]; exact (Below.heap_setCell _ ⟨b, _, none⟩ _ _ hne).trans H0.out.2.1
  have hbut1 : But [b] w W1 := by rw [hW1]; exact H0.out.2.2.trans ((But.setCell W0 b _ _).trans (But.of_below ((Below.refl _ _).drew) _))
  clear hW1 v0 o0 f0
  have v1 : W1.cell? ⟨vb, 0, none⟩ = some (.func (.func 44) #[] #[]) := (cells_is hv1 0).1
  have o1 : W1.cell? ⟨b, 2, none⟩ = some (.int .u8 r.user.toNat) := (cells_is hb1 2).1
  have f1 : W1.frozen? ⟨b, 2, none⟩ = false := (cells_is hb1 2).2
  have H1 := Lib.hid (And.intro hb1 (And.intro hv1 hbut1))
  clear hb1 hv1 hbut1
  go_region_with (go_at_call 44; refine (bare1_sets b 2 _ W1.drew o1 f1 rfl).mono ?_; rintro e w' ⟨rfl, rfl⟩)
  go_upto_region 17 with fail
  refine wp_name ?_
  intro W2 hW2
  have hb2 : W2.heap[b]? = some (.cells (recA { { r with state := 0 } with user := 0 }) 44) := by rw [hW2]; exact set_cells H1.out.1 _ _
  have hv2 : W2.heap[vb]? = some (.cells visA 123) := by rw [hW2]; exact (Below.heap_setCell _ ⟨b, _, none⟩ _ _ hne).trans H1.out.2.1
  have hbut2 : But [b] w W2 := by rw [hW2]; exact H1.out.2.2.trans ((But.setCell W1 b _ _).trans (But.of_below ((Below.refl _ _).drew) _))
  clear hW2 v1 o1 f1
  have v2 : W2.cell? ⟨vb, 2, none⟩ = some (.func (.func 46) #[] #[]) := (cells_is hv2 2).1
  have o2 : W2.cell? ⟨b, 6, none⟩ = some (.int .u32 r.rev.toNat) := (cells_is hb2 6).1
  have f2 : W2.frozen? ⟨b, 6, none⟩ = false := (cells_is hb2 6).2
  have H2 := Lib.hid (And.intro hb2 (And.intro hv2 hbut2))
  clear hb2 hv2 hbut2
  go_region_with (go_at_call 46; refine (bare3_sets b 6 _ W2.drew o2 f2 rfl).mono ?_; rintro e w' ⟨rfl, rfl⟩)
  go_upto_region 18 with fail
  refine wp_name ?_
  intro W3 hW3
  have hb3 : W3.heap[b]? = some (.cells (recA { { { r with state := 0 } with user := 0 } with rev := 0 }) 44) := by rw [hW3]; exact set_cells H2.out.1 _ _
  have hv3 : W3.heap[vb]? = some (.cells visA 123) := by rw [hW3]; exact (Below.heap_setCell _ ⟨b, _, none⟩ _ _ hne).trans H2.out.2.1
  have hbut3 : But [b] w W3 := by rw [hW3]; exact H2.out.2.2.trans ((But.setCell W2 b _ _).trans (But.of_below ((Below.refl _ _).drew) _))
  clear hW3 v2 o2 f2
  have v3 : W3.cell? ⟨vb, 4, none⟩ = some (.func (.func 48) #[] #[]) := (cells_is hv3 4).1
  have o3 : W3.cell? ⟨b, 8, none⟩ = some (.string (bs r.text.val)) := (cells_is hb3 8).1
  have f3 : W3.frozen? ⟨b, 8, none⟩ = false := (cells_is hb3 8).2
  have H3 := Lib.hid (And.intro hb3 (And.intro hv3 hbut3))
  clear hb3 hv3 hbut3
  go_region_with (go_at_call 48; refine (bare5_sets b 8 _ W3.drew o3 f3 rfl).mono ?_; rintro e w' ⟨rfl, rfl⟩)
  go_wp2_with fail
  go_end0
  have hbare : bareR r = { { { { r with state := 0 } with user := 0 } with rev := 0 } with text := Txt.nil } := by unfold bareR; simp [HK.out]
  refine ⟨rfl, ?_, H3.out.2.2.trans ((But.setCell W3 b _ _).trans (But.of_below ((Below.refl _ _).drew) _))⟩
  rw [hbare]
  exact set_cells H3.out.1 _ _
end Go.Proofs.YtjdccgmoldmlmaaDoor

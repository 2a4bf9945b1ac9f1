/- Layer 10: a record without what its kind uses. -/
import Derived.Test.YtfmphfidloobkaaGreatDoorQac
import Derived.Test.YtfmphfidloobkaaGreatDoorQad
import Derived.BigRegion
import Derived.Deep.CutBlock
import Derived.Handy
import Derived.Test.YtfmphfidloobkaaGreatDoorQae
namespace Go.Proofs.YtfmphfidloobkaaGreatDoor
set_option maxRecDepth 100000
open Go.RowKit

theorem set_cells {w : World} {b : Nat} {c : Array Value} {t : TypeId} (h : w.heap[b]? = some (.cells c t)) (o : Nat) (v : Value) : (w.setCell ⟨b, o, none⟩ v).heap[b]? = some (.cells (c.setIfInBounds o v) t) := by
  simp only [World.setCell, Array.getElem?_modify, h, if_true, Option.map_some]
  simp
theorem cells_is {w : World} {b : Nat} {c : Array Value} {t : TypeId} (h : w.heap[b]? = some (.cells c t)) (i : Nat) : w.cell? ⟨b, i, none⟩ = c[i]? ∧ w.frozen? ⟨b, i, none⟩ = false := by
  simp [World.cell?, World.frozen?, h]
/-- a field is set to zero -/
def Sets (f : Nat) (z : Value) : Prop := ∀ (b o : Nat) (v : Value) (w : World), w.cell? ⟨b, o, none⟩ = some v → w.frozen? ⟨b, o, none⟩ = false → v.oneCell' = true →
  Calls Tryz.prog f #[.pointer (some ⟨b, o, none⟩)] w fun e w' => e = .returned (.tuple #[]) ∧ w' = w.setCell ⟨b, o, none⟩ z
theorem bare1_sets : Sets 172 (.int .u8 0) := by
  intro b o v w h hf h1
  go_enter Tryz.func172, Tryz.ntmps172
  go_wp2_with fail
  go_end0
  exact ⟨rfl, rfl⟩
theorem bare2_sets : Sets 173 (.bool false) := by
  intro b o v w h hf h1
  go_enter Tryz.func173, Tryz.ntmps173
  go_wp2_with fail
  go_end0
  exact ⟨rfl, rfl⟩
theorem bare3_sets : Sets 174 (.int .u32 0) := by
  intro b o v w h hf h1
  go_enter Tryz.func174, Tryz.ntmps174
  go_wp2_with fail
  go_end0
  exact ⟨rfl, rfl⟩
theorem bare4_sets : Sets 175 (.int .u64 0) := by
  intro b o v w h hf h1
  go_enter Tryz.func175, Tryz.ntmps175
  go_wp2_with fail
  go_end0
  exact ⟨rfl, rfl⟩
theorem bare5_sets : Sets 176 (.string { data := #[] }) := by
  intro b o v w h hf h1
  go_enter Tryz.func176, Tryz.ntmps176
  go_wp2_with fail
  go_end0
  exact ⟨rfl, rfl⟩
def fv (f : Nat) : Value := .func (.func f) #[] #[]
def visA : Array Value := #[fv 172, fv 173, fv 174, fv 175, fv 176]
/-- a record without what its kind uses -/
def bareR (r : Rec) : Rec :=
  if r.kind = 1 then { r with user := 0 }
  else if r.kind = 2 then { r with mask := 0 }
  else if r.kind = 4 then { r with parent := 0, state := 0, at_ := 0 }
  else if r.kind = 5 then { r with gone := false, rev := 0, text := Txt.nil }
  else if r.kind = 6 then { r with state := 0, user := 0, rev := 0, text := Txt.nil }
  else r
set_option maxHeartbeats 8000000 in
theorem visit1 (r : Rec) (b : Nat) (w : World) (hk : r.kind = 1) (hb : w.heap[b]? = some (.cells (recA r) 77)) :
    Calls Tryz.prog 171 #[.pointer (some ⟨b, 0, none⟩), .agg visA] w fun e w' => e = .returned (.tuple #[]) ∧ w'.heap[b]? = some (.cells (recA (bareR r)) 77) ∧ But [b] w w' := by
  have hbl := (Array.getElem?_eq_some_iff.1 hb).1
  have k0 : w.cell? ⟨b, 0, none⟩ = some (.int .u8 1) := by rw [(cells_is hb 0).1]; simp [recA, recL, hk]
  have HB := Lib.hid hb
  have HK := Lib.hid hk
  clear hb hk
  unfold visA fv
  go_enter Tryz.func171, Tryz.ntmps171
  go_upto_region 3 with fail
  refine wp_name ?_
  intro W0 hW0
  have hb0 : W0.heap[b]? = some (.cells (recA r) 77) := by rw [hW0]; exact (Below.heap_alloc _ _ _ hbl).trans HB.out
  obtain ⟨vb, hvb⟩ : ∃ vb, vb = w.heap.size := ⟨_, rfl⟩
  have hv0 : W0.heap[vb]? = some (.cells visA 329) := by rw [hW0, hvb]; exact (heap_al _ _ _).trans (if_pos rfl)
  rw [← hvb]
  have hne : vb ≠ b := by omega
  have hbut0 : But [b] w W0 := by rw [hW0]; exact But.of_below ((Below.refl _ w).alloc (Nat.le_refl _) _) _
  clear hW0 hvb k0
  have v0 : W0.cell? ⟨vb, 0, none⟩ = some (.func (.func 172) #[] #[]) := (cells_is hv0 0).1
  have o0 : W0.cell? ⟨b, 2, none⟩ = some (.int .u8 r.user.toNat) := (cells_is hb0 2).1
  have f0 : W0.frozen? ⟨b, 2, none⟩ = false := (cells_is hb0 2).2
  have H0 := Lib.hid (And.intro hb0 (And.intro hv0 hbut0))
  clear hb0 hv0 hbut0
  go_region_with (go_at_call 172; refine (bare1_sets b 2 _ W0.drew o0 f0 rfl).mono ?_; rintro e w' ⟨rfl, rfl⟩)
  go_wp2_with fail
  go_end0
  have hbare : bareR r = { r with user := 0 } := by unfold bareR; simp [HK.out]
  refine ⟨rfl, ?_, H0.out.2.2.trans ((But.setCell W0 b _ _).trans (But.of_below ((Below.refl _ _).drew) _))⟩
  rw [hbare]
  exact set_cells H0.out.1 _ _
set_option maxHeartbeats 8000000 in
theorem visit2 (r : Rec) (b : Nat) (w : World) (hk : r.kind = 2) (hb : w.heap[b]? = some (.cells (recA r) 77)) :
    Calls Tryz.prog 171 #[.pointer (some ⟨b, 0, none⟩), .agg visA] w fun e w' => e = .returned (.tuple #[]) ∧ w'.heap[b]? = some (.cells (recA (bareR r)) 77) ∧ But [b] w w' := by
  have hbl := (Array.getElem?_eq_some_iff.1 hb).1
  have k0 : w.cell? ⟨b, 0, none⟩ = some (.int .u8 2) := by rw [(cells_is hb 0).1]; simp [recA, recL, hk]
  have HB := Lib.hid hb
  have HK := Lib.hid hk
  clear hb hk
  unfold visA fv
  go_enter Tryz.func171, Tryz.ntmps171
  go_upto_region 5 with fail
  refine wp_name ?_
  intro W0 hW0
  have hb0 : W0.heap[b]? = some (.cells (recA r) 77) := by rw [hW0]; exact (Below.heap_alloc _ _ _ hbl).trans HB.out
  obtain ⟨vb, hvb⟩ : ∃ vb, vb = w.heap.size := ⟨_, rfl⟩
  have hv0 : W0.heap[vb]? = some (.cells visA 329) := by rw [hW0, hvb]; exact (heap_al _ _ _).trans (if_pos rfl)
  rw [← hvb]
  have hne : vb ≠ b := by omega
  have hbut0 : But [b] w W0 := by rw [hW0]; exact But.of_below ((Below.refl _ w).alloc (Nat.le_refl _) _) _
  clear hW0 hvb k0
  have v0 : W0.cell? ⟨vb, 0, none⟩ = some (.func (.func 172) #[] #[]) := (cells_is hv0 0).1
  have o0 : W0.cell? ⟨b, 4, none⟩ = some (.int .u8 r.mask.toNat) := (cells_is hb0 4).1
  have f0 : W0.frozen? ⟨b, 4, none⟩ = false := (cells_is hb0 4).2
  have H0 := Lib.hid (And.intro hb0 (And.intro hv0 hbut0))
  clear hb0 hv0 hbut0
  go_region_with (go_at_call 172; refine (bare1_sets b 4 _ W0.drew o0 f0 rfl).mono ?_; rintro e w' ⟨rfl, rfl⟩)
  go_wp2_with fail
  go_end0
  have hbare : bareR r = { r with mask := 0 } := by unfold bareR; simp [HK.out]
  refine ⟨rfl, ?_, H0.out.2.2.trans ((But.setCell W0 b _ _).trans (But.of_below ((Below.refl _ _).drew) _))⟩
  rw [hbare]
  exact set_cells H0.out.1 _ _
set_option maxHeartbeats 8000000 in
theorem visit4 (r : Rec) (b : Nat) (w : World) (hk : r.kind = 4) (hb : w.heap[b]? = some (.cells (recA r) 77)) :
    Calls Tryz.prog 171 #[.pointer (some ⟨b, 0, none⟩), .agg visA] w fun e w' => e = .returned (.tuple #[]) ∧ w'.heap[b]? = some (.cells (recA (bareR r)) 77) ∧ But [b] w w' := by
  have hbl := (Array.getElem?_eq_some_iff.1 hb).1
  have k0 : w.cell? ⟨b, 0, none⟩ = some (.int .u8 4) := by rw [(cells_is hb 0).1]; simp [recA, recL, hk]
  have HB := Lib.hid hb
  have HK := Lib.hid hk
  clear hb hk
  unfold visA fv
  go_enter Tryz.func171, Tryz.ntmps171
  go_upto_region 7 with fail
  refine wp_name ?_
  intro W0 hW0
  have hb0 : W0.heap[b]? = some (.cells (recA r) 77) := by rw [hW0]; exact (Below.heap_alloc _ _ _ hbl).trans HB.out
  obtain ⟨vb, hvb⟩ : ∃ vb, vb = w.heap.size := ⟨_, rfl⟩
  have hv0 : W0.heap[vb]? = some (.cells visA 329) := by rw [hW0, hvb]; exact (heap_al _ _ _).trans (if_pos rfl)
  rw [← hvb]
  have hne : vb ≠ b := by omega
  have hbut0 : But [b] w W0 := by rw [hW0]; exact But.of_below ((Below.refl _ w).alloc (Nat.le_refl _) _) _
  clear hW0 hvb k0
  have v0 : W0.cell? ⟨vb, 0, none⟩ = some (.func (.func 172) #[] #[]) := (cells_is hv0 0).1
  have o0 : W0.cell? ⟨b, 3, none⟩ = some (.int .u8 r.parent.toNat) := (cells_is hb0 3).1
  have f0 : W0.frozen? ⟨b, 3, none⟩ = false := (cells_is hb0 3).2
  have H0 := Lib.hid (And.intro hb0 (And.intro hv0 hbut0))
  clear hb0 hv0 hbut0
  go_region_with (go_at_call 172; refine (bare1_sets b 3 _ W0.drew o0 f0 rfl).mono ?_; rintro e w' ⟨rfl, rfl⟩)
  go_upto_region 8 with fail
  refine wp_name ?_
  intro W1 hW1
  have hb1 : W1.heap[b]? = some (.cells (recA { r with parent := 0 }) 77) := by rw [hW1]; exact set_cells H0.out.1 _ _
  have hv1 : W1.heap[vb]? = some (.cells visA 329) := by rw [hW1]; exact (Below.heap_setCell _ ⟨b, _, none⟩ _ _ hne).trans H0.out.2.1
  have hbut1 : But [b] w W1 := by rw [hW1]; exact H0.out.2.2.trans ((But.setCell W0 b _ _).trans (But.of_below ((Below.refl _ _).drew) _))
  clear hW1 v0 o0 f0
  have v1 : W1.cell? ⟨vb, 0, none⟩ = some (.func (.func 172) #[] #[]) := (cells_is hv1 0).1
  have o1 : W1.cell? ⟨b, 1, none⟩ = some (.int .u8 r.state.toNat) := (cells_is hb1 1).1
  have f1 : W1.frozen? ⟨b, 1, none⟩ = false := (cells_is hb1 1).2
  have H1 := Lib.hid (And.intro hb1 (And.intro hv1 hbut1))
  clear hb1 hv1 hbut1
  go_region_with (go_at_call 172; refine (bare1_sets b 1 _ W1.drew o1 f1 rfl).mono ?_; rintro e w' ⟨rfl, rfl⟩)
  go_upto_region 9 with fail
  refine wp_name ?_
  intro W2 hW2
  have hb2 : W2.heap[b]? = some (.cells (recA { { r with parent := 0 } with state := 0 }) 77) := by rw [hW2]; exact set_cells H1.out.1 _ _
  have hv2 : W2.heap[vb]? = some (.cells visA 329) := by rw [hW2]; exact (Below.heap_setCell _ ⟨b, _, none⟩ _ _ hne).trans H1.out.2.1
  have hbut2 : But [b] w W2 := by rw [hW2]; exact H1.out.2.2.trans ((But.setCell W1 b _ _).trans (But.of_below ((Below.refl _ _).drew) _))
  clear hW2 v1 o1 f1
  have v2 : W2.cell? ⟨vb, 3, none⟩ = some (.func (.func 175) #[] #[]) := (cells_is hv2 3).1
  have o2 : W2.cell? ⟨b, 7, none⟩ = some (.int .u64 r.at_.toNat) := (cells_is hb2 7).1
  have f2 : W2.frozen? ⟨b, 7, none⟩ = false := (cells_is hb2 7).2
  have H2 := Lib.hid (And.intro hb2 (And.intro hv2 hbut2))
  clear hb2 hv2 hbut2
  go_region_with (go_at_call 175; refine (bare4_sets b 7 _ W2.drew o2 f2 rfl).mono ?_; rintro e w' ⟨rfl, rfl⟩)
  go_wp2_with fail
  go_end0
  have hbare : bareR r = { { { r with parent := 0 } with state := 0 } with at_ := 0 } := by unfold bareR; simp [HK.out]
  refine ⟨rfl, ?_, H2.out.2.2.trans ((But.setCell W2 b _ _).trans (But.of_below ((Below.refl _ _).drew) _))⟩
  rw [hbare]
  exact set_cells H2.out.1 _ _
set_option maxHeartbeats 8000000 in
theorem visit5 (r : Rec) (b : Nat) (w : World) (hk : r.kind = 5) (hb : w.heap[b]? = some (.cells (recA r) 77)) :
    Calls Tryz.prog 171 #[.pointer (some ⟨b, 0, none⟩), .agg visA] w fun e w' => e = .returned (.tuple #[]) ∧ w'.heap[b]? = some (.cells (recA (bareR r)) 77) ∧ But [b] w w' := by
  have hbl := (Array.getElem?_eq_some_iff.1 hb).1
  have k0 : w.cell? ⟨b, 0, none⟩ = some (.int .u8 5) := by rw [(cells_is hb 0).1]; simp [recA, recL, hk]
  have HB := Lib.hid hb
  have HK := Lib.hid hk
  clear hb hk
  unfold visA fv
  go_enter Tryz.func171, Tryz.ntmps171
  go_upto_region 11 with fail
  refine wp_name ?_
  intro W0 hW0
  have hb0 : W0.heap[b]? = some (.cells (recA r) 77) := by rw [hW0]; exact (Below.heap_alloc _ _ _ hbl).trans HB.out
  obtain ⟨vb, hvb⟩ : ∃ vb, vb = w.heap.size := ⟨_, rfl⟩
  have hv0 : W0.heap[vb]? = some (.cells visA 329) := by rw [hW0, hvb]; exact (heap_al _ _ _).trans (if_pos rfl)
  rw [← hvb]
  have hne : vb ≠ b := by omega
  have hbut0 : But [b] w W0 := by rw [hW0]; exact But.of_below ((Below.refl _ w).alloc (Nat.le_refl _) _) _
  clear hW0 hvb k0
  have v0 : W0.cell? ⟨vb, 1, none⟩ = some (.func (.func 173) #[] #[]) := (cells_is hv0 1).1
  have o0 : W0.cell? ⟨b, 5, none⟩ = some (.bool r.gone) := (cells_is hb0 5).1
  have f0 : W0.frozen? ⟨b, 5, none⟩ = false := (cells_is hb0 5).2
  have H0 := Lib.hid (And.intro hb0 (And.intro hv0 hbut0))
  clear hb0 hv0 hbut0
  go_region_with (go_at_call 173; refine (bare2_sets b 5 _ W0.drew o0 f0 rfl).mono ?_; rintro e w' ⟨rfl, rfl⟩)
  go_upto_region 12 with fail
  refine wp_name ?_
  intro W1 hW1
  have hb1 : W1.heap[b]? = some (.cells (recA { r with gone := false }) 77) := by rw [hW1]; exact set_cells H0.out.1 _ _
  have hv1 : W1.heap[vb]? = some (.cells visA 329) := by rw [hW1]; exact (Below.heap_setCell _ ⟨b, _, none⟩ _ _ hne).trans H0.out.2.1
  have hbut1 : But [b] w W1 := by rw [hW1]; exact H0.out.2.2.trans ((But.setCell W0 b _ _).trans (But.of_below ((Below.refl _ _).drew) _))
  clear hW1 v0 o0 f0
  have v1 : W1.cell? ⟨vb, 2, none⟩ = some (.func (.func 174) #[] #[]) := (cells_is hv1 2).1
  have o1 : W1.cell? ⟨b, 6, none⟩ = some (.int .u32 r.rev.toNat) := (cells_is hb1 6).1
  have f1 : W1.frozen? ⟨b, 6, none⟩ = false := (cells_is hb1 6).2
  have H1 := Lib.hid (And.intro hb1 (And.intro hv1 hbut1))
  clear hb1 hv1 hbut1
  go_region_with (go_at_call 174; refine (bare3_sets b 6 _ W1.drew o1 f1 rfl).mono ?_; rintro e w' ⟨rfl, rfl⟩)
  go_upto_region 13 with fail
  refine wp_name ?_
  intro W2 hW2
  have hb2 : W2.heap[b]? = some (.cells (recA { { r with gone := false } with rev := 0 }) 77) := by rw [hW2]; exact set_cells H1.out.1 _ _
  have hv2 : W2.heap[vb]? = some (.cells visA 329) := by rw [hW2]; exact (Below.heap_setCell _ ⟨b, _, none⟩ _ _ hne).trans H1.out.2.1
  have hbut2 : But [b] w W2 := by rw [hW2]; exact H1.out.2.2.trans ((But.setCell W1 b _ _).trans (But.of_below ((Below.refl _ _).drew) _))
  clear hW2 v1 o1 f1
  have v2 : W2.cell? ⟨vb, 4, none⟩ = some (.func (.func 176) #[] #[]) := (cells_is hv2 4).1
  have o2 : W2.cell? ⟨b, 8, none⟩ = some (.string (bs r.text.val)) := (cells_is hb2 8).1
  have f2 : W2.frozen? ⟨b, 8, none⟩ = false := (cells_is hb2 8).2
  have H2 := Lib.hid (And.intro hb2 (And.intro hv2 hbut2))
  clear hb2 hv2 hbut2
  go_region_with (go_at_call 176; refine (bare5_sets b 8 _ W2.drew o2 f2 rfl).mono ?_; rintro e w' ⟨rfl, rfl⟩)
  go_wp2_with fail
  go_end0
  have hbare : bareR r = { { { r with gone := false } with rev := 0 } with text := Txt.nil } := by unfold bareR; simp [HK.out]
  refine ⟨rfl, ?_, H2.out.2.2.trans ((But.setCell W2 b _ _).trans (But.of_below ((Below.refl _ _).drew) _))⟩
  rw [hbare]
  exact set_cells H2.out.1 _ _
set_option maxHeartbeats 8000000 in
theorem visit6 (r : Rec) (b : Nat) (w : World) (hk : r.kind = 6) (hb : w.heap[b]? = some (.cells (recA r) 77)) :
    Calls Tryz.prog 171 #[.pointer (some ⟨b, 0, none⟩), .agg visA] w fun e w' => e = .returned (.tuple #[]) ∧ w'.heap[b]? = some (.cells (recA (bareR r)) 77) ∧ But [b] w w' := by
  have hbl := (Array.getElem?_eq_some_iff.1 hb).1
  have k0 : w.cell? ⟨b, 0, none⟩ = some (.int .u8 6) := by rw [(cells_is hb 0).1]; simp [recA, recL, hk]
  have HB := Lib.hid hb
  have HK := Lib.hid hk
  clear hb hk
  unfold visA fv
  go_enter Tryz.func171, Tryz.ntmps171
  go_upto_region 15 with fail
  refine wp_name ?_
  intro W0 hW0
  have hb0 : W0.heap[b]? = some (.cells (recA r) 77) := by rw [hW0]; exact (Below.heap_alloc _ _ _ hbl).trans HB.out
  obtain ⟨vb, hvb⟩ : ∃ vb, vb = w.heap.size := ⟨_, rfl⟩
  have hv0 : W0.heap[vb]? = some (.cells visA 329) := by rw [hW0, hvb]; exact (heap_al _ _ _).trans (if_pos rfl)
  rw [← hvb]
  have hne : vb ≠ b := by omega
  have hbut0 : But [b] w W0 := by rw [hW0]; exact But.of_below ((Below.refl _ w).alloc (Nat.le_refl _) _) _
  clear hW0 hvb k0
  have v0 : W0.cell? ⟨vb, 0, none⟩ = some (.func (.func 172) #[] #[]) := (cells_is hv0 0).1
  have o0 : W0.cell? ⟨b, 1, none⟩ = some (.int .u8 r.state.toNat) := (cells_is hb0 1).1
  have f0 : W0.frozen? ⟨b, 1, none⟩ = false := (cells_is hb0 1).2
  have H0 := Lib.hid (And.intro hb0 (And.intro hv0 hbut0))
  clear hb0 hv0 hbut0
  go_region_with (go_at_call 172; refine (bare1_sets b 1 _ W0.drew o0 f0 rfl).mono ?_; rintro e w' ⟨rfl, rfl⟩)
  go_upto_region 16 with fail
  refine wp_name ?_
  intro W1 hW1
  have hb1 : W1.heap[b]? = some (.cells (recA { r with state := 0 }) 77) := by rw [hW1]; exact set_cells H0.out.1 _ _
  have hv1 : W1.heap[vb]? = some (.cells visA 329) := by rw [hW1]; exact (Below.heap_setCell _ ⟨b, _, none⟩ _ _ hne).trans H0.out.2.1
  have hbut1 : But [b] w W1 := by rw [hW1]; exact H0.out.2.2.trans ((But.setCell W0 b _ _).trans (But.of_below ((Below.refl _ _).drew) _))
  clear hW1 v0 o0 f0
  have v1 : W1.cell? ⟨vb, 0, none⟩ = some (.func (.func 172) #[] #[]) := (cells_is hv1 0).1
  have o1 : W1.cell? ⟨b, 2, none⟩ = some (.int .u8 r.user.toNat) := (cells_is hb1 2).1
  have f1 : W1.frozen? ⟨b, 2, none⟩ = false := (cells_is hb1 2).2
  have H1 := Lib.hid (And.intro hb1 (And.intro hv1 hbut1))
  clear hb1 hv1 hbut1
  go_region_with (go_at_call 172; refine (bare1_sets b 2 _ W1.drew o1 f1 rfl).mono ?_; rintro e w' ⟨rfl, rfl⟩)
  go_upto_region 17 with fail
  refine wp_name ?_
  intro W2 hW2
  have hb2 : W2.heap[b]? = some (.cells (recA { { r with state := 0 } with user := 0 }) 77) := by rw [hW2]; exact set_cells H1.out.1 _ _
  have hv2 : W2.heap[vb]? = some (.cells visA 329) := by rw [hW2]; exact (Below.heap_setCell _ ⟨b, _, none⟩ _ _ hne).trans H1.out.2.1
  have hbut2 : But [b] w W2 := by rw [hW2]; exact H1.out.2.2.trans ((But.setCell W1 b _ _).trans (But.of_below ((Below.refl _ _).drew) _))
  clear hW2 v1 o1 f1
  have v2 : W2.cell? ⟨vb, 2, none⟩ = some (.func (.func 174) #[] #[]) := (cells_is hv2 2).1
  have o2 : W2.cell? ⟨b, 6, none⟩ = some (.int .u32 r.rev.toNat) := (cells_is hb2 6).1
  have f2 : W2.frozen? ⟨b, 6, none⟩ = false := (cells_is hb2 6).2
  have H2 := Lib.hid (And.intro hb2 (And.intro hv2 hbut2))
  clear hb2 hv2 hbut2
  go_region_with (go_at_call 174; refine (bare3_sets b 6 _ W2.drew o2 f2 rfl).mono ?_; rintro e w' ⟨rfl, rfl⟩)
  go_upto_region 18 with fail
  refine wp_name ?_
  intro W3 hW3
  have hb3 : W3.heap[b]? = some (.cells (recA { { { r with state := 0 } with user := 0 } with rev := 0 }) 77) := by rw [hW3]; exact set_cells H2.out.1 _ _
  have hv3 : W3.heap[vb]? = some (.cells visA 329) := by rw [hW3]; exact (Below.heap_setCell _ ⟨b, _, none⟩ _ _ hne).trans H2.out.2.1
  have hbut3 : But [b] w W3 := by rw [hW3]; exact H2.out.2.2.trans ((But.setCell W2 b _ _).trans (But.of_below ((Below.refl _ _).drew) _))
  clear hW3 v2 o2 f2
  have v3 : W3.cell? ⟨vb, 4, none⟩ = some (.func (.func 176) #[] #[]) := (cells_is hv3 4).1
  have o3 : W3.cell? ⟨b, 8, none⟩ = some (.string (bs r.text.val)) := (cells_is hb3 8).1
  have f3 : W3.frozen? ⟨b, 8, none⟩ = false := (cells_is hb3 8).2
  have H3 := Lib.hid (And.intro hb3 (And.intro hv3 hbut3))
  clear hb3 hv3 hbut3
  go_region_with (go_at_call 176; refine (bare5_sets b 8 _ W3.drew o3 f3 rfl).mono ?_; rintro e w' ⟨rfl, rfl⟩)
  go_wp2_with fail
  go_end0
  have hbare : bareR r = { { { { r with state := 0 } with user := 0 } with rev := 0 } with text := Txt.nil } := by unfold bareR; simp [HK.out]
  refine ⟨rfl, ?_, H3.out.2.2.trans ((But.setCell W3 b _ _).trans (But.of_below ((Below.refl _ _).drew) _))⟩
  rw [hbare]
  exact set_cells H3.out.1 _ _
end Go.Proofs.YtfmphfidloobkaaGreatDoor
namespace Go.Proofs.YtfmphfidloobkaaGreatDoor
set_option maxRecDepth 100000
open Go.RowKit

theorem visit3 (r : Rec) (b : Nat) (w : World) (hk : r.kind = 3) (hb : w.heap[b]? = some (.cells (recA r) 77)) :
    Calls Tryz.prog 171 #[.pointer (some ⟨b, 0, none⟩), .agg visA] w fun e w' => e = .returned (.tuple #[]) ∧ w'.heap[b]? = some (.cells (recA (bareR r)) 77) ∧ But [b] w w' := by
  have hbl := (Array.getElem?_eq_some_iff.1 hb).1
  have k0 : w.cell? ⟨b, 0, none⟩ = some (.int .u8 3) := by rw [(cells_is hb 0).1]; simp [recA, recL, hk]
  have HB := Lib.hid hb
  have HK := Lib.hid hk
  clear hb hk
  unfold visA fv
  go_enter Tryz.func171, Tryz.ntmps171
  go_wp2_with fail
  go_end0
  have hbare : bareR r = r := by unfold bareR; simp [HK.out]
  rw [hbare]
  exact ⟨rfl, (Below.heap_alloc _ _ _ hbl).trans HB.out, But.of_below ((Below.refl _ w).alloc (Nat.le_refl _) _) _⟩
theorem kind_cases {k : UInt8} (h : 1 ≤ k.toNat ∧ k.toNat ≤ 6) : k = 1 ∨ k = 2 ∨ k = 3 ∨ k = 4 ∨ k = 5 ∨ k = 6 := by
  have e : ∀ n : Nat, k.toNat = n → n < 256 → k = UInt8.ofNat n := fun n hn hl => UInt8.toNat_inj.1 (by rw [hn, UInt8.toNat_ofNat', Nat.mod_eq_of_lt hl])
  obtain ⟨h1, h2⟩ := h
  rcases (by omega : k.toNat = 1 ∨ k.toNat = 2 ∨ k.toNat = 3 ∨ k.toNat = 4 ∨ k.toNat = 5 ∨ k.toNat = 6) with h | h | h | h | h | h
  · exact .inl (e 1 h (by omega))
  · exact .inr (.inl (e 2 h (by omega)))
  · exact .inr (.inr (.inl (e 3 h (by omega))))
  · exact .inr (.inr (.inr (.inl (e 4 h (by omega)))))
  · exact .inr (.inr (.inr (.inr (.inl (e 5 h (by omega))))))
  · exact .inr (.inr (.inr (.inr (.inr (e 6 h (by omega))))))
theorem visit_calls (r : Rec) (b : Nat) (w : World) (hk : 1 ≤ r.kind.toNat ∧ r.kind.toNat ≤ 6) (hb : w.heap[b]? = some (.cells (recA r) 77)) :
    Calls Tryz.prog 171 #[.pointer (some ⟨b, 0, none⟩), .agg visA] w fun e w' => e = .returned (.tuple #[]) ∧ w'.heap[b]? = some (.cells (recA (bareR r)) 77) ∧ But [b] w w' := by
  rcases kind_cases hk with h | h | h | h | h | h
  · exact visit1 r b w h hb
  · exact visit2 r b w h hb
  · exact visit3 r b w h hb
  · exact visit4 r b w h hb
  · exact visit5 r b w h hb
  · exact visit6 r b w h hb
theorem cut_lay0 {w : World} {n sz : Nat} {c vs : Array Value} {t : TypeId} (h : w.heap[n]? = some (.cells c t)) (hc : c.size = sz) (hv : vs.size = sz) : (w.lay n 0 vs).cut? n 0 sz = some vs := by
  unfold World.cut? World.lay
  simp only [Array.getElem?_modify, h, if_true, Option.map_some]
  rw [splice_full (by omega)]
  simp [hv]
set_option maxHeartbeats 2000000 in
theorem bare_gives (r : Rec) (hk : 1 ≤ r.kind.toNat ∧ r.kind.toNat ≤ 6) (w : World) : Gives Tryz.prog 129 #[.agg (recA r)] w (.agg (recA (bareR r))) := by
  have HV := Lib.hid (fun b w => visit_calls r b w hk)
  unfold Gives
  go_enter Tryz.func129, Tryz.ntmps129
  go_wp2_with fail
  refine (HV.out w.heap.size _ ?_).mono ?_
  · exact (heap_al _ _ _).trans ((if_neg (by simp)).trans ((heap_al _ _ _).trans (if_pos rfl)))
  rintro e W ⟨rfl, hW, hbut⟩
  have c1 : W.cut? w.heap.size 0 9 = some (recA (bareR r)) := by simp [World.cut?, hW]
  have h2 : W.heap[w.heap.size + 1]? = some (.cells (recA Rec.zero) 77) := (hbut.same _ (by simp) (by simp)).trans ((heap_al _ _ _).trans (if_pos (by simp)))
  have t2 : W.there? (w.heap.size + 1) 0 9 = true := by simp [World.there?, h2]
  have hbw : Below w.heap.size w W := (((Below.refl _ w).alloc (Nat.le_refl _) _).alloc (by simp) _).trans (hbut.below (by intro b hb; simp at hb; omega) (by simp; omega))
  have l2 := (Array.getElem?_eq_some_iff.1 h2).1
  have HBW := Lib.hid (And.intro hbw h2)
  clear HV hW hbut h2 hbw
  go_wp2_with fail
  exact bodyPost_ret (v := .agg (recA (bareR r))) (results_one Tryz.results129 (ResIs.row rfl agg_rec (cut_lay0 HBW.out.2 (by simp) (by simp)))) rfl ⟨rfl, HBW.out.1.lay (by simp)⟩
def withinB (r : Rec) : Bool :=
  if r.kind = 1 then decide (r.user.toNat < 16)
  else if r.kind = 2 then decide (1 ≤ r.mask.toNat) && decide (r.mask.toNat ≤ 63)
  else if r.kind = 4 then decide (r.parent.toNat < 4) && decide (r.state.toNat ≤ 1)
  else if r.kind = 5 then decide (0 < r.rev.toNat)
  else if r.kind = 6 then decide (1 ≤ r.state.toNat) && decide (r.state.toNat ≤ 5) && decide (r.user.toNat < 16) && decide (0 < r.rev.toNat)
  else true
@[go_sem, simp] theorem recA_0E (r : Rec) (h : 0 < (recA r).size) : (recA r)[0]'h = .int .u8 r.kind.toNat := id rfl
@[go_sem] theorem recA_0 (r : Rec) : (recA r)[0]? = some (.int .u8 r.kind.toNat) := id rfl
@[go_sem, simp] theorem recA_1E (r : Rec) (h : 1 < (recA r).size) : (recA r)[1]'h = .int .u8 r.state.toNat := id rfl
@[go_sem] theorem recA_1 (r : Rec) : (recA r)[1]? = some (.int .u8 r.state.toNat) := id rfl
@[go_sem, simp] theorem recA_2E (r : Rec) (h : 2 < (recA r).size) : (recA r)[2]'h = .int .u8 r.user.toNat := id rfl
@[go_sem] theorem recA_2 (r : Rec) : (recA r)[2]? = some (.int .u8 r.user.toNat) := id rfl
@[go_sem, simp] theorem recA_3E (r : Rec) (h : 3 < (recA r).size) : (recA r)[3]'h = .int .u8 r.parent.toNat := id rfl
@[go_sem] theorem recA_3 (r : Rec) : (recA r)[3]? = some (.int .u8 r.parent.toNat) := id rfl
@[go_sem, simp] theorem recA_4E (r : Rec) (h : 4 < (recA r).size) : (recA r)[4]'h = .int .u8 r.mask.toNat := id rfl
@[go_sem] theorem recA_4 (r : Rec) : (recA r)[4]? = some (.int .u8 r.mask.toNat) := id rfl
@[go_sem, simp] theorem recA_5E (r : Rec) (h : 5 < (recA r).size) : (recA r)[5]'h = .bool r.gone := id rfl
@[go_sem] theorem recA_5 (r : Rec) : (recA r)[5]? = some (.bool r.gone) := id rfl
@[go_sem, simp] theorem recA_6E (r : Rec) (h : 6 < (recA r).size) : (recA r)[6]'h = .int .u32 r.rev.toNat := id rfl
@[go_sem] theorem recA_6 (r : Rec) : (recA r)[6]? = some (.int .u32 r.rev.toNat) := id rfl
@[go_sem, simp] theorem recA_7E (r : Rec) (h : 7 < (recA r).size) : (recA r)[7]'h = .int .u64 r.at_.toNat := id rfl
@[go_sem] theorem recA_7 (r : Rec) : (recA r)[7]? = some (.int .u64 r.at_.toNat) := id rfl
@[go_sem, simp] theorem recA_8E (r : Rec) (h : 8 < (recA r).size) : (recA r)[8]'h = .string (bs r.text.val) := id rfl
@[go_sem] theorem recA_8 (r : Rec) : (recA r)[8]? = some (.string (bs r.text.val)) := id rfl
set_option maxHeartbeats 4000000 in
theorem within_gives (r : Rec) (hk : 1 ≤ r.kind.toNat ∧ r.kind.toNat ≤ 6) (w : World) : Gives Tryz.prog 130 #[.agg (recA r)] w (.bool (withinB r)) := by
  have HK := kind_cases hk
  clear hk
  obtain ⟨kind, state, user, parent, mask, gone, rev, at_, text⟩ := r
  simp only at HK
  rcases HK with rfl | rfl | rfl | rfl | rfl | rfl
  all_goals
    unfold Gives
    go_enter Tryz.func130, Tryz.ntmps130
    go_wp2_with fail
    all_goals go_ret
    all_goals refine ⟨ret_bool ?_, (by repeat (first | exact below_of_grow _ _ | exact Below.refl _ _ | exact below_more _ _ _ _ | (simp only [← Array.append_assoc]; first | exact below_more _ _ _ _ | exact below_same _ _ _ | exact Below.refl _ _) | exact below_same _ _ _ | (refine Below.alloc ?_ (by first | (simp; done) | (simp; omega)) _) | (refine Below.grow ?_ (by first | (simp; done) | (simp; omega)) _ _) | refine Below.drew ?_ | refine Below.drewN ?_ _ | (refine Below.putF ?_ (by first | (simp; done) | omega | (simp; omega)) _) | (refine Below.setCell ?_ (by first | (simp; done) | (simp; omega)) _)))⟩
    all_goals first | (simp [withinB]; done) | (simp [withinB]; omega) | (rw [Bool.eq_iff_iff]; simp [withinB]; omega)
/-- what is wrong with a record -/
def kindR (k : UInt8) : Rec := { Rec.zero with kind := k }
def recE (r : Rec) : Int :=
  if 1 ≤ r.kind.toNat ∧ r.kind.toNat ≤ 6 then
    (if bareR r = kindR r.kind then
      (if withinB r = true then
        (if 60 < r.text.val.length then 2
        else if r.gone = true ∧ r.text.val ≠ [] then 3 else 0)
      else 5)
    else 3)
  else 16
@[go_sem ↓ high] theorem bRec1_eq (f : Nat × Operand → Nat × Value) (p : Nat × Operand) : Instr.build 77 (Array.map f #[p]) = bld1 77 (f p) := by simp [bld1]
@[go_sem] theorem bRec1_run (k : UInt8) (w : World) : (bld1 77 (0, .int .u8 k.toNat)).run Tryz.prog w = .ok (.agg (recA (kindR k))) w := by
  unfold bld1
  refine build_of (zero := .agg (recA Rec.zero)) (places := #[(0, 1), (1, 1), (2, 1), (3, 1), (4, 1), (5, 1), (6, 1), (7, 1), (8, 1)]) (by intro w; exact (Tryz.zeroValue77 w).trans rfl) Tryz.underlying77 (by intro w; kernel_rfl) ?_
  rfl
set_option maxHeartbeats 4000000 in
theorem check_gives (r : Rec) (w : World) : Gives Tryz.prog 96 #[.agg (recA r)] w (.int .i64 (recE r)) := by
  by_cases hk : 1 ≤ r.kind.toNat ∧ r.kind.toNat ≤ 6
  · have HB := Lib.hid (bare_gives r hk)
    have HW := Lib.hid (within_gives r hk)
    have k1 : ¬ ((r.kind.toNat : Int) < 1) := by omega
    have k6 : ¬ (6 < (r.kind.toNat : Int)) := by omega
    by_cases hb : bareR r = kindR r.kind
    · have hd : decide (bareR r = kindR r.kind) = true := decide_eq_true hb
      by_cases hw : withinB r = true
      · rw [hw] at HW
        have he : recE r = if 60 < r.text.val.length then 2 else if r.gone = true ∧ r.text.val ≠ [] then 3 else 0 := by unfold recE; rw [if_pos hk, if_pos hb, if_pos hw]
        rw [he]
        clear hk hb hw he
        obtain ⟨q, hq⟩ : ∃ q : Int, q = if 60 < r.text.val.length then 2 else if r.gone = true ∧ r.text.val ≠ [] then 3 else 0 := ⟨_, rfl⟩
        rw [← hq]
        have HQ := Lib.hid hq
        clear hq
        unfold Gives
        go_enter Tryz.func96, Tryz.ntmps96
        go_wp2_with fail
        apply wp_region_specs (by rfl) [.val _, .val _, .val _, .val _, .val _, .val _] 6 (by rfl) [13, 14, 15, 16, 17, 18] [] [] (by rfl) (by rfl) (by decide) (by decide +kernel) (fun _ _ _ _ _ h => h)
        case hF => intro x; simp only [over, List.foldl_cons, List.foldl_nil, List.setIfInBounds_toArray, List.set_cons_succ, List.set_cons_zero]; exact rfl
        case hops =>
          refine ⟨?o0, ?o1, ?o2, ?o3, ?o4, ?o5, trivial⟩
          case o0 =>
            intro x w1 hH K hK
            obtain ⟨xs, d, rfl⟩ := grow_of_below hH.below
            clear hH
            try simp only [World.grow_drew] at hK ⊢
            try simp only [World.grow_grow] at hK ⊢
            go_simp
            go_wp2_with fail
            exact ⟨_, rfl, rfl, (by repeat (first | exact below_of_grow _ _ | exact Below.refl _ _ | exact below_more _ _ _ _ | (simp only [← Array.append_assoc]; first | exact below_more _ _ _ _ | exact below_same _ _ _ | exact Below.refl _ _) | exact below_same _ _ _ | (refine Below.alloc ?_ (by first | (simp; done) | (simp; omega)) _) | (refine Below.grow ?_ (by first | (simp; done) | (simp; omega)) _ _) | refine Below.drew ?_ | refine Below.drewN ?_ _ | (refine Below.putF ?_ (by first | (simp; done) | omega | (simp; omega)) _) | (refine Below.setCell ?_ (by first | (simp; done) | (simp; omega)) _))), fun h => by cases h⟩
          case o1 =>
            intro x w1 hH K hK
            have e13 : x 13 = _ := hH.holds 0 (by decide) (by decide +kernel) 13 rfl
            obtain ⟨xs, d, rfl⟩ := grow_of_below hH.below
            clear hH
            try simp only [World.grow_drew] at hK ⊢
            try simp only [World.grow_grow] at hK ⊢
            simp only [e13] at hK ⊢
            clear e13
            go_simp
            go_wp2_with (refine Gives.use (HB.out _) ?_; intro ys e)
            exact ⟨_, rfl, rfl, (by first | exact below_more _ _ _ _ | exact (by repeat (first | exact below_of_grow _ _ | exact Below.refl _ _ | exact below_more _ _ _ _ | (simp only [← Array.append_assoc]; first | exact below_more _ _ _ _ | exact below_same _ _ _ | exact Below.refl _ _) | exact below_same _ _ _ | (refine Below.alloc ?_ (by first | (simp; done) | (simp; omega)) _) | (refine Below.grow ?_ (by first | (simp; done) | (simp; omega)) _ _) | refine Below.drew ?_ | refine Below.drewN ?_ _ | (refine Below.putF ?_ (by first | (simp; done) | omega | (simp; omega)) _) | (refine Below.setCell ?_ (by first | (simp; done) | (simp; omega)) _)))), fun h => by cases h⟩
          case o2 =>
            intro x w1 hH K hK
            obtain ⟨xs, d, rfl⟩ := grow_of_below hH.below
            clear hH
            try simp only [World.grow_drew] at hK ⊢
            try simp only [World.grow_grow] at hK ⊢
            go_simp
            go_wp2_with fail
            exact ⟨_, rfl, rfl, (by repeat (first | exact below_of_grow _ _ | exact Below.refl _ _ | exact below_more _ _ _ _ | (simp only [← Array.append_assoc]; first | exact below_more _ _ _ _ | exact below_same _ _ _ | exact Below.refl _ _) | exact below_same _ _ _ | (refine Below.alloc ?_ (by first | (simp; done) | (simp; omega)) _) | (refine Below.grow ?_ (by first | (simp; done) | (simp; omega)) _ _) | refine Below.drew ?_ | refine Below.drewN ?_ _ | (refine Below.putF ?_ (by first | (simp; done) | omega | (simp; omega)) _) | (refine Below.setCell ?_ (by first | (simp; done) | (simp; omega)) _))), fun h => by cases h⟩
          case o3 =>
            intro x w1 hH K hK
            have e15 : x 15 = _ := hH.holds 2 (by decide) (by decide +kernel) 15 rfl
            obtain ⟨xs, d, rfl⟩ := grow_of_below hH.below
            clear hH
            try simp only [World.grow_drew] at hK ⊢
            try simp only [World.grow_grow] at hK ⊢
            simp only [e15] at hK ⊢
            clear e15
            go_simp
            go_wp2_with fail
            exact ⟨_, rfl, rfl, (by repeat (first | exact below_of_grow _ _ | exact Below.refl _ _ | exact below_more _ _ _ _ | (simp only [← Array.append_assoc]; first | exact below_more _ _ _ _ | exact below_same _ _ _ | exact Below.refl _ _) | exact below_same _ _ _ | (refine Below.alloc ?_ (by first | (simp; done) | (simp; omega)) _) | (refine Below.grow ?_ (by first | (simp; done) | (simp; omega)) _ _) | refine Below.drew ?_ | refine Below.drewN ?_ _ | (refine Below.putF ?_ (by first | (simp; done) | omega | (simp; omega)) _) | (refine Below.setCell ?_ (by first | (simp; done) | (simp; omega)) _))), fun h => by cases h⟩
          case o4 =>
            intro x w1 hH K hK
            have e16 : x 16 = _ := hH.holds 3 (by decide) (by decide +kernel) 16 rfl
            obtain ⟨xs, d, rfl⟩ := grow_of_below hH.below
            clear hH
            try simp only [World.grow_drew] at hK ⊢
            try simp only [World.grow_grow] at hK ⊢
            simp only [e16] at hK ⊢
            clear e16
            go_simp
            go_wp2_with fail
            exact ⟨_, rfl, rfl, (by repeat (first | exact below_of_grow _ _ | exact Below.refl _ _ | exact below_more _ _ _ _ | (simp only [← Array.append_assoc]; first | exact below_more _ _ _ _ | exact below_same _ _ _ | exact Below.refl _ _) | exact below_same _ _ _ | (refine Below.alloc ?_ (by first | (simp; done) | (simp; omega)) _) | (refine Below.grow ?_ (by first | (simp; done) | (simp; omega)) _ _) | refine Below.drew ?_ | refine Below.drewN ?_ _ | (refine Below.putF ?_ (by first | (simp; done) | omega | (simp; omega)) _) | (refine Below.setCell ?_ (by first | (simp; done) | (simp; omega)) _))), fun h => by cases h⟩
          case o5 =>
            intro x w1 hH K hK
            have e14 : x 14 = _ := hH.holds 1 (by decide) (by decide +kernel) 14 rfl
            have e17 : x 17 = _ := hH.holds 4 (by decide) (by decide +kernel) 17 rfl
            obtain ⟨xs, d, rfl⟩ := grow_of_below hH.below
            clear hH
            try simp only [World.grow_drew] at hK ⊢
            try simp only [World.grow_grow] at hK ⊢
            simp only [e14, e17] at hK ⊢
            clear e14 e17
            go_simp
            go_wp2_with fail
            exact ⟨_, rfl, rfl, (by repeat (first | exact below_of_grow _ _ | exact Below.refl _ _ | exact below_more _ _ _ _ | (simp only [← Array.append_assoc]; first | exact below_more _ _ _ _ | exact below_same _ _ _ | exact Below.refl _ _) | exact below_same _ _ _ | (refine Below.alloc ?_ (by first | (simp; done) | (simp; omega)) _) | (refine Below.grow ?_ (by first | (simp; done) | (simp; omega)) _ _) | refine Below.drew ?_ | refine Below.drewN ?_ _ | (refine Below.putF ?_ (by first | (simp; done) | omega | (simp; omega)) _) | (refine Below.setCell ?_ (by first | (simp; done) | (simp; omega)) _))), fun h => by cases h⟩
        case hend =>
          intro x w1 hH
          have e13 : x 13 = _ := hH.holds 0 (by decide) trivial 13 rfl
          have e14 : x 14 = _ := hH.holds 1 (by decide) trivial 14 rfl
          have e15 : x 15 = _ := hH.holds 2 (by decide) trivial 15 rfl
          have e16 : x 16 = _ := hH.holds 3 (by decide) trivial 16 rfl
          have e17 : x 17 = _ := hH.holds 4 (by decide) trivial 17 rfl
          have e18 : x 18 = _ := hH.holds 5 (by decide) trivial 18 rfl
          obtain ⟨xs, d, rfl⟩ := grow_of_below hH.below
          clear hH
          simp only [e13, e14, e15, e16, e17, e18]; clear e13 e14 e15 e16 e17 e18
          simp only [List.drop_succ_cons, List.drop_zero]
          go_wp2_with fail
          refine Gives.use (HW.out _) ?_
          intro xs1 d1
          go_wp2_with fail
          all_goals go_ret
          all_goals refine ⟨ret_int ?_, (by repeat (first | exact below_of_grow _ _ | exact Below.refl _ _ | exact below_more _ _ _ _ | (simp only [← Array.append_assoc]; first | exact below_more _ _ _ _ | exact below_same _ _ _ | exact Below.refl _ _) | exact below_same _ _ _ | (refine Below.alloc ?_ (by first | (simp; done) | (simp; omega)) _) | (refine Below.grow ?_ (by first | (simp; done) | (simp; omega)) _ _) | refine Below.drew ?_ | refine Below.drewN ?_ _ | (refine Below.putF ?_ (by first | (simp; done) | omega | (simp; omega)) _) | (refine Below.setCell ?_ (by first | (simp; done) | (simp; omega)) _)))⟩
          all_goals rw [HQ.out]
          all_goals clear HB HW HQ hd k1 k6
          all_goals simp only [bs_size] at *
          all_goals first
            | (rw [if_pos (by omega)]; done)
            | (rw [if_neg (by omega)]; simp_all; done)
      · have he : recE r = 5 := by unfold recE; rw [if_pos hk, if_pos hb, if_neg hw]
        rw [he]
        rw [Bool.not_eq_true] at hw
        rw [hw] at HW
        clear hk hb hw he
        unfold Gives
        go_enter Tryz.func96, Tryz.ntmps96
        go_wp2_with fail
        apply wp_region_specs (by rfl) [.val _, .val _, .val _, .val _, .val _, .val _] 6 (by rfl) [13, 14, 15, 16, 17, 18] [] [] (by rfl) (by rfl) (by decide) (by decide +kernel) (fun _ _ _ _ _ h => h)
        case hF => intro x; simp only [over, List.foldl_cons, List.foldl_nil, List.setIfInBounds_toArray, List.set_cons_succ, List.set_cons_zero]; exact rfl
        case hops =>
          refine ⟨?o0, ?o1, ?o2, ?o3, ?o4, ?o5, trivial⟩
          case o0 =>
            intro x w1 hH K hK
            obtain ⟨xs, d, rfl⟩ := grow_of_below hH.below
            clear hH
            try simp only [World.grow_drew] at hK ⊢
            try simp only [World.grow_grow] at hK ⊢
            go_simp
            go_wp2_with fail
            exact ⟨_, rfl, rfl, (by repeat (first | exact below_of_grow _ _ | exact Below.refl _ _ | exact below_more _ _ _ _ | (simp only [← Array.append_assoc]; first | exact below_more _ _ _ _ | exact below_same _ _ _ | exact Below.refl _ _) | exact below_same _ _ _ | (refine Below.alloc ?_ (by first | (simp; done) | (simp; omega)) _) | (refine Below.grow ?_ (by first | (simp; done) | (simp; omega)) _ _) | refine Below.drew ?_ | refine Below.drewN ?_ _ | (refine Below.putF ?_ (by first | (simp; done) | omega | (simp; omega)) _) | (refine Below.setCell ?_ (by first | (simp; done) | (simp; omega)) _))), fun h => by cases h⟩
          case o1 =>
            intro x w1 hH K hK
            have e13 : x 13 = _ := hH.holds 0 (by decide) (by decide +kernel) 13 rfl
            obtain ⟨xs, d, rfl⟩ := grow_of_below hH.below
            clear hH
            try simp only [World.grow_drew] at hK ⊢
            try simp only [World.grow_grow] at hK ⊢
            simp only [e13] at hK ⊢
            clear e13
            go_simp
            go_wp2_with (refine Gives.use (HB.out _) ?_; intro ys e)
            exact ⟨_, rfl, rfl, (by first | exact below_more _ _ _ _ | exact (by repeat (first | exact below_of_grow _ _ | exact Below.refl _ _ | exact below_more _ _ _ _ | (simp only [← Array.append_assoc]; first | exact below_more _ _ _ _ | exact below_same _ _ _ | exact Below.refl _ _) | exact below_same _ _ _ | (refine Below.alloc ?_ (by first | (simp; done) | (simp; omega)) _) | (refine Below.grow ?_ (by first | (simp; done) | (simp; omega)) _ _) | refine Below.drew ?_ | refine Below.drewN ?_ _ | (refine Below.putF ?_ (by first | (simp; done) | omega | (simp; omega)) _) | (refine Below.setCell ?_ (by first | (simp; done) | (simp; omega)) _)))), fun h => by cases h⟩
          case o2 =>
            intro x w1 hH K hK
            obtain ⟨xs, d, rfl⟩ := grow_of_below hH.below
            clear hH
            try simp only [World.grow_drew] at hK ⊢
            try simp only [World.grow_grow] at hK ⊢
            go_simp
            go_wp2_with fail
            exact ⟨_, rfl, rfl, (by repeat (first | exact below_of_grow _ _ | exact Below.refl _ _ | exact below_more _ _ _ _ | (simp only [← Array.append_assoc]; first | exact below_more _ _ _ _ | exact below_same _ _ _ | exact Below.refl _ _) | exact below_same _ _ _ | (refine Below.alloc ?_ (by first | (simp; done) | (simp; omega)) _) | (refine Below.grow ?_ (by first | (simp; done) | (simp; omega)) _ _) | refine Below.drew ?_ | refine Below.drewN ?_ _ | (refine Below.putF ?_ (by first | (simp; done) | omega | (simp; omega)) _) | (refine Below.setCell ?_ (by first | (simp; done) | (simp; omega)) _))), fun h => by cases h⟩
          case o3 =>
            intro x w1 hH K hK
            have e15 : x 15 = _ := hH.holds 2 (by decide) (by decide +kernel) 15 rfl
            obtain ⟨xs, d, rfl⟩ := grow_of_below hH.below
            clear hH
            try simp only [World.grow_drew] at hK ⊢
            try simp only [World.grow_grow] at hK ⊢
            simp only [e15] at hK ⊢
            clear e15
            go_simp
            go_wp2_with fail
            exact ⟨_, rfl, rfl, (by repeat (first | exact below_of_grow _ _ | exact Below.refl _ _ | exact below_more _ _ _ _ | (simp only [← Array.append_assoc]; first | exact below_more _ _ _ _ | exact below_same _ _ _ | exact Below.refl _ _) | exact below_same _ _ _ | (refine Below.alloc ?_ (by first | (simp; done) | (simp; omega)) _) | (refine Below.grow ?_ (by first | (simp; done) | (simp; omega)) _ _) | refine Below.drew ?_ | refine Below.drewN ?_ _ | (refine Below.putF ?_ (by first | (simp; done) | omega | (simp; omega)) _) | (refine Below.setCell ?_ (by first | (simp; done) | (simp; omega)) _))), fun h => by cases h⟩
          case o4 =>
            intro x w1 hH K hK
            have e16 : x 16 = _ := hH.holds 3 (by decide) (by decide +kernel) 16 rfl
            obtain ⟨xs, d, rfl⟩ := grow_of_below hH.below
            clear hH
            try simp only [World.grow_drew] at hK ⊢
            try simp only [World.grow_grow] at hK ⊢
            simp only [e16] at hK ⊢
            clear e16
            go_simp
            go_wp2_with fail
            exact ⟨_, rfl, rfl, (by repeat (first | exact below_of_grow _ _ | exact Below.refl _ _ | exact below_more _ _ _ _ | (simp only [← Array.append_assoc]; first | exact below_more _ _ _ _ | exact below_same _ _ _ | exact Below.refl _ _) | exact below_same _ _ _ | (refine Below.alloc ?_ (by first | (simp; done) | (simp; omega)) _) | (refine Below.grow ?_ (by first | (simp; done) | (simp; omega)) _ _) | refine Below.drew ?_ | refine Below.drewN ?_ _ | (refine Below.putF ?_ (by first | (simp; done) | omega | (simp; omega)) _) | (refine Below.setCell ?_ (by first | (simp; done) | (simp; omega)) _))), fun h => by cases h⟩
          case o5 =>
            intro x w1 hH K hK
            have e14 : x 14 = _ := hH.holds 1 (by decide) (by decide +kernel) 14 rfl
            have e17 : x 17 = _ := hH.holds 4 (by decide) (by decide +kernel) 17 rfl
            obtain ⟨xs, d, rfl⟩ := grow_of_below hH.below
            clear hH
            try simp only [World.grow_drew] at hK ⊢
            try simp only [World.grow_grow] at hK ⊢
            simp only [e14, e17] at hK ⊢
            clear e14 e17
            go_simp
            go_wp2_with fail
            exact ⟨_, rfl, rfl, (by repeat (first | exact below_of_grow _ _ | exact Below.refl _ _ | exact below_more _ _ _ _ | (simp only [← Array.append_assoc]; first | exact below_more _ _ _ _ | exact below_same _ _ _ | exact Below.refl _ _) | exact below_same _ _ _ | (refine Below.alloc ?_ (by first | (simp; done) | (simp; omega)) _) | (refine Below.grow ?_ (by first | (simp; done) | (simp; omega)) _ _) | refine Below.drew ?_ | refine Below.drewN ?_ _ | (refine Below.putF ?_ (by first | (simp; done) | omega | (simp; omega)) _) | (refine Below.setCell ?_ (by first | (simp; done) | (simp; omega)) _))), fun h => by cases h⟩
        case hend =>
          intro x w1 hH
          have e13 : x 13 = _ := hH.holds 0 (by decide) trivial 13 rfl
          have e14 : x 14 = _ := hH.holds 1 (by decide) trivial 14 rfl
          have e15 : x 15 = _ := hH.holds 2 (by decide) trivial 15 rfl
          have e16 : x 16 = _ := hH.holds 3 (by decide) trivial 16 rfl
          have e17 : x 17 = _ := hH.holds 4 (by decide) trivial 17 rfl
          have e18 : x 18 = _ := hH.holds 5 (by decide) trivial 18 rfl
          obtain ⟨xs, d, rfl⟩ := grow_of_below hH.below
          clear hH
          simp only [e13, e14, e15, e16, e17, e18]; clear e13 e14 e15 e16 e17 e18
          simp only [List.drop_succ_cons, List.drop_zero]
          go_wp2_with fail
          refine Gives.use (HW.out _) ?_
          intro xs1 d1
          go_wp2_with fail
          go_ret
          exact ⟨rfl, (by repeat (first | exact below_of_grow _ _ | exact Below.refl _ _ | exact below_more _ _ _ _ | (simp only [← Array.append_assoc]; first | exact below_more _ _ _ _ | exact below_same _ _ _ | exact Below.refl _ _) | exact below_same _ _ _ | (refine Below.alloc ?_ (by first | (simp; done) | (simp; omega)) _) | (refine Below.grow ?_ (by first | (simp; done) | (simp; omega)) _ _) | refine Below.drew ?_ | refine Below.drewN ?_ _ | (refine Below.putF ?_ (by first | (simp; done) | omega | (simp; omega)) _) | (refine Below.setCell ?_ (by first | (simp; done) | (simp; omega)) _)))⟩
    · have hd : decide (bareR r = kindR r.kind) = false := decide_eq_false hb
      have he : recE r = 3 := by unfold recE; rw [if_pos hk, if_neg hb]
      rw [he]
      clear hk hb he HW
      unfold Gives
      go_enter Tryz.func96, Tryz.ntmps96
      go_wp2_with fail
      apply wp_region_specs (by rfl) [.val _, .val _, .val _, .val _, .val _, .val _] 6 (by rfl) [13, 14, 15, 16, 17, 18] [] [] (by rfl) (by rfl) (by decide) (by decide +kernel) (fun _ _ _ _ _ h => h)
      case hF => intro x; simp only [over, List.foldl_cons, List.foldl_nil, List.setIfInBounds_toArray, List.set_cons_succ, List.set_cons_zero]; exact rfl
      case hops =>
        refine ⟨?o0, ?o1, ?o2, ?o3, ?o4, ?o5, trivial⟩
        case o0 =>
          intro x w1 hH K hK
          obtain ⟨xs, d, rfl⟩ := grow_of_below hH.below
          clear hH
          try simp only [World.grow_drew] at hK ⊢
          try simp only [World.grow_grow] at hK ⊢
          go_simp
          go_wp2_with fail
          exact ⟨_, rfl, rfl, (by repeat (first | exact below_of_grow _ _ | exact Below.refl _ _ | exact below_more _ _ _ _ | (simp only [← Array.append_assoc]; first | exact below_more _ _ _ _ | exact below_same _ _ _ | exact Below.refl _ _) | exact below_same _ _ _ | (refine Below.alloc ?_ (by first | (simp; done) | (simp; omega)) _) | (refine Below.grow ?_ (by first | (simp; done) | (simp; omega)) _ _) | refine Below.drew ?_ | refine Below.drewN ?_ _ | (refine Below.putF ?_ (by first | (simp; done) | omega | (simp; omega)) _) | (refine Below.setCell ?_ (by first | (simp; done) | (simp; omega)) _))), fun h => by cases h⟩
        case o1 =>
          intro x w1 hH K hK
          have e13 : x 13 = _ := hH.holds 0 (by decide) (by decide +kernel) 13 rfl
          obtain ⟨xs, d, rfl⟩ := grow_of_below hH.below
          clear hH
          try simp only [World.grow_drew] at hK ⊢
          try simp only [World.grow_grow] at hK ⊢
          simp only [e13] at hK ⊢
          clear e13
          go_simp
          go_wp2_with (refine Gives.use (HB.out _) ?_; intro ys e)
          exact ⟨_, rfl, rfl, (by first | exact below_more _ _ _ _ | exact (by repeat (first | exact below_of_grow _ _ | exact Below.refl _ _ | exact below_more _ _ _ _ | (simp only [← Array.append_assoc]; first | exact below_more _ _ _ _ | exact below_same _ _ _ | exact Below.refl _ _) | exact below_same _ _ _ | (refine Below.alloc ?_ (by first | (simp; done) | (simp; omega)) _) | (refine Below.grow ?_ (by first | (simp; done) | (simp; omega)) _ _) | refine Below.drew ?_ | refine Below.drewN ?_ _ | (refine Below.putF ?_ (by first | (simp; done) | omega | (simp; omega)) _) | (refine Below.setCell ?_ (by first | (simp; done) | (simp; omega)) _)))), fun h => by cases h⟩
        case o2 =>
          intro x w1 hH K hK
          obtain ⟨xs, d, rfl⟩ := grow_of_below hH.below
          clear hH
          try simp only [World.grow_drew] at hK ⊢
          try simp only [World.grow_grow] at hK ⊢
          go_simp
          go_wp2_with fail
          exact ⟨_, rfl, rfl, (by repeat (first | exact below_of_grow _ _ | exact Below.refl _ _ | exact below_more _ _ _ _ | (simp only [← Array.append_assoc]; first | exact below_more _ _ _ _ | exact below_same _ _ _ | exact Below.refl _ _) | exact below_same _ _ _ | (refine Below.alloc ?_ (by first | (simp; done) | (simp; omega)) _) | (refine Below.grow ?_ (by first | (simp; done) | (simp; omega)) _ _) | refine Below.drew ?_ | refine Below.drewN ?_ _ | (refine Below.putF ?_ (by first | (simp; done) | omega | (simp; omega)) _) | (refine Below.setCell ?_ (by first | (simp; done) | (simp; omega)) _))), fun h => by cases h⟩
        case o3 =>
          intro x w1 hH K hK
          have e15 : x 15 = _ := hH.holds 2 (by decide) (by decide +kernel) 15 rfl
          obtain ⟨xs, d, rfl⟩ := grow_of_below hH.below
          clear hH
          try simp only [World.grow_drew] at hK ⊢
          try simp only [World.grow_grow] at hK ⊢
          simp only [e15] at hK ⊢
          clear e15
          go_simp
          go_wp2_with fail
          exact ⟨_, rfl, rfl, (by repeat (first | exact below_of_grow _ _ | exact Below.refl _ _ | exact below_more _ _ _ _ | (simp only [← Array.append_assoc]; first | exact below_more _ _ _ _ | exact below_same _ _ _ | exact Below.refl _ _) | exact below_same _ _ _ | (refine Below.alloc ?_ (by first | (simp; done) | (simp; omega)) _) | (refine Below.grow ?_ (by first | (simp; done) | (simp; omega)) _ _) | refine Below.drew ?_ | refine Below.drewN ?_ _ | (refine Below.putF ?_ (by first | (simp; done) | omega | (simp; omega)) _) | (refine Below.setCell ?_ (by first | (simp; done) | (simp; omega)) _))), fun h => by cases h⟩
        case o4 =>
          intro x w1 hH K hK
          have e16 : x 16 = _ := hH.holds 3 (by decide) (by decide +kernel) 16 rfl
          obtain ⟨xs, d, rfl⟩ := grow_of_below hH.below
          clear hH
          try simp only [World.grow_drew] at hK ⊢
          try simp only [World.grow_grow] at hK ⊢
          simp only [e16] at hK ⊢
          clear e16
          go_simp
          go_wp2_with fail
          exact ⟨_, rfl, rfl, (by repeat (first | exact below_of_grow _ _ | exact Below.refl _ _ | exact below_more _ _ _ _ | (simp only [← Array.append_assoc]; first | exact below_more _ _ _ _ | exact below_same _ _ _ | exact Below.refl _ _) | exact below_same _ _ _ | (refine Below.alloc ?_ (by first | (simp; done) | (simp; omega)) _) | (refine Below.grow ?_ (by first | (simp; done) | (simp; omega)) _ _) | refine Below.drew ?_ | refine Below.drewN ?_ _ | (refine Below.putF ?_ (by first | (simp; done) | omega | (simp; omega)) _) | (refine Below.setCell ?_ (by first | (simp; done) | (simp; omega)) _))), fun h => by cases h⟩
        case o5 =>
          intro x w1 hH K hK
          have e14 : x 14 = _ := hH.holds 1 (by decide) (by decide +kernel) 14 rfl
          have e17 : x 17 = _ := hH.holds 4 (by decide) (by decide +kernel) 17 rfl
          obtain ⟨xs, d, rfl⟩ := grow_of_below hH.below
          clear hH
          try simp only [World.grow_drew] at hK ⊢
          try simp only [World.grow_grow] at hK ⊢
          simp only [e14, e17] at hK ⊢
          clear e14 e17
          go_simp
          go_wp2_with fail
          exact ⟨_, rfl, rfl, (by repeat (first | exact below_of_grow _ _ | exact Below.refl _ _ | exact below_more _ _ _ _ | (simp only [← Array.append_assoc]; first | exact below_more _ _ _ _ | exact below_same _ _ _ | exact Below.refl _ _) | exact below_same _ _ _ | (refine Below.alloc ?_ (by first | (simp; done) | (simp; omega)) _) | (refine Below.grow ?_ (by first | (simp; done) | (simp; omega)) _ _) | refine Below.drew ?_ | refine Below.drewN ?_ _ | (refine Below.putF ?_ (by first | (simp; done) | omega | (simp; omega)) _) | (refine Below.setCell ?_ (by first | (simp; done) | (simp; omega)) _))), fun h => by cases h⟩
      case hend =>
        intro x w1 hH
        have e13 : x 13 = _ := hH.holds 0 (by decide) trivial 13 rfl
        have e14 : x 14 = _ := hH.holds 1 (by decide) trivial 14 rfl
        have e15 : x 15 = _ := hH.holds 2 (by decide) trivial 15 rfl
        have e16 : x 16 = _ := hH.holds 3 (by decide) trivial 16 rfl
        have e17 : x 17 = _ := hH.holds 4 (by decide) trivial 17 rfl
        have e18 : x 18 = _ := hH.holds 5 (by decide) trivial 18 rfl
        obtain ⟨xs, d, rfl⟩ := grow_of_below hH.below
        clear hH
        simp only [e13, e14, e15, e16, e17, e18]; clear e13 e14 e15 e16 e17 e18
        simp only [List.drop_succ_cons, List.drop_zero]
        go_wp2_with fail
        go_ret
        exact ⟨rfl, (by repeat (first | exact below_of_grow _ _ | exact Below.refl _ _ | exact below_more _ _ _ _ | (simp only [← Array.append_assoc]; first | exact below_more _ _ _ _ | exact below_same _ _ _ | exact Below.refl _ _) | exact below_same _ _ _ | (refine Below.alloc ?_ (by first | (simp; done) | (simp; omega)) _) | (refine Below.grow ?_ (by first | (simp; done) | (simp; omega)) _ _) | refine Below.drew ?_ | refine Below.drewN ?_ _ | (refine Below.putF ?_ (by first | (simp; done) | omega | (simp; omega)) _) | (refine Below.setCell ?_ (by first | (simp; done) | (simp; omega)) _)))⟩
  · have he : recE r = 16 := by unfold recE; rw [if_neg hk]
    have hg : (decide ((r.kind.toNat : Int) < 1) || decide (6 < (r.kind.toNat : Int))) = true := by simp; omega
    rw [he]
    clear hk he
    unfold Gives
    go_enter Tryz.func96, Tryz.ntmps96
    go_wp2_with fail
    all_goals go_ret
    all_goals exact ⟨rfl, (by repeat (first | exact below_of_grow _ _ | exact Below.refl _ _ | exact below_more _ _ _ _ | (simp only [← Array.append_assoc]; first | exact below_more _ _ _ _ | exact below_same _ _ _ | exact Below.refl _ _) | exact below_same _ _ _ | (refine Below.alloc ?_ (by first | (simp; done) | (simp; omega)) _) | (refine Below.grow ?_ (by first | (simp; done) | (simp; omega)) _ _) | refine Below.drew ?_ | refine Below.drewN ?_ _ | (refine Below.putF ?_ (by first | (simp; done) | omega | (simp; omega)) _) | (refine Below.setCell ?_ (by first | (simp; done) | (simp; omega)) _)))⟩
end Go.Proofs.YtfmphfidloobkaaGreatDoor
namespace Go.Proofs.YtfmphfidloobkaaGreatDoor
set_option maxRecDepth 100000
open Go.RowKit

theorem row_ver : RowType Tryz.prog 190 196 11 56 := ⟨Tryz.underlying190, by kernel_rfl, by decide, by decide⟩
/-- what is wrong with a version -/
def wrongE (v : Ver) : Int := if v.dead = false then recE v.r else if v.r = Rec.zero then 0 else 3
set_option maxHeartbeats 4000000 in
theorem wrong_gives (v : Ver) (w : World) : Gives Tryz.prog 110 #[.agg (verA v)] w (.int .i64 (wrongE v)) := by
  obtain ⟨at_, dead, r⟩ := v
  have HC := Lib.hid (check_gives r)
  cases dead with
  | false =>
    have he : wrongE ⟨at_, false, r⟩ = recE r := rfl
    rw [he]
    clear he
    generalize recE r = q at *
    unfold Gives
    go_enter Tryz.func110, Tryz.ntmps110
    go_wp2_with fail
    refine Gives.use (HC.out _) ?_
    intro xs d
    go_wp2_with fail
    go_ret
    exact ⟨rfl, (by repeat (first | exact below_of_grow _ _ | exact Below.refl _ _ | exact below_more _ _ _ _ | (simp only [← Array.append_assoc]; first | exact below_more _ _ _ _ | exact below_same _ _ _ | exact Below.refl _ _) | exact below_same _ _ _ | (refine Below.alloc ?_ (by first | (simp; done) | (simp; omega)) _) | (refine Below.grow ?_ (by first | (simp; done) | (simp; omega)) _ _) | refine Below.drew ?_ | refine Below.drewN ?_ _ | (refine Below.putF ?_ (by first | (simp; done) | omega | (simp; omega)) _) | (refine Below.setCell ?_ (by first | (simp; done) | (simp; omega)) _)))⟩
  | true =>
    by_cases hr : r = Rec.zero
    · have he : wrongE ⟨at_, true, r⟩ = 0 := by unfold wrongE; simp [hr]
      rw [he]
      have hd : decide (r = Rec.zero) = true := decide_eq_true hr
      clear he hr HC
      unfold Gives
      go_enter Tryz.func110, Tryz.ntmps110
      go_wp2_with fail
      go_ret
      exact ⟨rfl, (by repeat (first | exact below_of_grow _ _ | exact Below.refl _ _ | exact below_more _ _ _ _ | (simp only [← Array.append_assoc]; first | exact below_more _ _ _ _ | exact below_same _ _ _ | exact Below.refl _ _) | exact below_same _ _ _ | (refine Below.alloc ?_ (by first | (simp; done) | (simp; omega)) _) | (refine Below.grow ?_ (by first | (simp; done) | (simp; omega)) _ _) | refine Below.drew ?_ | refine Below.drewN ?_ _ | (refine Below.putF ?_ (by first | (simp; done) | omega | (simp; omega)) _) | (refine Below.setCell ?_ (by first | (simp; done) | (simp; omega)) _)))⟩
    · have he : wrongE ⟨at_, true, r⟩ = 3 := by unfold wrongE; simp [hr]
      rw [he]
      have hd : decide (r = Rec.zero) = false := decide_eq_false hr
      clear he hr HC
      unfold Gives
      go_enter Tryz.func110, Tryz.ntmps110
      go_wp2_with fail
      go_ret
      exact ⟨rfl, (by repeat (first | exact below_of_grow _ _ | exact Below.refl _ _ | exact below_more _ _ _ _ | (simp only [← Array.append_assoc]; first | exact below_more _ _ _ _ | exact below_same _ _ _ | exact Below.refl _ _) | exact below_same _ _ _ | (refine Below.alloc ?_ (by first | (simp; done) | (simp; omega)) _) | (refine Below.grow ?_ (by first | (simp; done) | (simp; omega)) _ _) | refine Below.drew ?_ | refine Below.drewN ?_ _ | (refine Below.putF ?_ (by first | (simp; done) | omega | (simp; omega)) _) | (refine Below.setCell ?_ (by first | (simp; done) | (simp; omega)) _)))⟩
theorem But.of_grown {w w1 w2 : World} {row : Option Nat} (hg : w1.grownBy w2 row) (hb : Below w.heap.size w w1) : But row.toList w w2 :=
  (But.of_below hb _).trans ⟨hg.os, hg.tape, hg.output, hg.size, fun b hb hn => hg.block b hb (fun e => hn (by rw [← e]; simp))⟩
/-- one more version: what lies behind -/
def PutVPost (w : World) (B c : Nat) (sv : Value) (vs : List Ver) (v : Ver) (w' : World) : Prop :=
  ∃ sv', ChainAt w' B c sv' (vs ++ [v]) ∧ But (c :: sv.ownBlock.toList) w w' ∧ (sv'.ownBlock = sv.ownBlock ∨ ∃ g, sv'.ownBlock = some g ∧ w.heap.size ≤ g)
set_option maxHeartbeats 8000000 in
theorem putV_calls (B c lb : Nat) (sv : Value) (vs : List Ver) (v : Ver) (w : World) (h : ChainAt w B c sv vs) (hlen : vs.length + 1 ≤ 100000) (hB : B ≤ w.heap.size) (hwr : wrongE v = 0) (hnew : (newestN vs).toNat < v.at_.toNat)
    (hl : w.cut? lb 0 11 = some (verA v)) (hlb : lb < w.heap.size) :
    Calls Tryz.prog 73 #[.pointer (some ⟨c, 0, none⟩), .slice (some ⟨lb, 0, none⟩) 1 1] w fun e w' => e = .returned (.tuple #[.int .i64 1, .int .i64 0]) ∧ PutVPost w B c sv vs v w' := by
  have hlt := (Array.getElem?_eq_some_iff.1 h.1).1
  have hwg := wrong_gives v
  rw [hwr] at hwg
  have HW := Lib.hid hwg
  have hne : ∀ W, Below w.heap.size w W → Gives Tryz.prog 95 #[.pointer (some ⟨c, 0, none⟩)] W (.int .u64 (newestN vs).toNat) := fun W hb => by
    refine newest_gives (some c) vs (by omega) W ⟨Nat.lt_of_lt_of_le hlt hb.size, sv, (hb.block _ hlt).trans h.1, ?_⟩
    exact (h.2.below hb).sl
  have HN := Lib.hid hne
  have HCH := Lib.hid h
  clear hwg hwr hne h
  have hnd : ¬ v.at_.toNat ≤ (newestN vs).toNat := by omega
  generalize (newestN vs).toNat = nn at *
  clear hnew
  go_enter Tryz.func73, Tryz.ntmps73
  go_wp2_with fail
  go_loopw [13] (fun s13 wr => (s13 = .int .i64 0 ∧ wr = w) ∨ (s13 = .int .i64 1 ∧ PutVPost w B c sv vs v wr)) (fun s13 _ => 1 - (intOf s13).toNat)
  case atStart => exact .inl ⟨rfl, rfl⟩
  case round =>
    rcases hrel with ⟨rfl, rfl⟩ | ⟨rfl, hpost⟩
    · go_wp2_with fail
      refine Gives.use (HW.out _) ?_
      intro xs0 d0
      go_wp2_with fail
      apply wp_region_specs (by rfl) [.val _, .val _, .val _, .val _, .val _] 5 (by rfl) [24, 25, 26, 27, 28] [] [] (by rfl) (by rfl) (by decide) (by decide +kernel) (fun _ _ _ _ _ h => h)
      case hF => intro x; simp only [over, List.foldl_cons, List.foldl_nil, List.setIfInBounds_toArray, List.set_cons_succ, List.set_cons_zero]; exact rfl
      case hops =>
        refine ⟨?o0, ?o1, ?o2, ?o3, ?o4, trivial⟩
        case o0 =>
          intro x w1 hH K hK
          obtain ⟨xs, d, rfl⟩ := grow_of_below hH.below
          clear hH
          try simp only [World.grow_drew] at hK ⊢
          try simp only [World.grow_grow] at hK ⊢
          go_simp
          go_wp2_with fail
          exact ⟨_, rfl, rfl, (by repeat (first | exact below_of_grow _ _ | exact Below.refl _ _ | exact below_more _ _ _ _ | (simp only [← Array.append_assoc]; first | exact below_more _ _ _ _ | exact below_same _ _ _ | exact Below.refl _ _) | exact below_same _ _ _ | (refine Below.alloc ?_ (by first | (simp; done) | (simp; omega)) _) | (refine Below.grow ?_ (by first | (simp; done) | (simp; omega)) _ _) | refine Below.drew ?_ | refine Below.drewN ?_ _ | (refine Below.putF ?_ (by first | (simp; done) | omega | (simp; omega)) _) | (refine Below.setCell ?_ (by first | (simp; done) | (simp; omega)) _))), fun h => by cases h⟩
        case o1 =>
          intro x w1 hH K hK
          have e24 : x 24 = _ := hH.holds 0 (by decide) (by decide +kernel) 24 rfl
          obtain ⟨xs, d, rfl⟩ := grow_of_below hH.below
          clear hH
          try simp only [World.grow_drew] at hK ⊢
          try simp only [World.grow_grow] at hK ⊢
          simp only [e24] at hK ⊢
          clear e24
          go_simp
          go_wp2_with fail
          exact ⟨_, rfl, rfl, (by repeat (first | exact below_of_grow _ _ | exact Below.refl _ _ | exact below_more _ _ _ _ | (simp only [← Array.append_assoc]; first | exact below_more _ _ _ _ | exact below_same _ _ _ | exact Below.refl _ _) | exact below_same _ _ _ | (refine Below.alloc ?_ (by first | (simp; done) | (simp; omega)) _) | (refine Below.grow ?_ (by first | (simp; done) | (simp; omega)) _ _) | refine Below.drew ?_ | refine Below.drewN ?_ _ | (refine Below.putF ?_ (by first | (simp; done) | omega | (simp; omega)) _) | (refine Below.setCell ?_ (by first | (simp; done) | (simp; omega)) _))), fun h => by cases h⟩
        case o2 =>
          intro x w1 hH K hK
          obtain ⟨xs, d, rfl⟩ := grow_of_below hH.below
          clear hH
          try simp only [World.grow_drew] at hK ⊢
          try simp only [World.grow_grow] at hK ⊢
          go_simp
          go_wp2_with fail
          exact ⟨_, rfl, rfl, (by repeat (first | exact below_of_grow _ _ | exact Below.refl _ _ | exact below_more _ _ _ _ | (simp only [← Array.append_assoc]; first | exact below_more _ _ _ _ | exact below_same _ _ _ | exact Below.refl _ _) | exact below_same _ _ _ | (refine Below.alloc ?_ (by first | (simp; done) | (simp; omega)) _) | (refine Below.grow ?_ (by first | (simp; done) | (simp; omega)) _ _) | refine Below.drew ?_ | refine Below.drewN ?_ _ | (refine Below.putF ?_ (by first | (simp; done) | omega | (simp; omega)) _) | (refine Below.setCell ?_ (by first | (simp; done) | (simp; omega)) _))), fun h => by cases h⟩
        case o3 =>
          intro x w1 hH K hK
          have e26 : x 26 = _ := hH.holds 2 (by decide) (by decide +kernel) 26 rfl
          obtain ⟨xs, d, rfl⟩ := grow_of_below hH.below
          clear hH
          try simp only [World.grow_drew] at hK ⊢
          try simp only [World.grow_grow] at hK ⊢
          simp only [e26] at hK ⊢
          clear e26
          go_simp
          go_wp2_with (refine Gives.use (HN.out _ (by repeat (first | exact below_of_grow _ _ | exact Below.refl _ _ | exact below_more _ _ _ _ | (simp only [← Array.append_assoc]; first | exact below_more _ _ _ _ | exact below_same _ _ _ | exact Below.refl _ _) | exact below_same _ _ _ | (refine Below.alloc ?_ (by first | (simp; done) | (simp; omega)) _) | (refine Below.grow ?_ (by first | (simp; done) | (simp; omega)) _ _) | refine Below.drew ?_ | refine Below.drewN ?_ _ | (refine Below.putF ?_ (by first | (simp; done) | omega | (simp; omega)) _) | (refine Below.setCell ?_ (by first | (simp; done) | (simp; omega)) _)))) ?_; intro ys e)
          exact ⟨_, rfl, rfl, (by first | exact below_more _ _ _ _ | exact (by repeat (first | exact below_of_grow _ _ | exact Below.refl _ _ | exact below_more _ _ _ _ | (simp only [← Array.append_assoc]; first | exact below_more _ _ _ _ | exact below_same _ _ _ | exact Below.refl _ _) | exact below_same _ _ _ | (refine Below.alloc ?_ (by first | (simp; done) | (simp; omega)) _) | (refine Below.grow ?_ (by first | (simp; done) | (simp; omega)) _ _) | refine Below.drew ?_ | refine Below.drewN ?_ _ | (refine Below.putF ?_ (by first | (simp; done) | omega | (simp; omega)) _) | (refine Below.setCell ?_ (by first | (simp; done) | (simp; omega)) _)))), fun h => by cases h⟩
        case o4 =>
          intro x w1 hH K hK
          have e25 : x 25 = _ := hH.holds 1 (by decide) (by decide +kernel) 25 rfl
          have e27 : x 27 = _ := hH.holds 3 (by decide) (by decide +kernel) 27 rfl
          obtain ⟨xs, d, rfl⟩ := grow_of_below hH.below
          clear hH
          try simp only [World.grow_drew] at hK ⊢
          try simp only [World.grow_grow] at hK ⊢
          simp only [e25, e27] at hK ⊢
          clear e25 e27
          go_simp
          go_wp2_with fail
          exact ⟨_, rfl, rfl, (by repeat (first | exact below_of_grow _ _ | exact Below.refl _ _ | exact below_more _ _ _ _ | (simp only [← Array.append_assoc]; first | exact below_more _ _ _ _ | exact below_same _ _ _ | exact Below.refl _ _) | exact below_same _ _ _ | (refine Below.alloc ?_ (by first | (simp; done) | (simp; omega)) _) | (refine Below.grow ?_ (by first | (simp; done) | (simp; omega)) _ _) | refine Below.drew ?_ | refine Below.drewN ?_ _ | (refine Below.putF ?_ (by first | (simp; done) | omega | (simp; omega)) _) | (refine Below.setCell ?_ (by first | (simp; done) | (simp; omega)) _))), fun h => by cases h⟩
      case hend =>
        intro x w1 hH
        have e24 : x 24 = _ := hH.holds 0 (by decide) trivial 24 rfl
        have e25 : x 25 = _ := hH.holds 1 (by decide) trivial 25 rfl
        have e26 : x 26 = _ := hH.holds 2 (by decide) trivial 26 rfl
        have e27 : x 27 = _ := hH.holds 3 (by decide) trivial 27 rfl
        have e28 : x 28 = _ := hH.holds 4 (by decide) trivial 28 rfl
        obtain ⟨xs, d, rfl⟩ := grow_of_below hH.below
        clear hH
        simp only [e24, e25, e26, e27, e28]; clear e24 e25 e26 e27 e28
        simp only [List.drop_succ_cons, List.drop_nil]
        go_upto_region 11 with fail
        refine wp_name ?_
        intro W hW
        have hbW : Below wr.heap.size wr W := by rw [hW]; exact (by repeat (first | exact below_of_grow _ _ | exact Below.refl _ _ | exact below_more _ _ _ _ | (simp only [← Array.append_assoc]; first | exact below_more _ _ _ _ | exact below_same _ _ _ | exact Below.refl _ _) | exact below_same _ _ _ | (refine Below.alloc ?_ (by first | (simp; done) | (simp; omega)) _) | (refine Below.grow ?_ (by first | (simp; done) | (simp; omega)) _ _) | refine Below.drew ?_ | refine Below.drewN ?_ _ | (refine Below.putF ?_ (by first | (simp; done) | omega | (simp; omega)) _) | (refine Below.setCell ?_ (by first | (simp; done) | (simp; omega)) _)))
        have hcv : W.cut? wr.heap.size 0 11 = some (verA v) := by
          rw [hW, World.grow_drew, World.grow_grow, cut_grow _ _ _ _ _ (by simp), cut_alloc_at _ _ _ _ _ rfl]
          simp [go_sem]
        have lvb : wr.heap.size < W.heap.size := by rw [hW]; simp; omega
        have hcW : W.heap[c]? = some (.cells #[sv] 192) := (hbW.block _ hlt).trans HCH.out.1
        have hoW := HCH.out.2.below hbW
        have cc : W.cell? ⟨c, 0, none⟩ = some sv := by simp [World.cell?, hcW]
        have fc : W.frozen? ⟨c, 0, none⟩ = false := by simp [World.frozen?, hcW]
        have lc : c < W.heap.size := (Array.getElem?_eq_some_iff.1 hcW).1
        obtain ⟨a, cap, rfl, hcap, _⟩ := hoW.form
        rw [List.length_map] at *
        have hoc : ∀ g, (Value.slice a vs.length cap).ownBlock = some g → g ≠ c ∧ B ≤ g ∧ g < W.heap.size := by
          intro g hg
          refine ⟨?_, hoW.lt g hg⟩
          rintro rfl
          exact (show Boxed W g 192 _ from hcW).not_row (by decide) hoW.2 hg.symm
        have HOW := Lib.hid (And.intro hoW (And.intro hcW (And.intro hbW hoc)))
        clear hW hcW hoW hbW hoc
        clear hl HW HN
        have HWs : W.heap.size = W.heap.size := rfl
        go_region_law (first
          | (refine step_append (o := ⟨some 37, _, _, _, _, _⟩) (B := B) (xs := vs.map verA) (ys := [verA v]) row_ver rfl (.tmp 34) (.tmp 36) rfl (v := .slice a vs.length cap) rfl ?_ (y := _) rfl ?_ ?_ ?_ ?_ ?_
             · repeat (first | exact HOW.out.1 | refine OwnA.alloc ?_ _ | refine OwnA.drew ?_)
             · refine ⟨_, sl_one (Nat.le_refl _) (by decide) ?_⟩
               exact cut_heap ((heap_al _ _ _).trans (if_pos (by simp; done))) (verA_size _)
             · intro x hx; simp at hx; subst hx; exact one_verA v
             · first | omega | (simp; omega)
             · first | omega | (simp; omega)
             intro v2 w2 ho2 hg2 hl2
             obtain ⟨a2, cap2, rfl, hcap2, _⟩ := ho2.form
             have h0 : w2.heap[c]? = W.heap[c]? := (hg2.block c (by first | (simp; done) | (simp; omega)) (fun e => (HOW.out.2.2.2 c e.symm).1 rfl)).trans (by first | exact Below.heap_alloc W _ _ lc | exact Below.heap_alloc W.drew _ _ lc)
             have c2 : w2.cell? ⟨c, 0, none⟩ = some (.slice a vs.length cap) := (cell_of_heap h0 _).trans cc
             have f2 : w2.frozen? ⟨c, 0, none⟩ = false := (frozen_of_heap h0 _).trans fc
             have hb2 : But (Value.slice a vs.length cap).ownBlock.toList W w2 := But.of_grown hg2 (by first | exact (Below.refl _ _).alloc (Nat.le_refl _) _ | exact ((Below.refl _ _).drew).alloc (Nat.le_refl _) _ | exact ((Below.refl _ _).alloc (Nat.le_refl _) _).drew)
             have HF := Lib.hid (And.intro ho2 (And.intro (h0.trans HOW.out.2.1) (And.intro hb2 hl2)))
             clear ho2 hg2 hl2 h0 hb2))
        all_goals
          go_wp2_with fail
          go_roundw
          case rel =>
            refine .inr ⟨rfl, ?_⟩
            obtain ⟨ho2, h0, hb2, hl2⟩ := HF.out
            have hlen2 : (List.map verA vs ++ [verA v]).length = vs.length + 1 := by simp
            rw [hlen2] at ho2 hl2
            have hnr := (show Boxed w2 c 192 _ from h0).not_row (by decide) ho2.2
            have hset : But (c :: (Value.slice a vs.length cap).ownBlock.toList) w2 (w2.setCell ⟨c, 0, none⟩ (.slice a2 (vs.length + 1) cap2)) := But.setCell' _ List.mem_cons_self _ _
            have hown : OwnA (w2.setCell ⟨c, 0, none⟩ (.slice a2 (vs.length + 1) cap2)) B 11 196 (.slice a2 (vs.length + 1) cap2) ((vs ++ [v]).map verA) := by
              rw [List.map_append, List.map_cons, List.map_nil]
              exact ho2.keep fun g hg _ => Below.heap_setCell _ ⟨c, 0, none⟩ _ _ (fun e => hnr (by rw [hg]; exact congrArg some (show c = g from e.symm)))
            have hfin : But (c :: (Value.slice a vs.length cap).ownBlock.toList) wr (w2.setCell ⟨c, 0, none⟩ (.slice a2 (vs.length + 1) cap2)) := ((But.of_below HOW.out.2.2.1 _).trans (hb2.more fun b hb _ => List.mem_cons_of_mem _ hb)).trans hset
            have hlast : (Value.slice a2 (vs.length + 1) cap2).ownBlock = (Value.slice a vs.length cap).ownBlock ∨ ∃ g, (Value.slice a2 (vs.length + 1) cap2).ownBlock = some g ∧ wr.heap.size ≤ g := by
              rcases hl2 with h | h
              · exact .inl h
              · exact .inr ⟨_, h, by simp; omega⟩
            unfold PutVPost
            rw [List.length_map]
            exact ⟨_, ⟨set_cells h0 0 _, hown⟩, hfin, hlast⟩
          case measure => simp [intOf]
    · have HP := Lib.hid hpost
      clear hpost
      go_wp2_with fail
      exact bodyPost_ret (v := .tuple #[.int .i64 1, .int .i64 0]) (by simp [results, Tryz.results73, go_sem]) rfl ⟨rfl, HP.out⟩
end Go.Proofs.YtfmphfidloobkaaGreatDoor
namespace Go.Proofs.YtfmphfidloobkaaGreatDoor
set_option maxRecDepth 100000
open Go.RowKit

/-- a store's shape: its tree's block, the tree, the chains by their blocks, its last time, how many keys it takes for live -/
structure SG where
  t : Nat
  R : Option (CT K25)
  n : Int
  last : UInt64
  live : Int
  g : Nat → Value × List Ver
def leavesR : Option (CT K25) → List (Nat × K25 × Nat)
  | none => []
  | some T => T.list
def SG.chains (G : SG) : List Nat := (leavesR G.R).map (·.2.2)
def ownL (g : Nat → Value × List Ver) (cs : List Nat) : List Nat := (cs.map fun c => (g c).1.ownBlock.toList).flatten
def SG.blocks (s : Nat) (G : SG) : List Nat := s :: G.t :: (footR G.R ++ (G.chains ++ ownL G.g G.chains))
structure StoreAt (w : World) (B s : Nat) (G : SG) : Prop where
  store : StoreC w s G.t G.last.toNat G.live
  tree : TreeAt w G.t G.R G.n
  chain : ∀ c ∈ G.chains, ChainAt w B c (G.g c).1 (G.g c).2
  nodup : (G.blocks s).Nodup
  low : ∀ b ∈ G.blocks s, B ≤ b
  size : B ≤ w.heap.size
def versG (G : SG) (k : K25) : List Ver := match getR G.R k with | none => [] | some c => (G.g c).2

theorem OkR.get {T : CT K25} (h : T.Ok keyBytes 200) (k : K25) (c : Nat) : getR (some T) k = some c ↔ ∃ a, (a, k, c) ∈ T.list := by
  constructor
  · intro e
    unfold getR at e
    simp only [Option.bind_some] at e
    have hm := near_mem k.val T
    generalize T.near k.val = x at e hm
    obtain ⟨a, k', c'⟩ := x
    simp only at e
    split at e
    · rename_i he
      obtain rfl := Option.some.inj e
      subst he
      exact ⟨a, hm⟩
    · cases e
  · rintro ⟨a, ha⟩
    have hn : T.near k.val = (a, k, c) := near_key h ha
    unfold getR
    simp only [Option.bind_some, hn, if_true]
theorem find_none (R : Option (CT K25)) (k : K25) : findR R k = none ↔ getR R k = none := by
  cases R with
  | none => exact ⟨fun _ => rfl, fun _ => rfl⟩
  | some T =>
    unfold findR getR
    simp only [Option.bind_some]
    split <;> simp
theorem get_mem {R : Option (CT K25)} {k : K25} {c : Nat} (h : getR R k = some c) : c ∈ (leavesR R).map (·.2.2) := by
  cases R with
  | none => cases h
  | some T =>
    unfold getR at h
    simp only [Option.bind_some] at h
    split at h
    · obtain rfl := Option.some.inj h
      exact List.mem_map.2 ⟨_, near_mem k.val T, rfl⟩
    · cases h
theorem put_list (R : Option (CT K25)) (k : K25) (c a fa : Nat) : (putR R k c a fa).list.Perm ((a, k, c) :: leavesR R) := by
  cases R with
  | none => exact List.Perm.refl _
  | some T => exact ins_list T
theorem put_foot (R : Option (CT K25)) (k : K25) (c a fa : Nat) : ∃ l, (l = [a] ∨ l = [a, fa]) ∧ (putR R k c a fa).foot.Perm (l ++ footR R) := by
  cases R with
  | none => exact ⟨[a], .inl rfl, List.Perm.refl _⟩
  | some T => exact ⟨[a, fa], .inr rfl, ins_foot T⟩
theorem put_get {R : Option (CT K25)} {k : K25} {c a fa : Nat} (h : (putR R k c a fa).Ok keyBytes 200) (hR : ∀ T, R = some T → T.Ok keyBytes 200) (hn : getR R k = none) (j : K25) :
    getR (some (putR R k c a fa)) j = if j = k then some c else getR R j := by
  have hp := put_list R k c a fa
  by_cases hj : j = k
  · rw [if_pos hj, OkR.get h]
    exact ⟨a, hp.mem_iff.2 (by rw [hj]; exact List.mem_cons_self)⟩
  · rw [if_neg hj]
    have key : ∀ d, getR (some (putR R k c a fa)) j = some d ↔ getR R j = some d := by
      intro d
      rw [OkR.get h]
      constructor
      · rintro ⟨b, hb⟩
        rcases List.mem_cons.1 (hp.mem_iff.1 hb) with e | hb
        · exact absurd (congrArg (fun x : Nat × K25 × Nat => x.2.1) e) hj
        · cases R with
          | none => simp [leavesR] at hb
          | some T => exact (OkR.get (hR T rfl) j d).2 ⟨b, hb⟩
      · intro e
        cases R with
        | none => cases e
        | some T =>
          obtain ⟨b, hb⟩ := (OkR.get (hR T rfl) j d).1 e
          exact ⟨b, hp.mem_iff.2 (List.mem_cons_of_mem _ hb)⟩
    cases h1 : getR R j with
    | none =>
      cases h2 : getR (some (putR R k c a fa)) j with
      | none => rfl
      | some d => rw [(key d).1 h2] at h1; cases h1
    | some d => exact (key d).2 h1
theorem ownL_congr {g g' : Nat → Value × List Ver} {cs : List Nat} (h : ∀ c ∈ cs, g c = g' c) : ownL g cs = ownL g' cs := by
  unfold ownL
  congr 1
  exact List.map_congr_left fun c hc => by rw [h c hc]
def updG (g : Nat → Value × List Ver) (c : Nat) (x : Value × List Ver) : Nat → Value × List Ver := fun d => if d = c then x else g d
theorem updG_same (g : Nat → Value × List Ver) (c : Nat) (x : Value × List Ver) : updG g c x c = x := if_pos rfl
theorem updG_other (g : Nat → Value × List Ver) {c d : Nat} (x : Value × List Ver) (h : d ≠ c) : updG g c x d = g d := if_neg h
section
variable {w w' : World} {B s : Nat} {G : SG}
theorem StoreAt.keepAll (h : StoreAt w B s G) (hk : ∀ b ∈ G.blocks s, w'.heap[b]? = w.heap[b]?) (hs : w.heap.size ≤ w'.heap.size) : StoreAt w' B s G := by
  have inn : ∀ {b}, b ∈ footR G.R ++ (G.chains ++ ownL G.g G.chains) → b ∈ G.blocks s := fun hb => List.mem_cons_of_mem _ (List.mem_cons_of_mem _ hb)
  refine ⟨(hk s List.mem_cons_self).trans h.store, ⟨(hk G.t (List.mem_cons_of_mem _ List.mem_cons_self)).trans h.tree.1, fun T hT => ⟨(h.tree.2 T hT).1.keep fun b hb => hk b (inn (List.mem_append_left _ (by rw [hT]; exact hb))), (h.tree.2 T hT).2⟩⟩, fun c hc => ?_, h.nodup, h.low, Nat.le_trans h.size hs⟩
  refine ⟨(hk c (inn (List.mem_append_right _ (List.mem_append_left _ hc)))).trans (h.chain c hc).1, (h.chain c hc).2.keep fun b hb _ => hk b (inn (List.mem_append_right _ (List.mem_append_right _ ?_)))⟩
  exact List.mem_flatten.2 ⟨_, List.mem_map.2 ⟨c, hc, rfl⟩, by rw [hb]; simp⟩
theorem StoreAt.lt (h : StoreAt w B s G) : ∀ b ∈ G.blocks s, b < w.heap.size := by
  intro b hb
  unfold SG.blocks at hb
  rcases List.mem_cons.1 hb with rfl | hb
  · exact lt_of_heap h.store
  · rcases List.mem_cons.1 hb with rfl | hb
    · exact lt_of_heap h.tree.1
    · rcases List.mem_append.1 hb with hb | hb
      · cases hR : G.R with
        | none => rw [hR] at hb; simp [footR] at hb
        | some T => rw [hR] at hb; exact (h.tree.2 T hR).1.lt b hb
      · rcases List.mem_append.1 hb with hb | hb
        · exact lt_of_heap (h.chain b hb).1
        · obtain ⟨l, hl, hbl⟩ := List.mem_flatten.1 hb
          obtain ⟨c, hc, rfl⟩ := List.mem_map.1 hl
          exact ((h.chain c hc).2.lt b (by simpa using hbl)).2
theorem StoreAt.keep (h : StoreAt w B s G) (hb : Below w.heap.size w w') : StoreAt w' B s G := h.keepAll (fun b hbm => hb.block b (h.lt b hbm)) hb.size
theorem optP_eq (o : Option Nat) : optP o = .pointer (optA o) := by cases o <;> rfl
/-- a key's chain, as the chains' functions take it -/
theorem StoreAt.chainV (h : StoreAt w B s G) (k : K25) : ChainV w w.heap.size (getR G.R k) (versG G k) := by
  unfold versG
  cases hg : getR G.R k with
  | none => rfl
  | some c =>
    have hc := h.chain c (get_mem hg)
    exact ⟨lt_of_heap hc.1, _, hc.1, hc.2.sl⟩
end
end Go.Proofs.YtfmphfidloobkaaGreatDoor

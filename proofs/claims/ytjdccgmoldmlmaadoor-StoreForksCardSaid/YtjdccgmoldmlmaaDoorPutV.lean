/- Layer 12: one more version is put onto a chain. -/
import Derived.Test.YtjdccgmoldmlmaaDoorSeen
import Derived.Test.YtjdccgmoldmlmaaDoorRecC
import Derived.BigRegion
import Derived.Handy
namespace Go.Proofs.YtjdccgmoldmlmaaDoor
set_option maxRecDepth 100000
open Go.RowKit

theorem row_ver : RowType Tryd.prog 59 66 11 56 := ⟨Tryd.underlying59, by kernel_rfl, by decide, by decide⟩
/-- what is wrong with a version -/
def wrongE (v : Ver) : Int := if v.dead = false then recE v.r else if v.r = Rec.zero then 0 else 3
set_option maxHeartbeats 4000000 in
theorem wrong_gives (v : Ver) (w : World) : Gives Tryd.prog 27 #[.agg (verA v)] w (.int .i64 (wrongE v)) := by
  obtain ⟨at_, dead, r⟩ := v
  have HC := Lib.hid (check_gives r)
  cases dead with
  | false =>
    have he : wrongE ⟨at_, false, r⟩ = recE r := rfl
    rw [he]
    clear he
    generalize recE r = q at *
    unfold Gives
    go_enter Tryd.func27, Tryd.ntmps27
    go_wp2_with fail
    refine Gives.use (HC.out _) ?_
    intro xs d
    go_wp2_with fail
    go_ret
    exact ⟨rfl, (by repeat (first | exact below_of_grow _ _ | exact Below.refl _ _ | exact below_more _ _ _ _ | (simp only [← Array.append_assoc]; first | exact below_more _ _ _ _ | exact below_same _ _ _ | exact Below.refl _ _) | exact below_same _ _ _ | (refine Below.alloc ?_ (by first | (simp; done) | (simp; omega)) _) | (refine Below.grow ?_ (by first | (simp; done) | (simp; omega)) _ _) | refine Below.drew ?_ | refine Below.drewN ?_ _ | (refine Below.putF ?_ (by first | (simp; done) | omega | (simp; omega)) _) | (refine Below.setCell ?_ (by first | (simp; done) | (simp; omega)) _)))⟩
  | true =>
    by_cases hr : r = Rec.zero
    · have he : wrongE ⟨at_, true, r⟩ = 0 := by unfold wrongE; simp [hr]
      rw [he]
      have hd : decide (r = Rec.zero) = true := decide_eq_true hr
      clear he hr HC
      unfold Gives
      go_enter Tryd.func27, Tryd.ntmps27
      go_wp2_with fail
      go_ret
      exact ⟨rfl, (by repeat (first | exact below_of_grow _ _ | exact Below.refl _ _ | exact below_more _ _ _ _ | (simp only [← Array.append_assoc]; first | exact below_more _ _ _ _ | exact below_same _ _ _ | exact Below.refl _ _) | exact below_same _ _ _ | (refine Below.alloc ?_ (by first | (simp; done) | (simp; omega)) _) | (refine Below.grow ?_ (by first | (simp; done) | (simp; omega)) _ _) | refine Below.drew ?_ | refine Below.drewN ?_ _ | (refine Below.putF ?_ (by first | (simp; done) | omega | (simp; omega)) _) | (refine Below.setCell ?_ (by first | (simp; done) | (simp; omega)) _)))⟩
    · have he : wrongE ⟨at_, true, r⟩ = 3 := by unfold wrongE; simp [hr]
      rw [he]
      have hd : decide (r = Rec.zero) = false := decide_eq_false hr
      clear he hr HC
      unfold Gives
      go_enter Tryd.func27, Tryd.ntmps27
      go_wp2_with fail
      go_ret
      exact ⟨rfl, (by repeat (first | exact below_of_grow _ _ | exact Below.refl _ _ | exact below_more _ _ _ _ | (simp only [← Array.append_assoc]; first | exact below_more _ _ _ _ | exact below_same _ _ _ | exact Below.refl _ _) | exact below_same _ _ _ | (refine Below.alloc ?_ (by first | (simp; done) | (simp; omega)) _) | (refine Below.grow ?_ (by first | (simp; done) | (simp; omega)) _ _) | refine Below.drew ?_ | refine Below.drewN ?_ _ | (refine Below.putF ?_ (by first | (simp; done) | omega | (simp; omega)) _) | (refine Below.setCell ?_ (by first | (simp; done) | (simp; omega)) _)))⟩
theorem But.of_grown {w w1 w2 : World} {row : Option Nat} (hg : w1.grownBy w2 row) (hb : Below w.heap.size w w1) : But row.toList w w2 :=
  (But.of_below hb _).trans ⟨hg.os, hg.tape, hg.output, hg.size, fun b hb hn => hg.block b hb (fun e => hn (by rw [← e]; simp))⟩
/-- one more version: what lies behind -/
def PutVPost (w : World) (B c : Nat) (sv : Value) (vs : List Ver) (v : Ver) (w' : World) : Prop :=
  ∃ sv', ChainAt w' B c sv' (vs ++ [v]) ∧ But (c :: sv.ownBlock.toList) w w' ∧ (sv'.ownBlock = sv.ownBlock ∨ ∃ g, sv'.ownBlock = some g ∧ w.heap.size ≤ g)
set_option maxHeartbeats 8000000 in
theorem putV_calls (B c lb : Nat) (sv : Value) (vs : List Ver) (v : Ver) (w : World) (h : ChainAt w B c sv vs) (hlen : vs.length + 1 ≤ 100000) (hB : B ≤ w.heap.size) (hwr : wrongE v = 0) (hnew : (newestN vs).toNat < v.at_.toNat)
    (hl : w.cut? lb 0 11 = some (verA v)) (hlb : lb < w.heap.size) :
    Calls Tryd.prog 15 #[.pointer (some ⟨c, 0, none⟩), .slice (some ⟨lb, 0, none⟩) 1 1] w fun e w' => e = .returned (.tuple #[.int .i64 1, .int .i64 0]) ∧ PutVPost w B c sv vs v w' := by
  have hlt := (Array.getElem?_eq_some_iff.1 h.1).1
  have hwg := wrong_gives v
  rw [hwr] at hwg
  have HW := Lib.hid hwg
  have hne : ∀ W, Below w.heap.size w W → Gives Tryd.prog 28 #[.pointer (some ⟨c, 0, none⟩)] W (.int .u64 (newestN vs).toNat) := fun W hb => by
    refine newest_gives (some c) vs (by omega) W ⟨Nat.lt_of_lt_of_le hlt hb.size, sv, (hb.block _ hlt).trans h.1, ?_⟩
    exact (h.2.below hb).sl
  have HN := Lib.hid hne
  have HCH := Lib.hid h
  clear hwg hwr hne h
  have hnd : ¬ v.at_.toNat ≤ (newestN vs).toNat := by omega
  generalize (newestN vs).toNat = nn at *
  clear hnew
  go_enter Tryd.func15, Tryd.ntmps15
  go_wp2_with fail
  go_loopw [13] (fun s13 wr => (s13 = .int .i64 0 ∧ wr = w) ∨ (s13 = .int .i64 1 ∧ PutVPost w B c sv vs v wr)) (fun s13 _ => 1 - (intOf s13).toNat)
  case atStart => exact .inl ⟨rfl, rfl⟩
  case round =>
    rcases hrel with ⟨rfl, rfl⟩ | ⟨rfl, hpost⟩
    · go_wp2_with fail
      refine Gives.use (HW.out _) ?_
      intro xs0 d0
      go_wp2_with fail
      apply wp_region_specs (by rfl) [.val _, .val _, .val _, .val _, .val _] 5 (by rfl) [24, 25, 26, 27, 28] [] [] (by rfl) (by rfl) (by decide) (by decide +kernel) (fun _ _ _ _ _ h => h)
      case hF => intro x; simp only [over, List.foldl_cons, List.foldl_nil, List.setIfInBounds_toArray, List.set_cons_succ, List.set_cons_zero]; exact rfl
      case hops =>
        refine ⟨?o0, ?o1, ?o2, ?o3, ?o4, trivial⟩
        case o0 =>
          intro x w1 hH K hK
          obtain ⟨xs, d, rfl⟩ := grow_of_below hH.below
          clear hH
          try simp only [World.grow_drew] at hK ⊢
          try simp only [World.grow_grow] at hK ⊢
          go_simp
          go_wp2_with fail
          exact ⟨_, rfl, rfl, (by repeat (first | exact below_of_grow _ _ | exact Below.refl _ _ | exact below_more _ _ _ _ | (simp only [← Array.append_assoc]; first | exact below_more _ _ _ _ | exact below_same _ _ _ | exact Below.refl _ _) | exact below_same _ _ _ | (refine Below.alloc ?_ (by first | (simp; done) | (simp; omega)) _) | (refine Below.grow ?_ (by first | (simp; done) | (simp; omega)) _ _) | refine Below.drew ?_ | refine Below.drewN ?_ _ | (refine Below.putF ?_ (by first | (simp; done) | omega | (simp; omega)) _) | (refine Below.setCell ?_ (by first | (simp; done) | (simp; omega)) _))), fun h => by cases h⟩
        case o1 =>
          intro x w1 hH K hK
          have e24 : x 24 = _ := hH.holds 0 (by decide) (by decide +kernel) 24 rfl
          obtain ⟨xs, d, rfl⟩ := grow_of_below hH.below
          clear hH
          try simp only [World.grow_drew] at hK ⊢
          try simp only [World.grow_grow] at hK ⊢
          simp only [e24] at hK ⊢
          clear e24
          go_simp
          go_wp2_with fail
          exact ⟨_, rfl, rfl, (by repeat (first | exact below_of_grow _ _ | exact Below.refl _ _ | exact below_more _ _ _ _ | (simp only [← Array.append_assoc]; first | exact below_more _ _ _ _ | exact below_same _ _ _ | exact Below.refl _ _) | exact below_same _ _ _ | (refine Below.alloc ?_ (by first | (simp; done) | (simp; omega)) _) | (refine Below.grow ?_ (by first | (simp; done) | (simp; omega)) _ _) | refine Below.drew ?_ | refine Below.drewN ?_ _ | (refine Below.putF ?_ (by first | (simp; done) | omega | (simp; omega)) _) | (refine Below.setCell ?_ (by first | (simp; done) | (simp; omega)) _))), fun h => by cases h⟩
        case o2 =>
          intro x w1 hH K hK
          obtain ⟨xs, d, rfl⟩ := grow_of_below hH.below
          clear hH
          try simp only [World.grow_drew] at hK ⊢
          try simp only [World.grow_grow] at hK ⊢
          go_simp
          go_wp2_with fail
          exact ⟨_, rfl, rfl, (by repeat (first | exact below_of_grow _ _ | exact Below.refl _ _ | exact below_more _ _ _ _ | (simp only [← Array.append_assoc]; first | exact below_more _ _ _ _ | exact below_same _ _ _ | exact Below.refl _ _) | exact below_same _ _ _ | (refine Below.alloc ?_ (by first | (simp; done) | (simp; omega)) _) | (refine Below.grow ?_ (by first | (simp; done) | (simp; omega)) _ _) | refine Below.drew ?_ | refine Below.drewN ?_ _ | (refine Below.putF ?_ (by first | (simp; done) | omega | (simp; omega)) _) | (refine Below.setCell ?_ (by first | (simp; done) | (simp; omega)) _))), fun h => by cases h⟩
        case o3 =>
          intro x w1 hH K hK
          have e26 : x 26 = _ := hH.holds 2 (by decide) (by decide +kernel) 26 rfl
          obtain ⟨xs, d, rfl⟩ := grow_of_below hH.below
          clear hH
          try simp only [World.grow_drew] at hK ⊢
          try simp only [World.grow_grow] at hK ⊢
          simp only [e26] at hK ⊢
          clear e26
          go_simp
          go_wp2_with (refine Gives.use (HN.out _ (by repeat (first | exact below_of_grow _ _ | exact Below.refl _ _ | exact below_more _ _ _ _ | (simp only [← Array.append_assoc]; first | exact below_more _ _ _ _ | exact below_same _ _ _ | exact Below.refl _ _) | exact below_same _ _ _ | (refine Below.alloc ?_ (by first | (simp; done) | (simp; omega)) _) | (refine Below.grow ?_ (by first | (simp; done) | (simp; omega)) _ _) | refine Below.drew ?_ | refine Below.drewN ?_ _ | (refine Below.putF ?_ (by first | (simp; done) | omega | (simp; omega)) _) | (refine Below.setCell ?_ (by first | (simp; done) | (simp; omega)) _)))) ?_; intro ys e)
          exact ⟨_, rfl, rfl, (by first | exact below_more _ _ _ _ | exact (by repeat (first | exact below_of_grow _ _ | exact Below.refl _ _ | exact below_more _ _ _ _ | (simp only [← Array.append_assoc]; first | exact below_more _ _ _ _ | exact below_same _ _ _ | exact Below.refl _ _) | exact below_same _ _ _ | (refine Below.alloc ?_ (by first | (simp; done) | (simp; omega)) _) | (refine Below.grow ?_ (by first | (simp; done) | (simp; omega)) _ _) | refine Below.drew ?_ | refine Below.drewN ?_ _ | (refine Below.putF ?_ (by first | (simp; done) | omega | (simp; omega)) _) | (refine Below.setCell ?_ (by first | (simp; done) | (simp; omega)) _)))), fun h => by cases h⟩
        case o4 =>
          intro x w1 hH K hK
          have e25 : x 25 = _ := hH.holds 1 (by decide) (by decide +kernel) 25 rfl
          have e27 : x 27 = _ := hH.holds 3 (by decide) (by decide +kernel) 27 rfl
          obtain ⟨xs, d, rfl⟩ := grow_of_below hH.below
          clear hH
          try simp only [World.grow_drew] at hK ⊢
          try simp only [World.grow_grow] at hK ⊢
          simp only [e25, e27] at hK ⊢
          clear e25 e27
          go_simp
          go_wp2_with fail
          exact ⟨_, rfl, rfl, (by repeat (first | exact below_of_grow _ _ | exact Below.refl _ _ | exact below_more _ _ _ _ | (simp only [← Array.append_assoc]; first | exact below_more _ _ _ _ | exact below_same _ _ _ | exact Below.refl _ _) | exact below_same _ _ _ | (refine Below.alloc ?_ (by first | (simp; done) | (simp; omega)) _) | (refine Below.grow ?_ (by first | (simp; done) | (simp; omega)) _ _) | refine Below.drew ?_ | refine Below.drewN ?_ _ | (refine Below.putF ?_ (by first | (simp; done) | omega | (simp; omega)) _) | (refine Below.setCell ?_ (by first | (simp; done) | (simp; omega)) _))), fun h => by cases h⟩
      case hend =>
        intro x w1 hH
        have e24 : x 24 = _ := hH.holds 0 (by decide) trivial 24 rfl
        have e25 : x 25 = _ := hH.holds 1 (by decide) trivial 25 rfl
        have e26 : x 26 = _ := hH.holds 2 (by decide) trivial 26 rfl
        have e27 : x 27 = _ := hH.holds 3 (by decide) trivial 27 rfl
        have e28 : x 28 = _ := hH.holds 4 (by decide) trivial 28 rfl
        obtain ⟨xs, d, rfl⟩ := grow_of_below hH.below
        clear hH
        simp only [e24, e25, e26, e27, e28]; clear e24 e25 e26 e27 e28
        simp only [List.drop_succ_cons, List.drop_nil]
        go_upto_region 11 with fail
        refine wp_name ?_
        intro W hW
        have hbW : Below wr.heap.size wr W := by rw [hW]; exact (by repeat (first | exact below_of_grow _ _ | exact Below.refl _ _ | exact below_more _ _ _ _ | (simp only [← Array.append_assoc]; first | exact below_more _ _ _ _ | exact below_same _ _ _ | exact Below.refl _ _) | exact below_same _ _ _ | (refine Below.alloc ?_ (by first | (simp; done) | (simp; omega)) _) | (refine Below.grow ?_ (by first | (simp; done) | (simp; omega)) _ _) | refine Below.drew ?_ | refine Below.drewN ?_ _ | (refine Below.putF ?_ (by first | (simp; done) | omega | (simp; omega)) _) | (refine Below.setCell ?_ (by first | (simp; done) | (simp; omega)) _)))
        have hcv : W.cut? wr.heap.size 0 11 = some (verA v) := by
          rw [hW, World.grow_drew, World.grow_grow, cut_grow _ _ _ _ _ (by simp), cut_alloc_at _ _ _ _ _ rfl]
          simp [go_sem]
        have lvb : wr.heap.size < W.heap.size := by rw [hW]; simp; omega
        have hcW : W.heap[c]? = some (.cells #[sv] 61) := (hbW.block _ hlt).trans HCH.out.1
        have hoW := HCH.out.2.below hbW
        have cc : W.cell? ⟨c, 0, none⟩ = some sv := by simp [World.cell?, hcW]
        have fc : W.frozen? ⟨c, 0, none⟩ = false := by simp [World.frozen?, hcW]
        have lc : c < W.heap.size := (Array.getElem?_eq_some_iff.1 hcW).1
        obtain ⟨a, cap, rfl, hcap, _⟩ := hoW.form
        rw [List.length_map] at *
        have hoc : ∀ g, (Value.slice a vs.length cap).ownBlock = some g → g ≠ c ∧ B ≤ g ∧ g < W.heap.size := by
          intro g hg
          refine ⟨?_, hoW.lt g hg⟩
          rintro rfl
          exact (show Boxed W g 61 _ from hcW).not_row (by decide) hoW.2 hg.symm
        have HOW := Lib.hid (And.intro hoW (And.intro hcW (And.intro hbW hoc)))
        clear hW hcW hoW hbW hoc
        clear hl HW HN
        have HWs : W.heap.size = W.heap.size := rfl
        go_region_law (first
          | (refine step_append (o := ⟨some 37, _, _, _, _, _⟩) (B := B) (xs := vs.map verA) (ys := [verA v]) row_ver rfl (.tmp 34) (.tmp 36) rfl (v := .slice a vs.length cap) rfl ?_ (y := _) rfl ?_ ?_ ?_ ?_ ?_
             · repeat (first | exact HOW.out.1 | refine OwnA.alloc ?_ _ | refine OwnA.drew ?_)
             · refine ⟨_, sl_one (Nat.le_refl _) (by decide) ?_⟩
               exact cut_heap ((heap_al _ _ _).trans (if_pos (by simp; done))) (verA_size _)
             · intro x hx; simp at hx; subst hx; exact one_verA v
             · first | omega | (simp; omega)
             · first | omega | (simp; omega)
             intro v2 w2 ho2 hg2 hl2
             obtain ⟨a2, cap2, rfl, hcap2, _⟩ := ho2.form
             have h0 : w2.heap[c]? = W.heap[c]? := (hg2.block c (by first | (simp; done) | (simp; omega)) (fun e => (HOW.out.2.2.2 c e.symm).1 rfl)).trans (by first | exact Below.heap_alloc W _ _ lc | exact Below.heap_alloc W.drew _ _ lc)
             have c2 : w2.cell? ⟨c, 0, none⟩ = some (.slice a vs.length cap) := (cell_of_heap h0 _).trans cc
             have f2 : w2.frozen? ⟨c, 0, none⟩ = false := (frozen_of_heap h0 _).trans fc
             have hb2 : But (Value.slice a vs.length cap).ownBlock.toList W w2 := But.of_grown hg2 (by first | exact (Below.refl _ _).alloc (Nat.le_refl _) _ | exact ((Below.refl _ _).drew).alloc (Nat.le_refl _) _ | exact ((Below.refl _ _).alloc (Nat.le_refl _) _).drew)
             have HF := Lib.hid (And.intro ho2 (And.intro (h0.trans HOW.out.2.1) (And.intro hb2 hl2)))
             clear ho2 hg2 hl2 h0 hb2))
        all_goals
          go_wp2_with fail
          go_roundw
          case rel =>
            refine .inr ⟨rfl, ?_⟩
            obtain ⟨ho2, h0, hb2, hl2⟩ := HF.out
            have hlen2 : (List.map verA vs ++ [verA v]).length = vs.length + 1 := by simp
            rw [hlen2] at ho2 hl2
            have hnr := (show Boxed w2 c 61 _ from h0).not_row (by decide) ho2.2
            have hset : But (c :: (Value.slice a vs.length cap).ownBlock.toList) w2 (w2.setCell ⟨c, 0, none⟩ (.slice a2 (vs.length + 1) cap2)) := But.setCell' _ List.mem_cons_self _ _
            have hown : OwnA (w2.setCell ⟨c, 0, none⟩ (.slice a2 (vs.length + 1) cap2)) B 11 66 (.slice a2 (vs.length + 1) cap2) ((vs ++ [v]).map verA) := by
              rw [List.map_append, List.map_cons, List.map_nil]
              exact ho2.keep fun g hg _ => Below.heap_setCell _ ⟨c, 0, none⟩ _ _ (fun e => hnr (by rw [hg]; exact congrArg some (show c = g from e.symm)))
            have hfin : But (c :: (Value.slice a vs.length cap).ownBlock.toList) wr (w2.setCell ⟨c, 0, none⟩ (.slice a2 (vs.length + 1) cap2)) := ((But.of_below HOW.out.2.2.1 _).trans (hb2.more fun b hb _ => List.mem_cons_of_mem _ hb)).trans hset
            have hlast : (Value.slice a2 (vs.length + 1) cap2).ownBlock = (Value.slice a vs.length cap).ownBlock ∨ ∃ g, (Value.slice a2 (vs.length + 1) cap2).ownBlock = some g ∧ wr.heap.size ≤ g := by
              rcases hl2 with h | h
              · exact .inl h
              · exact .inr ⟨_, h, by simp; omega⟩
            unfold PutVPost
            rw [List.length_map]
            exact ⟨_, ⟨set_cells h0 0 _, hown⟩, hfin, hlast⟩
          case measure => simp [intOf]
    · have HP := Lib.hid hpost
      clear hpost
      go_wp2_with fail
      exact bodyPost_ret (v := .tuple #[.int .i64 1, .int .i64 0]) (by simp [results, Tryd.results15, go_sem]) rfl ⟨rfl, HP.out⟩
end Go.Proofs.YtjdccgmoldmlmaaDoor

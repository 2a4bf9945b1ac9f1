/- Layer 19's law ViewStates, for every input: a translation has a state just if its name is there, and it is seen; it is its own, but Stale where the revisions are unlike; the Go function returns true, and each argument reads behind the call as it read before. Condition: the tables that the row lists (tied to the program's text by the card); the proof does not use what they hold. -/
import Derived.Test.YtnlhkpinllhboaaGreatDoorQck
import Derived.Test.YtnlhkpinllhboaaGreatDoorQcl
import Derived.Test.YtnlhkpinllhboaaGreatDoorQcq
import Derived.Test.YtnlhkpinllhboaaGreatDoorQcp
import Derived.BigRegion
import Derived.Deep.CutBlock
import Derived.Deep.Cut
import Derived.Handy
import Derived.Test.YtnlhkpinllhboaaGreatDoorCards
import Derived.Test.YtnlhkpinllhboaaGreatDoorTie
import Derived.ProofKit
import Derived.LaidMore
import Derived.Lay
import Derived.OpenShut
import Derived.ShutString
namespace Go.Proofs.YtnlhkpinllhboaaGreatDoor
theorem zvZViewStates {p : Prop} (h : p := by (go_simp; (first | (with_reducible refine hK _ _ ?_) | go_wp2_with fail); exact ⟨_, rfl, rfl, blv, fun h => by cases h⟩)) : p := h
set_option maxRecDepth 100000
open Go.RowKit

theorem stateV_law (o q : Option (UInt8 × Rec)) : (stateV o q).2.2 = ((toldV o).2.2 && (toldV q).2.2 && !(toldV o).1.gone) ∧ ((stateV o q).2.2 = false → (stateV o q).1 = 0 ∧ (stateV o q).2.1 = Rec.zero) ∧ ((stateV o q).2.2 = true → (stateV o q).2.1 = (toldV q).1 ∧ (stateV o q).1 = if (toldV q).1.rev = (toldV o).1.rev then (toldV q).1.state else 5) := by
 cases o with
 | none => exact ⟨rfl, fun _ => ⟨rfl, rfl⟩, fun h => by cases h⟩
 | some x =>
  cases q with
  | none => refine ⟨by simp [stateV, toldV], fun _ => ⟨rfl, rfl⟩, fun h => by cases h⟩
  | some y =>
   obtain ⟨_, x⟩ := x
   obtain ⟨_, y⟩ := y
   simp only [stateV, toldV]
   cases hg : x.gone with
   | true => simp
   | false =>
    by_cases hr : y.rev = x.rev
    ·simp [hr]
    ·simp [hr]

set_option maxHeartbeats 40000000 in
theorem states_walk (x : SomeV) (xs : List (Array Value)) (ls : List (List Wr)) (ow : List Wr) (ns : List N12) (ts : List T10) (w : World) (h : SomeAt w x xs ls ow ns ts) :
  Gives Tryz.prog 4 #[.agg x.arr] w (.bool true) := by
 obtain ⟨rv, ov, pj, br, sn, at_, nv, tv, ms⟩ := x
 obtain ⟨a0, c0, e0, -, -⟩ := h.rows.1.form
 obtain ⟨a1, c1, e1, -, -⟩ := h.own.form
 obtain ⟨a6, c6, e6, -, -⟩ := h.names.form
 obtain ⟨a7, c7, e7, -, -⟩ := h.tags.form
 simp only [List.length_map] at e0 e1 e6 e7
 subst e0 e1 e6 e7
 simp only [SomeV.arr]
 have HA := Lib.hid h
 have HKN := Lib.hid known19_gives
 clear h
 unfold Gives
 go_enter Tryz.func4, Tryz.ntmps4
 go_upto_region 1 with fail
 refine wp_name ?_
 intro W0 hW0
 obtain ⟨xb, hxb⟩ : ∃ xb, xb = w.heap.size := ⟨_, rfl⟩
 have hb0 : Below w.heap.size w W0 := by rw [hW0]; exact blw
 have hx0 : W0.heap[xb]? = some (.cells #[.slice a0 xs.length c0, .slice a1 ow.length c1, .int .i64 pj, .int .i64 br, .bool sn, .int .u64 (at_.toNat : Int), .slice a6 ns.length c6, .slice a7 ts.length c7, .int .i64 ms] 28) := by rw [hW0, hxb]; exact (heap_al _ _ _).trans (if_pos rfl)
 simp only [← hxb]
 have k0 : W0.cell? ⟨xb, 0, none⟩ = some (.slice a0 xs.length c0) := (cells_is hx0 0).1.trans rfl
 have lx0 : xb < W0.heap.size := (Array.getElem?_eq_some_iff.1 hx0).1
 have HLAY := Lib.hid (lay_calls (.slice a0 xs.length c0) xs ls W0 (HA.out.below hb0).rows)
 have H0 := Lib.hid (And.intro hb0 hx0)
 clear hW0 hb0 hx0 hxb
 go_wp2_with fail
 refine HLAY.out.mono ?_
 rintro e W1 ⟨hb1, B, s, rb, pb, ib, n, G, v, R, rfl, hB, hn, hL⟩
 obtain ⟨av, cv, hv, -, -⟩ := hL.doc.sl.form
 have k1 : allOne (roomD v G.last) = true := by rw [hv]; exact one_roomD _ _ _ _
 have hrl1 := hL.room.lt.1
 have HL := Lib.hid (And.intro hL (And.intro hb1 hn))
 clear hv hL hb1 hn HLAY k0
 go_upto_region 4 with fail
 refine wp_name ?_
 intro W2 hW2
 have hb2 : Below W1.heap.size W1 W2 := by rw [hW2]; exact blw
 have hL2 := HL.out.1.up hb2
 have hb02 : Below W0.heap.size W0 W2 := HL.out.2.1.trans (hb2.mono HL.out.2.1.size)
 have r0 : W2.cell? ⟨rb, 0, none⟩ = some (.pointer (some ⟨s, 0, none⟩)) := (cells_is hL2.room.room 0).1.trans rfl
 have hx2 := (hb02.block xb lx0).trans H0.out.2
 have x2 : W2.cell? ⟨xb, 2, none⟩ = some (.int .i64 pj) := (cells_is hx2 2).1.trans rfl
 have x3 : W2.cell? ⟨xb, 3, none⟩ = some (.int .i64 br) := (cells_is hx2 3).1.trans rfl
 have lr2 : rb < W2.heap.size := hL2.room.lt.1
 have lx2 : xb < W2.heap.size := by have := hb02.size; omega
 have hsh : Short G 100000 := fun k => Nat.le_trans (hL2.fine.inv.short k) (by have := HL.out.2.2; omega)
 have HLA := Lib.hid (fun (V : World) (hb : Below W2.heap.size W2 V) => slast_gives (hL2.store.keep hb))
 have hany := viewOf_any hL2.store hsh G.last pj br W2.heap.size (Nat.le_refl _)
 obtain ⟨lt, hlt⟩ : ∃ lt, lt = G.last := ⟨_, rfl⟩
 rw [← hlt] at HLA hany
 have HANY := Lib.hid hany
 have HW2 := Lib.hid (And.intro hL2 (And.intro hb02 (And.intro hx2 (And.intro hsh hlt))))
 clear hW2 hb2 hL2 hb02 hx2 hsh hany hlt k1 hrl1 lx0 HL
 go_cut [6, 7] (fun s6 s7 wx => Hid (Below W2.heap.size W2 wx) ∧ Hid ((∃ er : Int, er ≠ 0 ∧ s7 = .int .i64 er) ∨ (s7 = .int .i64 0 ∧ ∃ (p8 b8 : UInt8) (own : Rec), VwP W2.heap.size s lt p8 (chainV (versG G) lt p8 b8 257 [] (b8, nowT)) own s6 wx)))
 case first =>
  rcases HANY.out with ⟨er, her, hof⟩ | ⟨p8, b8, -, -, -, -, -, hof⟩
  ·have HOF := Lib.hid hof
   have HER := Lib.hid her
   clear hof her HANY HW2 HA HKN H0
   go_wp2_with fail
   apply wp_region_specs (by rfl) [.val _, .val _, .val _, .val _, .val _, .val _, .val _, .val _, .val _, .val _, .val _, .val _, .val _, .val _, .val _, .val _, .val _, .val _, .pure _] 19 (by rfl) [29, 30, 31, 32, 33, 34, 35, 36, 37, 38, 39, 40, 41, 42, 43, 44, 28, 45, 46] [] [18] (by rfl) (by rfl) (by decide) (by decide +kernel) (fun _ _ _ _ _ h => h)
   case hF => intro x; simp only [over, List.foldl_cons, List.foldl_nil, List.setIfInBounds_toArray, List.set_cons_succ, List.set_cons_zero]; exact rfl
   case hops =>
    refine ⟨?o0, ?o1, ?o2, ?o3, ?o4, ?o5, ?o6, ?o7, ?o8, ?o9, ?o10, ?o11, ?o12, ?o13, ?o14, ?o15, ?o16, ?o17, ?o18, trivial⟩
    case o0 =>
     intro x w1 hH K hK
     obtain ⟨xs, d, rfl⟩ := grow_of_below hH.below
     clear hH
     try simp only [World.grow_drew] at hK ⊢
     try simp only [World.grow_grow] at hK ⊢
     exact zvZViewStates
    case o1 =>
     intro x w1 hH K hK
     have e29 : x 29 = _ := hH.g 0 29
     obtain ⟨xs, d, rfl⟩ := grow_of_below hH.below
     clear hH
     try simp only [World.grow_drew] at hK ⊢
     try simp only [World.grow_grow] at hK ⊢
     simp only [e29] at hK ⊢
     clear e29
     exact zvZViewStates
    case o2 =>
     intro x w1 hH K hK
     have e30 : x 30 = _ := hH.g 1 30
     obtain ⟨xs, d, rfl⟩ := grow_of_below hH.below
     clear hH
     try simp only [World.grow_drew] at hK ⊢
     try simp only [World.grow_grow] at hK ⊢
     simp only [e30] at hK ⊢
     clear e30
     exact zvZViewStates
    case o3 =>
     intro x w1 hH K hK
     have e31 : x 31 = _ := hH.g 2 31
     obtain ⟨xs, d, rfl⟩ := grow_of_below hH.below
     clear hH
     try simp only [World.grow_drew] at hK ⊢
     try simp only [World.grow_grow] at hK ⊢
     simp only [e31] at hK ⊢
     clear e31
     exact zvZViewStates
    case o4 =>
     intro x w1 hH K hK
     obtain ⟨xs, d, rfl⟩ := grow_of_below hH.below
     clear hH
     try simp only [World.grow_drew] at hK ⊢
     try simp only [World.grow_grow] at hK ⊢
     exact zvZViewStates
    case o5 =>
     intro x w1 hH K hK
     have e33 : x 33 = _ := hH.g 4 33
     obtain ⟨xs, d, rfl⟩ := grow_of_below hH.below
     clear hH
     try simp only [World.grow_drew] at hK ⊢
     try simp only [World.grow_grow] at hK ⊢
     simp only [e33] at hK ⊢
     clear e33
     exact zvZViewStates
    case o6 =>
     intro x w1 hH K hK
     have e34 : x 34 = _ := hH.g 5 34
     obtain ⟨xs, d, rfl⟩ := grow_of_below hH.below
     clear hH
     try simp only [World.grow_drew] at hK ⊢
     try simp only [World.grow_grow] at hK ⊢
     simp only [e34] at hK ⊢
     clear e34
     exact zvZViewStates
    case o7 =>
     intro x w1 hH K hK
     have e35 : x 35 = _ := hH.g 6 35
     obtain ⟨xs, d, rfl⟩ := grow_of_below hH.below
     clear hH
     try simp only [World.grow_drew] at hK ⊢
     try simp only [World.grow_grow] at hK ⊢
     simp only [e35] at hK ⊢
     clear e35
     exact zvZViewStates
    case o8 =>
     intro x w1 hH K hK
     have e36 : x 36 = _ := hH.g 7 36
     obtain ⟨xs, d, rfl⟩ := grow_of_below hH.below
     clear hH
     try simp only [World.grow_drew] at hK ⊢
     try simp only [World.grow_grow] at hK ⊢
     simp only [e36] at hK ⊢
     clear e36
     go_simp
     go_wp2_with (refine Gives.use (HLA.out _ blw) ?_; intro ys e)
     exact ⟨_, rfl, rfl, blw, fun h => by cases h⟩
    case o9 =>
     intro x w1 hH K hK
     have e32 : x 32 = _ := hH.g 3 32
     have e37 : x 37 = _ := hH.g 8 37
     obtain ⟨xs, d, rfl⟩ := grow_of_below hH.below
     clear hH
     try simp only [World.grow_drew] at hK ⊢
     try simp only [World.grow_grow] at hK ⊢
     simp only [e32, e37] at hK ⊢
     clear e32 e37
     exact zvZViewStates
    case o10 =>
     intro x w1 hH K hK
     have e38 : x 38 = _ := hH.g 9 38
     obtain ⟨xs, d, rfl⟩ := grow_of_below hH.below
     clear hH
     try simp only [World.grow_drew] at hK ⊢
     try simp only [World.grow_grow] at hK ⊢
     simp only [e38] at hK ⊢
     clear e38
     exact zvZViewStates
    case o11 =>
     intro x w1 hH K hK
     obtain ⟨xs, d, rfl⟩ := grow_of_below hH.below
     clear hH
     try simp only [World.grow_drew] at hK ⊢
     try simp only [World.grow_grow] at hK ⊢
     exact zvZViewStates
    case o12 =>
     intro x w1 hH K hK
     have e40 : x 40 = _ := hH.g 11 40
     obtain ⟨xs, d, rfl⟩ := grow_of_below hH.below
     clear hH
     try simp only [World.grow_drew] at hK ⊢
     try simp only [World.grow_grow] at hK ⊢
     simp only [e40] at hK ⊢
     clear e40
     exact zvZViewStates
    case o13 =>
     intro x w1 hH K hK
     obtain ⟨xs, d, rfl⟩ := grow_of_below hH.below
     clear hH
     try simp only [World.grow_drew] at hK ⊢
     try simp only [World.grow_grow] at hK ⊢
     exact zvZViewStates
    case o14 =>
     intro x w1 hH K hK
     have e42 : x 42 = _ := hH.g 13 42
     obtain ⟨xs, d, rfl⟩ := grow_of_below hH.below
     clear hH
     try simp only [World.grow_drew] at hK ⊢
     try simp only [World.grow_grow] at hK ⊢
     simp only [e42] at hK ⊢
     clear e42
     exact zvZViewStates
    case o15 =>
     intro x w1 hH K hK
     have e39 : x 39 = _ := hH.g 10 39
     have e41 : x 41 = _ := hH.g 12 41
     have e43 : x 43 = _ := hH.g 14 43
     obtain ⟨xs, d, rfl⟩ := grow_of_below hH.below
     clear hH
     try simp only [World.grow_drew] at hK ⊢
     try simp only [World.grow_grow] at hK ⊢
     simp only [e39, e41, e43] at hK ⊢
     clear e39 e41 e43
     go_simp
     go_wp2_with (refine Gives.use (HOF.out _ blw) ?_; intro ys e)
     exact ⟨_, rfl, rfl, blw, fun h => by cases h⟩
    case o16 =>
     intro x w1 hH K hK
     have e44 : x 44 = _ := hH.g 15 44
     obtain ⟨xs, d, rfl⟩ := grow_of_below hH.below
     clear hH
     try simp only [World.grow_drew] at hK ⊢
     try simp only [World.grow_grow] at hK ⊢
     simp only [e44] at hK ⊢
     clear e44
     exact zvZViewStates
    case o17 =>
     intro x w1 hH K hK
     have e28 : x 28 = _ := hH.g 16 28
     obtain ⟨xs, d, rfl⟩ := grow_of_below hH.below
     clear hH
     try simp only [World.grow_drew] at hK ⊢
     try simp only [World.grow_grow] at hK ⊢
     simp only [e28] at hK ⊢
     clear e28
     exact zvZViewStates
    case o18 =>
     intro x w1 hH
     have e28 : x 28 = _ := hH.g 16 28
     clear hH
     simp only [e28]
     exact Or.inl ⟨rfl, fun _ => rfl⟩
   case hend =>
    intro x w1 hH
    have e29 : x 29 = _ := hH.t 0 29
    have e30 : x 30 = _ := hH.t 1 30
    have e31 : x 31 = _ := hH.t 2 31
    have e32 : x 32 = _ := hH.t 3 32
    have e33 : x 33 = _ := hH.t 4 33
    have e34 : x 34 = _ := hH.t 5 34
    have e35 : x 35 = _ := hH.t 6 35
    have e36 : x 36 = _ := hH.t 7 36
    have e37 : x 37 = _ := hH.t 8 37
    have e38 : x 38 = _ := hH.t 9 38
    have e39 : x 39 = _ := hH.t 10 39
    have e40 : x 40 = _ := hH.t 11 40
    have e41 : x 41 = _ := hH.t 12 41
    have e42 : x 42 = _ := hH.t 13 42
    have e43 : x 43 = _ := hH.t 14 43
    have e44 : x 44 = _ := hH.t 15 44
    have e28 : x 28 = _ := hH.t 16 28
    have e45 : x 45 = _ := hH.t 17 45
    have e46 : x 46 = _ := hH.t 18 46
    obtain ⟨xs, d, rfl⟩ := grow_of_below hH.below
    clear hH
    simp only [e29, e30, e31, e32, e33, e34, e35, e36, e37, e38, e39, e40, e41, e42, e43, e44, e28, e45, e46]; clear e29 e30 e31 e32 e33 e34 e35 e36 e37 e38 e39 e40 e41 e42 e43 e44 e28 e45 e46
    simp only [List.drop_succ_cons, List.drop_zero]
    go_wp2_with fail
    go_meet
    exact ⟨Lib.hid blw, Lib.hid (.inl ⟨er, HER.out, rfl⟩)⟩
  ·obtain ⟨P, hP⟩ : ∃ P, P = chainV (versG G) lt p8 b8 257 [] (b8, nowT) := ⟨_, rfl⟩
   obtain ⟨own, hown⟩ : ∃ own, own = (atV (versG G (keyK 4 p8 b8)) lt).1 := ⟨_, rfl⟩
   obtain ⟨N2, hN2⟩ : ∃ N2, N2 = W2.heap.size := ⟨_, rfl⟩
   simp only [← hP, ← hown] at hof
   rw [← hN2] at hof
   have HOF := Lib.hid (show ∀ V, Below W2.heap.size W2 V → _ from by rw [← hN2]; exact hof)
   have HPP := Lib.hid (And.intro hP hN2)
   clear hof HANY HW2 HA HKN H0 hP hown hN2
   go_wp2_with fail
   apply wp_region_specs (by rfl) [.val _, .val _, .val _, .val _, .val _, .val _, .val _, .val _, .val _, .val _, .val _, .val _, .val _, .val _, .val _, .rel (VwT N2 s lt p8 P own), .rel (VwT N2 s lt p8 P own), .rel (VwP N2 s lt p8 P own), .pure (.int .i64 0)] 19 (by rfl) [29, 30, 31, 32, 33, 34, 35, 36, 37, 38, 39, 40, 41, 42, 43, 44, 28, 45, 46] [] [18] (by rfl) (by rfl) (by decide) (by decide +kernel) (fun _ _ _ _ _ h => h)
   case hF => intro x; simp only [over, List.foldl_cons, List.foldl_nil, List.setIfInBounds_toArray, List.set_cons_succ, List.set_cons_zero]; exact rfl
   case hops =>
    refine ⟨?o0, ?o1, ?o2, ?o3, ?o4, ?o5, ?o6, ?o7, ?o8, ?o9, ?o10, ?o11, ?o12, ?o13, ?o14, ?o15, ?o16, ?o17, ?o18, trivial⟩
    case o0 =>
     intro x w1 hH K hK
     obtain ⟨xs, d, rfl⟩ := grow_of_below hH.below
     clear hH
     try simp only [World.grow_drew] at hK ⊢
     try simp only [World.grow_grow] at hK ⊢
     exact zvZViewStates
    case o1 =>
     intro x w1 hH K hK
     have e29 : x 29 = _ := hH.g 0 29
     obtain ⟨xs, d, rfl⟩ := grow_of_below hH.below
     clear hH
     try simp only [World.grow_drew] at hK ⊢
     try simp only [World.grow_grow] at hK ⊢
     simp only [e29] at hK ⊢
     clear e29
     exact zvZViewStates
    case o2 =>
     intro x w1 hH K hK
     have e30 : x 30 = _ := hH.g 1 30
     obtain ⟨xs, d, rfl⟩ := grow_of_below hH.below
     clear hH
     try simp only [World.grow_drew] at hK ⊢
     try simp only [World.grow_grow] at hK ⊢
     simp only [e30] at hK ⊢
     clear e30
     exact zvZViewStates
    case o3 =>
     intro x w1 hH K hK
     have e31 : x 31 = _ := hH.g 2 31
     obtain ⟨xs, d, rfl⟩ := grow_of_below hH.below
     clear hH
     try simp only [World.grow_drew] at hK ⊢
     try simp only [World.grow_grow] at hK ⊢
     simp only [e31] at hK ⊢
     clear e31
     exact zvZViewStates
    case o4 =>
     intro x w1 hH K hK
     obtain ⟨xs, d, rfl⟩ := grow_of_below hH.below
     clear hH
     try simp only [World.grow_drew] at hK ⊢
     try simp only [World.grow_grow] at hK ⊢
     exact zvZViewStates
    case o5 =>
     intro x w1 hH K hK
     have e33 : x 33 = _ := hH.g 4 33
     obtain ⟨xs, d, rfl⟩ := grow_of_below hH.below
     clear hH
     try simp only [World.grow_drew] at hK ⊢
     try simp only [World.grow_grow] at hK ⊢
     simp only [e33] at hK ⊢
     clear e33
     exact zvZViewStates
    case o6 =>
     intro x w1 hH K hK
     have e34 : x 34 = _ := hH.g 5 34
     obtain ⟨xs, d, rfl⟩ := grow_of_below hH.below
     clear hH
     try simp only [World.grow_drew] at hK ⊢
     try simp only [World.grow_grow] at hK ⊢
     simp only [e34] at hK ⊢
     clear e34
     exact zvZViewStates
    case o7 =>
     intro x w1 hH K hK
     have e35 : x 35 = _ := hH.g 6 35
     obtain ⟨xs, d, rfl⟩ := grow_of_below hH.below
     clear hH
     try simp only [World.grow_drew] at hK ⊢
     try simp only [World.grow_grow] at hK ⊢
     simp only [e35] at hK ⊢
     clear e35
     exact zvZViewStates
    case o8 =>
     intro x w1 hH K hK
     have e36 : x 36 = _ := hH.g 7 36
     obtain ⟨xs, d, rfl⟩ := grow_of_below hH.below
     clear hH
     try simp only [World.grow_drew] at hK ⊢
     try simp only [World.grow_grow] at hK ⊢
     simp only [e36] at hK ⊢
     clear e36
     go_simp
     go_wp2_with (refine Gives.use (HLA.out _ blw) ?_; intro ys e)
     exact ⟨_, rfl, rfl, blw, fun h => by cases h⟩
    case o9 =>
     intro x w1 hH K hK
     have e32 : x 32 = _ := hH.g 3 32
     have e37 : x 37 = _ := hH.g 8 37
     obtain ⟨xs, d, rfl⟩ := grow_of_below hH.below
     clear hH
     try simp only [World.grow_drew] at hK ⊢
     try simp only [World.grow_grow] at hK ⊢
     simp only [e32, e37] at hK ⊢
     clear e32 e37
     exact zvZViewStates
    case o10 =>
     intro x w1 hH K hK
     have e38 : x 38 = _ := hH.g 9 38
     obtain ⟨xs, d, rfl⟩ := grow_of_below hH.below
     clear hH
     try simp only [World.grow_drew] at hK ⊢
     try simp only [World.grow_grow] at hK ⊢
     simp only [e38] at hK ⊢
     clear e38
     exact zvZViewStates
    case o11 =>
     intro x w1 hH K hK
     obtain ⟨xs, d, rfl⟩ := grow_of_below hH.below
     clear hH
     try simp only [World.grow_drew] at hK ⊢
     try simp only [World.grow_grow] at hK ⊢
     exact zvZViewStates
    case o12 =>
     intro x w1 hH K hK
     have e40 : x 40 = _ := hH.g 11 40
     obtain ⟨xs, d, rfl⟩ := grow_of_below hH.below
     clear hH
     try simp only [World.grow_drew] at hK ⊢
     try simp only [World.grow_grow] at hK ⊢
     simp only [e40] at hK ⊢
     clear e40
     exact zvZViewStates
    case o13 =>
     intro x w1 hH K hK
     obtain ⟨xs, d, rfl⟩ := grow_of_below hH.below
     clear hH
     try simp only [World.grow_drew] at hK ⊢
     try simp only [World.grow_grow] at hK ⊢
     exact zvZViewStates
    case o14 =>
     intro x w1 hH K hK
     have e42 : x 42 = _ := hH.g 13 42
     obtain ⟨xs, d, rfl⟩ := grow_of_below hH.below
     clear hH
     try simp only [World.grow_drew] at hK ⊢
     try simp only [World.grow_grow] at hK ⊢
     simp only [e42] at hK ⊢
     clear e42
     exact zvZViewStates
    case o15 =>
     intro x w1 hH K hK
     have e39 : x 39 = _ := hH.g 10 39
     have e41 : x 41 = _ := hH.g 12 41
     have e43 : x 43 = _ := hH.g 14 43
     obtain ⟨xs, d, rfl⟩ := grow_of_below hH.below
     clear hH
     try simp only [World.grow_drew] at hK ⊢
     try simp only [World.grow_grow] at hK ⊢
     simp only [e39, e41, e43] at hK ⊢
     clear e39 e41 e43
     go_simp
     go_wp2_with fail
     refine (HOF.out _ blw).mono ?_
     rintro r w3 ⟨hb3, u, rfl, hs3⟩
     go_wp2_with fail
     exact ⟨_, rfl, fun w4 h4 => VwT.keep hs3 h4, hb3, fun h => by cases h⟩
    case o16 =>
     intro x w1 hH K hK
     have r44 := hH.holds 15 (by decide) (by decide +kernel) 44 rfl (_) (Below.refl _ _)
     obtain ⟨xs, d, rfl⟩ := grow_of_below hH.below
     clear hH
     try simp only [World.grow_drew] at hK r44 ⊢
     try simp only [World.grow_grow] at hK r44 ⊢
     obtain ⟨vb, lv, e44, hs3⟩ := r44
     simp only [e44] at hK ⊢
     go_simp
     go_wp2_with fail
     exact ⟨_, rfl, fun w4 h4 => VwT.keep ⟨vb, lv, rfl, hs3⟩ h4, Below.refl _ _, fun h => by cases h⟩
    case o17 =>
     intro x w1 hH K hK
     have r28 := hH.holds 16 (by decide) (by decide +kernel) 28 rfl (_) (Below.refl _ _)
     obtain ⟨xs, d, rfl⟩ := grow_of_below hH.below
     clear hH
     try simp only [World.grow_drew] at hK r28 ⊢
     try simp only [World.grow_grow] at hK r28 ⊢
     obtain ⟨vb, lv, e28, hs3⟩ := r28
     simp only [e28] at hK ⊢
     go_simp
     go_wp2_with fail
     exact ⟨_, rfl, fun w4 h4 => VwP.keep ⟨vb, lv, rfl, hs3⟩ h4, Below.refl _ _, fun h => by cases h⟩
    case o18 =>
     intro x w1 hH
     have r28 := hH.holds 16 (by decide) (by decide +kernel) 28 rfl (_) (Below.refl _ _)
     clear hH
     refine Or.inl ⟨rfl, fun w' => ?_⟩
     obtain ⟨vb, lv, e28, -⟩ := r28
     simp only [e28]
     go_simp
   case hend =>
    intro x w1 hH
    have e29 : x 29 = _ := hH.t 0 29
    have e30 : x 30 = _ := hH.t 1 30
    have e31 : x 31 = _ := hH.t 2 31
    have e32 : x 32 = _ := hH.t 3 32
    have e33 : x 33 = _ := hH.t 4 33
    have e34 : x 34 = _ := hH.t 5 34
    have e35 : x 35 = _ := hH.t 6 35
    have e36 : x 36 = _ := hH.t 7 36
    have e37 : x 37 = _ := hH.t 8 37
    have e38 : x 38 = _ := hH.t 9 38
    have e39 : x 39 = _ := hH.t 10 39
    have e40 : x 40 = _ := hH.t 11 40
    have e41 : x 41 = _ := hH.t 12 41
    have e42 : x 42 = _ := hH.t 13 42
    have e43 : x 43 = _ := hH.t 14 43
    have r44 := hH.holds 15 (by decide) trivial 44 rfl (_) (Below.refl _ _)
    have r28 := hH.holds 16 (by decide) trivial 28 rfl (_) (Below.refl _ _)
    have r45 := hH.holds 17 (by decide) trivial 45 rfl (_) (Below.refl _ _)
    have e46 : x 46 = _ := hH.t 18 46
    obtain ⟨xs, d, rfl⟩ := grow_of_below hH.below
    clear hH
    simp only [e29, e30, e31, e32, e33, e34, e35, e36, e37, e38, e39, e40, e41, e42, e43, e46]; clear e29 e30 e31 e32 e33 e34 e35 e36 e37 e38 e39 e40 e41 e42 e43 e46
    simp only [List.drop_succ_cons, List.drop_zero]
    go_wp2_with fail
    go_meet
    exact ⟨Lib.hid blw, Lib.hid (.inr ⟨rfl, p8, b8, own, by rw [← HPP.out.1, ← HPP.out.2]; exact r45⟩)⟩
 case rest =>
  obtain ⟨HB3, HC⟩ := hcut
  generalize wc = X at *
  have hbx : Below w.heap.size w X := (H0.out.1.trans (HW2.out.2.1.mono H0.out.1.size)).trans (HB3.out.mono (by have := H0.out.1.size; have := HW2.out.2.1.size; omega))
  have HBX := Lib.hid hbx
  clear hbx
  rcases HC.out with ⟨er, her, rfl⟩ | ⟨rfl, p8, b8, own, vb, lv, rfl, hvb, hlv, hva⟩
  ·have hne : (er != 0) = true := by simp [her]
   clear HC her
   go_wp2_with fail
   refine Gives.use (HKN.out _) ?_
   intro ys d
   go_wp2_with fail
   go_ret
   exact ⟨rfl, HBX.out.trans ((below_of_grow ys d).mono HBX.out.size)⟩
  ·obtain ⟨P, hP⟩ : ∃ P, P = chainV (versG G) lt p8 b8 257 [] (b8, nowT) := ⟨_, rfl⟩
   rw [← hP] at hva
   have hP1 : P.length ≤ 1000 := by rw [hP]; exact Nat.le_trans (chainV_len _ _ _ _ _ _ _) (by decide)
   have hPf : P = [] ∨ ∃ u q, P = (b8, u) :: q := by rw [hP]; exact chainV_head _ _ _ _ _ _ _
   have hSX := HW2.out.1.store.keep HB3.out
   have hxX := (HB3.out.block xb lx2).trans HW2.out.2.2.1
   have hshX := HW2.out.2.2.2.1
   have hnA := (HA.out.names.below HBX.out).more HBX.out.size
   have htA := (HA.out.tags.below HBX.out).more HBX.out.size
   have HTOLD := Lib.hid (show ∀ (nm : N12) (tg : T10), ∃ o q, (∀ V, Below X.heap.size X V → Gives Tryz.prog 16 #[.pointer (some ⟨vb, 0, none⟩), .agg (rowN nm)] V (toldT o)) ∧
     (∀ V, Below X.heap.size X V → Gives Tryz.prog 17 #[.pointer (some ⟨vb, 0, none⟩), .agg (rowN nm), .agg (rowT tg)] V (toldT q)) ∧
     (∀ V, Below X.heap.size X V → Gives Tryz.prog 18 #[.pointer (some ⟨vb, 0, none⟩), .agg (rowN nm), .agg (rowT tg)] V (stateT o q)) from fun nm tg =>
    ⟨_, _, fun V hb => source_gives (hSX.keep hb) hshX (hva.up hb) hP1 hPf nm.1 nm.2, fun V hb => trans_gives (hSX.keep hb) hshX (hva.up hb) hP1 hPf nm.1 tg.1 nm.2 tg.2, fun V hb => state_gives (hSX.keep hb) hshX (hva.up hb) hP1 hPf nm.1 tg.1 nm.2 tg.2⟩)
   have HN := Lib.hid (And.intro hnA htA)
   have HX := Lib.hid hxX
   clear hP hP1 hPf hSX hxX hshX hnA htA hva hvb hlv HC HW2 HA H0 HLA HANY r0 x2 x3 lr2 lx2
   go_wp2_with fail
   go_loopw [8] (fun s8 wr => ∃ i : Nat, i ≤ ns.length ∧ i ≤ 6 ∧ s8 = .int .i64 i ∧ Hid (Below X.heap.size X wr)) (fun s8 _ => 6 - (intOf s8).toNat)
   case atStart => exact ⟨0, Nat.zero_le _, Nat.zero_le _, rfl, Lib.hid blw⟩
   case round =>
    obtain ⟨i, hi, hi6, rfl, HR⟩ := hrel
    have x6 : wr.cell? ⟨xb, 6, none⟩ = some (.slice a6 ns.length c6) := (cells_is ((HR.out.block xb (lt_of_heap HX.out)).trans HX.out) 6).1.trans rfl
    by_cases hli : i < ns.length
    ·have hliI : (i : Int) < ns.length := by omega
     by_cases h6 : i < 6
     ·have h6I : (i : Int) < 6 := by omega
      go_wp2_with fail
      go_loopw [9] (fun s9 wq => ∃ j : Nat, j ≤ ts.length ∧ j ≤ 4 ∧ s9 = .int .i64 j ∧ Hid (Below X.heap.size X wq)) (fun s9 _ => 4 - (intOf s9).toNat)
      case atStart => exact ⟨0, Nat.zero_le _, Nat.zero_le _, rfl, HR⟩
      case round =>
       obtain ⟨j, hj, hj4, rfl, HQ⟩ := hrel
       clear x6
       have x6 : wr.cell? ⟨xb, 6, none⟩ = some (.slice a6 ns.length c6) := (cells_is ((HQ.out.block xb (lt_of_heap HX.out)).trans HX.out) 6).1.trans rfl
       have x7 : wr.cell? ⟨xb, 7, none⟩ = some (.slice a7 ts.length c7) := (cells_is ((HQ.out.block xb (lt_of_heap HX.out)).trans HX.out) 7).1.trans rfl
       have lxq : xb < wr.heap.size := by have := lt_of_heap HX.out; have := HQ.out.size; omega
       by_cases hlj : j < ts.length
       ·have hljI : (j : Int) < ts.length := by omega
        by_cases h4 : j < 4
        ·have h4I : (j : Int) < 4 := by omega
         obtain ⟨-, _, _, he, -, -, hcA⟩ := (HN.out.1.below HQ.out)
         simp only [Value.slice.injEq, List.length_map, true_and] at he
         obtain ⟨rfl, rfl⟩ := he
         obtain ⟨g6, q6, rfl, hlb6, hcut6⟩ := hcA (by simp; omega)
         have hc6 := hcut6 i (rowN ns[i]) (by simp [hli])
         clear hcut6
         obtain ⟨-, _, _, he, -, -, hcB⟩ := (HN.out.2.below HQ.out)
         simp only [Value.slice.injEq, List.length_map, true_and] at he
         obtain ⟨rfl, rfl⟩ := he
         obtain ⟨g7, q7, rfl, hlb7, hcut7⟩ := hcB (by simp; omega)
         have hc7 := hcut7 j (rowT ts[j]) (by simp [hlj])
         clear hcut7
         obtain ⟨nm, hnm⟩ : ∃ nm, nm = ns[i].1 := ⟨_, rfl⟩
         obtain ⟨tg, htg⟩ : ∃ tg, tg = ts[j].1 := ⟨_, rfl⟩
         have hn12 : nm.length = 12 := by rw [hnm]; exact ns[i].2
         have ht10 : tg.length = 10 := by rw [htg]; exact ts[j].2
         unfold rowN at hc6
         unfold rowT at hc7
         rw [← hnm] at hc6
         rw [← htg] at hc7
         have hsz := HQ.out.size
         have lg6 : g6 < wr.heap.size := by omega
         have lg7 : g7 < wr.heap.size := by omega
         obtain ⟨o, q, ho, hq, hs⟩ := HTOLD.out ⟨nm, hn12⟩ ⟨tg, ht10⟩
         simp only [rowN, rowT] at ho hq hs
         have hlaw := stateV_law o q
         unfold toldT at ho hq
         unfold stateT at hs
         generalize (toldV o).1 = r1 at *
         generalize (toldV o).2.1 = n1 at *
         generalize (toldV o).2.2 = f1 at *
         generalize (toldV q).1 = r2 at *
         generalize (toldV q).2.1 = n2 at *
         generalize (toldV q).2.2 = f2 at *
         generalize (stateV o q).1 = n3 at *
         generalize (stateV o q).2.1 = r3 at *
         generalize (stateV o q).2.2 = f3 at *
         have HO := Lib.hid (fun V (hb : Below wr.heap.size wr V) => ho V (HQ.out.trans (hb.mono hsz)))
         have HQ2 := Lib.hid (fun V (hb : Below wr.heap.size wr V) => hq V (HQ.out.trans (hb.mono hsz)))
         have HS := Lib.hid (fun V (hb : Below wr.heap.size wr V) => hs V (HQ.out.trans (hb.mono hsz)))
         have HLW := Lib.hid hlaw
         clear ho hq hs hlaw hcA hcB hlb6 hlb7 HTOLD HN hnm htg
         have hnl : (row8 nm).size = 12 := by simp [hn12]
         have htl : (row8 tg).size = 10 := by simp [ht10]
         go_wp2_with fail
         refine Gives.use (HO.out _ blw) ?_
         intro xs1 d1
         go_upto_region 14 with fail
         refine wp_name ?_
         intro V1 hV1
         obtain ⟨b10, hb10⟩ : ∃ b, b = wr.heap.size + xs1.size := ⟨_, rfl⟩
         have hr10 : V1.heap[b10]? = some (.cells (recA r1) 72) := by rw [hV1, hb10]; exact (heap_al _ _ _).trans (if_pos (by simp))
         simp only [← hb10]
         have hbV1 : Below wr.heap.size wr V1 := by rw [hV1]; exact blw
         have hx1 := (hbV1.block xb lxq).trans ((HQ.out.block xb (lt_of_heap HX.out)).trans HX.out)
         have y6 : V1.cell? ⟨xb, 6, none⟩ = some (.slice (some ⟨g6, q6, none⟩) ns.length c6) := (cells_is hx1 6).1.trans rfl
         have y7 : V1.cell? ⟨xb, 7, none⟩ = some (.slice (some ⟨g7, q7, none⟩) ts.length c7) := (cells_is hx1 7).1.trans rfl
         have hd6 := (cut_of_heap (hbV1.block g6 lg6) _ _).trans hc6
         have hd7 := (cut_of_heap (hbV1.block g7 lg7) _ _).trans hc7
         have hV1s := hbV1.size
         have lx1 : xb < V1.heap.size := by omega
         have lh6 : g6 < V1.heap.size := by omega
         have lh7 : g7 < V1.heap.size := by omega
         have lh10 : b10 < V1.heap.size := lt_of_heap hr10
         have HT := Lib.hid (fun V (hb : Below V1.heap.size V1 V) => HQ2.out V (hbV1.trans (hb.mono hV1s)))
         have HS1 := Lib.hid (fun V (hb : Below V1.heap.size V1 V) => HS.out V (hbV1.trans (hb.mono hV1s)))
         have HBV := Lib.hid (HQ.out.trans (hbV1.mono HQ.out.size))
         have HX1 := Lib.hid (And.intro hx1 hr10)
         clear x6 x7 hc6 hc7 lxq lg6 lg7 hV1 hx1 hbV1 hsz HKN hb10 hr10 HO HQ2 HS HX HR HQ
         go_cut [13, 14, 15] (fun s13 _ s15 wx => ∃ b13 : Nat, s13 = .pointer (some ⟨b13, 0, none⟩) ∧ s15 = .bool f2 ∧ Hid (Below V1.heap.size V1 wx) ∧ Hid (wx.heap[b13]? = some (.cells (recA r2) 72)))
         case first =>
          clear HLW HS1 HBV HX1 hli h6 h6I hlj h4 h4I hi hi6 hj hj4 hn12 ht10 hV1s
          go_wp2_with fail
          apply wp_region_specs (by rfl) [.val _, .val _, .val _, .val _, .val _, .val _, .val _, .val _, .val _, .val _, .val _, .val _, .val _, .val _, .pure _, .pure _, .new _] 17 (by rfl) [84, 85, 86, 87, 88, 89, 90, 91, 92, 93, 94, 95, 83, 96, 97, 98, 13] [16] [14, 15] (by rfl) (by rfl) (by decide) (by decide +kernel) (fun _ _ _ _ _ h => h)
          case hF => intro x; simp only [over, List.foldl_cons, List.foldl_nil, List.setIfInBounds_toArray, List.set_cons_succ, List.set_cons_zero]; exact rfl
          case hops =>
           refine ⟨?o0, ?o1, ?o2, ?o3, ?o4, ?o5, ?o6, ?o7, ?o8, ?o9, ?o10, ?o11, ?o12, ?o13, ?o14, ?o15, ?o16, trivial⟩
           case o0 =>
            intro x w1 hH K hK
            obtain ⟨xs, d, rfl⟩ := grow_of_below hH.below
            clear hH
            try simp only [World.grow_drew] at hK ⊢
            try simp only [World.grow_grow] at hK ⊢
            exact zvZViewStates
           case o1 =>
            intro x w1 hH K hK
            obtain ⟨xs, d, rfl⟩ := grow_of_below hH.below
            clear hH
            try simp only [World.grow_drew] at hK ⊢
            try simp only [World.grow_grow] at hK ⊢
            exact zvZViewStates
           case o2 =>
            intro x w1 hH K hK
            have e85 : x 85 = _ := hH.g 1 85
            obtain ⟨xs, d, rfl⟩ := grow_of_below hH.below
            clear hH
            try simp only [World.grow_drew] at hK ⊢
            try simp only [World.grow_grow] at hK ⊢
            simp only [e85] at hK ⊢
            clear e85
            exact zvZViewStates
           case o3 =>
            intro x w1 hH K hK
            obtain ⟨xs, d, rfl⟩ := grow_of_below hH.below
            clear hH
            try simp only [World.grow_drew] at hK ⊢
            try simp only [World.grow_grow] at hK ⊢
            exact zvZViewStates
           case o4 =>
            intro x w1 hH K hK
            have e86 : x 86 = _ := hH.g 2 86
            have e87 : x 87 = _ := hH.g 3 87
            obtain ⟨xs, d, rfl⟩ := grow_of_below hH.below
            clear hH
            try simp only [World.grow_drew] at hK ⊢
            try simp only [World.grow_grow] at hK ⊢
            simp only [e86, e87] at hK ⊢
            clear e86 e87
            exact zvZViewStates
           case o5 =>
            intro x w1 hH K hK
            have e88 : x 88 = _ := hH.g 4 88
            obtain ⟨xs, d, rfl⟩ := grow_of_below hH.below
            clear hH
            try simp only [World.grow_drew] at hK ⊢
            try simp only [World.grow_grow] at hK ⊢
            simp only [e88] at hK ⊢
            clear e88
            exact zvZViewStates
           case o6 =>
            intro x w1 hH K hK
            obtain ⟨xs, d, rfl⟩ := grow_of_below hH.below
            clear hH
            try simp only [World.grow_drew] at hK ⊢
            try simp only [World.grow_grow] at hK ⊢
            exact zvZViewStates
           case o7 =>
            intro x w1 hH K hK
            have e90 : x 90 = _ := hH.g 6 90
            obtain ⟨xs, d, rfl⟩ := grow_of_below hH.below
            clear hH
            try simp only [World.grow_drew] at hK ⊢
            try simp only [World.grow_grow] at hK ⊢
            simp only [e90] at hK ⊢
            clear e90
            exact zvZViewStates
           case o8 =>
            intro x w1 hH K hK
            obtain ⟨xs, d, rfl⟩ := grow_of_below hH.below
            clear hH
            try simp only [World.grow_drew] at hK ⊢
            try simp only [World.grow_grow] at hK ⊢
            exact zvZViewStates
           case o9 =>
            intro x w1 hH K hK
            have e91 : x 91 = _ := hH.g 7 91
            have e92 : x 92 = _ := hH.g 8 92
            obtain ⟨xs, d, rfl⟩ := grow_of_below hH.below
            clear hH
            try simp only [World.grow_drew] at hK ⊢
            try simp only [World.grow_grow] at hK ⊢
            simp only [e91, e92] at hK ⊢
            clear e91 e92
            exact zvZViewStates
           case o10 =>
            intro x w1 hH K hK
            have e93 : x 93 = _ := hH.g 9 93
            obtain ⟨xs, d, rfl⟩ := grow_of_below hH.below
            clear hH
            try simp only [World.grow_drew] at hK ⊢
            try simp only [World.grow_grow] at hK ⊢
            simp only [e93] at hK ⊢
            clear e93
            exact zvZViewStates
           case o11 =>
            intro x w1 hH K hK
            have e84 : x 84 = _ := hH.g 0 84
            have e89 : x 89 = _ := hH.g 5 89
            have e94 : x 94 = _ := hH.g 10 94
            obtain ⟨xs, d, rfl⟩ := grow_of_below hH.below
            clear hH
            try simp only [World.grow_drew] at hK ⊢
            try simp only [World.grow_grow] at hK ⊢
            simp only [e84, e89, e94] at hK ⊢
            clear e84 e89 e94
            go_simp
            refine Gives.use (HT.out _ blw) ?_
            intro ys e
            go_wp2_with fail
            exact ⟨_, rfl, rfl, blw, fun h => by cases h⟩
           case o12 =>
            intro x w1 hH K hK
            have e95 : x 95 = _ := hH.g 11 95
            obtain ⟨xs, d, rfl⟩ := grow_of_below hH.below
            clear hH
            try simp only [World.grow_drew] at hK ⊢
            try simp only [World.grow_grow] at hK ⊢
            simp only [e95] at hK ⊢
            clear e95
            exact zvZViewStates
           case o13 =>
            intro x w1 hH K hK
            have e83 : x 83 = _ := hH.g 12 83
            obtain ⟨xs, d, rfl⟩ := grow_of_below hH.below
            clear hH
            try simp only [World.grow_drew] at hK ⊢
            try simp only [World.grow_grow] at hK ⊢
            simp only [e83] at hK ⊢
            clear e83
            exact zvZViewStates
           case o14 =>
            intro x w1 hH
            have e83 : x 83 = _ := hH.g 12 83
            clear hH
            simp only [e83]
            exact Or.inl ⟨rfl, fun _ => rfl⟩
           case o15 =>
            intro x w1 hH
            have e83 : x 83 = _ := hH.g 12 83
            clear hH
            simp only [e83]
            exact Or.inl ⟨rfl, fun _ => rfl⟩
           case o16 =>
            intro x w1 hH K hK
            obtain ⟨xs, d, rfl⟩ := grow_of_below hH.below
            clear hH
            try simp only [World.grow_drew] at hK ⊢
            try simp only [World.grow_grow] at hK ⊢
            go_simp
            go_wp2_with fail
            exact left_new rfl (by simp) (by first | (simp; done) | (simp; omega))
          case hend =>
           intro x w1 hH
           have e84 : x 84 = _ := hH.t 0 84
           have e85 : x 85 = _ := hH.t 1 85
           have e86 : x 86 = _ := hH.t 2 86
           have e87 : x 87 = _ := hH.t 3 87
           have e88 : x 88 = _ := hH.t 4 88
           have e89 : x 89 = _ := hH.t 5 89
           have e90 : x 90 = _ := hH.t 6 90
           have e91 : x 91 = _ := hH.t 7 91
           have e92 : x 92 = _ := hH.t 8 92
           have e93 : x 93 = _ := hH.t 9 93
           have e94 : x 94 = _ := hH.t 10 94
           have e95 : x 95 = _ := hH.t 11 95
           have e83 : x 83 = _ := hH.t 12 83
           have e96 : x 96 = _ := hH.t 13 96
           have e97 : x 97 = _ := hH.t 14 97
           have e98 : x 98 = _ := hH.t 15 98
           obtain ⟨b13, e13, l13, u13, o13⟩ := hH.t 16 13
           obtain ⟨xs, d, rfl⟩ := grow_of_below hH.below
           clear hH
           simp only [e84, e85, e86, e87, e88, e89, e90, e91, e92, e93, e94, e95, e83, e96, e97, e98, e13]; clear e84 e85 e86 e87 e88 e89 e90 e91 e92 e93 e94 e95 e83 e96 e97 e98 e13
           refine new_known1 o13 l13 u13 ?_
           clear o13
           simp [go_sem] at l13 u13
           simp only [List.drop_succ_cons, List.drop_zero]
           go_wp2_with fail
           go_meet
           exact ⟨_, rfl, rfl, Lib.hid blw, Lib.hid (World.putF_heap_eq _ (by first | assumption | (simp; omega)))⟩
         case rest =>
          obtain ⟨b13, rfl, rfl, hb2, hr13⟩ := hcut
          generalize wc = V2 at *
          have hV2s := hb2.out.size
          have z6 := (hb2.out.cell (p := ⟨xb, 6, none⟩) lx1).trans y6
          have z7 := (hb2.out.cell (p := ⟨xb, 7, none⟩) lx1).trans y7
          have he6 := (cut_of_heap (hb2.out.block g6 lh6) _ _).trans hd6
          have he7 := (cut_of_heap (hb2.out.block g7 lh7) _ _).trans hd7
          have lx2 : xb < V2.heap.size := by omega
          have li6 : g6 < V2.heap.size := by omega
          have li7 : g7 < V2.heap.size := by omega
          have HS2 := Lib.hid (fun V (hb : Below V2.heap.size V2 V) => HS1.out V (hb2.out.trans (hb.mono hV2s)))
          have HBV2 := Lib.hid (HBV.out.trans (hb2.out.mono HBV.out.size))
          have HX2 := Lib.hid (And.intro ((hb2.out.block b10 lh10).trans HX1.out.2) hr13.out)
          clear y6 y7 hd6 hd7 lx1 lh6 lh7 lh10 hV1s hV2s hb2 hr13 HX1 HS1 HBV HT
          go_upto_region 15 with fail
          go_cut [16, 17, 18] (fun s16 s17 s18 wx => ∃ b17 : Nat, s16 = .int .i64 (n3.toNat : Int) ∧ s17 = .pointer (some ⟨b17, 0, none⟩) ∧ s18 = .bool f3 ∧ Hid (Below V2.heap.size V2 wx) ∧ Hid (wx.heap[b17]? = some (.cells (recA r3) 72)))
          case first =>
           clear HLW HBV2 HX2 hli h6 h6I hlj h4 h4I hi hi6 hj hj4 hn12 ht10
           go_wp2_with fail
           apply wp_region_specs (by rfl) [.val _, .val _, .val _, .val _, .val _, .val _, .val _, .val _, .val _, .val _, .val _, .val _, .val _, .val _, .pure _, .pure _, .new _] 17 (by rfl) [100, 101, 102, 103, 104, 105, 106, 107, 108, 109, 110, 111, 99, 112, 113, 114, 17] [16] [14, 15] (by rfl) (by rfl) (by decide) (by decide +kernel) (fun _ _ _ _ _ h => h)
           case hF => intro x; simp only [over, List.foldl_cons, List.foldl_nil, List.setIfInBounds_toArray, List.set_cons_succ, List.set_cons_zero]; exact rfl
           case hops =>
            refine ⟨?o0, ?o1, ?o2, ?o3, ?o4, ?o5, ?o6, ?o7, ?o8, ?o9, ?o10, ?o11, ?o12, ?o13, ?o14, ?o15, ?o16, trivial⟩
            case o0 =>
             intro x w1 hH K hK
             obtain ⟨xs, d, rfl⟩ := grow_of_below hH.below
             clear hH
             try simp only [World.grow_drew] at hK ⊢
             try simp only [World.grow_grow] at hK ⊢
             exact zvZViewStates
            case o1 =>
             intro x w1 hH K hK
             obtain ⟨xs, d, rfl⟩ := grow_of_below hH.below
             clear hH
             try simp only [World.grow_drew] at hK ⊢
             try simp only [World.grow_grow] at hK ⊢
             exact zvZViewStates
            case o2 =>
             intro x w1 hH K hK
             have e101 : x 101 = _ := hH.g 1 101
             obtain ⟨xs, d, rfl⟩ := grow_of_below hH.below
             clear hH
             try simp only [World.grow_drew] at hK ⊢
             try simp only [World.grow_grow] at hK ⊢
             simp only [e101] at hK ⊢
             clear e101
             exact zvZViewStates
            case o3 =>
             intro x w1 hH K hK
             obtain ⟨xs, d, rfl⟩ := grow_of_below hH.below
             clear hH
             try simp only [World.grow_drew] at hK ⊢
             try simp only [World.grow_grow] at hK ⊢
             exact zvZViewStates
            case o4 =>
             intro x w1 hH K hK
             have e102 : x 102 = _ := hH.g 2 102
             have e103 : x 103 = _ := hH.g 3 103
             obtain ⟨xs, d, rfl⟩ := grow_of_below hH.below
             clear hH
             try simp only [World.grow_drew] at hK ⊢
             try simp only [World.grow_grow] at hK ⊢
             simp only [e102, e103] at hK ⊢
             clear e102 e103
             exact zvZViewStates
            case o5 =>
             intro x w1 hH K hK
             have e104 : x 104 = _ := hH.g 4 104
             obtain ⟨xs, d, rfl⟩ := grow_of_below hH.below
             clear hH
             try simp only [World.grow_drew] at hK ⊢
             try simp only [World.grow_grow] at hK ⊢
             simp only [e104] at hK ⊢
             clear e104
             exact zvZViewStates
            case o6 =>
             intro x w1 hH K hK
             obtain ⟨xs, d, rfl⟩ := grow_of_below hH.below
             clear hH
             try simp only [World.grow_drew] at hK ⊢
             try simp only [World.grow_grow] at hK ⊢
             exact zvZViewStates
            case o7 =>
             intro x w1 hH K hK
             have e106 : x 106 = _ := hH.g 6 106
             obtain ⟨xs, d, rfl⟩ := grow_of_below hH.below
             clear hH
             try simp only [World.grow_drew] at hK ⊢
             try simp only [World.grow_grow] at hK ⊢
             simp only [e106] at hK ⊢
             clear e106
             exact zvZViewStates
            case o8 =>
             intro x w1 hH K hK
             obtain ⟨xs, d, rfl⟩ := grow_of_below hH.below
             clear hH
             try simp only [World.grow_drew] at hK ⊢
             try simp only [World.grow_grow] at hK ⊢
             exact zvZViewStates
            case o9 =>
             intro x w1 hH K hK
             have e107 : x 107 = _ := hH.g 7 107
             have e108 : x 108 = _ := hH.g 8 108
             obtain ⟨xs, d, rfl⟩ := grow_of_below hH.below
             clear hH
             try simp only [World.grow_drew] at hK ⊢
             try simp only [World.grow_grow] at hK ⊢
             simp only [e107, e108] at hK ⊢
             clear e107 e108
             exact zvZViewStates
            case o10 =>
             intro x w1 hH K hK
             have e109 : x 109 = _ := hH.g 9 109
             obtain ⟨xs, d, rfl⟩ := grow_of_below hH.below
             clear hH
             try simp only [World.grow_drew] at hK ⊢
             try simp only [World.grow_grow] at hK ⊢
             simp only [e109] at hK ⊢
             clear e109
             exact zvZViewStates
            case o11 =>
             intro x w1 hH K hK
             have e100 : x 100 = _ := hH.g 0 100
             have e105 : x 105 = _ := hH.g 5 105
             have e110 : x 110 = _ := hH.g 10 110
             obtain ⟨xs, d, rfl⟩ := grow_of_below hH.below
             clear hH
             try simp only [World.grow_drew] at hK ⊢
             try simp only [World.grow_grow] at hK ⊢
             simp only [e100, e105, e110] at hK ⊢
             clear e100 e105 e110
             go_simp
             refine Gives.use (HS2.out _ blw) ?_
             intro ys e
             go_wp2_with fail
             exact ⟨_, rfl, rfl, blw, fun h => by cases h⟩
            case o12 =>
             intro x w1 hH K hK
             have e111 : x 111 = _ := hH.g 11 111
             obtain ⟨xs, d, rfl⟩ := grow_of_below hH.below
             clear hH
             try simp only [World.grow_drew] at hK ⊢
             try simp only [World.grow_grow] at hK ⊢
             simp only [e111] at hK ⊢
             clear e111
             exact zvZViewStates
            case o13 =>
             intro x w1 hH K hK
             have e99 : x 99 = _ := hH.g 12 99
             obtain ⟨xs, d, rfl⟩ := grow_of_below hH.below
             clear hH
             try simp only [World.grow_drew] at hK ⊢
             try simp only [World.grow_grow] at hK ⊢
             simp only [e99] at hK ⊢
             clear e99
             exact zvZViewStates
            case o14 =>
             intro x w1 hH
             have e99 : x 99 = _ := hH.g 12 99
             clear hH
             simp only [e99]
             exact Or.inl ⟨rfl, fun _ => rfl⟩
            case o15 =>
             intro x w1 hH
             have e99 : x 99 = _ := hH.g 12 99
             clear hH
             simp only [e99]
             exact Or.inl ⟨rfl, fun _ => rfl⟩
            case o16 =>
             intro x w1 hH K hK
             obtain ⟨xs, d, rfl⟩ := grow_of_below hH.below
             clear hH
             try simp only [World.grow_drew] at hK ⊢
             try simp only [World.grow_grow] at hK ⊢
             go_simp
             go_wp2_with fail
             exact left_new rfl (by simp) (by first | (simp; done) | (simp; omega))
           case hend =>
            intro x w1 hH
            have e100 : x 100 = _ := hH.t 0 100
            have e101 : x 101 = _ := hH.t 1 101
            have e102 : x 102 = _ := hH.t 2 102
            have e103 : x 103 = _ := hH.t 3 103
            have e104 : x 104 = _ := hH.t 4 104
            have e105 : x 105 = _ := hH.t 5 105
            have e106 : x 106 = _ := hH.t 6 106
            have e107 : x 107 = _ := hH.t 7 107
            have e108 : x 108 = _ := hH.t 8 108
            have e109 : x 109 = _ := hH.t 9 109
            have e110 : x 110 = _ := hH.t 10 110
            have e111 : x 111 = _ := hH.t 11 111
            have e99 : x 99 = _ := hH.t 12 99
            have e112 : x 112 = _ := hH.t 13 112
            have e113 : x 113 = _ := hH.t 14 113
            have e114 : x 114 = _ := hH.t 15 114
            obtain ⟨b17, e17, l17, u17, o17⟩ := hH.t 16 17
            obtain ⟨xs, d, rfl⟩ := grow_of_below hH.below
            clear hH
            simp only [e100, e101, e102, e103, e104, e105, e106, e107, e108, e109, e110, e111, e99, e112, e113, e114, e17]; clear e100 e101 e102 e103 e104 e105 e106 e107 e108 e109 e110 e111 e99 e112 e113 e114 e17
            refine new_known1 o17 l17 u17 ?_
            clear o17
            simp [go_sem] at l17 u17
            simp only [List.drop_succ_cons, List.drop_zero]
            go_wp2_with fail
            go_meet
            exact ⟨_, rfl, rfl, rfl, Lib.hid blw, Lib.hid (World.putF_heap_eq _ (by first | assumption | (simp; omega)))⟩
          case rest =>
           obtain ⟨b17, rfl, rfl, rfl, hb3, hr17⟩ := hcut
           generalize wc = V3 at *
           have h10 := (hb3.out.block b10 (lt_of_heap HX2.out.1)).trans HX2.out.1
           have h13 := (hb3.out.block b13 (lt_of_heap HX2.out.2)).trans HX2.out.2
           have HBV3 := Lib.hid (HBV2.out.trans (hb3.out.mono HBV2.out.size))
           have c5 : V3.cell? ⟨b10, 5, none⟩ = some (.bool r1.gone) := (cells_is h10 5).1.trans rfl
           have c6' : V3.cell? ⟨b10, 6, none⟩ = some (.int .u32 (r1.rev.toNat : Int)) := (cells_is h10 6).1.trans rfl
           have d1' : V3.cell? ⟨b13, 1, none⟩ = some (.int .u8 (r2.state.toNat : Int)) := (cells_is h13 1).1.trans rfl
           have d6 : V3.cell? ⟨b13, 6, none⟩ = some (.int .u32 (r2.rev.toNat : Int)) := (cells_is h13 6).1.trans rfl
           have d0 : V3.cut? b13 0 9 = some (recA r2) := cut_heap h13 rfl
           have e0 : V3.cut? b17 0 9 = some (recA r3) := cut_heap hr17.out rfl
           have l10 := lt_of_heap h10
           have l13 := lt_of_heap h13
           have l17 := lt_of_heap hr17.out
           obtain ⟨hf3, hzz, hss⟩ := HLW.out
           have hwr := wrap64_byte r2.state
           clear z6 z7 he6 he7 lx2 li6 li7 hb3 hr17 HX2 HS2 HBV2 h10 h13 HLW
           by_cases hall : f1 = true ∧ f2 = true ∧ r1.gone = false
           ·obtain ⟨rfl, rfl, hg⟩ := hall
            rw [hg] at hf3 c5
            have hf4 : f3 = true := hf3
            clear hf3
            subst hf4
            obtain ⟨h3a, h3b⟩ := hss rfl
            subst h3a
            clear hzz hss hg
            by_cases hrv : r3.rev = r1.rev
            ·rw [if_pos hrv] at h3b
             subst h3b
             rw [hrv] at d6
             clear hrv
             go_wp2_with fail
             go_roundw
             case rel => exact ⟨j + 1, by omega, by omega, by go_num, HBV3⟩
             case measure => simp [intOf]; omega
            ·rw [if_neg hrv] at h3b
             subst h3b
             have hne : ((r1.rev.toNat : Int) == (r3.rev.toNat : Int)) = false := by
              rw [beq_eq_false_iff_ne]
              exact fun h => hrv (UInt32.toNat_inj.1 (by omega))
             clear hrv
             go_wp2_with fail
             go_roundw
             case rel => exact ⟨j + 1, by omega, by omega, by go_num, HBV3⟩
             case measure => simp [intOf]; omega
           ·have hf : f3 = false := by
             rw [hf3]
             cases f1 <;> cases f2 <;> cases hg : r1.gone <;> simp_all
            obtain ⟨h3a, h3b⟩ := hzz hf
            rw [h3a]
            rw [h3b] at e0
            generalize r1.gone = gn at *
            subst hf
            have HF3 := Lib.hid hf3
            clear hss hzz h3a h3b hall hf3
            cases f1
            ·go_wp2_with fail
             go_roundw
             case rel => exact ⟨j + 1, by omega, by omega, by go_num, HBV3⟩
             case measure => simp [intOf]; omega
            ·cases f2
             ·go_wp2_with fail
              go_roundw
              case rel => exact ⟨j + 1, by omega, by omega, by go_num, HBV3⟩
              case measure => simp [intOf]; omega
             ·cases gn
              ·exact absurd HF3.out (by decide)
              ·go_wp2_with fail
               go_roundw
               case rel => exact ⟨j + 1, by omega, by omega, by go_num, HBV3⟩
               case measure => simp [intOf]; omega
        ·have h4I : ¬ (j : Int) < 4 := by omega
         go_wp2_with fail
         go_roundw
         case rel => exact ⟨i + 1, by omega, by omega, by go_num, Lib.hid (HQ.out.trans (Below.mono blw HQ.out.size))⟩
         case measure => simp [intOf]; omega
       ·have hljI : ¬ (j : Int) < ts.length := by omega
        go_wp2_with fail
        go_roundw
        case rel => exact ⟨i + 1, by omega, by omega, by go_num, Lib.hid (HQ.out.trans (Below.mono blw HQ.out.size))⟩
        case measure => simp [intOf]; omega
     ·have h6I : ¬ (i : Int) < 6 := by omega
      go_wp2_with fail
      refine Gives.use (HKN.out _) ?_
      intro ys d
      go_wp2_with fail
      go_ret
      exact ⟨rfl, (HBX.out.trans (HR.out.mono HBX.out.size)).trans ((below_of_grow ys d).mono (Nat.le_trans HBX.out.size HR.out.size))⟩
    ·have hliI : ¬ (i : Int) < ns.length := by omega
     go_wp2_with fail
     refine Gives.use (HKN.out _) ?_
     intro ys d
     go_wp2_with fail
     go_ret
     exact ⟨rfl, (HBX.out.trans (HR.out.mono HBX.out.size)).trans ((below_of_grow ys d).mono (Nat.le_trans HBX.out.size HR.out.size))⟩
end Go.Proofs.YtnlhkpinllhboaaGreatDoor
namespace Go.Proofs.YtnlhkpinllhboaaGreatDoor
set_option maxRecDepth 100000
open Go.RowKit Go.ChangeShapes Go.WideShapes

theorem viewStates_law (w : World) (v0 : Value) (h0 : Reads Tryz.prog w 28 v0) : Gives Tryz.prog 4 #[v0] w (.bool true) := by
 obtain ⟨x, xs, ls, ow, ns, ts, rfl, h⟩ := some_read h0
 exact states_walk x xs ls ow ns ts w h

namespace viewStates
open Go.ChangeShapes Go.WideShapes Go.ChangeAt Go.RowKit
open Go.ChangeMaps (open_string shut_string)
theorem own : ownKnob Tryz.prog.godebug = none := by kernel_rfl
theorem laidOut : laidOutB Tryz.prog = true := by kernel_rfl
/-- a world in which the listed variables hold what the row says -/
noncomputable def laidW (os : Os) : World := World.laidAll Tryz.prog os Rows.viewStatesRow.laid
set_option maxRecDepth 100000 in
theorem door_met (os : Os) (args : Array Value) : laidMetH Tryz.prog Rows.viewStatesRow.laid ((laidW os).forCall (fun _ _ => 0) ⟨#[], args, []⟩).memory := by
 rw [MakeChecks.laidMetH_plain _ _ _ (by kernel_rfl)]
 exact laidMet_laidAll args (by kernel_rfl) (by kernel_rfl)
set_option maxRecDepth 100000 in
theorem lifted (os : Os) (started : os.Started) (H : Type) (enc : TypeId × Value → H) :
  ReturnsInHanded {} Tryz.checked os 4 .any (fun w args => (Rows.viewStatesSpec.pre enc Tryz.prog Tryz.f4 Rows.viewStatesRow.domain false w args ∧ laidMetH Tryz.prog Rows.viewStatesRow.laid w) ∧ sizedMet enc Tryz.prog Tryz.f4 (OpenSpec.ofChange Rows.viewStatesSpec) false w args) (Rows.viewStatesSpec.post enc Tryz.prog Tryz.f4 false true false false) := by
 refine returnsInHanded_of_change_and (C := Tryz.checked) (X := fun w _ => laidMetH Tryz.prog Rows.viewStatesRow.laid w) (fun _ _ _ hh h => h.of_heap hh) own started (by kernel_rfl) Tryz.func4
  (ChangeSpec.witness_shaped (enc := enc) (C := Tryz.checked) (os := os) (X := fun w _ => laidMetH Tryz.prog Rows.viewStatesRow.laid w) false (laidW os) #[.agg #[.slice none 0 0, .slice none 0 0, .int .i64 0, .int .i64 0, .bool false, .int .u64 0, .slice none 0 0, .slice none 0 0, .int .i64 0]] 8 (World.laidAll_os _ _ _) (World.shaped_of_ZipB (by kernel_rfl) (by kernel_rfl)) (by kernel_rfl) (by kernel_rfl) (by kernel_rfl) (door_met os _)) ?_
 intro W base args ds gs before hval0 hW _ _ _ _
 have hval : ∀ (j : Nat) t v, Tryz.f4.params[j]? = some t → args[j]? = some v → Value.okWide Tryz.prog W .any base t v := hval0
 have hW' := hW
 obtain ⟨p, q, hA0, hV, rfl, hfz, hnd⟩ := hW
 have hA : DataW.TrodAll enc Tryz.prog W 0 (fun _ => true) true Tryz.f4.params.toList args.toList ds p := hA0
 rw [Tryz.params4] at hA hval
 obtain ⟨v0, vs0, d0, ds0, p0, q0, hargs, rfl, rfl, h0, r0⟩ := trodAll_cons hA
 obtain ⟨rfl, rfl, rfl⟩ := trodAll_nil r0
 obtain rfl : args = #[v0] := by cases args; simp_all
 obtain ⟨rfl, rfl⟩ := trodVars_none hV
 have lt0 : ∀ x ∈ p0, x.block < W.heap.size := by obtain ⟨m, hm⟩ := h0; exact DataW.trod_lt m _ _ _ hm
 clear hA0 hval0
 refine Calls.mono (viewStates_law W v0 ⟨⟨_, hval 0 28 v0 rfl rfl⟩, H, enc, _, _, h0⟩) fun e W' ⟨he, bel⟩ => ?_
 subst he
 exact ⟨_, rfl, _, _, _, [], _, [], hW', trodAll_mk1 (shut_bool Tryz.underlying4 _), (trodAll_cons_mk (Below.trod laidOut (by kernel_rfl) (of_decide_eq_true (by kernel_rfl)) h0 bel lt0) trodAll_mk0), rfl, bel.frame _, fun h => by cases h⟩
theorem fact0 : (Rows.viewStatesRow.inPlace == Program.inPlace Tryz.pinned.checked.prog 4) = true := by kernel_rfl
theorem fact1 : (Rows.viewStatesRow.unfollowed == Program.unfollowed Tryz.pinned.checked.prog 4) = true := by kernel_rfl
theorem fact2 : (Rows.viewStatesRow.recurses == Program.recurses Tryz.pinned.checked.prog 4) = true := by kernel_rfl
theorem fact3 : (Rows.viewStatesRow.named == Program.varsNamed Tryz.pinned.checked.prog 4) = true := by kernel_rfl
theorem closed : joinedFacts Tryz.pinned.checked.prog 4 Tryz.f4 Rows.viewStatesSpec Rows.viewStatesRow = true := by
 unfold joinedFacts
 rw [fact0, fact1, fact2, fact3]
 refine Eq.trans (b := true) ?_ rfl
 kernel_rfl
theorem said : Rows.ViewStatesSaid :=
 OpenClaim.holds_of_wide 4 Tryz.f4 rfl rfl rfl rfl rfl rfl rfl ⟨rfl, rfl, rfl, rfl, rfl⟩ rfl rfl rfl rfl rfl (by kernel_rfl) Tryz.func4 closed
  (of_decide_eq_true (by kernel_rfl)) (by unfold Func.isWrapper; first | (rw [if_pos (by decide +kernel)]; kernel_rfl) | (rw [if_neg (by decide +kernel)]; exact ⟨rfl, rfl⟩))
  (fun os started H enc _ => lifted os started H enc)
/-- no parameter wants a stand-in; the program's own looks are off -/
theorem plain (f : FuncId) (fn : Func) (hf : Tryz.pinned.checked.prog.funcNamed "vulgate/vulgatelaw19.ViewStates" = some f) (hfn : Tryz.pinned.checked.prog.funcs[f]? = some fn) :
  false = Tryz.pinned.checked.prog.looks [] ∧ ∀ (j : Nat) t, fn.params[j]? = some t → Tryz.pinned.checked.prog.wantsStandIn t = false := by
 obtain rfl : f = 4 := Option.some.inj ((show Tryz.prog.funcNamed "vulgate/vulgatelaw19.ViewStates" = some 4 by kernel_rfl).symm.trans hf) |>.symm
 obtain rfl : fn = Tryz.f4 := (Option.some.inj (Tryz.func4.symm.trans hfn)).symm
 refine ⟨by kernel_rfl, fun j t ht => ?_⟩
 rw [Tryz.params4] at ht
 have hm : t ∈ [28] := by simpa using Array.mem_of_getElem? ht
 have hall : ([28].all fun u => !Tryz.prog.wantsStandIn u) = true := by kernel_rfl
 exact (show Tryz.prog.wantsStandIn t = false by simpa using List.all_eq_true.1 hall t hm)
theorem proved : Rows.ViewStatesCardSaid :=
 Claim7.holds_tied_plain_at .later [] _ _ _ _ said (fun _ h => by cases h) (by kernel_rfl) (fun _ h => by cases h) viewStates_row_tie rfl ⟨rfl, rfl⟩ (by kernel_rfl) rfl plain (by kernel_rfl)
#print axioms proved
end viewStates
end Go.Proofs.YtnlhkpinllhboaaGreatDoor

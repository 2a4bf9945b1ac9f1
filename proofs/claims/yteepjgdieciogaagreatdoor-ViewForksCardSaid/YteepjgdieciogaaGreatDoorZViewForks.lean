/- Layer 19's law ViewForks, for every input: what is written on other branches behind all forks of a branch's chain isn't seen on it; the Go function returns true, and each argument reads behind the call as it read before. Condition: the tables that the row lists (tied to the program's text by the card); the proof does not use what they hold. -/
import Derived.Test.YteepjgdieciogaaGreatDoorQcr
import Derived.Test.YteepjgdieciogaaGreatDoorQcq
import Derived.Test.YteepjgdieciogaaGreatDoorQcp
import Derived.Test.YteepjgdieciogaaGreatDoorQcl
import Derived.BigRegion
import Derived.Deep.CutBlock
import Derived.Deep.Cut
import Derived.Handy
import Derived.Test.YteepjgdieciogaaGreatDoorCards
import Derived.Test.YteepjgdieciogaaGreatDoorTie
import Derived.ProofKit
import Derived.LaidMore
import Derived.Lay
import Derived.OpenShut
import Derived.ShutString
namespace Go.Proofs.YteepjgdieciogaaGreatDoor
theorem zvZViewForks {p : Prop} (h : p := by (go_simp; (first | (with_reducible refine hK _ _ ?_) | go_wp2_with fail); exact ⟨_, rfl, rfl, blv, fun h => by cases h⟩)) : p := h
set_option maxRecDepth 100000
open Go.RowKit

/-- the state of the loop over later rows -/
structure LatB (W0 : World) (B s n : Nat) (b8 : UInt8) (f : K25 → List Ver) (T : UInt64) (av : Value) (A : List (Array Value)) (G : SG) (W : World) : Prop where
 store : StoreAt W B s G
 fine : Fine n G
 later : Later b8 f T (versG G) G.last
 sl : SlA W W.heap.size 19 av A
 out : OutS s G av
 low : Below W0.heap.size W0 W
theorem LatB.up {W0 W W' : World} {B s n : Nat} {b8 : UInt8} {f : K25 → List Ver} {T : UInt64} {av : Value} {A : List (Array Value)} {G : SG} (h : LatB W0 B s n b8 f T av A G W) (hb : Below W.heap.size W W') : LatB W0 B s n b8 f T av A G W' :=
 ⟨h.store.keep hb, h.fine, h.later, (h.sl.below hb).more hb.size, h.out, h.low.trans (hb.mono h.low.size)⟩
theorem Fine.more {n m : Nat} {G : SG} (h : Fine n G) (hm : n ≤ m) : Fine m G := ⟨h.inv.more hm, by have := h.last; omega, by have := h.low; omega, by have := h.high; omega⟩
theorem LatB.next {W0 W W' : World} {B s n : Nat} {b8 : UInt8} {f : K25 → List Ver} {T : UInt64} {av : Value} {A : List (Array Value)} {G G' : SG} {l : List Wr} (h : LatB W0 B s n b8 f T av A G W) (hB : W0.heap.size ≤ B) (hl : apartL b8 l = true) (h1 : StoreAt W' B s G') (h2 : Evo s W G W' G') (h3 : Fine (n + 1) G') (h4 : NextG G l G') : LatB W0 B s (n + 1) b8 f T av A G' W' := by
 have hsl := h.sl.evo (s := s) h.out h2
 refine ⟨h1, h3, ?_, hsl.1, hsl.2, h.low.trans ((h2.below h.store).mono hB)⟩
 by_cases h0 : pubE (versG G) G.live l = 0
 ·obtain ⟨q1, q2, q3, q4, q5⟩ := h4.yes h0
  rw [q5, q3]
  exact h.later.apply q2 (checkE_spec q1).2.2 hl
 ·rw [h4.no h0]
  exact h.later
theorem apart_take (b8 : UInt8) (l : List Wr) (j : Nat) (h : j < l.length) : apartL b8 (l.take (j + 1)) = (apartL b8 (l.take j) && (decide (5 ≤ (byt l[j].k.val 0).toNat) && decide (byt l[j].k.val 2 ≠ b8))) := by
 rw [List.take_succ_eq_append_getElem h, apart_snoc]
@[go_sem] theorem agg_some19 : Tryz.prog.aggSize 28 = some 9 := by kernel_rfl
@[go_sem ↓ high] theorem ld_some19 (a : Addr) : loadVar 28 a = rowLoad 28 a := rfl
theorem told_cut {w : World} {B i : Nat} {a : Option Addr} {c : Nat} {l : List Told} (h : SlA w B 19 (.slice a l.length c) (l.map toldA)) (hi : i < l.length) : ∃ b o, a = some ⟨b, o, none⟩ ∧ b < B ∧ w.cut? b (o + i * 19) 19 = some (toldA l[i]) := by
 obtain ⟨_, a', cap', he, _, _, hc⟩ := h
 simp only [Value.slice.injEq, List.length_map, true_and] at he
 obtain ⟨rfl, rfl⟩ := he
 obtain ⟨b, o, rfl, hlb, hcut⟩ := hc (by simp; omega)
 exact ⟨b, o, rfl, hlb, hcut i (toldA l[i]) (by simp [hi])⟩
theorem lnk_cell {w : World} {B i : Nat} {a : Option Addr} {c : Nat} {l : List Lnk} (h : SlA w B 2 (.slice a l.length c) (l.map lnkA)) (hi : i < l.length) : ∃ b o, a = some ⟨b, o, none⟩ ∧ b < B ∧ w.cell? ⟨b, o + i * 2 + 1, none⟩ = some (.int .u64 (l[i].2.toNat : Int)) := by
 obtain ⟨_, a', cap', he, _, _, hc⟩ := h
 simp only [Value.slice.injEq, List.length_map, true_and] at he
 obtain ⟨rfl, rfl⟩ := he
 obtain ⟨b, o, rfl, hlb, hcut⟩ := hc (by simp; omega)
 exact ⟨b, o, rfl, hlb, (cut_spec (hcut i (lnkA l[i]) (by simp [hi]))).2 1 (by decide)⟩
theorem wr_cells {w : World} {B i : Nat} {a : Option Addr} {c : Nat} {l : List Wr} (h : SlA w B 35 (.slice a l.length c) (l.map wrtA)) (hi : i < l.length) : ∃ b o, a = some ⟨b, o, none⟩ ∧ b < B ∧ w.cell? ⟨b, o + i * 35, none⟩ = some (.int .u8 (byt l[i].k.val 0).toNat) ∧ w.cell? ⟨b, o + i * 35 + 2, none⟩ = some (.int .u8 (byt l[i].k.val 2).toNat) := by
 obtain ⟨_, a', cap', he, _, _, hc⟩ := h
 simp only [Value.slice.injEq, List.length_map, true_and] at he
 obtain ⟨rfl, rfl⟩ := he
 obtain ⟨b, o, rfl, hlb, hcut⟩ := hc (by simp; omega)
 have hs := (cut_spec (hcut i (wrtA l[i]) (by simp [hi]))).2
 refine ⟨b, o, rfl, hlb, ?_, ?_⟩
 ·have := hs 0 (by decide); rw [wrtA_0] at this; exact this
 ·have := hs 2 (by decide); rw [wrtA_2] at this; exact this
set_option maxHeartbeats 40000000 in
theorem forks_walk (x : SomeV) (xs : List (Array Value)) (ls : List (List Wr)) (ow : List Wr) (ns : List N12) (ts : List T10) (mv : Value) (mx : List (Array Value)) (ml : List (List Wr)) (w : World) (h : SomeAt w x xs ls ow ns ts) (hmr : RowsAt w mv mx ml) :
  Gives Tryz.prog 3 #[.agg x.arr, mv] w (.bool true) := by
 obtain ⟨rv, ov, pj, br, sn, at_, nv, tv, mo⟩ := x
 obtain ⟨a0, c0, e0, -, -⟩ := h.rows.1.form
 obtain ⟨a1, c1, e1, -, -⟩ := h.own.form
 obtain ⟨a6, c6, e6, -, -⟩ := h.names.form
 obtain ⟨a7, c7, e7, -, -⟩ := h.tags.form
 obtain ⟨am, cm, em, _, hmm⟩ := hmr.1.form
 simp only [List.length_map] at e0 e1 e6 e7
 subst e0 e1 e6 e7 em
 simp only [SomeV.arr]
 have HA := Lib.hid (And.intro h hmr)
 have HKN := Lib.hid known19_gives
 clear h hmr
 unfold Gives
 go_enter Tryz.func3, Tryz.ntmps3
 go_upto_region 1 with fail
 refine wp_name ?_
 intro W0 hW0
 obtain ⟨xb, hxb⟩ : ∃ xb, xb = w.heap.size := ⟨_, rfl⟩
 have hb0 : Below w.heap.size w W0 := by rw [hW0]; exact blw
 obtain ⟨XC, hXC⟩ : ∃ XC : Array Value, XC = #[.slice a0 xs.length c0, .slice a1 ow.length c1, .int .i64 pj, .int .i64 br, .bool sn, .int .u64 (at_.toNat : Int), .slice a6 ns.length c6, .slice a7 ts.length c7, .int .i64 mo] := ⟨_, rfl⟩
 have hx0 : W0.heap[xb]? = some (.cells XC 28) := by rw [hW0, hxb, hXC]; exact (heap_al _ _ _).trans (if_pos rfl)
 simp only [← hxb]
 have k0 : W0.cell? ⟨xb, 0, none⟩ = some (.slice a0 xs.length c0) := (cells_is hx0 0).1.trans (by rw [hXC]; rfl)
 have lx0 : xb < W0.heap.size := (Array.getElem?_eq_some_iff.1 hx0).1
 have HLAY := Lib.hid (lay_calls (.slice a0 xs.length c0) xs ls W0 (HA.out.1.below hb0).rows)
 have H0 := Lib.hid (And.intro hb0 (And.intro hx0 hXC))
 clear hW0 hb0 hx0 hxb hXC
 go_wp2_with fail
 refine HLAY.out.mono ?_
 rintro e W1 ⟨hb1, B, s, rb, pb, ib, n, G, v, R, rfl, hB, hn, hL⟩
 obtain ⟨av, cv, hv, -, -⟩ := hL.doc.sl.form
 have k1 : allOne (roomD v G.last) = true := by rw [hv]; exact one_roomD _ _ _ _
 have HL := Lib.hid (And.intro hL (And.intro hb1 (And.intro hn hB)))
 clear hv hL hb1 hn HLAY k0 hB
 go_upto_region 4 with fail
 refine wp_name ?_
 intro W2 hW2
 have hb2 : Below W1.heap.size W1 W2 := by rw [hW2]; exact blw
 have hL2 := HL.out.1.up hb2
 have hb02 : Below W0.heap.size W0 W2 := HL.out.2.1.trans (hb2.mono HL.out.2.1.size)
 have r0 : W2.cell? ⟨rb, 0, none⟩ = some (.pointer (some ⟨s, 0, none⟩)) := (cells_is hL2.room.room 0).1.trans rfl
 have hx2 := (hb02.block xb lx0).trans H0.out.2.1
 have x2 : W2.cell? ⟨xb, 2, none⟩ = some (.int .i64 pj) := (cells_is hx2 2).1.trans (by rw [H0.out.2.2]; rfl)
 have x3 : W2.cell? ⟨xb, 3, none⟩ = some (.int .i64 br) := (cells_is hx2 3).1.trans (by rw [H0.out.2.2]; rfl)
 have lr2 : rb < W2.heap.size := hL2.room.lt.1
 have lx2 : xb < W2.heap.size := by have := hb02.size; omega
 have hsh : Short G 100000 := fun k => Nat.le_trans (hL2.fine.inv.short k) (by have := HL.out.2.2.1; omega)
 have HLA := Lib.hid (fun (V : World) (hb : Below W2.heap.size W2 V) => slast_gives (hL2.store.keep hb))
 have hany := viewOf_any hL2.store hsh G.last pj br W2.heap.size (Nat.le_refl _)
 obtain ⟨lt, hlt⟩ : ∃ lt, lt = G.last := ⟨_, rfl⟩
 rw [← hlt] at HLA hany
 have HANY := Lib.hid hany
 have HW2 := Lib.hid (And.intro hL2 (And.intro hb02 (And.intro hx2 (And.intro hsh (And.intro hlt (And.intro HL.out.2.2.1 HL.out.2.2.2))))))
 clear hW2 hb2 hL2 hb02 hx2 hsh hany hlt k1 lx0 HL
 go_wp2_with fail
 go_cut [9, 10] (fun s9 s10 wx => Hid (Below W2.heap.size W2 wx) ∧ Hid ((∃ er : Int, er ≠ 0 ∧ s10 = .int .i64 er) ∨ (s10 = .int .i64 0 ∧ ∃ (p8 b8 : UInt8) (own : Rec), (pj = p8.toNat ∧ br = b8.toNat ∧ p8.toNat < 4 ∧ b8.toNat < 4 ∧ (atV (versG G (keyK 4 p8 b8)) lt).2 = true) ∧ VwP W2.heap.size s lt p8 (chainV (versG G) lt p8 b8 257 [] (b8, nowT)) own s9 wx)))
 case first =>
  rcases HANY.out with ⟨er, her, hof⟩ | ⟨p8, b8, q1, q2, q3, q4, q5, hof⟩
  ·have HOF := Lib.hid hof
   have HER := Lib.hid her
   clear hof her HANY HW2 HA HKN H0
   go_wp2_with fail
   apply wp_region_specs (by rfl) [.val _, .val _, .val _, .val _, .val _, .val _, .val _, .val _, .val _, .val _, .val _, .val _, .pure _] 13 (by rfl) [34, 35, 36, 37, 38, 39, 40, 41, 42, 43, 33, 44, 45] [] [12] (by rfl) (by rfl) (by decide) (by decide +kernel) (fun _ _ _ _ _ h => h)
   case hF => intro x; simp only [over, List.foldl_cons, List.foldl_nil, List.setIfInBounds_toArray, List.set_cons_succ, List.set_cons_zero]; exact rfl
   case hops =>
    refine ⟨?o0, ?o1, ?o2, ?o3, ?o4, ?o5, ?o6, ?o7, ?o8, ?o9, ?o10, ?o11, ?o12, trivial⟩
    case o0 =>
     intro x w1 hH K hK
     obtain ⟨xs, d, rfl⟩ := grow_of_below hH.below
     clear hH
     try simp only [World.grow_drew] at hK ⊢
     try simp only [World.grow_grow] at hK ⊢
     exact zvZViewForks
    case o1 =>
     intro x w1 hH K hK
     obtain ⟨xs, d, rfl⟩ := grow_of_below hH.below
     clear hH
     try simp only [World.grow_drew] at hK ⊢
     try simp only [World.grow_grow] at hK ⊢
     exact zvZViewForks
    case o2 =>
     intro x w1 hH K hK
     have e35 : x 35 = _ := hH.g 1 35
     obtain ⟨xs, d, rfl⟩ := grow_of_below hH.below
     clear hH
     try simp only [World.grow_drew] at hK ⊢
     try simp only [World.grow_grow] at hK ⊢
     simp only [e35] at hK ⊢
     clear e35
     go_simp
     refine Gives.use (HLA.out _ blw) ?_
     intro ys e
     go_wp2_with fail
     exact ⟨_, rfl, rfl, blw, fun h => by cases h⟩
    case o3 =>
     intro x w1 hH K hK
     have e34 : x 34 = _ := hH.g 0 34
     have e36 : x 36 = _ := hH.g 2 36
     obtain ⟨xs, d, rfl⟩ := grow_of_below hH.below
     clear hH
     try simp only [World.grow_drew] at hK ⊢
     try simp only [World.grow_grow] at hK ⊢
     simp only [e34, e36] at hK ⊢
     clear e34 e36
     exact zvZViewForks
    case o4 =>
     intro x w1 hH K hK
     have e37 : x 37 = _ := hH.g 3 37
     obtain ⟨xs, d, rfl⟩ := grow_of_below hH.below
     clear hH
     try simp only [World.grow_drew] at hK ⊢
     try simp only [World.grow_grow] at hK ⊢
     simp only [e37] at hK ⊢
     clear e37
     exact zvZViewForks
    case o5 =>
     intro x w1 hH K hK
     obtain ⟨xs, d, rfl⟩ := grow_of_below hH.below
     clear hH
     try simp only [World.grow_drew] at hK ⊢
     try simp only [World.grow_grow] at hK ⊢
     exact zvZViewForks
    case o6 =>
     intro x w1 hH K hK
     have e39 : x 39 = _ := hH.g 5 39
     obtain ⟨xs, d, rfl⟩ := grow_of_below hH.below
     clear hH
     try simp only [World.grow_drew] at hK ⊢
     try simp only [World.grow_grow] at hK ⊢
     simp only [e39] at hK ⊢
     clear e39
     exact zvZViewForks
    case o7 =>
     intro x w1 hH K hK
     obtain ⟨xs, d, rfl⟩ := grow_of_below hH.below
     clear hH
     try simp only [World.grow_drew] at hK ⊢
     try simp only [World.grow_grow] at hK ⊢
     exact zvZViewForks
    case o8 =>
     intro x w1 hH K hK
     have e41 : x 41 = _ := hH.g 7 41
     obtain ⟨xs, d, rfl⟩ := grow_of_below hH.below
     clear hH
     try simp only [World.grow_drew] at hK ⊢
     try simp only [World.grow_grow] at hK ⊢
     simp only [e41] at hK ⊢
     clear e41
     exact zvZViewForks
    case o9 =>
     intro x w1 hH K hK
     have e38 : x 38 = _ := hH.g 4 38
     have e40 : x 40 = _ := hH.g 6 40
     have e42 : x 42 = _ := hH.g 8 42
     obtain ⟨xs, d, rfl⟩ := grow_of_below hH.below
     clear hH
     try simp only [World.grow_drew] at hK ⊢
     try simp only [World.grow_grow] at hK ⊢
     simp only [e38, e40, e42] at hK ⊢
     clear e38 e40 e42
     go_simp
     refine Gives.use (HOF.out _ blw) ?_
     intro ys e
     go_wp2_with fail
     exact ⟨_, rfl, rfl, blw, fun h => by cases h⟩
    case o10 =>
     intro x w1 hH K hK
     have e43 : x 43 = _ := hH.g 9 43
     obtain ⟨xs, d, rfl⟩ := grow_of_below hH.below
     clear hH
     try simp only [World.grow_drew] at hK ⊢
     try simp only [World.grow_grow] at hK ⊢
     simp only [e43] at hK ⊢
     clear e43
     exact zvZViewForks
    case o11 =>
     intro x w1 hH K hK
     have e33 : x 33 = _ := hH.g 10 33
     obtain ⟨xs, d, rfl⟩ := grow_of_below hH.below
     clear hH
     try simp only [World.grow_drew] at hK ⊢
     try simp only [World.grow_grow] at hK ⊢
     simp only [e33] at hK ⊢
     clear e33
     exact zvZViewForks
    case o12 =>
     intro x w1 hH
     have e33 : x 33 = _ := hH.g 10 33
     clear hH
     simp only [e33]
     exact Or.inl ⟨rfl, fun _ => rfl⟩
   case hend =>
    intro x w1 hH
    have e34 : x 34 = _ := hH.t 0 34
    have e35 : x 35 = _ := hH.t 1 35
    have e36 : x 36 = _ := hH.t 2 36
    have e37 : x 37 = _ := hH.t 3 37
    have e38 : x 38 = _ := hH.t 4 38
    have e39 : x 39 = _ := hH.t 5 39
    have e40 : x 40 = _ := hH.t 6 40
    have e41 : x 41 = _ := hH.t 7 41
    have e42 : x 42 = _ := hH.t 8 42
    have e43 : x 43 = _ := hH.t 9 43
    have e33 : x 33 = _ := hH.t 10 33
    have e44 : x 44 = _ := hH.t 11 44
    have e45 : x 45 = _ := hH.t 12 45
    obtain ⟨xs, d, rfl⟩ := grow_of_below hH.below
    clear hH
    simp only [e34, e35, e36, e37, e38, e39, e40, e41, e42, e43, e33, e44, e45]; clear e34 e35 e36 e37 e38 e39 e40 e41 e42 e43 e33 e44 e45
    simp only [List.drop_succ_cons, List.drop_zero]
    go_wp2_with fail
    go_meet
    exact ⟨Lib.hid blw, Lib.hid (.inl ⟨er, HER.out, rfl⟩)⟩
  ·obtain ⟨P, hP⟩ : ∃ P, P = chainV (versG G) lt p8 b8 257 [] (b8, nowT) := ⟨_, rfl⟩
   obtain ⟨own, hown⟩ : ∃ own, own = (atV (versG G (keyK 4 p8 b8)) lt).1 := ⟨_, rfl⟩
   obtain ⟨N2, hN2⟩ : ∃ N2, N2 = W2.heap.size := ⟨_, rfl⟩
   simp only [← hP, ← hown] at hof
   rw [← hN2] at hof
   have HOF := Lib.hid (show ∀ V, Below W2.heap.size W2 V → _ from by rw [← hN2]; exact hof)
   have HPP := Lib.hid (And.intro hP (And.intro hN2 (And.intro q1 (And.intro q2 (And.intro q3 (And.intro q4 q5))))))
   clear hof HANY HW2 HA HKN H0 hP hown hN2 q1 q2 q3 q4 q5
   go_wp2_with fail
   apply wp_region_specs (by rfl) [.val _, .val _, .val _, .val _, .val _, .val _, .val _, .val _, .val _, .rel (VwT N2 s lt p8 P own), .rel (VwT N2 s lt p8 P own), .rel (VwP N2 s lt p8 P own), .pure (.int .i64 0)] 13 (by rfl) [34, 35, 36, 37, 38, 39, 40, 41, 42, 43, 33, 44, 45] [] [12] (by rfl) (by rfl) (by decide) (by decide +kernel) (fun _ _ _ _ _ h => h)
   case hF => intro x; simp only [over, List.foldl_cons, List.foldl_nil, List.setIfInBounds_toArray, List.set_cons_succ, List.set_cons_zero]; exact rfl
   case hops =>
    refine ⟨?o0, ?o1, ?o2, ?o3, ?o4, ?o5, ?o6, ?o7, ?o8, ?o9, ?o10, ?o11, ?o12, trivial⟩
    case o0 =>
     intro x w1 hH K hK
     obtain ⟨xs, d, rfl⟩ := grow_of_below hH.below
     clear hH
     try simp only [World.grow_drew] at hK ⊢
     try simp only [World.grow_grow] at hK ⊢
     exact zvZViewForks
    case o1 =>
     intro x w1 hH K hK
     obtain ⟨xs, d, rfl⟩ := grow_of_below hH.below
     clear hH
     try simp only [World.grow_drew] at hK ⊢
     try simp only [World.grow_grow] at hK ⊢
     exact zvZViewForks
    case o2 =>
     intro x w1 hH K hK
     have e35 : x 35 = _ := hH.g 1 35
     obtain ⟨xs, d, rfl⟩ := grow_of_below hH.below
     clear hH
     try simp only [World.grow_drew] at hK ⊢
     try simp only [World.grow_grow] at hK ⊢
     simp only [e35] at hK ⊢
     clear e35
     go_simp
     refine Gives.use (HLA.out _ blw) ?_
     intro ys e
     go_wp2_with fail
     exact ⟨_, rfl, rfl, blw, fun h => by cases h⟩
    case o3 =>
     intro x w1 hH K hK
     have e34 : x 34 = _ := hH.g 0 34
     have e36 : x 36 = _ := hH.g 2 36
     obtain ⟨xs, d, rfl⟩ := grow_of_below hH.below
     clear hH
     try simp only [World.grow_drew] at hK ⊢
     try simp only [World.grow_grow] at hK ⊢
     simp only [e34, e36] at hK ⊢
     clear e34 e36
     exact zvZViewForks
    case o4 =>
     intro x w1 hH K hK
     have e37 : x 37 = _ := hH.g 3 37
     obtain ⟨xs, d, rfl⟩ := grow_of_below hH.below
     clear hH
     try simp only [World.grow_drew] at hK ⊢
     try simp only [World.grow_grow] at hK ⊢
     simp only [e37] at hK ⊢
     clear e37
     exact zvZViewForks
    case o5 =>
     intro x w1 hH K hK
     obtain ⟨xs, d, rfl⟩ := grow_of_below hH.below
     clear hH
     try simp only [World.grow_drew] at hK ⊢
     try simp only [World.grow_grow] at hK ⊢
     exact zvZViewForks
    case o6 =>
     intro x w1 hH K hK
     have e39 : x 39 = _ := hH.g 5 39
     obtain ⟨xs, d, rfl⟩ := grow_of_below hH.below
     clear hH
     try simp only [World.grow_drew] at hK ⊢
     try simp only [World.grow_grow] at hK ⊢
     simp only [e39] at hK ⊢
     clear e39
     exact zvZViewForks
    case o7 =>
     intro x w1 hH K hK
     obtain ⟨xs, d, rfl⟩ := grow_of_below hH.below
     clear hH
     try simp only [World.grow_drew] at hK ⊢
     try simp only [World.grow_grow] at hK ⊢
     exact zvZViewForks
    case o8 =>
     intro x w1 hH K hK
     have e41 : x 41 = _ := hH.g 7 41
     obtain ⟨xs, d, rfl⟩ := grow_of_below hH.below
     clear hH
     try simp only [World.grow_drew] at hK ⊢
     try simp only [World.grow_grow] at hK ⊢
     simp only [e41] at hK ⊢
     clear e41
     exact zvZViewForks
    case o9 =>
     intro x w1 hH K hK
     have e38 : x 38 = _ := hH.g 4 38
     have e40 : x 40 = _ := hH.g 6 40
     have e42 : x 42 = _ := hH.g 8 42
     obtain ⟨xs, d, rfl⟩ := grow_of_below hH.below
     clear hH
     try simp only [World.grow_drew] at hK ⊢
     try simp only [World.grow_grow] at hK ⊢
     simp only [e38, e40, e42] at hK ⊢
     clear e38 e40 e42
     go_simp
     go_wp2_with fail
     refine (HOF.out _ blw).mono ?_
     rintro r w3 ⟨hb3, u, rfl, hs3⟩
     go_wp2_with fail
     exact ⟨_, rfl, fun w4 h4 => VwT.keep hs3 h4, hb3, fun h => by cases h⟩
    case o10 =>
     intro x w1 hH K hK
     have r43 := hH.holds 9 (by decide) (by decide +kernel) 43 rfl (_) (Below.refl _ _)
     obtain ⟨xs, d, rfl⟩ := grow_of_below hH.below
     clear hH
     try simp only [World.grow_drew] at hK r43 ⊢
     try simp only [World.grow_grow] at hK r43 ⊢
     obtain ⟨vb, lv, e43, hs3⟩ := r43
     simp only [e43] at hK ⊢
     go_simp
     go_wp2_with fail
     exact ⟨_, rfl, fun w4 h4 => VwT.keep ⟨vb, lv, rfl, hs3⟩ h4, Below.refl _ _, fun h => by cases h⟩
    case o11 =>
     intro x w1 hH K hK
     have r33 := hH.holds 10 (by decide) (by decide +kernel) 33 rfl (_) (Below.refl _ _)
     obtain ⟨xs, d, rfl⟩ := grow_of_below hH.below
     clear hH
     try simp only [World.grow_drew] at hK r33 ⊢
     try simp only [World.grow_grow] at hK r33 ⊢
     obtain ⟨vb, lv, e33, hs3⟩ := r33
     simp only [e33] at hK ⊢
     go_simp
     go_wp2_with fail
     exact ⟨_, rfl, fun w4 h4 => VwP.keep ⟨vb, lv, rfl, hs3⟩ h4, Below.refl _ _, fun h => by cases h⟩
    case o12 =>
     intro x w1 hH
     have r33 := hH.holds 10 (by decide) (by decide +kernel) 33 rfl (_) (Below.refl _ _)
     clear hH
     refine Or.inl ⟨rfl, fun w' => ?_⟩
     obtain ⟨vb, lv, e33, -⟩ := r33
     simp only [e33]
     go_simp
   case hend =>
    intro x w1 hH
    have e34 : x 34 = _ := hH.t 0 34
    have e35 : x 35 = _ := hH.t 1 35
    have e36 : x 36 = _ := hH.t 2 36
    have e37 : x 37 = _ := hH.t 3 37
    have e38 : x 38 = _ := hH.t 4 38
    have e39 : x 39 = _ := hH.t 5 39
    have e40 : x 40 = _ := hH.t 6 40
    have e41 : x 41 = _ := hH.t 7 41
    have e42 : x 42 = _ := hH.t 8 42
    have r43 := hH.holds 9 (by decide) trivial 43 rfl (_) (Below.refl _ _)
    have r33 := hH.holds 10 (by decide) trivial 33 rfl (_) (Below.refl _ _)
    have r44 := hH.holds 11 (by decide) trivial 44 rfl (_) (Below.refl _ _)
    have e45 : x 45 = _ := hH.t 12 45
    obtain ⟨xs, d, rfl⟩ := grow_of_below hH.below
    clear hH
    simp only [e34, e35, e36, e37, e38, e39, e40, e41, e42, e45]; clear e34 e35 e36 e37 e38 e39 e40 e41 e42 e45
    simp only [List.drop_succ_cons, List.drop_zero]
    go_wp2_with fail
    go_meet
    exact ⟨Lib.hid blw, Lib.hid (.inr ⟨rfl, p8, b8, own, HPP.out.2.2, by rw [← HPP.out.1, ← HPP.out.2.1]; exact r44⟩)⟩
 case rest =>
  obtain ⟨HB3, HC⟩ := hcut
  generalize wc = X at *
  have hbx : Below w.heap.size w X := (H0.out.1.trans (HW2.out.2.1.mono H0.out.1.size)).trans (HB3.out.mono (by have := H0.out.1.size; have := HW2.out.2.1.size; omega))
  have HBX := Lib.hid hbx
  clear hbx
  rcases HC.out with ⟨er, her, rfl⟩ | ⟨rfl, p8, b8, own, ⟨q1, q2, q3, q4, q5⟩, vb, lv, rfl, hvb, hlv, hva⟩
  ·have hne : (er != 0) = true := by simp [her]
   clear HC her
   go_wp2_with fail
   refine Gives.use (HKN.out _) ?_
   intro ys d
   go_wp2_with fail
   go_ret
   exact ⟨rfl, HBX.out.trans ((below_of_grow ys d).mono HBX.out.size)⟩
  ·subst q1 q2
   obtain ⟨P, hP⟩ : ∃ P, P = chainV (versG G) lt p8 b8 257 [] (b8, nowT) := ⟨_, rfl⟩
   rw [← hP] at hva
   have hP1 : P.length ≤ 1000 := by rw [hP]; exact Nat.le_trans (chainV_len _ _ _ _ _ _ _) (by decide)
   have hPf : P = [] ∨ ∃ u q, P = (b8, u) :: q := by rw [hP]; exact chainV_head _ _ _ _ _ _ _
   have hlaX : LayAt B s rb pb ib n G v R X := HW2.out.1.up HB3.out
   have hxX := (HB3.out.block xb lx2).trans HW2.out.2.2.1
   have HLK := Lib.hid (fun (V : World) (hb : Below X.heap.size X V) => vlinks_calls (hva.up hb) hP1)
   have HQ := Lib.hid (And.intro q3 (And.intro q4 q5))
   have HP := Lib.hid (And.intro hP (And.intro hP1 hPf))
   have HVA := Lib.hid (And.intro hva (And.intro hlaX hxX))
   have HG := Lib.hid (And.intro HW2.out.2.2.2.1 (And.intro HW2.out.2.2.2.2.1 (And.intro HW2.out.2.2.2.2.2.1 HW2.out.2.2.2.2.2.2)))
   have HB0X := Lib.hid (HW2.out.2.1.trans (HB3.out.mono HW2.out.2.1.size))
   clear q3 q4 q5 hP hP1 hPf hlaX hxX hva hvb hlv HC HLA HANY r0 x2 x3 lr2 lx2 HW2 HB3
   go_wp2_with fail
   refine (HLK.out _ blw).mono ?_
   rintro e Y ⟨v11, rfl, hbY, hoY⟩
   obtain ⟨a11, c11, rfl, hm11, hl11⟩ := hoY.form
   simp only [List.length_map] at hoY hm11 hl11 ⊢
   have HOY := Lib.hid hoY
   have HBY := Lib.hid hbY
   clear hoY hbY HLK
   go_upto_block 0 with fail
   go_cut [12] (fun _ wx => Hid (Below Y.heap.size Y wx) ∧ Hid (∀ k, 1 ≤ k → ∀ hk : k < P.length, (P[k]).2.toNat ≤ lt.toNat))
   case first =>
    have HSY := Lib.hid (HVA.out.2.1.store.keep HBY.out)
    have hlt := HG.out.2.1
    have HLA := Lib.hid (show ∀ (V : World), Below Y.heap.size Y V → _ from fun V hb => by have := slast_gives (HSY.out.keep hb); rw [← hlt] at this; exact this)
    have HPL := Lib.hid HP.out.2.1
    clear hlt
    go_wp2_with fail
    go_loopw [12] (fun s12 wr => ∃ i : Nat, 1 ≤ i ∧ i ≤ P.length + 1 ∧ s12 = .int .i64 i ∧ Hid (Below Y.heap.size Y wr) ∧ Hid (∀ k, 1 ≤ k → k < i → ∀ hk : k < P.length, (P[k]).2.toNat ≤ lt.toNat)) (fun s12 _ => P.length + 1 - (intOf s12).toNat)
    case atStart => exact ⟨1, Nat.le_refl _, by omega, rfl, Lib.hid blw, Lib.hid (fun k h1 h2 => by omega)⟩
    case round =>
     obtain ⟨i, hi1, hi, rfl, HR, HF⟩ := hrel
     have hP9 : P.length ≤ 1000 := HPL.out
     by_cases hli : i < P.length
     ·have hliI : (i : Int) < P.length := by omega
      obtain ⟨g, q, rfl, hlb, hcell⟩ := lnk_cell ((HOY.out.sl.below HR.out).more HR.out.size) hli
      obtain ⟨an, han⟩ : ∃ an, an = (P[i]).2.toNat := ⟨_, rfl⟩
      obtain ⟨tn, htn⟩ : ∃ tn, tn = lt.toNat := ⟨_, rfl⟩
      rw [← han] at hcell
      rw [← htn] at HLA
      have hszr := HR.out.size
      have HLA1 := Lib.hid (fun (V : World) (hb : Below wr.heap.size wr V) => HLA.out V (HR.out.trans (hb.mono hszr)))
      have HAN := Lib.hid (And.intro han htn)
      have hbw : Below w.heap.size w wr := (HBX.out.trans (HBY.out.mono HBX.out.size)).trans (HR.out.mono (Nat.le_trans HBX.out.size HBY.out.size))
      have HBW := Lib.hid hbw
      clear han htn hbw HLA HOY HVA HQ HP HG HSY H0 HA
      obtain ⟨gb, hgb⟩ : ∃ gb : Bool, gb = decide (tn < an) := ⟨_, rfl⟩
      have hgI : ((tn : Int) < (an : Int)) = (gb = true) := by rw [hgb]; simp
      have HGB := Lib.hid hgb
      clear hgb
      go_wp2_with fail
      apply wp_region_specs (by rfl) [.val _, .val _, .val _, .val _, .val _, .val _, .val _, .val _] 8 (by rfl) [57, 58, 59, 60, 61, 62, 63, 64] [] [] (by rfl) (by rfl) (by decide) (by decide +kernel) (fun _ _ _ _ _ h => h)
      case hF => intro x; simp only [over, List.foldl_cons, List.foldl_nil, List.setIfInBounds_toArray, List.set_cons_succ, List.set_cons_zero]; exact rfl
      case hops =>
       refine ⟨?o0, ?o1, ?o2, ?o3, ?o4, ?o5, ?o6, ?o7, trivial⟩
       case o0 =>
        intro x w1 hH K hK
        obtain ⟨xs, d, rfl⟩ := grow_of_below hH.below
        clear hH
        try simp only [World.grow_drew] at hK ⊢
        try simp only [World.grow_grow] at hK ⊢
        exact zvZViewForks
       case o1 =>
        intro x w1 hH K hK
        obtain ⟨xs, d, rfl⟩ := grow_of_below hH.below
        clear hH
        try simp only [World.grow_drew] at hK ⊢
        try simp only [World.grow_grow] at hK ⊢
        exact zvZViewForks
       case o2 =>
        intro x w1 hH K hK
        have e57 : x 57 = _ := hH.g 0 57
        have e58 : x 58 = _ := hH.g 1 58
        obtain ⟨xs, d, rfl⟩ := grow_of_below hH.below
        clear hH
        try simp only [World.grow_drew] at hK ⊢
        try simp only [World.grow_grow] at hK ⊢
        simp only [e57, e58] at hK ⊢
        clear e57 e58
        exact zvZViewForks
       case o3 =>
        intro x w1 hH K hK
        have e59 : x 59 = _ := hH.g 2 59
        obtain ⟨xs, d, rfl⟩ := grow_of_below hH.below
        clear hH
        try simp only [World.grow_drew] at hK ⊢
        try simp only [World.grow_grow] at hK ⊢
        simp only [e59] at hK ⊢
        clear e59
        exact zvZViewForks
       case o4 =>
        intro x w1 hH K hK
        have e60 : x 60 = _ := hH.g 3 60
        obtain ⟨xs, d, rfl⟩ := grow_of_below hH.below
        clear hH
        try simp only [World.grow_drew] at hK ⊢
        try simp only [World.grow_grow] at hK ⊢
        simp only [e60] at hK ⊢
        clear e60
        exact zvZViewForks
       case o5 =>
        intro x w1 hH K hK
        obtain ⟨xs, d, rfl⟩ := grow_of_below hH.below
        clear hH
        try simp only [World.grow_drew] at hK ⊢
        try simp only [World.grow_grow] at hK ⊢
        exact zvZViewForks
       case o6 =>
        intro x w1 hH K hK
        have e62 : x 62 = _ := hH.g 5 62
        obtain ⟨xs, d, rfl⟩ := grow_of_below hH.below
        clear hH
        try simp only [World.grow_drew] at hK ⊢
        try simp only [World.grow_grow] at hK ⊢
        simp only [e62] at hK ⊢
        clear e62
        go_simp
        refine Gives.use (HLA1.out _ blw) ?_
        intro ys e
        go_wp2_with fail
        exact ⟨_, rfl, rfl, blw, fun h => by cases h⟩
       case o7 =>
        intro x w1 hH K hK
        have e61 : x 61 = _ := hH.g 4 61
        have e63 : x 63 = _ := hH.g 6 63
        obtain ⟨xs, d, rfl⟩ := grow_of_below hH.below
        clear hH
        try simp only [World.grow_drew] at hK ⊢
        try simp only [World.grow_grow] at hK ⊢
        simp only [e61, e63] at hK ⊢
        clear e61 e63
        exact zvZViewForks
      case hend =>
       intro x w1 hH
       have e57 : x 57 = _ := hH.t 0 57
       have e58 : x 58 = _ := hH.t 1 58
       have e59 : x 59 = _ := hH.t 2 59
       have e60 : x 60 = _ := hH.t 3 60
       have e61 : x 61 = _ := hH.t 4 61
       have e62 : x 62 = _ := hH.t 5 62
       have e63 : x 63 = _ := hH.t 6 63
       have e64 : x 64 = _ := hH.t 7 64
       obtain ⟨xs, d, rfl⟩ := grow_of_below hH.below
       clear hH
       simp only [e57, e58, e59, e60, e61, e62, e63, e64]; clear e57 e58 e59 e60 e61 e62 e63 e64
       simp only [List.drop_succ_cons, List.drop_nil]
       cases gb with
       | true =>
        go_wp2_with fail
        refine Gives.use (HKN.out _) ?_
        intro ys d
        go_wp2_with fail
        go_ret
        exact ⟨rfl, HBW.out.trans (Below.mono blw HBW.out.size)⟩
       | false =>
        have HLE := Lib.hid (show an ≤ tn from by have h := of_decide_eq_false HGB.out.symm; omega)
        go_wp2_with fail
        go_roundw
        case rel => exact ⟨i + 1, by omega, by omega, by go_num, Lib.hid (HR.out.trans (Below.mono blw HR.out.size)), Lib.hid (fun k h1 h2 hk => by
         by_cases e : k = i
         ·subst e
          have h3 := HLE.out
          rw [HAN.out.1, HAN.out.2] at h3
          exact h3
         ·exact HF.out k h1 (by omega) hk)⟩
        case measure => simp [intOf]; omega
     ·have hgn : ¬ (i : Int) < P.length := by omega
      have HF2 := Lib.hid (show ∀ k, 1 ≤ k → ∀ hk : k < P.length, (P[k]).2.toNat ≤ lt.toNat from fun k h1 hk => HF.out k h1 (by omega) hk)
      clear HF HLA
      go_wp2_with fail
      go_meet
      exact ⟨HR, HF2⟩
   case rest =>
    obtain ⟨HBZ, HLOW⟩ := hcut
    generalize wc = Z at *
    have hbXZ : Below X.heap.size X Z := HBY.out.trans (HBZ.out.mono HBY.out.size)
    have hvaZ := HVA.out.1.up hbXZ
    have hlaZ := HVA.out.2.1.up hbXZ
    have hxZ := (hbXZ.block xb (lt_of_heap HVA.out.2.2)).trans HVA.out.2.2
    have HPL := Lib.hid (links_low HP.out.2.2 HLOW.out)
    have hbwZ : Below w.heap.size w Z := HBX.out.trans (hbXZ.mono HBX.out.size)
    have hnZ := (HA.out.1.names.below hbwZ).more hbwZ.size
    have htZ := (HA.out.1.tags.below hbwZ).more hbwZ.size
    have hall := all_calls ⟨.slice a0 xs.length c0, .slice a1 ow.length c1, p8.toNat, b8.toNat, sn, at_, .slice a6 ns.length c6, .slice a7 ts.length c7, mo⟩ ns ts vb (oV (versG G) lt p8 b8 P) (qV (versG G) lt p8 b8 P) Z hnZ htZ ⟨_, _, _, _, _, _, rfl, rfl⟩
     (fun nm V hb => source_gives (hlaZ.store.keep hb) HG.out.1 (hvaZ.up hb) HP.out.2.1 HP.out.2.2 nm.1 nm.2)
     (fun nm tg V hb => trans_gives (hlaZ.store.keep hb) HG.out.1 (hvaZ.up hb) HP.out.2.1 HP.out.2.2 nm.1 tg.1 nm.2 tg.2)
     (fun nm tg V hb => state_gives (hlaZ.store.keep hb) HG.out.1 (hvaZ.up hb) HP.out.2.1 HP.out.2.2 nm.1 tg.1 nm.2 tg.2)
    simp only [SomeV.arr] at hall
    rw [← H0.out.2.2] at hall
    obtain ⟨TR, hTR⟩ : ∃ R, R = rowsTQ (oV (versG G) lt p8 b8 P) (qV (versG G) lt p8 b8 P) (ns.take 6) (ts.take 4) := ⟨_, rfl⟩
    rw [← hTR] at hall
    have HALL := Lib.hid hall
    have hXs : XC.size = 9 := by rw [H0.out.2.2]; rfl
    have hX1 : allOne XC = true := by rw [H0.out.2.2]; exact allOne_list (by intro v hv; simp only [List.mem_cons, List.not_mem_nil, or_false] at hv; rcases hv with rfl | rfl | rfl | rfl | rfl | rfl | rfl | rfl | rfl <;> rfl)
    have kx : Z.cut? xb 0 9 = some XC := cut_heap hxZ hXs
    have lxZ : xb < Z.heap.size := lt_of_heap hxZ
    have HZ := Lib.hid (And.intro hvaZ (And.intro hlaZ (And.intro hxZ (And.intro hbwZ (And.intro (HB0X.out.trans (hbXZ.mono HB0X.out.size)) hTR)))))
    clear hbXZ hvaZ hlaZ hxZ hbwZ hnZ htZ hall hTR HVA HB0X HBX HBY HBZ HLOW HOY
    go_wp2_with fail
    refine HALL.out.mono ?_
    rintro e Z2 ⟨v13, rfl, hbZ2, hoZ2⟩
    obtain ⟨a13, c13, rfl, hm13, hl13⟩ := hoZ2.form
    simp only [List.length_map] at hoZ2 hm13 hl13 ⊢
    have HF0 := Lib.hid (show LatB W0 B s 20 b8 (versG G) lt (.slice a13 TR.length c13) (TR.map toldA) G Z2 by
     have hla := HZ.out.2.1
     have hn20 := HG.out.2.2.1
     have hf := hla.fine.more hn20
     refine ⟨hla.store.keep hbZ2, hf, ?_, hoZ2.sl, fun b o n c e hn hm => ?_, HZ.out.2.2.2.2.1.trans (hbZ2.mono HZ.out.2.2.2.2.1.size)⟩
     ·rw [HG.out.2.1]
      exact Later.refl (fun k => hf.inv.old k)
     ·have h1 := hla.store.lt b hm
      have h2 := (hoZ2.lt b (by rw [e]; rfl)).1
      omega)
    have HXB := Lib.hid (And.intro (lt_of_heap H0.out.2.1) (show ∀ V, Below W0.heap.size W0 V → V.heap[xb]? = some (.cells XC 28) from fun V hb => (hb.block xb (lt_of_heap H0.out.2.1)).trans H0.out.2.1))
    have HWV := Lib.hid (show ∀ V, Below W0.heap.size W0 V → Below w.heap.size w V from fun V hb => H0.out.1.trans (hb.mono H0.out.1.size))
    clear HALL hbZ2 hoZ2 kx lxZ
    go_upto_block 2 with fail
    go_cut [14] (fun _ wx => Hid (∃ n G', n ≤ 40 ∧ LatB W0 B s n b8 (versG G) lt (.slice a13 TR.length c13) (TR.map toldA) G' wx))
    case first =>
     clear HZ HPL HKN HP
     go_wp2_with fail
     go_loopw [14] (fun s14 wr => ∃ i : Nat, i ≤ mx.length ∧ i ≤ 20 ∧ s14 = .int .i64 i ∧ Hid (∃ G', LatB W0 B s (20 + i) b8 (versG G) lt (.slice a13 TR.length c13) (TR.map toldA) G' wr)) (fun s14 _ => 20 - (intOf s14).toNat)
     case atStart => exact ⟨0, Nat.zero_le _, Nat.zero_le _, rfl, Lib.hid ⟨G, HF0.out⟩⟩
     case round =>
      clear HF0
      obtain ⟨i, hi, hi20, rfl, HR⟩ := hrel
      by_cases hli : i < mx.length
      ·have hliI : (i : Int) < mx.length := by omega
       by_cases h20 : i < 20
       ·have h20I : (i : Int) < 20 := by omega
        obtain ⟨G1, hLB⟩ := HR.out
        have HL := Lib.hid hLB
        have hbw : Below w.heap.size w wr := HWV.out wr hLB.low
        have hmr := HA.out.2.below hbw
        obtain ⟨_, a3, cap3, he, _, _, hc⟩ := hmr.1
        simp only [Value.slice.injEq, true_and] at he
        obtain ⟨rfl, rfl⟩ := he
        obtain ⟨g, q, rfl, hlb, hcut⟩ := hc (by omega)
        have hcutk := hcut i mx[i] (by simp [hli])
        obtain ⟨lv, hlv, hsl⟩ := hmr.2.2 i hli (by have := hmr.2.1; omega)
        have hgr : g < wr.heap.size := hlb
        have hcell : wr.cell? ⟨g, q + i, none⟩ = some lv := by
         have := (cut_spec hcutk).2 0 (by decide)
         rw [hlv] at this
         simpa using this
        generalize ml[i]'(by have := hmr.2.1; omega) = l at *
        have HCUT := Lib.hid (cut_calls l lv wr hsl)
        clear hcut hc hcutk hlv hsl hbw hmr hLB HR
        go_wp2_with fail
        refine HCUT.out.mono ?_
        rintro e U2 ⟨lv2, rfl, hb2, ho2⟩
        obtain ⟨a9, c9, rfl, hm9, hc9⟩ := ho2.form
        obtain ⟨L, hL⟩ : ∃ L, L = cutW l := ⟨_, rfl⟩
        have hL20 : L.length ≤ 20 := by rw [hL]; unfold cutW; simp; omega
        rw [← hL] at ho2 hc9 ⊢
        simp only [List.length_map] at ho2 hc9 ⊢
        have HO2 := Lib.hid ho2
        have HB2 := Lib.hid hb2
        clear hb2 ho2 HCUT hcell hL
        go_upto_block 4 with fail
        go_cut [16] (fun s16 wx => s16 = .bool (apartL b8 L) ∧ Hid (Below U2.heap.size U2 wx))
        case first =>
         unfold maxLen at hm9
         have HV := Lib.hid HO2.out.sl
         have hbU : Below W0.heap.size W0 U2 := HL.out.low.trans (HB2.out.mono HL.out.low.size)
         have hx3 : U2.cell? ⟨xb, 3, none⟩ = some (.int .i64 (b8.toNat : Int)) := (cells_is (HXB.out.2 U2 hbU) 3).1.trans (by rw [H0.out.2.2]; rfl)
         have lxU : xb < U2.heap.size := by have := hbU.size; have := HXB.out.1; omega
         clear HL HB2 HO2 H0 HA HXB HWV HG HQ hbU
         go_wp2_with fail
         go_loopw [16, 17] (fun s16 s17 wr => ∃ j : Nat, j ≤ L.length ∧ s17 = .int .i64 j ∧ s16 = .bool (apartL b8 (L.take j)) ∧ Hid (Below U2.heap.size U2 wr)) (fun _ s17 _ => L.length - (intOf s17).toNat)
         case atStart => exact ⟨0, Nat.zero_le _, rfl, rfl, Lib.hid (Below.refl _ _)⟩
         case round =>
          obtain ⟨j, hj, rfl, rfl, HB⟩ := hrel
          by_cases hlj : j < L.length
          ·have hljI : (j : Int) < L.length := by omega
           obtain ⟨g2, q2, rfl, hlb2, hk0, hk2⟩ := wr_cells (HV.out.below HB.out) hlj
           have hszr := HB.out.size
           have hgr2 : g2 < wr.heap.size := by omega
           have hx3r := (HB.out.cell (p := ⟨xb, 3, none⟩) lxU).trans hx3
           have lxr : xb < wr.heap.size := by omega
           have hnx := apart_take b8 L j hlj
           generalize byt (L[j]).k.val 0 = u0 at *
           generalize byt (L[j]).k.val 2 = u2 at *
           generalize apartL b8 (L.take j) = ap at *
           have hwu : IntKind.i64.wrap (u2.toNat : Int) = u2.toNat := by have := u2.toNat_lt; simp [IntKind.wrap, IntKind.bits, IntKind.signed]; omega
           have hcase : (ap = false ∧ Hid (apartL b8 (L.take (j + 1)) = false)) ∨ (ap = true ∧ ((5 : Int) ≤ (u0.toNat : Int)) = False ∧ Hid (apartL b8 (L.take (j + 1)) = false)) ∨ (ap = true ∧ ((5 : Int) ≤ (u0.toNat : Int)) = True ∧ ((u2.toNat : Int) != (b8.toNat : Int)) = false ∧ Hid (apartL b8 (L.take (j + 1)) = false)) ∨ (ap = true ∧ ((5 : Int) ≤ (u0.toNat : Int)) = True ∧ ((u2.toNat : Int) != (b8.toNat : Int)) = true ∧ Hid (apartL b8 (L.take (j + 1)) = true)) := by
            cases ap with
            | false => exact .inl ⟨rfl, Lib.hid hnx⟩
            | true =>
             by_cases h5 : 5 ≤ u0.toNat
             ·by_cases he : u2 = b8
              ·exact .inr (.inr (.inl ⟨rfl, eq_true (by omega), by rw [he]; simp, Lib.hid (by rw [hnx, he]; simp)⟩))
              ·exact .inr (.inr (.inr ⟨rfl, eq_true (by omega), by rw [bne_iff_ne]; exact fun e => he (UInt8.toNat_inj.1 (by omega)), Lib.hid (by rw [hnx]; simp [h5, he])⟩))
             ·exact .inr (.inl ⟨rfl, eq_false (by omega), Lib.hid (by rw [hnx]; simp [h5])⟩)
           have HCASE := Lib.hid hcase
           clear hnx hcase hx3 lxU HV
           rcases HCASE.out with ⟨rfl, HN⟩ | ⟨rfl, h5, HN⟩ | ⟨rfl, h5, he, HN⟩ | ⟨rfl, h5, he, HN⟩
           all_goals clear HCASE
           all_goals go_wp2_with fail
           all_goals
            apply wp_region_specs (by rfl) [.val _, .val _, .val _, .val _, .val _, .val _, .val _, .val _, .val _, .val _, .val _, .val _, .val _, .val _, .val _, .val _, .val _, .val _, .val _, .val _, .val _, .val _] 22 (by rfl) [90, 91, 92, 93, 94, 95, 96, 97, 98, 99, 100, 101, 102, 103, 104, 105, 106, 107, 108, 109, 110, 111] [] [] (by rfl) (by rfl) (by decide) (by decide +kernel) (fun _ _ _ _ _ h => h)
            case hF => intro x; simp only [over, List.foldl_cons, List.foldl_nil, List.setIfInBounds_toArray, List.set_cons_succ, List.set_cons_zero]; exact rfl
            case hops =>
             refine ⟨?o0, ?o1, ?o2, ?o3, ?o4, ?o5, ?o6, ?o7, ?o8, ?o9, ?o10, ?o11, ?o12, ?o13, ?o14, ?o15, ?o16, ?o17, ?o18, ?o19, ?o20, ?o21, trivial⟩
             case o0 =>
              intro x w1 hH K hK
              obtain ⟨xs, d, rfl⟩ := grow_of_below hH.below
              clear hH
              try simp only [World.grow_drew] at hK ⊢
              try simp only [World.grow_grow] at hK ⊢
              exact zvZViewForks
             case o1 =>
              intro x w1 hH K hK
              have e90 : x 90 = _ := hH.g 0 90
              obtain ⟨xs, d, rfl⟩ := grow_of_below hH.below
              clear hH
              try simp only [World.grow_drew] at hK ⊢
              try simp only [World.grow_grow] at hK ⊢
              simp only [e90] at hK ⊢
              clear e90
              exact zvZViewForks
             case o2 =>
              intro x w1 hH K hK
              have e91 : x 91 = _ := hH.g 1 91
              obtain ⟨xs, d, rfl⟩ := grow_of_below hH.below
              clear hH
              try simp only [World.grow_drew] at hK ⊢
              try simp only [World.grow_grow] at hK ⊢
              simp only [e91] at hK ⊢
              clear e91
              exact zvZViewForks
             case o3 =>
              intro x w1 hH K hK
              have e91 : x 91 = _ := hH.g 1 91
              obtain ⟨xs, d, rfl⟩ := grow_of_below hH.below
              clear hH
              try simp only [World.grow_drew] at hK ⊢
              try simp only [World.grow_grow] at hK ⊢
              simp only [e91] at hK ⊢
              clear e91
              exact zvZViewForks
             case o4 =>
              intro x w1 hH K hK
              have e91 : x 91 = _ := hH.g 1 91
              have e92 : x 92 = _ := hH.g 2 92
              have e93 : x 93 = _ := hH.g 3 93
              obtain ⟨xs, d, rfl⟩ := grow_of_below hH.below
              clear hH
              try simp only [World.grow_drew] at hK ⊢
              try simp only [World.grow_grow] at hK ⊢
              simp only [e91, e92, e93] at hK ⊢
              clear e91 e92 e93
              exact zvZViewForks
             case o5 =>
              intro x w1 hH K hK
              have e91 : x 91 = _ := hH.g 1 91
              have e94 : x 94 = _ := hH.g 4 94
              obtain ⟨xs, d, rfl⟩ := grow_of_below hH.below
              clear hH
              try simp only [World.grow_drew] at hK ⊢
              try simp only [World.grow_grow] at hK ⊢
              simp only [e91, e94] at hK ⊢
              clear e91 e94
              exact zvZViewForks
             case o6 =>
              intro x w1 hH K hK
              have e91 : x 91 = _ := hH.g 1 91
              have e95 : x 95 = _ := hH.g 5 95
              obtain ⟨xs, d, rfl⟩ := grow_of_below hH.below
              clear hH
              try simp only [World.grow_drew] at hK ⊢
              try simp only [World.grow_grow] at hK ⊢
              simp only [e91, e95] at hK ⊢
              clear e91 e95
              exact zvZViewForks
             case o7 =>
              intro x w1 hH K hK
              have e91 : x 91 = _ := hH.g 1 91
              have e96 : x 96 = _ := hH.g 6 96
              obtain ⟨xs, d, rfl⟩ := grow_of_below hH.below
              clear hH
              try simp only [World.grow_drew] at hK ⊢
              try simp only [World.grow_grow] at hK ⊢
              simp only [e91, e96] at hK ⊢
              clear e91 e96
              exact zvZViewForks
             case o8 =>
              intro x w1 hH K hK
              have e91 : x 91 = _ := hH.g 1 91
              have e97 : x 97 = _ := hH.g 7 97
              obtain ⟨xs, d, rfl⟩ := grow_of_below hH.below
              clear hH
              try simp only [World.grow_drew] at hK ⊢
              try simp only [World.grow_grow] at hK ⊢
              simp only [e91, e97] at hK ⊢
              clear e91 e97
              exact zvZViewForks
             case o9 =>
              intro x w1 hH K hK
              have e91 : x 91 = _ := hH.g 1 91
              have e98 : x 98 = _ := hH.g 8 98
              obtain ⟨xs, d, rfl⟩ := grow_of_below hH.below
              clear hH
              try simp only [World.grow_drew] at hK ⊢
              try simp only [World.grow_grow] at hK ⊢
              simp only [e91, e98] at hK ⊢
              clear e91 e98
              exact zvZViewForks
             case o10 =>
              intro x w1 hH K hK
              have e99 : x 99 = _ := hH.g 9 99
              obtain ⟨xs, d, rfl⟩ := grow_of_below hH.below
              clear hH
              try simp only [World.grow_drew] at hK ⊢
              try simp only [World.grow_grow] at hK ⊢
              simp only [e99] at hK ⊢
              clear e99
              exact zvZViewForks
             case o11 =>
              intro x w1 hH K hK
              have e100 : x 100 = _ := hH.g 10 100
              obtain ⟨xs, d, rfl⟩ := grow_of_below hH.below
              clear hH
              try simp only [World.grow_drew] at hK ⊢
              try simp only [World.grow_grow] at hK ⊢
              simp only [e100] at hK ⊢
              clear e100
              exact zvZViewForks
             case o12 =>
              intro x w1 hH K hK
              have e100 : x 100 = _ := hH.g 10 100
              obtain ⟨xs, d, rfl⟩ := grow_of_below hH.below
              clear hH
              try simp only [World.grow_drew] at hK ⊢
              try simp only [World.grow_grow] at hK ⊢
              simp only [e100] at hK ⊢
              clear e100
              exact zvZViewForks
             case o13 =>
              intro x w1 hH K hK
              have e100 : x 100 = _ := hH.g 10 100
              have e101 : x 101 = _ := hH.g 11 101
              have e102 : x 102 = _ := hH.g 12 102
              obtain ⟨xs, d, rfl⟩ := grow_of_below hH.below
              clear hH
              try simp only [World.grow_drew] at hK ⊢
              try simp only [World.grow_grow] at hK ⊢
              simp only [e100, e101, e102] at hK ⊢
              clear e100 e101 e102
              exact zvZViewForks
             case o14 =>
              intro x w1 hH K hK
              have e100 : x 100 = _ := hH.g 10 100
              have e103 : x 103 = _ := hH.g 13 103
              obtain ⟨xs, d, rfl⟩ := grow_of_below hH.below
              clear hH
              try simp only [World.grow_drew] at hK ⊢
              try simp only [World.grow_grow] at hK ⊢
              simp only [e100, e103] at hK ⊢
              clear e100 e103
              exact zvZViewForks
             case o15 =>
              intro x w1 hH K hK
              have e100 : x 100 = _ := hH.g 10 100
              have e104 : x 104 = _ := hH.g 14 104
              obtain ⟨xs, d, rfl⟩ := grow_of_below hH.below
              clear hH
              try simp only [World.grow_drew] at hK ⊢
              try simp only [World.grow_grow] at hK ⊢
              simp only [e100, e104] at hK ⊢
              clear e100 e104
              exact zvZViewForks
             case o16 =>
              intro x w1 hH K hK
              have e100 : x 100 = _ := hH.g 10 100
              have e105 : x 105 = _ := hH.g 15 105
              obtain ⟨xs, d, rfl⟩ := grow_of_below hH.below
              clear hH
              try simp only [World.grow_drew] at hK ⊢
              try simp only [World.grow_grow] at hK ⊢
              simp only [e100, e105] at hK ⊢
              clear e100 e105
              exact zvZViewForks
             case o17 =>
              intro x w1 hH K hK
              have e100 : x 100 = _ := hH.g 10 100
              have e106 : x 106 = _ := hH.g 16 106
              obtain ⟨xs, d, rfl⟩ := grow_of_below hH.below
              clear hH
              try simp only [World.grow_drew] at hK ⊢
              try simp only [World.grow_grow] at hK ⊢
              simp only [e100, e106] at hK ⊢
              clear e100 e106
              exact zvZViewForks
             case o18 =>
              intro x w1 hH K hK
              have e100 : x 100 = _ := hH.g 10 100
              obtain ⟨xs, d, rfl⟩ := grow_of_below hH.below
              clear hH
              try simp only [World.grow_drew] at hK ⊢
              try simp only [World.grow_grow] at hK ⊢
              simp only [e100] at hK ⊢
              clear e100
              exact zvZViewForks
             case o19 =>
              intro x w1 hH K hK
              have e100 : x 100 = _ := hH.g 10 100
              have e108 : x 108 = _ := hH.g 18 108
              obtain ⟨xs, d, rfl⟩ := grow_of_below hH.below
              clear hH
              try simp only [World.grow_drew] at hK ⊢
              try simp only [World.grow_grow] at hK ⊢
              simp only [e100, e108] at hK ⊢
              clear e100 e108
              exact zvZViewForks
             case o20 =>
              intro x w1 hH K hK
              have e100 : x 100 = _ := hH.g 10 100
              have e107 : x 107 = _ := hH.g 17 107
              have e109 : x 109 = _ := hH.g 19 109
              obtain ⟨xs, d, rfl⟩ := grow_of_below hH.below
              clear hH
              try simp only [World.grow_drew] at hK ⊢
              try simp only [World.grow_grow] at hK ⊢
              simp only [e100, e107, e109] at hK ⊢
              clear e100 e107 e109
              exact zvZViewForks
             case o21 =>
              intro x w1 hH K hK
              have e100 : x 100 = _ := hH.g 10 100
              have e110 : x 110 = _ := hH.g 20 110
              obtain ⟨xs, d, rfl⟩ := grow_of_below hH.below
              clear hH
              try simp only [World.grow_drew] at hK ⊢
              try simp only [World.grow_grow] at hK ⊢
              simp only [e100, e110] at hK ⊢
              clear e100 e110
              exact zvZViewForks
            case hend =>
             intro x w1 hH
             have e90 : x 90 = _ := hH.t 0 90
             have e91 : x 91 = _ := hH.t 1 91
             have e92 : x 92 = _ := hH.t 2 92
             have e93 : x 93 = _ := hH.t 3 93
             have e94 : x 94 = _ := hH.t 4 94
             have e95 : x 95 = _ := hH.t 5 95
             have e96 : x 96 = _ := hH.t 6 96
             have e97 : x 97 = _ := hH.t 7 97
             have e98 : x 98 = _ := hH.t 8 98
             have e99 : x 99 = _ := hH.t 9 99
             have e100 : x 100 = _ := hH.t 10 100
             have e101 : x 101 = _ := hH.t 11 101
             have e102 : x 102 = _ := hH.t 12 102
             have e103 : x 103 = _ := hH.t 13 103
             have e104 : x 104 = _ := hH.t 14 104
             have e105 : x 105 = _ := hH.t 15 105
             have e106 : x 106 = _ := hH.t 16 106
             have e107 : x 107 = _ := hH.t 17 107
             have e108 : x 108 = _ := hH.t 18 108
             have e109 : x 109 = _ := hH.t 19 109
             have e110 : x 110 = _ := hH.t 20 110
             have e111 : x 111 = _ := hH.t 21 111
             obtain ⟨xs, d, rfl⟩ := grow_of_below hH.below
             clear hH
             simp only [e90, e91, e92, e93, e94, e95, e96, e97, e98, e99, e100, e101, e102, e103, e104, e105, e106, e107, e108, e109, e110, e111]; clear e90 e91 e92 e93 e94 e95 e96 e97 e98 e99 e100 e101 e102 e103 e104 e105 e106 e107 e108 e109 e110 e111
             simp only [List.drop_succ_cons, List.drop_zero]
             go_wp2_with fail
             go_roundw
             case rel => exact ⟨j + 1, by omega, by go_num, congrArg Value.bool HN.out.symm, Lib.hid (HB.out.trans (Below.mono blw HB.out.size))⟩
             case measure => simp [intOf]; omega
          ·have hgn : ¬ (j : Int) < L.length := by omega
           have HE := Lib.hid (show apartL b8 (L.take j) = apartL b8 L by rw [List.take_of_length_le (by omega)])
           go_wp2_with fail
           go_meet
           exact ⟨congrArg Value.bool HE.out, HB⟩
        case rest =>
         obtain ⟨rfl, HB3⟩ := hcut
         generalize wc = X2 at *
         have hbr : Below wr.heap.size wr X2 := HB2.out.trans (HB3.out.mono HB2.out.size)
         have hLX := HL.out.up hbr
         have HPUB := Lib.hid (pub_all (n := 20 + i) (by omega) hLX.store hLX.fine (.slice a9 L.length c9) L ((HO2.out.sl.below HB3.out).more HB3.out.size) (fun b o n c e hn hm => by
          have h1 := HL.out.store.lt b hm
          have h2 := (HO2.out.lt b (by rw [e]; rfl)).1
          omega))
         have HLX := Lib.hid hLX
         have hBB := HG.out.2.2.2
         obtain ⟨ap, hap⟩ : ∃ ap, ap = apartL b8 L := ⟨_, rfl⟩
         rw [← hap]
         have HAP := Lib.hid hap
         clear hap hLX hbr HB3 HB2 HO2 HL HA H0 HQ HXB HWV HG
         cases ap with
         | false =>
          clear HPUB HAP
          go_wp2_with fail
          go_roundw
          case rel => exact ⟨i + 1, by omega, by omega, by go_num, Lib.hid ⟨G1, HLX.out.store, HLX.out.fine.more (by omega), HLX.out.later, HLX.out.sl, HLX.out.out, HLX.out.low⟩⟩
          case measure => simp [intOf]; omega
         | true =>
          go_wp2_with fail
          refine HPUB.out.mono ?_
          rintro e Y2 ⟨rfl, G2, hS2, hE2, hF2, hN2⟩
          have HL2 := Lib.hid (HLX.out.next hBB HAP.out.symm hS2 hE2 hF2 hN2)
          clear hS2 hE2 hF2 hN2 HPUB HLX HAP
          go_wp2_with fail
          go_roundw
          case rel => exact ⟨i + 1, by omega, by omega, by go_num, Lib.hid ⟨G2, HL2.out⟩⟩
          case measure => simp [intOf]; omega
       ·have h20I : ¬ (i : Int) < 20 := by omega
        have HK := Lib.hid (show ∃ n G', n ≤ 40 ∧ LatB W0 B s n b8 (versG G) lt (.slice a13 TR.length c13) (TR.map toldA) G' wr from by obtain ⟨G', h⟩ := HR.out; exact ⟨20 + i, G', by omega, h⟩)
        clear HR
        go_wp2_with fail
        go_meet
        exact HK
      ·have hgn : ¬ (i : Int) < mx.length := by omega
       have HK := Lib.hid (show ∃ n G', n ≤ 40 ∧ LatB W0 B s n b8 (versG G) lt (.slice a13 TR.length c13) (TR.map toldA) G' wr from by obtain ⟨G', h⟩ := HR.out; exact ⟨20 + i, G', by omega, h⟩)
       clear HR
       go_wp2_with fail
       go_meet
       exact HK
    case rest =>
     obtain ⟨n', G', hn', hLB⟩ := hcut.out
     generalize wc = V at *
     have hPe := HP.out.1
     have hsh' : Short G' 100000 := fun k => Nat.le_trans (hLB.fine.inv.short k) (by omega)
     obtain ⟨T', hT'⟩ : ∃ T', T' = G'.last := ⟨_, rfl⟩
     have hlat : Later b8 (versG G) lt (versG G') T' := by rw [hT']; exact hLB.later
     have hth : (atV (versG G' (keyK 4 p8 b8)) T').2 = true := by
      rw [hlat.same (keyK 4 p8 b8) (.inl (by rw [(keyK_0 4 p8 b8).1]; decide)), atV_top (hlat.old _) hlat.time]
      exact HQ.out.2.2
     have hch : chainV (versG G') T' p8 b8 257 [] (b8, nowT) = P := by
      rw [hPe]
      exact hlat.chain p8 257 [] (b8, nowT) (by rw [← hPe]; exact HPL.out)
     have hrows : rowsTQ (oV (versG G') T' p8 b8 P) (qV (versG G') T' p8 b8 P) (ns.take 6) (ts.take 4) = TR := by
      rw [HZ.out.2.2.2.2.2, hlat.oV p8 HPL.out, hlat.qV p8 HPL.out]
     have hv2 : ∀ V2, Below V.heap.size V V2 → Calls Tryz.prog 9 #[.iface 53 (.agg #[.pointer (some ⟨s, 0, none⟩), .int .u64 (T'.toNat : Int)]), .int .i64 (p8.toNat : Int), .int .i64 (b8.toNat : Int)] V2 fun e w' => Below V2.heap.size V2 w' ∧ ∃ u, e = .returned u ∧ VwT V.heap.size s T' p8 P (atV (versG G' (keyK 4 p8 b8)) T').1 u w' := by
      intro V2 hb
      have hv := Dn.viewOf_some (hLB.store.keep hb) hsh' T' p8 b8 HQ.out.1 HQ.out.2.1 hth
      rw [hch] at hv
      refine Calls.mono hv ?_
      rintro e w' ⟨h1, vb2, lv2, rfl, h2, h3, h4⟩
      have := hb.size
      exact ⟨h1, _, rfl, vb2, lv2, rfl, by omega, h3.mono (by omega), h4⟩
     obtain ⟨own2, hown2⟩ : ∃ o, o = (atV (versG G' (keyK 4 p8 b8)) T').1 := ⟨_, rfl⟩
     rw [← hown2] at hv2
     have HLA2 := Lib.hid (fun (V2 : World) (hb : Below V.heap.size V V2) => show Gives Tryz.prog 10 #[.pointer (some ⟨s, 0, none⟩)] V2 (.int .u64 (T'.toNat : Int)) from by have := slast_gives (hLB.store.keep hb); rw [← hT'] at this; exact this)
     have hxV := HXB.out.2 V hLB.low
     have x2 : V.cell? ⟨xb, 2, none⟩ = some (.int .i64 (p8.toNat : Int)) := (cells_is hxV 2).1.trans (by rw [H0.out.2.2]; rfl)
     have x3 : V.cell? ⟨xb, 3, none⟩ = some (.int .i64 (b8.toNat : Int)) := (cells_is hxV 3).1.trans (by rw [H0.out.2.2]; rfl)
     have lxV := lt_of_heap hxV
     have HV2 := Lib.hid hv2
     have HLB := Lib.hid (And.intro hLB (And.intro hsh' (And.intro hrows hxV)))
     clear hLB hsh' hT' hlat hth hch hrows hv2 hown2 hxV hPe hn' hcut HF0
     go_wp2_with fail
     go_cut [9, 10] (fun s9 s10 wx => s10 = .int .i64 0 ∧ Hid (Below V.heap.size V wx) ∧ Hid (VwP V.heap.size s T' p8 P own2 s9 wx))
     case first =>
      obtain ⟨N2, hN2⟩ : ∃ N2, N2 = V.heap.size := ⟨_, rfl⟩
      have HOF := Lib.hid (show ∀ V2, Below V.heap.size V V2 → Calls Tryz.prog 9 #[.iface 53 (.agg #[.pointer (some ⟨s, 0, none⟩), .int .u64 (T'.toNat : Int)]), .int .i64 (p8.toNat : Int), .int .i64 (b8.toNat : Int)] V2 fun e w' => Below V2.heap.size V2 w' ∧ ∃ u, e = .returned u ∧ VwT N2 s T' p8 P own2 u w' from by rw [hN2]; exact HV2.out)
      have HNN := Lib.hid hN2
      clear HV2 HLB HZ HPL HP HQ HXB HWV HG HA H0 HKN hN2
      apply wp_region_specs (by rfl) [.val _, .val _, .val _, .val _, .val _, .val _, .val _, .val _, .val _, .rel (VwT N2 s T' p8 P own2), .rel (VwT N2 s T' p8 P own2), .rel (VwP N2 s T' p8 P own2), .pure (.int .i64 0)] 13 (by rfl) [117, 118, 119, 120, 121, 122, 123, 124, 125, 126, 116, 127, 128] [] [12] (by rfl) (by rfl) (by decide) (by decide +kernel) (fun _ _ _ _ _ h => h)
      case hF => intro x; simp only [over, List.foldl_cons, List.foldl_nil, List.setIfInBounds_toArray, List.set_cons_succ, List.set_cons_zero]; exact rfl
      case hops =>
       refine ⟨?o0, ?o1, ?o2, ?o3, ?o4, ?o5, ?o6, ?o7, ?o8, ?o9, ?o10, ?o11, ?o12, trivial⟩
       case o0 =>
        intro x w1 hH K hK
        obtain ⟨xs, d, rfl⟩ := grow_of_below hH.below
        clear hH
        try simp only [World.grow_drew] at hK ⊢
        try simp only [World.grow_grow] at hK ⊢
        exact zvZViewForks
       case o1 =>
        intro x w1 hH K hK
        obtain ⟨xs, d, rfl⟩ := grow_of_below hH.below
        clear hH
        try simp only [World.grow_drew] at hK ⊢
        try simp only [World.grow_grow] at hK ⊢
        exact zvZViewForks
       case o2 =>
        intro x w1 hH K hK
        have e118 : x 118 = _ := hH.g 1 118
        obtain ⟨xs, d, rfl⟩ := grow_of_below hH.below
        clear hH
        try simp only [World.grow_drew] at hK ⊢
        try simp only [World.grow_grow] at hK ⊢
        simp only [e118] at hK ⊢
        clear e118
        go_simp
        refine Gives.use (HLA2.out _ blw) ?_
        intro ys e
        go_wp2_with fail
        exact ⟨_, rfl, rfl, blw, fun h => by cases h⟩
       case o3 =>
        intro x w1 hH K hK
        have e117 : x 117 = _ := hH.g 0 117
        have e119 : x 119 = _ := hH.g 2 119
        obtain ⟨xs, d, rfl⟩ := grow_of_below hH.below
        clear hH
        try simp only [World.grow_drew] at hK ⊢
        try simp only [World.grow_grow] at hK ⊢
        simp only [e117, e119] at hK ⊢
        clear e117 e119
        exact zvZViewForks
       case o4 =>
        intro x w1 hH K hK
        have e120 : x 120 = _ := hH.g 3 120
        obtain ⟨xs, d, rfl⟩ := grow_of_below hH.below
        clear hH
        try simp only [World.grow_drew] at hK ⊢
        try simp only [World.grow_grow] at hK ⊢
        simp only [e120] at hK ⊢
        clear e120
        exact zvZViewForks
       case o5 =>
        intro x w1 hH K hK
        obtain ⟨xs, d, rfl⟩ := grow_of_below hH.below
        clear hH
        try simp only [World.grow_drew] at hK ⊢
        try simp only [World.grow_grow] at hK ⊢
        exact zvZViewForks
       case o6 =>
        intro x w1 hH K hK
        have e122 : x 122 = _ := hH.g 5 122
        obtain ⟨xs, d, rfl⟩ := grow_of_below hH.below
        clear hH
        try simp only [World.grow_drew] at hK ⊢
        try simp only [World.grow_grow] at hK ⊢
        simp only [e122] at hK ⊢
        clear e122
        exact zvZViewForks
       case o7 =>
        intro x w1 hH K hK
        obtain ⟨xs, d, rfl⟩ := grow_of_below hH.below
        clear hH
        try simp only [World.grow_drew] at hK ⊢
        try simp only [World.grow_grow] at hK ⊢
        exact zvZViewForks
       case o8 =>
        intro x w1 hH K hK
        have e124 : x 124 = _ := hH.g 7 124
        obtain ⟨xs, d, rfl⟩ := grow_of_below hH.below
        clear hH
        try simp only [World.grow_drew] at hK ⊢
        try simp only [World.grow_grow] at hK ⊢
        simp only [e124] at hK ⊢
        clear e124
        exact zvZViewForks
       case o9 =>
        intro x w1 hH K hK
        have e121 : x 121 = _ := hH.g 4 121
        have e123 : x 123 = _ := hH.g 6 123
        have e125 : x 125 = _ := hH.g 8 125
        obtain ⟨xs, d, rfl⟩ := grow_of_below hH.below
        clear hH
        try simp only [World.grow_drew] at hK ⊢
        try simp only [World.grow_grow] at hK ⊢
        simp only [e121, e123, e125] at hK ⊢
        clear e121 e123 e125
        go_simp
        go_wp2_with fail
        refine (HOF.out _ blw).mono ?_
        rintro r w3 ⟨hb3, u, rfl, hs3⟩
        go_wp2_with fail
        exact ⟨_, rfl, fun w4 h4 => VwT.keep hs3 h4, hb3, fun h => by cases h⟩
       case o10 =>
        intro x w1 hH K hK
        have r126 := hH.holds 9 (by decide) (by decide +kernel) 126 rfl (_) (Below.refl _ _)
        obtain ⟨xs, d, rfl⟩ := grow_of_below hH.below
        clear hH
        try simp only [World.grow_drew] at hK r126 ⊢
        try simp only [World.grow_grow] at hK r126 ⊢
        obtain ⟨vb2, lv2, e126, hs3⟩ := r126
        simp only [e126] at hK ⊢
        go_simp
        go_wp2_with fail
        exact ⟨_, rfl, fun w4 h4 => VwT.keep ⟨vb2, lv2, rfl, hs3⟩ h4, Below.refl _ _, fun h => by cases h⟩
       case o11 =>
        intro x w1 hH K hK
        have r116 := hH.holds 10 (by decide) (by decide +kernel) 116 rfl (_) (Below.refl _ _)
        obtain ⟨xs, d, rfl⟩ := grow_of_below hH.below
        clear hH
        try simp only [World.grow_drew] at hK r116 ⊢
        try simp only [World.grow_grow] at hK r116 ⊢
        obtain ⟨vb2, lv2, e116, hs3⟩ := r116
        simp only [e116] at hK ⊢
        go_simp
        go_wp2_with fail
        exact ⟨_, rfl, fun w4 h4 => VwP.keep ⟨vb2, lv2, rfl, hs3⟩ h4, Below.refl _ _, fun h => by cases h⟩
       case o12 =>
        intro x w1 hH
        have r116 := hH.holds 10 (by decide) (by decide +kernel) 116 rfl (_) (Below.refl _ _)
        clear hH
        refine Or.inl ⟨rfl, fun w' => ?_⟩
        obtain ⟨vb2, lv2, e116, -⟩ := r116
        simp only [e116]
        go_simp
      case hend =>
       intro x w1 hH
       have e117 : x 117 = _ := hH.t 0 117
       have e118 : x 118 = _ := hH.t 1 118
       have e119 : x 119 = _ := hH.t 2 119
       have e120 : x 120 = _ := hH.t 3 120
       have e121 : x 121 = _ := hH.t 4 121
       have e122 : x 122 = _ := hH.t 5 122
       have e123 : x 123 = _ := hH.t 6 123
       have e124 : x 124 = _ := hH.t 7 124
       have e125 : x 125 = _ := hH.t 8 125
       have r126 := hH.holds 9 (by decide) trivial 126 rfl (_) (Below.refl _ _)
       have r116 := hH.holds 10 (by decide) trivial 116 rfl (_) (Below.refl _ _)
       have r127 := hH.holds 11 (by decide) trivial 127 rfl (_) (Below.refl _ _)
       have e128 : x 128 = _ := hH.t 12 128
       obtain ⟨xs, d, rfl⟩ := grow_of_below hH.below
       clear hH
       simp only [e117, e118, e119, e120, e121, e122, e123, e124, e125, e128]; clear e117 e118 e119 e120 e121 e122 e123 e124 e125 e128
       simp only [List.drop_succ_cons, List.drop_zero]
       go_wp2_with fail
       go_meet
       exact ⟨rfl, Lib.hid blw, Lib.hid (by rw [← HNN.out]; exact r127)⟩
     case rest =>
      obtain ⟨rfl, HB4, HVW⟩ := hcut
      generalize wc = V3 at *
      obtain ⟨vb2, lv2, rfl, hvb2, hlv2, hva2⟩ := HVW.out
      have hbw3 : Below w.heap.size w V3 := HWV.out V3 (HLB.out.1.low.trans (HB4.out.mono HLB.out.1.low.size))
      have hS3 := HLB.out.1.store.keep HB4.out
      have hn3 := (HA.out.1.names.below hbw3).more hbw3.size
      have ht3 := (HA.out.1.tags.below hbw3).more hbw3.size
      have hall := all_calls ⟨.slice a0 xs.length c0, .slice a1 ow.length c1, p8.toNat, b8.toNat, sn, at_, .slice a6 ns.length c6, .slice a7 ts.length c7, mo⟩ ns ts vb2 (oV (versG G') T' p8 b8 P) (qV (versG G') T' p8 b8 P) V3 hn3 ht3 ⟨_, _, _, _, _, _, rfl, rfl⟩
       (fun nm V hb => source_gives (hS3.keep hb) HLB.out.2.1 (hva2.up hb) HP.out.2.1 HP.out.2.2 nm.1 nm.2)
       (fun nm tg V hb => trans_gives (hS3.keep hb) HLB.out.2.1 (hva2.up hb) HP.out.2.1 HP.out.2.2 nm.1 tg.1 nm.2 tg.2)
       (fun nm tg V hb => state_gives (hS3.keep hb) HLB.out.2.1 (hva2.up hb) HP.out.2.1 HP.out.2.2 nm.1 tg.1 nm.2 tg.2)
      simp only [SomeV.arr] at hall
      rw [← H0.out.2.2, HLB.out.2.2.1] at hall
      have HALL := Lib.hid hall
      have hx3' := (HB4.out.block xb lxV).trans HLB.out.2.2.2
      have hXs : XC.size = 9 := by rw [H0.out.2.2]; rfl
      have hX1 : allOne XC = true := by rw [H0.out.2.2]; exact allOne_list (by intro v hv; simp only [List.mem_cons, List.not_mem_nil, or_false] at hv; rcases hv with rfl | rfl | rfl | rfl | rfl | rfl | rfl | rfl | rfl <;> rfl)
      have kx : V3.cut? xb 0 9 = some XC := cut_heap hx3' hXs
      have lx3 : xb < V3.heap.size := lt_of_heap hx3'
      have HS13 := Lib.hid ((HLB.out.1.sl.below HB4.out).more HB4.out.size)
      have HBW3 := Lib.hid hbw3
      clear hvb2 hlv2 hva2 hbw3 hS3 hn3 ht3 hall hx3' x2 x3 lxV HVW HB4 HLB HZ HPL HP HQ HXB HWV HG HA H0 HV2 HLA2
      go_wp2_with fail
      refine HALL.out.mono ?_
      rintro e V4 ⟨v18, rfl, hb4, ho4⟩
      obtain ⟨a18, c18, rfl, hm18, hl18⟩ := ho4.form
      simp only [List.length_map] at ho4 hm18 hl18 ⊢
      unfold maxLen at hm18
      have HA4 := Lib.hid ((HS13.out.below hb4).more hb4.size)
      have HC4 := Lib.hid ho4.sl
      have HB5 := Lib.hid (HBW3.out.trans (hb4.mono HBW3.out.size))
      clear hb4 ho4 HALL HS13 HBW3 kx lx3 hX1 hXs
      go_wp2_with fail
      go_loopw [19] (fun s19 wr => ∃ i : Nat, i ≤ TR.length ∧ s19 = .int .i64 i ∧ Hid (Below V4.heap.size V4 wr)) (fun s19 _ => TR.length - (intOf s19).toNat)
      case atStart => exact ⟨0, Nat.zero_le _, rfl, Lib.hid (Below.refl _ _)⟩
      case round =>
       obtain ⟨i, hi, rfl, HR⟩ := hrel
       have hszr := HR.out.size
       by_cases hli : i < TR.length
       ·have hliI : (i : Int) < TR.length := by omega
        obtain ⟨g1, o1, rfl, hg1, hc1⟩ := told_cut (HA4.out.below HR.out) hli
        obtain ⟨g2, o2, rfl, hg2, hc2⟩ := told_cut (HC4.out.below HR.out) hli
        have lg1 : g1 < wr.heap.size := by omega
        have lg2 : g2 < wr.heap.size := by omega
        generalize TR[i] = y at *
        clear HA4 HC4 HB5 HKN
        go_wp2_with fail
        apply wp_region_specs (by rfl) [.val _, .val _, .val _, .val _, .val _, .val _, .val _, .val _, .val _] 9 (by rfl) [140, 141, 142, 143, 144, 145, 146, 147, 148] [] [] (by rfl) (by rfl) (by decide) (by decide +kernel) (fun _ _ _ _ _ h => h)
        case hF => intro x; simp only [over, List.foldl_cons, List.foldl_nil, List.setIfInBounds_toArray, List.set_cons_succ, List.set_cons_zero]; exact rfl
        case hops =>
         refine ⟨?o0, ?o1, ?o2, ?o3, ?o4, ?o5, ?o6, ?o7, ?o8, trivial⟩
         case o0 =>
          intro x w1 hH K hK
          obtain ⟨xs, d, rfl⟩ := grow_of_below hH.below
          clear hH
          try simp only [World.grow_drew] at hK ⊢
          try simp only [World.grow_grow] at hK ⊢
          exact zvZViewForks
         case o1 =>
          intro x w1 hH K hK
          obtain ⟨xs, d, rfl⟩ := grow_of_below hH.below
          clear hH
          try simp only [World.grow_drew] at hK ⊢
          try simp only [World.grow_grow] at hK ⊢
          exact zvZViewForks
         case o2 =>
          intro x w1 hH K hK
          have e140 : x 140 = _ := hH.g 0 140
          have e141 : x 141 = _ := hH.g 1 141
          obtain ⟨xs, d, rfl⟩ := grow_of_below hH.below
          clear hH
          try simp only [World.grow_drew] at hK ⊢
          try simp only [World.grow_grow] at hK ⊢
          simp only [e140, e141] at hK ⊢
          clear e140 e141
          exact zvZViewForks
         case o3 =>
          intro x w1 hH K hK
          have e142 : x 142 = _ := hH.g 2 142
          obtain ⟨xs, d, rfl⟩ := grow_of_below hH.below
          clear hH
          try simp only [World.grow_drew] at hK ⊢
          try simp only [World.grow_grow] at hK ⊢
          simp only [e142] at hK ⊢
          clear e142
          exact zvZViewForks
         case o4 =>
          intro x w1 hH K hK
          obtain ⟨xs, d, rfl⟩ := grow_of_below hH.below
          clear hH
          try simp only [World.grow_drew] at hK ⊢
          try simp only [World.grow_grow] at hK ⊢
          exact zvZViewForks
         case o5 =>
          intro x w1 hH K hK
          obtain ⟨xs, d, rfl⟩ := grow_of_below hH.below
          clear hH
          try simp only [World.grow_drew] at hK ⊢
          try simp only [World.grow_grow] at hK ⊢
          exact zvZViewForks
         case o6 =>
          intro x w1 hH K hK
          have e144 : x 144 = _ := hH.g 4 144
          have e145 : x 145 = _ := hH.g 5 145
          obtain ⟨xs, d, rfl⟩ := grow_of_below hH.below
          clear hH
          try simp only [World.grow_drew] at hK ⊢
          try simp only [World.grow_grow] at hK ⊢
          simp only [e144, e145] at hK ⊢
          clear e144 e145
          exact zvZViewForks
         case o7 =>
          intro x w1 hH K hK
          have e146 : x 146 = _ := hH.g 6 146
          obtain ⟨xs, d, rfl⟩ := grow_of_below hH.below
          clear hH
          try simp only [World.grow_drew] at hK ⊢
          try simp only [World.grow_grow] at hK ⊢
          simp only [e146] at hK ⊢
          clear e146
          exact zvZViewForks
         case o8 =>
          intro x w1 hH K hK
          have e143 : x 143 = _ := hH.g 3 143
          have e147 : x 147 = _ := hH.g 7 147
          obtain ⟨xs, d, rfl⟩ := grow_of_below hH.below
          clear hH
          try simp only [World.grow_drew] at hK ⊢
          try simp only [World.grow_grow] at hK ⊢
          simp only [e143, e147] at hK ⊢
          clear e143 e147
          exact zvZViewForks
        case hend =>
         intro x w1 hH
         have e140 : x 140 = _ := hH.t 0 140
         have e141 : x 141 = _ := hH.t 1 141
         have e142 : x 142 = _ := hH.t 2 142
         have e143 : x 143 = _ := hH.t 3 143
         have e144 : x 144 = _ := hH.t 4 144
         have e145 : x 145 = _ := hH.t 5 145
         have e146 : x 146 = _ := hH.t 6 146
         have e147 : x 147 = _ := hH.t 7 147
         have e148 : x 148 = _ := hH.t 8 148
         obtain ⟨xs, d, rfl⟩ := grow_of_below hH.below
         clear hH
         simp only [e140, e141, e142, e143, e144, e145, e146, e147, e148]; clear e140 e141 e142 e143 e144 e145 e146 e147 e148
         simp only [List.drop_succ_cons, List.drop_nil]
         go_wp2_with fail
         go_roundw
         case rel => exact ⟨i + 1, by omega, by go_num, Lib.hid (HR.out.trans (Below.mono blw HR.out.size))⟩
         case measure => simp [intOf]; omega
       ·have hgn : ¬ (i : Int) < TR.length := by omega
        have HBF := Lib.hid (HB5.out.trans (HR.out.mono HB5.out.size))
        clear HA4 HC4
        go_wp2_with fail
        refine Gives.use (HKN.out _) ?_
        intro ys d
        go_wp2_with fail
        go_ret
        exact ⟨rfl, HBF.out.trans ((below_of_grow ys d).mono HBF.out.size)⟩
end Go.Proofs.YteepjgdieciogaaGreatDoor
namespace Go.Proofs.YteepjgdieciogaaGreatDoor
set_option maxRecDepth 100000
open Go.RowKit Go.ChangeShapes Go.WideShapes

theorem rows_read {w : World} {v : Value} (h : Reads Tryz.prog w 22 v) : ∃ xs ls, RowsAt w v xs ls := by
 obtain ⟨u, xs, ls, hu, h1⟩ := rows_tr h.tr
 have huv : u = v := by
  obtain ⟨⟨base, hv⟩, _⟩ := h
  obtain ⟨a0, len, cap, rfl⟩ := okWide_slice Tryz.underlying22 hv
  simp [Value.cells] at hu
  exact hu.symm
 subst huv
 exact ⟨xs, ls, h1⟩
theorem viewForks_law (w : World) (v0 v1 : Value) (h0 : Reads Tryz.prog w 28 v0) (h1 : Reads Tryz.prog w 22 v1) : Gives Tryz.prog 3 #[v0, v1] w (.bool true) := by
 obtain ⟨x, xs, ls, ow, ns, ts, rfl, h⟩ := some_read h0
 obtain ⟨mx, ml, hm⟩ := rows_read h1
 exact forks_walk x xs ls ow ns ts v1 mx ml w h hm

namespace viewForks
open Go.ChangeShapes Go.WideShapes Go.ChangeAt Go.RowKit
open Go.ChangeMaps (open_string shut_string)
theorem own : ownKnob Tryz.prog.godebug = none := by kernel_rfl
theorem laidOut : laidOutB Tryz.prog = true := by kernel_rfl
/-- a world in which the listed variables hold what the row says -/
noncomputable def laidW (os : Os) : World := World.laidAll Tryz.prog os Rows.viewForksRow.laid
set_option maxRecDepth 100000 in
theorem door_met (os : Os) (args : Array Value) : laidMetH Tryz.prog Rows.viewForksRow.laid ((laidW os).forCall (fun _ _ => 0) ⟨#[], args, []⟩).memory := by
 rw [MakeChecks.laidMetH_plain _ _ _ (by kernel_rfl)]
 exact laidMet_laidAll args (by kernel_rfl) (by kernel_rfl)
set_option maxRecDepth 100000 in
theorem lifted (os : Os) (started : os.Started) (H : Type) (enc : TypeId × Value → H) :
  ReturnsInHanded {} Tryz.checked os 3 .any (fun w args => (Rows.viewForksSpec.pre enc Tryz.prog Tryz.f3 Rows.viewForksRow.domain false w args ∧ laidMetH Tryz.prog Rows.viewForksRow.laid w) ∧ sizedMet enc Tryz.prog Tryz.f3 (OpenSpec.ofChange Rows.viewForksSpec) false w args) (Rows.viewForksSpec.post enc Tryz.prog Tryz.f3 false true false false) := by
 refine returnsInHanded_of_change_and (C := Tryz.checked) (X := fun w _ => laidMetH Tryz.prog Rows.viewForksRow.laid w) (fun _ _ _ hh h => h.of_heap hh) own started (by kernel_rfl) Tryz.func3
  (ChangeSpec.witness_shaped (enc := enc) (C := Tryz.checked) (os := os) (X := fun w _ => laidMetH Tryz.prog Rows.viewForksRow.laid w) false (laidW os) #[.agg #[.slice none 0 0, .slice none 0 0, .int .i64 0, .int .i64 0, .bool false, .int .u64 0, .slice none 0 0, .slice none 0 0, .int .i64 0], .slice none 0 0] 8 (World.laidAll_os _ _ _) (World.shaped_of_ZipB (by kernel_rfl) (by kernel_rfl)) (by kernel_rfl) (by kernel_rfl) (by kernel_rfl) (door_met os _)) ?_
 intro W base args ds gs before hval0 hW _ _ _ _
 have hval : ∀ (j : Nat) t v, Tryz.f3.params[j]? = some t → args[j]? = some v → Value.okWide Tryz.prog W .any base t v := hval0
 have hW' := hW
 obtain ⟨p, q, hA0, hV, rfl, hfz, hnd⟩ := hW
 have hA : DataW.TrodAll enc Tryz.prog W 0 (fun _ => true) true Tryz.f3.params.toList args.toList ds p := hA0
 rw [Tryz.params3] at hA hval
 obtain ⟨v0, vs0, d0, ds0, p0, q0, hargs, rfl, rfl, h0, r0⟩ := trodAll_cons hA
 obtain ⟨v1, vs1, d1, ds1, p1, q1, rfl, rfl, rfl, h1, r1⟩ := trodAll_cons r0
 obtain ⟨rfl, rfl, rfl⟩ := trodAll_nil r1
 obtain rfl : args = #[v0, v1] := by cases args; simp_all
 obtain ⟨rfl, rfl⟩ := trodVars_none hV
 have lt0 : ∀ x ∈ p0, x.block < W.heap.size := by obtain ⟨m, hm⟩ := h0; exact DataW.trod_lt m _ _ _ hm
 have lt1 : ∀ x ∈ p1, x.block < W.heap.size := by obtain ⟨m, hm⟩ := h1; exact DataW.trod_lt m _ _ _ hm
 clear hA0 hval0
 refine Calls.mono (viewForks_law W v0 v1 ⟨⟨_, hval 0 28 v0 rfl rfl⟩, H, enc, _, _, h0⟩ ⟨⟨_, hval 1 22 v1 rfl rfl⟩, H, enc, _, _, h1⟩) fun e W' ⟨he, bel⟩ => ?_
 subst he
 exact ⟨_, rfl, _, _, _, [], _, [], hW', trodAll_mk1 (shut_bool Tryz.underlying4 _), (trodAll_cons_mk (Below.trod laidOut (by kernel_rfl) (of_decide_eq_true (by kernel_rfl)) h0 bel lt0) (trodAll_cons_mk (Below.trod laidOut (by kernel_rfl) (of_decide_eq_true (by kernel_rfl)) h1 bel lt1) trodAll_mk0)), rfl, bel.frame _, fun h => by cases h⟩
theorem fact0 : (Rows.viewForksRow.inPlace == Program.inPlace Tryz.pinned.checked.prog 3) = true := by kernel_rfl
theorem fact1 : (Rows.viewForksRow.unfollowed == Program.unfollowed Tryz.pinned.checked.prog 3) = true := by kernel_rfl
theorem fact2 : (Rows.viewForksRow.recurses == Program.recurses Tryz.pinned.checked.prog 3) = true := by kernel_rfl
theorem fact3 : (Rows.viewForksRow.named == Program.varsNamed Tryz.pinned.checked.prog 3) = true := by kernel_rfl
theorem closed : joinedFacts Tryz.pinned.checked.prog 3 Tryz.f3 Rows.viewForksSpec Rows.viewForksRow = true := by
 unfold joinedFacts
 rw [fact0, fact1, fact2, fact3]
 refine Eq.trans (b := true) ?_ rfl
 kernel_rfl
theorem said : Rows.ViewForksSaid :=
 OpenClaim.holds_of_wide 3 Tryz.f3 rfl rfl rfl rfl rfl rfl rfl ⟨rfl, rfl, rfl, rfl, rfl⟩ rfl rfl rfl rfl rfl (by kernel_rfl) Tryz.func3 closed
  (of_decide_eq_true (by kernel_rfl)) (by unfold Func.isWrapper; first | (rw [if_pos (by decide +kernel)]; kernel_rfl) | (rw [if_neg (by decide +kernel)]; exact ⟨rfl, rfl⟩))
  (fun os started H enc _ => lifted os started H enc)
/-- no parameter wants a stand-in; the program's own looks are off -/
theorem plain (f : FuncId) (fn : Func) (hf : Tryz.pinned.checked.prog.funcNamed "vulgate/vulgatelaw19.ViewForks" = some f) (hfn : Tryz.pinned.checked.prog.funcs[f]? = some fn) :
  false = Tryz.pinned.checked.prog.looks [] ∧ ∀ (j : Nat) t, fn.params[j]? = some t → Tryz.pinned.checked.prog.wantsStandIn t = false := by
 obtain rfl : f = 3 := Option.some.inj ((show Tryz.prog.funcNamed "vulgate/vulgatelaw19.ViewForks" = some 3 by kernel_rfl).symm.trans hf) |>.symm
 obtain rfl : fn = Tryz.f3 := (Option.some.inj (Tryz.func3.symm.trans hfn)).symm
 refine ⟨by kernel_rfl, fun j t ht => ?_⟩
 rw [Tryz.params3] at ht
 have hm : t ∈ [28, 22] := by simpa using Array.mem_of_getElem? ht
 have hall : ([28, 22].all fun u => !Tryz.prog.wantsStandIn u) = true := by kernel_rfl
 exact (show Tryz.prog.wantsStandIn t = false by simpa using List.all_eq_true.1 hall t hm)
theorem proved : Rows.ViewForksCardSaid :=
 Claim7.holds_tied_plain_at .later [] _ _ _ _ said (fun _ h => by cases h) (by kernel_rfl) (fun _ h => by cases h) viewForks_row_tie rfl ⟨rfl, rfl⟩ (by kernel_rfl) rfl plain (by kernel_rfl)
#print axioms proved
end viewForks
end Go.Proofs.YteepjgdieciogaaGreatDoor

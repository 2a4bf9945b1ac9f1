/- Layer 16: IntentKeeps. -/
import Derived.Test.YtbflpnkodpeggaaDoorAct16
import Derived.Deep.CutBlock
namespace Go.Proofs.YtbflpnkodpeggaaDoor
open Go.RowKit

theorem owner_pos (n : Int) : 1 ≤ wrap64 (1 + wrap64 ((IntKind.u64.wrap n).tmod 1000)) ∧ wrap64 (1 + wrap64 ((IntKind.u64.wrap n).tmod 1000)) ≤ 1000 := by
  have h0 : 0 ≤ IntKind.u64.wrap n := by
    unfold IntKind.wrap; simp [IntKind.signed, IntKind.bits]; omega
  have h1 : 0 ≤ (IntKind.u64.wrap n).tmod 1000 ∧ (IntKind.u64.wrap n).tmod 1000 < 1000 := by
    rw [Int.tmod_eq_emod_of_nonneg h0]; omega
  generalize (IntKind.u64.wrap n).tmod 1000 = m at *
  have e1 : wrap64 m = m := by unfold wrap64; omega
  have e2 : wrap64 (1 + m) = 1 + m := by unfold wrap64; omega
  rw [e1, e2]; omega
/-- a slice of two keys -/
def PairAt (a b : K25) (v : Value) (w : World) : Prop := ∃ g, v = .slice (some ⟨g, 0, none⟩) 2 2 ∧ w.heap[g]? = some (.cells (row8 (a.val ++ b.val)) 30)
theorem PairAt.keep {a b : K25} {v : Value} {w w' : World} (h : PairAt a b v w) (hb : Below w.heap.size w w') : PairAt a b v w' := by
  obtain ⟨g, e, hh⟩ := h
  exact ⟨g, e, (hb.block g (Array.getElem?_eq_some_iff.1 hh).1).trans hh⟩
theorem PairAt.sl {a b : K25} {v : Value} {w : World} (h : PairAt a b v w) : SlA w w.heap.size 25 v (rowsK [a, b]) := by
  obtain ⟨g, rfl, hh⟩ := h
  exact (sl_two a.len b.len hh).more (Array.getElem?_eq_some_iff.1 hh).1

theorem _root_.Go.RowKit.Below.less {B B' : Nat} {w w' : World} (h : Below B w w') (hB : B' ≤ B) : Below B' w w' := ⟨h.os, h.tape, h.output, h.size, fun c hc => h.block c (by omega)⟩
/-- one call of the list -/
theorem act_at {w : World} {B c i : Nat} {a : Option Addr} {l : List Act16} (h : SlA w B 52 (.slice a l.length c) (l.map actA)) (hi : i < l.length) :
    ∃ b o, a = some ⟨b, o, none⟩ ∧ b < B ∧ w.cut? b (o + i * 52) 52 = some (actA l[i]) ∧ w.cell? ⟨b, o + i * 52, none⟩ = some (.bool l[i].out) ∧ w.cell? ⟨b, o + i * 52 + 1, none⟩ = some (.int .i64 l[i].owner) ∧
      w.cut? b (o + i * 52 + 2) 25 = some (row8 l[i].a.val) ∧ w.cut? b (o + i * 52 + 27) 25 = some (row8 l[i].b.val) := by
  obtain ⟨_, a', cap', he, _, _, hc⟩ := h
  simp only [Value.slice.injEq, List.length_map, true_and] at he
  obtain ⟨rfl, rfl⟩ := he
  obtain ⟨b, o, rfl, hlb, hcut⟩ := hc (by simp; omega)
  have h0 := hcut i (actA l[i]) (by simp [hi])
  have hs := (cut_spec h0).2
  refine ⟨b, o, rfl, hlb, h0, ?_, ?_, ?_, ?_⟩
  · have := hs 0 (by decide); rw [actA_0] at this; exact this
  · have := hs 1 (by decide); rw [actA_1] at this; exact this
  · have := cut_sub (i := 2) (m := 25) h0 (by decide); rw [actA_a] at this; exact this
  · have := cut_sub (i := 27) (m := 25) h0 (by decide); rw [actA_b] at this; exact this

set_option maxRecDepth 100000 in
set_option maxHeartbeats 8000000 in
theorem keeps_walk (w : World) (acts more : List Act16) (v0 v1 : Value) (n : Int) (k : K25) (hA : SlA w w.heap.size 52 v0 (acts.map actA)) (hM : SlA w w.heap.size 52 v1 (more.map actA)) :
    Gives Tryd.prog 3 #[v0, v1, .int .i64 n, .agg (row8 k.val)] w (.bool true) := by
  obtain ⟨a0, c0, rfl, hc0, hm0⟩ := hA.form
  obtain ⟨a1, c1, rfl, hc1, hm1⟩ := hM.form
  simp only [List.length_map] at *
  unfold maxLen at hm0 hm1
  have HA := Lib.hid hA
  have HM := Lib.hid hM
  clear hA hM
  unfold Gives
  go_enter Tryd.func3, Tryd.ntmps3
  go_upto_block 0 with fail
  have how := owner_pos n
  generalize wrap64 (1 + wrap64 ((IntKind.u64.wrap n).tmod 1000)) = ow at *
  obtain ⟨how1, how2⟩ := how
  obtain ⟨W0, hW0⟩ : ∃ W0, W0 = (w.alloc (.cells (row8 k.val) 30)).alloc (.cells #[.map none] 33) := ⟨_, rfl⟩
  have hB0 : Below w.heap.size w W0 := by rw [hW0]; exact (by repeat (first | exact below_of_grow _ _ | exact Below.refl _ _ | exact below_more _ _ _ _ | (simp only [← Array.append_assoc]; first | exact below_more _ _ _ _ | exact below_same _ _ _ | exact Below.refl _ _) | exact below_same _ _ _ | (refine Below.alloc ?_ (by first | (simp; done) | (simp; omega)) _) | (refine Below.grow ?_ (by first | (simp; done) | (simp; omega)) _ _) | refine Below.drew ?_ | refine Below.drewN ?_ _ | (refine Below.putF ?_ (by first | (simp; done) | omega | (simp; omega)) _) | (refine Below.setCell ?_ (by first | (simp; done) | (simp; omega)) _)))
  have hs0 : W0.heap.size = w.heap.size + 1 + 1 := by rw [hW0]; simp
  have hc7 : W0.cut? w.heap.size 0 25 = some (row8 k.val) := by rw [hW0]; simp [go_sem]
  have ht0 : TabAt W0 (w.heap.size + 1) [] := by rw [hW0]; have := new_tab (w.alloc (.cells (row8 k.val) 30)); simpa using this
  rw [← hW0]
  have HT0 := Lib.hid ht0
  have HB0 := Lib.hid hB0
  have HC7 := Lib.hid hc7
  clear hW0 ht0 hB0 hc7
  go_cut [10] (fun _ wx => ∃ L, Hid (TabAt wx (w.heap.size + 1) L) ∧ Hid (Kept (w.heap.size + 1) W0 wx))
  case first =>
    go_wp2_with fail
    go_loopw [10] (fun s10 wr => ∃ (i : Nat) (L : Tb), i ≤ acts.length ∧ i ≤ 40 ∧ s10 = .int .i64 i ∧ Hid (TabAt wr (w.heap.size + 1) L) ∧ Hid (Kept (w.heap.size + 1) W0 wr)) (fun s10 _ => 40 - (intOf s10).toNat)
    case atStart => exact ⟨0, [], by omega, by omega, rfl, HT0, Lib.hid (Kept.refl _ _)⟩
    case round =>
      obtain ⟨i, L, hi, hi40, rfl, HT, HK⟩ := hrel
      have hp := HT.out.lt
      have hszr : w.heap.size + 1 < wr.heap.size := hp
      have hw2 : IntKind.i64.wrap ((i : Int) + 1) = (i : Int) + 1 := by rw [IntWalk.i64_in _ (by omega)]
      by_cases hlt : i < acts.length
      · have hltI : (i : Int) < acts.length := by omega
        by_cases h40 : i < 40
        · have h40I : (i : Int) < 40 := by omega
          have hbw : Below w.heap.size w wr := HB0.out.trans (HK.out.1.less (by omega))
          obtain ⟨b, q, rfl, hlb, _, f0, f1, f2, f3⟩ := act_at (HA.out.below hbw) hlt
          have hlbr : b < wr.heap.size := by omega
          generalize acts[i] = x at *
          obtain ⟨xo, xw, xa, xb⟩ := x
          simp only at f0 f1 f2 f3
          clear hbw
          cases xo with
          | true =>
            go_wp2_with fail
            apply wp_region_specs (by rfl) [.val _, .val _, .val _, .val _, .val _, .pure _, .pure _, .val _, .val _, .val _, .pure _, .pure _, .val _, .val _, .val _, .rel (PairAt xa xb)] 16 (by rfl) [41, 42, 43, 44, 45, 46, 47, 48, 49, 50, 51, 52, 53, 54, 55, 56] [] [5, 6, 10, 11] (by rfl) (by rfl) (by decide) (by decide +kernel) (fun _ _ _ _ _ h => h)
            case hF => intro x; simp only [over, List.foldl_cons, List.foldl_nil, List.setIfInBounds_toArray, List.set_cons_succ, List.set_cons_zero]; exact rfl
            case hops =>
              refine ⟨?o0, ?o1, ?o2, ?o3, ?o4, ?o5, ?o6, ?o7, ?o8, ?o9, ?o10, ?o11, ?o12, ?o13, ?o14, ?o15, trivial⟩
              case o0 =>
                intro x w1 hH K hK
                obtain ⟨xs, d, rfl⟩ := grow_of_below hH.below
                clear hH
                try simp only [World.grow_drew, World.grow_grow] at hK ⊢
                go_simp
                go_wp2_with fail
                exact ⟨_, rfl, rfl, (by repeat (first | exact below_of_grow _ _ | exact Below.refl _ _ | exact below_more _ _ _ _ | (simp only [← Array.append_assoc]; first | exact below_more _ _ _ _ | exact below_same _ _ _ | exact Below.refl _ _) | exact below_same _ _ _ | (refine Below.alloc ?_ (by first | (simp; done) | (simp; omega)) _) | (refine Below.grow ?_ (by first | (simp; done) | (simp; omega)) _ _) | refine Below.drew ?_ | refine Below.drewN ?_ _ | (refine Below.putF ?_ (by first | (simp; done) | omega | (simp; omega)) _) | (refine Below.setCell ?_ (by first | (simp; done) | (simp; omega)) _))), fun h => by cases h⟩
              case o1 =>
                intro x w1 hH K hK
                obtain ⟨xs, d, rfl⟩ := grow_of_below hH.below
                clear hH
                try simp only [World.grow_drew, World.grow_grow] at hK ⊢
                go_simp
                go_wp2_with fail
                exact ⟨_, rfl, rfl, (by repeat (first | exact below_of_grow _ _ | exact Below.refl _ _ | exact below_more _ _ _ _ | (simp only [← Array.append_assoc]; first | exact below_more _ _ _ _ | exact below_same _ _ _ | exact Below.refl _ _) | exact below_same _ _ _ | (refine Below.alloc ?_ (by first | (simp; done) | (simp; omega)) _) | (refine Below.grow ?_ (by first | (simp; done) | (simp; omega)) _ _) | refine Below.drew ?_ | refine Below.drewN ?_ _ | (refine Below.putF ?_ (by first | (simp; done) | omega | (simp; omega)) _) | (refine Below.setCell ?_ (by first | (simp; done) | (simp; omega)) _))), fun h => by cases h⟩
              case o2 =>
                intro x w1 hH K hK
                have e41 : x 41 = _ := hH.holds 0 (by decide) (by decide +kernel) 41 rfl
                have e42 : x 42 = _ := hH.holds 1 (by decide) (by decide +kernel) 42 rfl
                obtain ⟨xs, d, rfl⟩ := grow_of_below hH.below
                clear hH
                try simp only [World.grow_drew, World.grow_grow] at hK ⊢
                simp only [e41, e42] at hK ⊢
                clear e41 e42
                go_simp
                go_wp2_with fail
                exact ⟨_, rfl, rfl, (by repeat (first | exact below_of_grow _ _ | exact Below.refl _ _ | exact below_more _ _ _ _ | (simp only [← Array.append_assoc]; first | exact below_more _ _ _ _ | exact below_same _ _ _ | exact Below.refl _ _) | exact below_same _ _ _ | (refine Below.alloc ?_ (by first | (simp; done) | (simp; omega)) _) | (refine Below.grow ?_ (by first | (simp; done) | (simp; omega)) _ _) | refine Below.drew ?_ | refine Below.drewN ?_ _ | (refine Below.putF ?_ (by first | (simp; done) | omega | (simp; omega)) _) | (refine Below.setCell ?_ (by first | (simp; done) | (simp; omega)) _))), fun h => by cases h⟩
              case o3 =>
                intro x w1 hH K hK
                have e43 : x 43 = _ := hH.holds 2 (by decide) (by decide +kernel) 43 rfl
                obtain ⟨xs, d, rfl⟩ := grow_of_below hH.below
                clear hH
                try simp only [World.grow_drew, World.grow_grow] at hK ⊢
                simp only [e43] at hK ⊢
                clear e43
                go_simp
                go_wp2_with fail
                exact ⟨_, rfl, rfl, (by repeat (first | exact below_of_grow _ _ | exact Below.refl _ _ | exact below_more _ _ _ _ | (simp only [← Array.append_assoc]; first | exact below_more _ _ _ _ | exact below_same _ _ _ | exact Below.refl _ _) | exact below_same _ _ _ | (refine Below.alloc ?_ (by first | (simp; done) | (simp; omega)) _) | (refine Below.grow ?_ (by first | (simp; done) | (simp; omega)) _ _) | refine Below.drew ?_ | refine Below.drewN ?_ _ | (refine Below.putF ?_ (by first | (simp; done) | omega | (simp; omega)) _) | (refine Below.setCell ?_ (by first | (simp; done) | (simp; omega)) _))), fun h => by cases h⟩
              case o4 =>
                intro x w1 hH K hK
                have e44 : x 44 = _ := hH.holds 3 (by decide) (by decide +kernel) 44 rfl
                obtain ⟨xs, d, rfl⟩ := grow_of_below hH.below
                clear hH
                try simp only [World.grow_drew, World.grow_grow] at hK ⊢
                simp only [e44] at hK ⊢
                clear e44
                go_simp
                go_wp2_with fail
                exact ⟨_, rfl, rfl, (by repeat (first | exact below_of_grow _ _ | exact Below.refl _ _ | exact below_more _ _ _ _ | (simp only [← Array.append_assoc]; first | exact below_more _ _ _ _ | exact below_same _ _ _ | exact Below.refl _ _) | exact below_same _ _ _ | (refine Below.alloc ?_ (by first | (simp; done) | (simp; omega)) _) | (refine Below.grow ?_ (by first | (simp; done) | (simp; omega)) _ _) | refine Below.drew ?_ | refine Below.drewN ?_ _ | (refine Below.putF ?_ (by first | (simp; done) | omega | (simp; omega)) _) | (refine Below.setCell ?_ (by first | (simp; done) | (simp; omega)) _))), fun h => by cases h⟩
              case o5 =>
                intro x w1 hH
                clear hH
                exact Or.inl ⟨rfl, fun _ => rfl⟩
              case o6 =>
                intro x w1 hH
                clear hH
                exact Or.inl ⟨rfl, fun _ => rfl⟩
              case o7 =>
                intro x w1 hH K hK
                have e46 : x 46 = _ := hH.holds 5 (by decide) (by decide +kernel) 46 rfl
                have e47 : x 47 = _ := hH.holds 6 (by decide) (by decide +kernel) 47 rfl
                obtain ⟨xs, d, rfl⟩ := grow_of_below hH.below
                clear hH
                try simp only [World.grow_drew, World.grow_grow] at hK ⊢
                simp only [e46, e47] at hK ⊢
                clear e46 e47
                go_simp
                go_wp2_with fail
                exact ⟨_, rfl, rfl, (by repeat (first | exact below_of_grow _ _ | exact Below.refl _ _ | exact below_more _ _ _ _ | (simp only [← Array.append_assoc]; first | exact below_more _ _ _ _ | exact below_same _ _ _ | exact Below.refl _ _) | exact below_same _ _ _ | (refine Below.alloc ?_ (by first | (simp; done) | (simp; omega)) _) | (refine Below.grow ?_ (by first | (simp; done) | (simp; omega)) _ _) | refine Below.drew ?_ | refine Below.drewN ?_ _ | (refine Below.putF ?_ (by first | (simp; done) | omega | (simp; omega)) _) | (refine Below.setCell ?_ (by first | (simp; done) | (simp; omega)) _))), fun h => by cases h⟩
              case o8 =>
                intro x w1 hH K hK
                have e48 : x 48 = _ := hH.holds 7 (by decide) (by decide +kernel) 48 rfl
                obtain ⟨xs, d, rfl⟩ := grow_of_below hH.below
                clear hH
                try simp only [World.grow_drew, World.grow_grow] at hK ⊢
                simp only [e48] at hK ⊢
                clear e48
                go_simp
                go_wp2_with fail
                exact ⟨_, rfl, rfl, (by repeat (first | exact below_of_grow _ _ | exact Below.refl _ _ | exact below_more _ _ _ _ | (simp only [← Array.append_assoc]; first | exact below_more _ _ _ _ | exact below_same _ _ _ | exact Below.refl _ _) | exact below_same _ _ _ | (refine Below.alloc ?_ (by first | (simp; done) | (simp; omega)) _) | (refine Below.grow ?_ (by first | (simp; done) | (simp; omega)) _ _) | refine Below.drew ?_ | refine Below.drewN ?_ _ | (refine Below.putF ?_ (by first | (simp; done) | omega | (simp; omega)) _) | (refine Below.setCell ?_ (by first | (simp; done) | (simp; omega)) _))), fun h => by cases h⟩
              case o9 =>
                intro x w1 hH K hK
                have e49 : x 49 = _ := hH.holds 8 (by decide) (by decide +kernel) 49 rfl
                obtain ⟨xs, d, rfl⟩ := grow_of_below hH.below
                clear hH
                try simp only [World.grow_drew, World.grow_grow] at hK ⊢
                simp only [e49] at hK ⊢
                clear e49
                go_simp
                go_wp2_with fail
                exact ⟨_, rfl, rfl, (by repeat (first | exact below_of_grow _ _ | exact Below.refl _ _ | exact below_more _ _ _ _ | (simp only [← Array.append_assoc]; first | exact below_more _ _ _ _ | exact below_same _ _ _ | exact Below.refl _ _) | exact below_same _ _ _ | (refine Below.alloc ?_ (by first | (simp; done) | (simp; omega)) _) | (refine Below.grow ?_ (by first | (simp; done) | (simp; omega)) _ _) | refine Below.drew ?_ | refine Below.drewN ?_ _ | (refine Below.putF ?_ (by first | (simp; done) | omega | (simp; omega)) _) | (refine Below.setCell ?_ (by first | (simp; done) | (simp; omega)) _))), fun h => by cases h⟩
              case o10 =>
                intro x w1 hH
                clear hH
                exact Or.inl ⟨rfl, fun _ => rfl⟩
              case o11 =>
                intro x w1 hH
                clear hH
                exact Or.inl ⟨rfl, fun _ => rfl⟩
              case o12 =>
                intro x w1 hH K hK
                have e51 : x 51 = _ := hH.holds 10 (by decide) (by decide +kernel) 51 rfl
                have e52 : x 52 = _ := hH.holds 11 (by decide) (by decide +kernel) 52 rfl
                obtain ⟨xs, d, rfl⟩ := grow_of_below hH.below
                clear hH
                try simp only [World.grow_drew, World.grow_grow] at hK ⊢
                simp only [e51, e52] at hK ⊢
                clear e51 e52
                go_simp
                go_wp2_with fail
                exact ⟨_, rfl, rfl, (by repeat (first | exact below_of_grow _ _ | exact Below.refl _ _ | exact below_more _ _ _ _ | (simp only [← Array.append_assoc]; first | exact below_more _ _ _ _ | exact below_same _ _ _ | exact Below.refl _ _) | exact below_same _ _ _ | (refine Below.alloc ?_ (by first | (simp; done) | (simp; omega)) _) | (refine Below.grow ?_ (by first | (simp; done) | (simp; omega)) _ _) | refine Below.drew ?_ | refine Below.drewN ?_ _ | (refine Below.putF ?_ (by first | (simp; done) | omega | (simp; omega)) _) | (refine Below.setCell ?_ (by first | (simp; done) | (simp; omega)) _))), fun h => by cases h⟩
              case o13 =>
                intro x w1 hH K hK
                have e53 : x 53 = _ := hH.holds 12 (by decide) (by decide +kernel) 53 rfl
                obtain ⟨xs, d, rfl⟩ := grow_of_below hH.below
                clear hH
                try simp only [World.grow_drew, World.grow_grow] at hK ⊢
                simp only [e53] at hK ⊢
                clear e53
                go_simp
                go_wp2_with fail
                exact ⟨_, rfl, rfl, (by repeat (first | exact below_of_grow _ _ | exact Below.refl _ _ | exact below_more _ _ _ _ | (simp only [← Array.append_assoc]; first | exact below_more _ _ _ _ | exact below_same _ _ _ | exact Below.refl _ _) | exact below_same _ _ _ | (refine Below.alloc ?_ (by first | (simp; done) | (simp; omega)) _) | (refine Below.grow ?_ (by first | (simp; done) | (simp; omega)) _ _) | refine Below.drew ?_ | refine Below.drewN ?_ _ | (refine Below.putF ?_ (by first | (simp; done) | omega | (simp; omega)) _) | (refine Below.setCell ?_ (by first | (simp; done) | (simp; omega)) _))), fun h => by cases h⟩
              case o14 =>
                intro x w1 hH K hK
                have e54 : x 54 = _ := hH.holds 13 (by decide) (by decide +kernel) 54 rfl
                obtain ⟨xs, d, rfl⟩ := grow_of_below hH.below
                clear hH
                try simp only [World.grow_drew, World.grow_grow] at hK ⊢
                simp only [e54] at hK ⊢
                clear e54
                go_simp
                go_wp2_with fail
                exact ⟨_, rfl, rfl, (by repeat (first | exact below_of_grow _ _ | exact Below.refl _ _ | exact below_more _ _ _ _ | (simp only [← Array.append_assoc]; first | exact below_more _ _ _ _ | exact below_same _ _ _ | exact Below.refl _ _) | exact below_same _ _ _ | (refine Below.alloc ?_ (by first | (simp; done) | (simp; omega)) _) | (refine Below.grow ?_ (by first | (simp; done) | (simp; omega)) _ _) | refine Below.drew ?_ | refine Below.drewN ?_ _ | (refine Below.putF ?_ (by first | (simp; done) | omega | (simp; omega)) _) | (refine Below.setCell ?_ (by first | (simp; done) | (simp; omega)) _))), fun h => by cases h⟩
              case o15 =>
                intro x w1 hH K hK
                have e50 : x 50 = _ := hH.holds 9 (by decide) (by decide +kernel) 50 rfl
                have e55 : x 55 = _ := hH.holds 14 (by decide) (by decide +kernel) 55 rfl
                obtain ⟨xs, d, rfl⟩ := grow_of_below hH.below
                clear hH
                try simp only [World.grow_drew, World.grow_grow] at hK ⊢
                simp only [e50, e55] at hK ⊢
                clear e50 e55
                go_simp
                go_wp2_with fail
                exact ⟨_, rfl, fun w3 h3 => PairAt.keep ⟨_, rfl, by rw [heap_al, if_pos (by simp)]⟩ h3, (by repeat (first | exact below_of_grow _ _ | exact Below.refl _ _ | exact below_more _ _ _ _ | (simp only [← Array.append_assoc]; first | exact below_more _ _ _ _ | exact below_same _ _ _ | exact Below.refl _ _) | exact below_same _ _ _ | (refine Below.alloc ?_ (by first | (simp; done) | (simp; omega)) _) | (refine Below.grow ?_ (by first | (simp; done) | (simp; omega)) _ _) | refine Below.drew ?_ | refine Below.drewN ?_ _ | (refine Below.putF ?_ (by first | (simp; done) | omega | (simp; omega)) _) | (refine Below.setCell ?_ (by first | (simp; done) | (simp; omega)) _))), fun h => by cases h⟩
            case hend =>
              intro x w1 hH
              have e41 : x 41 = _ := hH.holds 0 (by decide) trivial 41 rfl
              have e42 : x 42 = _ := hH.holds 1 (by decide) trivial 42 rfl
              have e43 : x 43 = _ := hH.holds 2 (by decide) trivial 43 rfl
              have e44 : x 44 = _ := hH.holds 3 (by decide) trivial 44 rfl
              have e45 : x 45 = _ := hH.holds 4 (by decide) trivial 45 rfl
              have e46 : x 46 = _ := hH.holds 5 (by decide) trivial 46 rfl
              have e47 : x 47 = _ := hH.holds 6 (by decide) trivial 47 rfl
              have e48 : x 48 = _ := hH.holds 7 (by decide) trivial 48 rfl
              have e49 : x 49 = _ := hH.holds 8 (by decide) trivial 49 rfl
              have e50 : x 50 = _ := hH.holds 9 (by decide) trivial 50 rfl
              have e51 : x 51 = _ := hH.holds 10 (by decide) trivial 51 rfl
              have e52 : x 52 = _ := hH.holds 11 (by decide) trivial 52 rfl
              have e53 : x 53 = _ := hH.holds 12 (by decide) trivial 53 rfl
              have e54 : x 54 = _ := hH.holds 13 (by decide) trivial 54 rfl
              have e55 : x 55 = _ := hH.holds 14 (by decide) trivial 55 rfl
              have r56 := hH.holds 15 (by decide) trivial 56 rfl (_) (Below.refl _ _)
              obtain ⟨xs, d, rfl⟩ := grow_of_below hH.below
              clear hH
              simp only [e41, e42, e43, e44, e45, e46, e47, e48, e49, e50, e51, e52, e53, e54, e55]; clear e41 e42 e43 e44 e45 e46 e47 e48 e49 e50 e51 e52 e53 e54 e55
              simp only [List.drop_succ_cons, List.drop_zero]
              go_wp2_with (go_at_call 4; refine (drop_calls xw [xa, xb] (by simp) L _ _ _ (HT.out.drew.grow _ _) r56.sl).mono ?_; rintro e w2 ⟨rfl, ht2, hk2⟩)
              have HT2 := Lib.hid ht2
              have HK2 := Lib.hid ((HK.out.drew.grow (by omega) _ _).trans hk2)
              clear ht2 hk2
              go_wp2_with fail
              go_roundw
              case rel => exact ⟨i + 1, _, by omega, by omega, by go_num, HT2, HK2⟩
              case measure => simp [intOf]; omega
          | false =>
            go_wp2_with fail
            apply wp_region_specs (by rfl) [.val _, .val _, .val _, .val _, .val _, .pure _, .pure _, .val _, .val _, .val _, .pure _, .pure _, .val _, .val _, .val _, .rel (PairAt xa xb)] 16 (by rfl) [58, 59, 60, 61, 62, 63, 64, 65, 66, 67, 68, 69, 70, 71, 72, 73] [] [5, 6, 10, 11] (by rfl) (by rfl) (by decide) (by decide +kernel) (fun _ _ _ _ _ h => h)
            case hF => intro x; simp only [over, List.foldl_cons, List.foldl_nil, List.setIfInBounds_toArray, List.set_cons_succ, List.set_cons_zero]; exact rfl
            case hops =>
              refine ⟨?o0, ?o1, ?o2, ?o3, ?o4, ?o5, ?o6, ?o7, ?o8, ?o9, ?o10, ?o11, ?o12, ?o13, ?o14, ?o15, trivial⟩
              case o0 =>
                intro x w1 hH K hK
                obtain ⟨xs, d, rfl⟩ := grow_of_below hH.below
                clear hH
                try simp only [World.grow_drew, World.grow_grow] at hK ⊢
                go_simp
                go_wp2_with fail
                exact ⟨_, rfl, rfl, (by repeat (first | exact below_of_grow _ _ | exact Below.refl _ _ | exact below_more _ _ _ _ | (simp only [← Array.append_assoc]; first | exact below_more _ _ _ _ | exact below_same _ _ _ | exact Below.refl _ _) | exact below_same _ _ _ | (refine Below.alloc ?_ (by first | (simp; done) | (simp; omega)) _) | (refine Below.grow ?_ (by first | (simp; done) | (simp; omega)) _ _) | refine Below.drew ?_ | refine Below.drewN ?_ _ | (refine Below.putF ?_ (by first | (simp; done) | omega | (simp; omega)) _) | (refine Below.setCell ?_ (by first | (simp; done) | (simp; omega)) _))), fun h => by cases h⟩
              case o1 =>
                intro x w1 hH K hK
                obtain ⟨xs, d, rfl⟩ := grow_of_below hH.below
                clear hH
                try simp only [World.grow_drew, World.grow_grow] at hK ⊢
                go_simp
                go_wp2_with fail
                exact ⟨_, rfl, rfl, (by repeat (first | exact below_of_grow _ _ | exact Below.refl _ _ | exact below_more _ _ _ _ | (simp only [← Array.append_assoc]; first | exact below_more _ _ _ _ | exact below_same _ _ _ | exact Below.refl _ _) | exact below_same _ _ _ | (refine Below.alloc ?_ (by first | (simp; done) | (simp; omega)) _) | (refine Below.grow ?_ (by first | (simp; done) | (simp; omega)) _ _) | refine Below.drew ?_ | refine Below.drewN ?_ _ | (refine Below.putF ?_ (by first | (simp; done) | omega | (simp; omega)) _) | (refine Below.setCell ?_ (by first | (simp; done) | (simp; omega)) _))), fun h => by cases h⟩
              case o2 =>
                intro x w1 hH K hK
                have e58 : x 58 = _ := hH.holds 0 (by decide) (by decide +kernel) 58 rfl
                have e59 : x 59 = _ := hH.holds 1 (by decide) (by decide +kernel) 59 rfl
                obtain ⟨xs, d, rfl⟩ := grow_of_below hH.below
                clear hH
                try simp only [World.grow_drew, World.grow_grow] at hK ⊢
                simp only [e58, e59] at hK ⊢
                clear e58 e59
                go_simp
                go_wp2_with fail
                exact ⟨_, rfl, rfl, (by repeat (first | exact below_of_grow _ _ | exact Below.refl _ _ | exact below_more _ _ _ _ | (simp only [← Array.append_assoc]; first | exact below_more _ _ _ _ | exact below_same _ _ _ | exact Below.refl _ _) | exact below_same _ _ _ | (refine Below.alloc ?_ (by first | (simp; done) | (simp; omega)) _) | (refine Below.grow ?_ (by first | (simp; done) | (simp; omega)) _ _) | refine Below.drew ?_ | refine Below.drewN ?_ _ | (refine Below.putF ?_ (by first | (simp; done) | omega | (simp; omega)) _) | (refine Below.setCell ?_ (by first | (simp; done) | (simp; omega)) _))), fun h => by cases h⟩
              case o3 =>
                intro x w1 hH K hK
                have e60 : x 60 = _ := hH.holds 2 (by decide) (by decide +kernel) 60 rfl
                obtain ⟨xs, d, rfl⟩ := grow_of_below hH.below
                clear hH
                try simp only [World.grow_drew, World.grow_grow] at hK ⊢
                simp only [e60] at hK ⊢
                clear e60
                go_simp
                go_wp2_with fail
                exact ⟨_, rfl, rfl, (by repeat (first | exact below_of_grow _ _ | exact Below.refl _ _ | exact below_more _ _ _ _ | (simp only [← Array.append_assoc]; first | exact below_more _ _ _ _ | exact below_same _ _ _ | exact Below.refl _ _) | exact below_same _ _ _ | (refine Below.alloc ?_ (by first | (simp; done) | (simp; omega)) _) | (refine Below.grow ?_ (by first | (simp; done) | (simp; omega)) _ _) | refine Below.drew ?_ | refine Below.drewN ?_ _ | (refine Below.putF ?_ (by first | (simp; done) | omega | (simp; omega)) _) | (refine Below.setCell ?_ (by first | (simp; done) | (simp; omega)) _))), fun h => by cases h⟩
              case o4 =>
                intro x w1 hH K hK
                have e61 : x 61 = _ := hH.holds 3 (by decide) (by decide +kernel) 61 rfl
                obtain ⟨xs, d, rfl⟩ := grow_of_below hH.below
                clear hH
                try simp only [World.grow_drew, World.grow_grow] at hK ⊢
                simp only [e61] at hK ⊢
                clear e61
                go_simp
                go_wp2_with fail
                exact ⟨_, rfl, rfl, (by repeat (first | exact below_of_grow _ _ | exact Below.refl _ _ | exact below_more _ _ _ _ | (simp only [← Array.append_assoc]; first | exact below_more _ _ _ _ | exact below_same _ _ _ | exact Below.refl _ _) | exact below_same _ _ _ | (refine Below.alloc ?_ (by first | (simp; done) | (simp; omega)) _) | (refine Below.grow ?_ (by first | (simp; done) | (simp; omega)) _ _) | refine Below.drew ?_ | refine Below.drewN ?_ _ | (refine Below.putF ?_ (by first | (simp; done) | omega | (simp; omega)) _) | (refine Below.setCell ?_ (by first | (simp; done) | (simp; omega)) _))), fun h => by cases h⟩
              case o5 =>
                intro x w1 hH
                clear hH
                exact Or.inl ⟨rfl, fun _ => rfl⟩
              case o6 =>
                intro x w1 hH
                clear hH
                exact Or.inl ⟨rfl, fun _ => rfl⟩
              case o7 =>
                intro x w1 hH K hK
                have e63 : x 63 = _ := hH.holds 5 (by decide) (by decide +kernel) 63 rfl
                have e64 : x 64 = _ := hH.holds 6 (by decide) (by decide +kernel) 64 rfl
                obtain ⟨xs, d, rfl⟩ := grow_of_below hH.below
                clear hH
                try simp only [World.grow_drew, World.grow_grow] at hK ⊢
                simp only [e63, e64] at hK ⊢
                clear e63 e64
                go_simp
                go_wp2_with fail
                exact ⟨_, rfl, rfl, (by repeat (first | exact below_of_grow _ _ | exact Below.refl _ _ | exact below_more _ _ _ _ | (simp only [← Array.append_assoc]; first | exact below_more _ _ _ _ | exact below_same _ _ _ | exact Below.refl _ _) | exact below_same _ _ _ | (refine Below.alloc ?_ (by first | (simp; done) | (simp; omega)) _) | (refine Below.grow ?_ (by first | (simp; done) | (simp; omega)) _ _) | refine Below.drew ?_ | refine Below.drewN ?_ _ | (refine Below.putF ?_ (by first | (simp; done) | omega | (simp; omega)) _) | (refine Below.setCell ?_ (by first | (simp; done) | (simp; omega)) _))), fun h => by cases h⟩
              case o8 =>
                intro x w1 hH K hK
                have e65 : x 65 = _ := hH.holds 7 (by decide) (by decide +kernel) 65 rfl
                obtain ⟨xs, d, rfl⟩ := grow_of_below hH.below
                clear hH
                try simp only [World.grow_drew, World.grow_grow] at hK ⊢
                simp only [e65] at hK ⊢
                clear e65
                go_simp
                go_wp2_with fail
                exact ⟨_, rfl, rfl, (by repeat (first | exact below_of_grow _ _ | exact Below.refl _ _ | exact below_more _ _ _ _ | (simp only [← Array.append_assoc]; first | exact below_more _ _ _ _ | exact below_same _ _ _ | exact Below.refl _ _) | exact below_same _ _ _ | (refine Below.alloc ?_ (by first | (simp; done) | (simp; omega)) _) | (refine Below.grow ?_ (by first | (simp; done) | (simp; omega)) _ _) | refine Below.drew ?_ | refine Below.drewN ?_ _ | (refine Below.putF ?_ (by first | (simp; done) | omega | (simp; omega)) _) | (refine Below.setCell ?_ (by first | (simp; done) | (simp; omega)) _))), fun h => by cases h⟩
              case o9 =>
                intro x w1 hH K hK
                have e66 : x 66 = _ := hH.holds 8 (by decide) (by decide +kernel) 66 rfl
                obtain ⟨xs, d, rfl⟩ := grow_of_below hH.below
                clear hH
                try simp only [World.grow_drew, World.grow_grow] at hK ⊢
                simp only [e66] at hK ⊢
                clear e66
                go_simp
                go_wp2_with fail
                exact ⟨_, rfl, rfl, (by repeat (first | exact below_of_grow _ _ | exact Below.refl _ _ | exact below_more _ _ _ _ | (simp only [← Array.append_assoc]; first | exact below_more _ _ _ _ | exact below_same _ _ _ | exact Below.refl _ _) | exact below_same _ _ _ | (refine Below.alloc ?_ (by first | (simp; done) | (simp; omega)) _) | (refine Below.grow ?_ (by first | (simp; done) | (simp; omega)) _ _) | refine Below.drew ?_ | refine Below.drewN ?_ _ | (refine Below.putF ?_ (by first | (simp; done) | omega | (simp; omega)) _) | (refine Below.setCell ?_ (by first | (simp; done) | (simp; omega)) _))), fun h => by cases h⟩
              case o10 =>
                intro x w1 hH
                clear hH
                exact Or.inl ⟨rfl, fun _ => rfl⟩
              case o11 =>
                intro x w1 hH
                clear hH
                exact Or.inl ⟨rfl, fun _ => rfl⟩
              case o12 =>
                intro x w1 hH K hK
                have e68 : x 68 = _ := hH.holds 10 (by decide) (by decide +kernel) 68 rfl
                have e69 : x 69 = _ := hH.holds 11 (by decide) (by decide +kernel) 69 rfl
                obtain ⟨xs, d, rfl⟩ := grow_of_below hH.below
                clear hH
                try simp only [World.grow_drew, World.grow_grow] at hK ⊢
                simp only [e68, e69] at hK ⊢
                clear e68 e69
                go_simp
                go_wp2_with fail
                exact ⟨_, rfl, rfl, (by repeat (first | exact below_of_grow _ _ | exact Below.refl _ _ | exact below_more _ _ _ _ | (simp only [← Array.append_assoc]; first | exact below_more _ _ _ _ | exact below_same _ _ _ | exact Below.refl _ _) | exact below_same _ _ _ | (refine Below.alloc ?_ (by first | (simp; done) | (simp; omega)) _) | (refine Below.grow ?_ (by first | (simp; done) | (simp; omega)) _ _) | refine Below.drew ?_ | refine Below.drewN ?_ _ | (refine Below.putF ?_ (by first | (simp; done) | omega | (simp; omega)) _) | (refine Below.setCell ?_ (by first | (simp; done) | (simp; omega)) _))), fun h => by cases h⟩
              case o13 =>
                intro x w1 hH K hK
                have e70 : x 70 = _ := hH.holds 12 (by decide) (by decide +kernel) 70 rfl
                obtain ⟨xs, d, rfl⟩ := grow_of_below hH.below
                clear hH
                try simp only [World.grow_drew, World.grow_grow] at hK ⊢
                simp only [e70] at hK ⊢
                clear e70
                go_simp
                go_wp2_with fail
                exact ⟨_, rfl, rfl, (by repeat (first | exact below_of_grow _ _ | exact Below.refl _ _ | exact below_more _ _ _ _ | (simp only [← Array.append_assoc]; first | exact below_more _ _ _ _ | exact below_same _ _ _ | exact Below.refl _ _) | exact below_same _ _ _ | (refine Below.alloc ?_ (by first | (simp; done) | (simp; omega)) _) | (refine Below.grow ?_ (by first | (simp; done) | (simp; omega)) _ _) | refine Below.drew ?_ | refine Below.drewN ?_ _ | (refine Below.putF ?_ (by first | (simp; done) | omega | (simp; omega)) _) | (refine Below.setCell ?_ (by first | (simp; done) | (simp; omega)) _))), fun h => by cases h⟩
              case o14 =>
                intro x w1 hH K hK
                have e71 : x 71 = _ := hH.holds 13 (by decide) (by decide +kernel) 71 rfl
                obtain ⟨xs, d, rfl⟩ := grow_of_below hH.below
                clear hH
                try simp only [World.grow_drew, World.grow_grow] at hK ⊢
                simp only [e71] at hK ⊢
                clear e71
                go_simp
                go_wp2_with fail
                exact ⟨_, rfl, rfl, (by repeat (first | exact below_of_grow _ _ | exact Below.refl _ _ | exact below_more _ _ _ _ | (simp only [← Array.append_assoc]; first | exact below_more _ _ _ _ | exact below_same _ _ _ | exact Below.refl _ _) | exact below_same _ _ _ | (refine Below.alloc ?_ (by first | (simp; done) | (simp; omega)) _) | (refine Below.grow ?_ (by first | (simp; done) | (simp; omega)) _ _) | refine Below.drew ?_ | refine Below.drewN ?_ _ | (refine Below.putF ?_ (by first | (simp; done) | omega | (simp; omega)) _) | (refine Below.setCell ?_ (by first | (simp; done) | (simp; omega)) _))), fun h => by cases h⟩
              case o15 =>
                intro x w1 hH K hK
                have e67 : x 67 = _ := hH.holds 9 (by decide) (by decide +kernel) 67 rfl
                have e72 : x 72 = _ := hH.holds 14 (by decide) (by decide +kernel) 72 rfl
                obtain ⟨xs, d, rfl⟩ := grow_of_below hH.below
                clear hH
                try simp only [World.grow_drew, World.grow_grow] at hK ⊢
                simp only [e67, e72] at hK ⊢
                clear e67 e72
                go_simp
                go_wp2_with fail
                exact ⟨_, rfl, fun w3 h3 => PairAt.keep ⟨_, rfl, by rw [heap_al, if_pos (by simp)]⟩ h3, (by repeat (first | exact below_of_grow _ _ | exact Below.refl _ _ | exact below_more _ _ _ _ | (simp only [← Array.append_assoc]; first | exact below_more _ _ _ _ | exact below_same _ _ _ | exact Below.refl _ _) | exact below_same _ _ _ | (refine Below.alloc ?_ (by first | (simp; done) | (simp; omega)) _) | (refine Below.grow ?_ (by first | (simp; done) | (simp; omega)) _ _) | refine Below.drew ?_ | refine Below.drewN ?_ _ | (refine Below.putF ?_ (by first | (simp; done) | omega | (simp; omega)) _) | (refine Below.setCell ?_ (by first | (simp; done) | (simp; omega)) _))), fun h => by cases h⟩
            case hend =>
              intro x w1 hH
              have e58 : x 58 = _ := hH.holds 0 (by decide) trivial 58 rfl
              have e59 : x 59 = _ := hH.holds 1 (by decide) trivial 59 rfl
              have e60 : x 60 = _ := hH.holds 2 (by decide) trivial 60 rfl
              have e61 : x 61 = _ := hH.holds 3 (by decide) trivial 61 rfl
              have e62 : x 62 = _ := hH.holds 4 (by decide) trivial 62 rfl
              have e63 : x 63 = _ := hH.holds 5 (by decide) trivial 63 rfl
              have e64 : x 64 = _ := hH.holds 6 (by decide) trivial 64 rfl
              have e65 : x 65 = _ := hH.holds 7 (by decide) trivial 65 rfl
              have e66 : x 66 = _ := hH.holds 8 (by decide) trivial 66 rfl
              have e67 : x 67 = _ := hH.holds 9 (by decide) trivial 67 rfl
              have e68 : x 68 = _ := hH.holds 10 (by decide) trivial 68 rfl
              have e69 : x 69 = _ := hH.holds 11 (by decide) trivial 69 rfl
              have e70 : x 70 = _ := hH.holds 12 (by decide) trivial 70 rfl
              have e71 : x 71 = _ := hH.holds 13 (by decide) trivial 71 rfl
              have e72 : x 72 = _ := hH.holds 14 (by decide) trivial 72 rfl
              have r73 := hH.holds 15 (by decide) trivial 73 rfl (_) (Below.refl _ _)
              obtain ⟨xs, d, rfl⟩ := grow_of_below hH.below
              clear hH
              simp only [e58, e59, e60, e61, e62, e63, e64, e65, e66, e67, e68, e69, e70, e71, e72]; clear e58 e59 e60 e61 e62 e63 e64 e65 e66 e67 e68 e69 e70 e71 e72
              simp only [List.drop_succ_cons, List.drop_zero]
              go_wp2_with (go_at_call 5; refine (take_calls xw [xa, xb] (by simp) L _ _ _ (HT.out.drew.grow _ _) r73.sl).mono ?_; rintro e w2 ⟨rfl, ht2, hk2⟩)
              have HT2 := Lib.hid ht2
              have HK2 := Lib.hid ((HK.out.drew.grow (by omega) _ _).trans hk2)
              clear ht2 hk2
              go_wp2_with fail
              go_roundw
              case rel => exact ⟨i + 1, _, by omega, by omega, by go_num, HT2, HK2⟩
              case measure => simp [intOf]; omega
        · have h40I : decide ((i : Int) < 40) = false := by simp; omega
          go_wp2_with fail
          go_meet
          exact ⟨L, HT, HK⟩
      · have hltI : decide ((i : Int) < acts.length) = false := by simp; omega
        go_wp2_with fail
        go_meet
        exact ⟨L, HT, HK⟩
  case rest =>
  obtain ⟨L, HT, HK⟩ := hcut
  have hp := HT.out.lt
  have d7 := HK.out.cut (b := w.heap.size) (by omega) HC7.out
  have l7 : w.heap.size < wc.heap.size := by omega
  go_wp2_with fail
  refine (take_calls ow [k] (by simp) L _ _ _ (HT.out.alloc _) ?_).mono ?_
  · have := sl_key k.len (_root_.Go.heap_alloc_new wc (.cells (row8 k.val) 30))
    simpa using this
  rintro e w2 ⟨rfl, ht2, hk2⟩
  have hkk := (HK.out.alloc (by omega) (.cells (row8 k.val) 30)).trans hk2
  have e7 := hkk.cut (b := w.heap.size) (by omega) HC7.out
  have m7 : w.heap.size < w2.heap.size := by have := hk2.2.1; simp at this; omega
  have HK2 := Lib.hid hkk
  clear hk2 hkk d7 l7
  have HF := Lib.hid (HB0.out.trans (HK2.out.1.less (by omega : w.heap.size ≤ w.heap.size + 1)))
  rcases take_one how1 k L with ⟨hr, he⟩ | ⟨hr, ⟨x, hx, hl, he⟩ | ⟨hl, he⟩⟩
  · rw [he] at ht2 ⊢
    have how := owner_gives w2 _ L k ht2
    have hri := keyRight_gives k.val k.len
    rw [hr] at hri
    have HO := Lib.hid how
    have HR := Lib.hid hri
    clear how hri ht2 he hr HA HM HT0
    go_wp2_with (first | (go_at_call 6; refine Gives.use HO.out ?_; intro xs0 d0) | (go_at_call 7; refine Gives.use (known_gives _) ?_; intro xs1 d1) | (go_at_call 8; refine Gives.use (HR.out _) ?_; intro xs2 d2))
    all_goals
      go_ret
      exact ⟨rfl, HF.out.grow (by omega) _ _⟩
  · rw [he] at ht2 ⊢
    have how := owner_gives w2 _ L k ht2
    have hri := keyRight_gives k.val k.len
    rw [hr] at hri
    have hoe : ownT L k = x := by unfold ownT; rw [hl]; rfl
    rw [hoe, hl] at how
    have hxe : (x != ow) = true := by simpa using hx
    clear hoe hl hx
    have HO := Lib.hid how
    have HR := Lib.hid hri
    clear how hri ht2 he hr HA HM HT0
    go_wp2_with (first | (go_at_call 6; refine Gives.use HO.out ?_; intro xs0 d0) | (go_at_call 7; refine Gives.use (known_gives _) ?_; intro xs1 d1) | (go_at_call 8; refine Gives.use (HR.out _) ?_; intro xs2 d2))
    all_goals
      go_ret
      exact ⟨rfl, HF.out.grow (by omega) _ _⟩
  · rw [he]
    generalize (takeT ow [k] L).2.1 = n2
    generalize (takeT ow [k] L).1 = L2 at ht2 hl
    have HT2 := Lib.hid ht2
    have HR := Lib.hid hr
    have HL := Lib.hid hl
    clear ht2 he hr hl HA HT0
    go_upto_block 2 with fail
    go_cut [15] (fun _ wx => ∃ L3, Hid (TabAt wx (w.heap.size + 1) L3) ∧ Hid (Kept (w.heap.size + 1) W0 wx) ∧ Hid (lk L3 k = some ow))
    case first =>
      go_wp2_with fail
      go_loopw [15] (fun s15 wr => ∃ (i : Nat) (L3 : Tb), i ≤ more.length ∧ i ≤ 40 ∧ s15 = .int .i64 i ∧ Hid (TabAt wr (w.heap.size + 1) L3) ∧ Hid (Kept (w.heap.size + 1) W0 wr) ∧ Hid (lk L3 k = some ow)) (fun s15 _ => 40 - (intOf s15).toNat)
      case atStart => exact ⟨0, L2, by omega, by omega, rfl, HT2, HK2, HL⟩
      case round =>
        obtain ⟨i, L3, hi, hi40, rfl, HT3, HK3, HL3⟩ := hrel
        have hp3 := HT3.out.lt
        have hw2 : IntKind.i64.wrap ((i : Int) + 1) = (i : Int) + 1 := by rw [IntWalk.i64_in _ (by omega)]
        by_cases hlt : i < more.length
        · have hltI : (i : Int) < more.length := by omega
          by_cases h40 : i < 40
          · have h40I : (i : Int) < 40 := by omega
            have hbw : Below w.heap.size w wr := HB0.out.trans (HK3.out.1.less (by omega))
            obtain ⟨b, q, rfl, hlb, f9, f0, f1, f2, f3⟩ := act_at (HM.out.below hbw) hlt
            have hlbr : b < wr.heap.size := by omega
            have e7 := HK3.out.cut (b := w.heap.size) (by omega) HC7.out
            have m7 : w.heap.size < wr.heap.size := by omega
            generalize more[i] = x at *
            obtain ⟨xo, xw, xa, xb⟩ := x
            simp only at f0 f1 f2 f3
            clear hbw f0 f1 f2 f3
            have hfin : ∀ w2, Hid (TabAt w2 (w.heap.size + 1) L3) → True := fun _ _ => trivial
            clear hfin
            by_cases hxo : xw = ow
            · subst hxo
              have hne : (xw != xw) = false := by simp
              have hne2 : (xw == xw) = true := by simp
              have how := fun W h => owner_gives W (w.heap.size + 1) L3 k h
              have hoe : ownT L3 k = xw := by unfold ownT; rw [HL3.out]; rfl
              rw [hoe, HL3.out] at how
              have HO := Lib.hid how
              clear how hoe
              cases xo with
              | true =>
                go_wp2_with (go_at_call 6; refine Gives.use (HO.out _ (HT3.out.alloc _)) ?_; intro xs0 d0)
                go_roundw
                case rel => exact ⟨i + 1, L3, by omega, by omega, by go_num, Lib.hid ((HT3.out.alloc _).grow _ _), Lib.hid ((HK3.out.alloc (by omega) _).grow (by omega) _ _), HL3⟩
                case measure => simp [intOf]; omega
              | false =>
                go_wp2_with (go_at_call 6; refine Gives.use (HO.out _ (HT3.out.alloc _)) ?_; intro xs0 d0)
                go_roundw
                case rel => exact ⟨i + 1, L3, by omega, by omega, by go_num, Lib.hid ((HT3.out.alloc _).grow _ _), Lib.hid ((HK3.out.alloc (by omega) _).grow (by omega) _ _), HL3⟩
                case measure => simp [intOf]; omega
            · have hne : (xw != ow) = true := by simpa using hxo
              cases xo with
              | true =>
                go_wp2_with fail
                refine (drop_calls xw [xa, xb] (by simp) L3 _ _ _ ((HT3.out.alloc _).alloc _) ?_).mono ?_
                · have := sl_two xa.len xb.len (_root_.Go.heap_alloc_new (wr.alloc (.cells (actA ⟨true, xw, xa, xb⟩) 36)) (.cells (row8 (xa.val ++ xb.val)) 30))
                  simpa using this
                have hkeep := dropGo_keeps hxo [xa, xb] L3 0 HL3.out
                generalize (dropGo xw [xa, xb] L3 0).1 = L4 at *
                generalize (dropGo xw [xa, xb] L3 0).2 = n4
                rintro e w4 ⟨rfl, ht4, hk4⟩
                have how := owner_gives w4 _ L4 k ht4
                have hoe : ownT L4 k = ow := by unfold ownT; rw [hkeep]; rfl
                rw [hoe, hkeep] at how
                have hk5 := ((HK3.out.alloc (by omega) (.cells (actA ⟨true, xw, xa, xb⟩) 36)).alloc (by omega) (.cells (row8 (xa.val ++ xb.val)) 30)).trans hk4
                have g7 := hk5.cut (b := w.heap.size) (by omega) HC7.out
                have n7 : w.heap.size < w4.heap.size := by have := hk5.2.1; omega
                have f4 : w4.cell? ⟨wr.heap.size, 0, none⟩ = some (.bool true) := by
                  have := hk4.cut (b := wr.heap.size) (o := 0) (sz := 52) (x := actA ⟨true, xw, xa, xb⟩) (by omega) (by simp [go_sem])
                  exact (cut_spec this).2 0 (by decide)
                have HT4 := Lib.hid ht4
                have HK5 := Lib.hid hk5
                have HO := Lib.hid how
                have HL4 := Lib.hid hkeep
                clear ht4 hk4 hk5 how hoe hkeep e7 m7
                go_wp2_with (go_at_call 6; refine Gives.use HO.out ?_; intro xs0 d0)
                go_roundw
                case rel => exact ⟨i + 1, L4, by omega, by omega, by go_num, Lib.hid (HT4.out.grow _ _), Lib.hid (HK5.out.grow (by omega) _ _), HL4⟩
                case measure => simp [intOf]; omega
              | false =>
                have hne' : xw ≠ ow := hxo
                go_wp2_with fail
                refine (take_calls xw [k] (by simp) L3 _ _ _ ((HT3.out.alloc _).alloc _) ?_).mono ?_
                · have := sl_key k.len (_root_.Go.heap_alloc_new (wr.alloc (.cells (actA ⟨false, xw, xa, xb⟩) 36)) (.cells (row8 k.val) 30))
                  simpa using this
                obtain ⟨ho1, ho2⟩ := take_other hne' HR.out HL3.out
                rw [ho1]
                generalize (takeT xw [k] L3).2.2 = er at *
                generalize (takeT xw [k] L3).2.1 = n4
                rintro e w4 ⟨rfl, ht4, hk4⟩
                have hk5 := ((HK3.out.alloc (by omega) (.cells (actA ⟨false, xw, xa, xb⟩) 36)).alloc (by omega) (.cells (row8 k.val) 30)).trans hk4
                have g7 := hk5.cut (b := w.heap.size) (by omega) HC7.out
                have n7 : w.heap.size < w4.heap.size := by have := hk5.2.1; omega
                have na : wr.heap.size < w4.heap.size := by have := hk4.2.1; simp at this; omega
                have fa := hk4.cut (b := wr.heap.size) (o := 0) (sz := 52) (x := actA ⟨false, xw, xa, xb⟩) (by omega) (by simp [go_sem])
                have fa1 : w4.cell? ⟨wr.heap.size, 1, none⟩ = some (.int .i64 xw) := (cut_spec fa).2 1 (by decide)
                have fa2 : w4.cut? wr.heap.size 2 25 = some (row8 xa.val) := by
                  have := cut_sub (i := 2) (m := 25) fa (by decide); rw [actA_a, Nat.zero_add] at this; exact this
                have fa3 : w4.cut? wr.heap.size 27 25 = some (row8 xb.val) := by
                  have := cut_sub (i := 27) (m := 25) fa (by decide); rw [actA_b, Nat.zero_add] at this; exact this
                have HT4 := Lib.hid ht4
                have HK5 := Lib.hid hk5
                have hkeep := takeT_keeps hne' [xa, xb] L3 HL3.out
                generalize hL4 : (takeT xw [xa, xb] L3).1 = L4 at hkeep
                generalize hn5 : (takeT xw [xa, xb] L3).2.1 = n5
                generalize hn6 : (takeT xw [xa, xb] L3).2.2 = n6
                have HTK := Lib.hid (And.intro hL4 (And.intro hn5 hn6))
                have HL4 := Lib.hid hkeep
                clear ht4 hk4 hk5 e7 m7 fa hkeep hL4 hn5 hn6 ho1
                have hsl : SlA ((w4.alloc (.cells (row8 (xa.val ++ xb.val)) 30))) (w4.alloc (.cells (row8 (xa.val ++ xb.val)) 30)).heap.size 25 (.slice (some ⟨w4.heap.size, 0, none⟩) 2 2) (rowsK [xa, xb]) := by
                  have := sl_two xa.len xb.len (_root_.Go.heap_alloc_new w4 (.cells (row8 (xa.val ++ xb.val)) 30))
                  simpa using this
                have hcall := take_calls xw [xa, xb] (by simp) L3 _ _ _ (HT4.out.alloc _) hsl
                rw [HTK.out.1, HTK.out.2.1, HTK.out.2.2] at hcall
                have HC := Lib.hid hcall
                clear hcall hsl HTK
                rcases ho2 with rfl | rfl
                all_goals
                  go_wp2_with fail
                  refine HC.out.mono ?_
                  rintro e w6 ⟨rfl, ht6, hk6⟩
                  have how := owner_gives w6 _ L4 k ht6
                  have hoe : ownT L4 k = ow := by unfold ownT; rw [HL4.out]; rfl
                  rw [hoe, HL4.out] at how
                  have hk7 := (HK5.out.alloc (by omega) (.cells (row8 (xa.val ++ xb.val)) 30)).trans hk6
                  have h7 := hk7.cut (b := w.heap.size) (by omega) HC7.out
                  have o7 : w.heap.size < w6.heap.size := by have := hk7.2.1; omega
                  have HT6 := Lib.hid ht6
                  have HK7 := Lib.hid hk7
                  have HO := Lib.hid how
                  clear ht6 hk6 hk7 how hoe g7 n7 na fa1 fa2 fa3
                  go_wp2_with (go_at_call 6; refine Gives.use HO.out ?_; intro xs0 d0)
                  go_roundw
                  case rel => exact ⟨i + 1, L4, by omega, by omega, by go_num, Lib.hid (HT6.out.grow _ _), Lib.hid (HK7.out.grow (by omega) _ _), HL4⟩
                  case measure => simp [intOf]; omega
          · have h40I : decide ((i : Int) < 40) = false := by simp; omega
            go_wp2_with fail
            go_meet
            exact ⟨L3, HT3, HK3, HL3⟩
        · have hltI : decide ((i : Int) < more.length) = false := by simp; omega
          go_wp2_with fail
          go_meet
          exact ⟨L3, HT3, HK3, HL3⟩
    case rest =>
      obtain ⟨L3, HT3, HK3, HL3⟩ := hcut
      have hd := drop_mine HL3.out
      have e8 := HK3.out.cut (b := w.heap.size) (by omega) HC7.out
      have m8 : w.heap.size < wc.heap.size := by have := HK3.out.2.1; omega
      go_wp2_with (go_at_call 7; refine Gives.use (known_gives _) ?_; intro xs1 d1)
      refine (drop_calls ow [k, k] (by simp) L3 _ _ _ ((HT3.out.grow _ _).alloc _) ?_).mono ?_
      · have := sl_two k.len k.len (_root_.Go.heap_alloc_new (wc.grow xs1 d1) (.cells (row8 (k.val ++ k.val)) 30))
        simpa using this
      rw [hd]
      rintro e w3 ⟨rfl, _, hk3⟩
      have hfin : Below w.heap.size w w3 := ((HB0.out.trans (HK3.out.1.less (by omega))).trans ((Below.refl _ _).grow (by omega) xs1 d1 |>.alloc (by simp; omega) _)).trans (hk3.1.less (by omega))
      have HF3 := Lib.hid hfin
      clear hk3 hfin hd
      go_wp2_with fail
      go_ret
      exact ⟨rfl, HF3.out⟩
end Go.Proofs.YtbflpnkodpeggaaDoor

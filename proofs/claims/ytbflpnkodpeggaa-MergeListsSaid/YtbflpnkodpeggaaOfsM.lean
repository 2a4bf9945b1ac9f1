/- Layer 24's law: entries as the document's; are entries the document's? -/
import Derived.Test.YtbflpnkodpeggaaRecOf
import Derived.Test.YtbflpnkodpeggaaBuild
import Derived.BigRegion
namespace Go.Proofs.Ytbflpnkodpeggaa
set_option maxRecDepth 100000
open Go.RowKit

theorem row_entD : RowType Try.prog 51 81 34 128 := ⟨Try.underlying51, by kernel_rfl, by decide, by decide⟩
/-- a slice of one row in a block of its own -/
def OneAt (x : Array Value) (t : TypeId) (v : Value) (w : World) : Prop := ∃ g, v = .slice (some ⟨g, 0, none⟩) 1 1 ∧ w.heap[g]? = some (.cells x t)
theorem OneAt.keep {x : Array Value} {t : TypeId} {v : Value} {w w' : World} (h : OneAt x t v w) (hb : Below w.heap.size w w') : OneAt x t v w' := by
  obtain ⟨g, e, hh⟩ := h
  exact ⟨g, e, (hb.block g (Array.getElem?_eq_some_iff.1 hh).1).trans hh⟩
theorem OneAt.sl {x : Array Value} {t : TypeId} {v : Value} {w : World} (h : OneAt x t v w) : SlA w w.heap.size x.size v [x] := by
  obtain ⟨g, rfl, hh⟩ := h
  exact (sl_one (Nat.le_refl _) (by decide) (cut_heap hh rfl)).more (Array.getElem?_eq_some_iff.1 hh).1
set_option maxHeartbeats 8000000 in
theorem ofs_calls (l : List Ent) (v : Value) (w : World) (hl : l.length ≤ 1000) (hv : SlA w w.heap.size 34 v (l.map entA)) :
    Calls Try.prog 12 #[v] w fun e w' => ∃ v', e = .returned v' ∧ Below w.heap.size w w' ∧ OwnA w' w.heap.size 34 81 v' (l.map entD) := by
  obtain ⟨a0, cap0, rfl, hcl, hcm⟩ := hv.form
  rw [List.length_map] at *
  have HV := Lib.hid hv
  unfold maxLen at hcm
  clear hv
  go_enter Try.func12, Try.ntmps12
  go_wp2_with fail
  go_loopw [3, 4] (fun s3 s4 wr => ∃ i : Nat, i ≤ l.length ∧ s4 = .int .i64 i ∧ Hid (Below w.heap.size w wr) ∧ Hid (OwnA wr w.heap.size 34 81 s3 ((l.take i).map entD))) (fun _ s4 _ => l.length - (intOf s4).toNat)
  case atStart => exact ⟨0, Nat.zero_le _, rfl, Lib.hid (Below.refl _ _), Lib.hid (OwnA.nil _ _ _ _)⟩
  case round =>
    obtain ⟨i, hi, rfl, HB, HO⟩ := hrel
    by_cases hli : i < l.length
    · have hliI : (i : Int) < l.length := by omega
      obtain ⟨_, a3, cap3, he, _, _, hc⟩ := HV.out.below HB.out
      simp only [Value.slice.injEq, List.length_map, true_and] at he
      obtain ⟨rfl, rfl⟩ := he
      obtain ⟨g, q, rfl, hlb, hcut⟩ := hc (by simp; omega)
      have hcute := hcut i (entA l[i]) (by simp [hli])
      have hcutk := cut_sub (i := 0) (m := 25) hcute (by decide)
      have hcutr := cut_sub (i := 25) (m := 9) hcute (by decide)
      rw [Nat.add_zero, entA_key] at hcutk
      rw [entA_rec] at hcutr
      have hsz := HB.out.size
      have hgW : g < wr.heap.size := by omega
      have hsu : (l.take (i + 1)).map entD = (l.take i).map entD ++ [entD l[i]] := by rw [List.take_succ_eq_append_getElem hli, List.map_append]; rfl
      have hof := fun W => lawOf_gives l[i].k.val l[i].k.len W
      have hrc := recOf_gives l[i].r
      generalize l[i] = e at *
      have HSU := Lib.hid hsu
      have HOF := Lib.hid hof
      have HRC := Lib.hid hrc
      clear hcut hc hcute hsu hof hrc
      obtain ⟨ek, er⟩ := e
      go_wp2_with fail
      apply wp_region_specs (by rfl) [.val _, .pure _, .pure _, .pure (.pointer (some ⟨g, q + i * 34, none⟩)), .val _, .val _, .val _, .pure _, .pure _, .val _, .val _, .val _, .val _, .val _, .rel (OneAt (entD ⟨ek, er⟩) 81)] 15 (by rfl) [11, 12, 13, 14, 15, 16, 17, 18, 19, 20, 21, 22, 23, 24, 25] [] [1, 2, 3, 7, 8] (by rfl) (by rfl) (by decide) (by decide +kernel) (fun _ _ _ _ _ h => h)
      case hF => intro x; simp only [over, List.foldl_cons, List.foldl_nil, List.setIfInBounds_toArray, List.set_cons_succ, List.set_cons_zero]; exact rfl
      case hops =>
        refine ⟨?o0, ?o1, ?o2, ?o3, ?o4, ?o5, ?o6, ?o7, ?o8, ?o9, ?o10, ?o11, ?o12, ?o13, ?o14, trivial⟩
        case o0 =>
          intro x w1 hH K hK
          obtain ⟨xs, d, rfl⟩ := grow_of_below hH.below
          clear hH
          try simp only [World.grow_drew] at hK ⊢
          try simp only [World.grow_grow] at hK ⊢
          go_simp
          go_wp2_with fail
          exact ⟨_, rfl, rfl, (by repeat (first | exact below_of_grow _ _ | exact Below.refl _ _ | exact below_more _ _ _ _ | (simp only [← Array.append_assoc]; first | exact below_more _ _ _ _ | exact below_same _ _ _ | exact Below.refl _ _) | exact below_same _ _ _ | (refine Below.alloc ?_ (by first | (simp; done) | (simp; omega)) _) | (refine Below.grow ?_ (by first | (simp; done) | (simp; omega)) _ _) | refine Below.drew ?_ | refine Below.drewN ?_ _ | (refine Below.putF ?_ (by first | (simp; done) | omega | (simp; omega)) _) | (refine Below.setCell ?_ (by first | (simp; done) | (simp; omega)) _))), fun h => by cases h⟩
        case o1 =>
          intro x w1 hH
          clear hH
          exact Or.inl ⟨rfl, fun _ => rfl⟩
        case o2 =>
          intro x w1 hH
          clear hH
          exact Or.inl ⟨rfl, fun _ => rfl⟩
        case o3 =>
          intro x w1 hH
          have e12 : x 12 = _ := hH.holds 1 (by decide) (by decide +kernel) 12 rfl
          have e13 : x 13 = _ := hH.holds 2 (by decide) (by decide +kernel) 13 rfl
          clear hH
          simp only [e12, e13]
          refine Or.inl ⟨rfl, fun w' => ?_⟩
          go_simp
        case o4 =>
          intro x w1 hH K hK
          have e14 : x 14 = _ := hH.holds 3 (by decide) (by decide +kernel) 14 rfl
          obtain ⟨xs, d, rfl⟩ := grow_of_below hH.below
          clear hH
          try simp only [World.grow_drew] at hK ⊢
          try simp only [World.grow_grow] at hK ⊢
          simp only [e14] at hK ⊢
          clear e14
          go_simp
          go_wp2_with fail
          exact ⟨_, rfl, rfl, (by repeat (first | exact below_of_grow _ _ | exact Below.refl _ _ | exact below_more _ _ _ _ | (simp only [← Array.append_assoc]; first | exact below_more _ _ _ _ | exact below_same _ _ _ | exact Below.refl _ _) | exact below_same _ _ _ | (refine Below.alloc ?_ (by first | (simp; done) | (simp; omega)) _) | (refine Below.grow ?_ (by first | (simp; done) | (simp; omega)) _ _) | refine Below.drew ?_ | refine Below.drewN ?_ _ | (refine Below.putF ?_ (by first | (simp; done) | omega | (simp; omega)) _) | (refine Below.setCell ?_ (by first | (simp; done) | (simp; omega)) _))), fun h => by cases h⟩
        case o5 =>
          intro x w1 hH K hK
          have e15 : x 15 = _ := hH.holds 4 (by decide) (by decide +kernel) 15 rfl
          obtain ⟨xs, d, rfl⟩ := grow_of_below hH.below
          clear hH
          try simp only [World.grow_drew] at hK ⊢
          try simp only [World.grow_grow] at hK ⊢
          simp only [e15] at hK ⊢
          clear e15
          go_simp
          go_wp2_with fail
          exact ⟨_, rfl, rfl, (by repeat (first | exact below_of_grow _ _ | exact Below.refl _ _ | exact below_more _ _ _ _ | (simp only [← Array.append_assoc]; first | exact below_more _ _ _ _ | exact below_same _ _ _ | exact Below.refl _ _) | exact below_same _ _ _ | (refine Below.alloc ?_ (by first | (simp; done) | (simp; omega)) _) | (refine Below.grow ?_ (by first | (simp; done) | (simp; omega)) _ _) | refine Below.drew ?_ | refine Below.drewN ?_ _ | (refine Below.putF ?_ (by first | (simp; done) | omega | (simp; omega)) _) | (refine Below.setCell ?_ (by first | (simp; done) | (simp; omega)) _))), fun h => by cases h⟩
        case o6 =>
          intro x w1 hH K hK
          have e16 : x 16 = _ := hH.holds 5 (by decide) (by decide +kernel) 16 rfl
          obtain ⟨xs, d, rfl⟩ := grow_of_below hH.below
          clear hH
          try simp only [World.grow_drew] at hK ⊢
          try simp only [World.grow_grow] at hK ⊢
          simp only [e16] at hK ⊢
          clear e16
          go_simp
          go_wp2_with (refine Gives.use (HOF.out _) ?_; intro ys e)
          exact ⟨_, rfl, rfl, (by first | exact below_more _ _ _ _ | exact (by repeat (first | exact below_of_grow _ _ | exact Below.refl _ _ | exact below_more _ _ _ _ | (simp only [← Array.append_assoc]; first | exact below_more _ _ _ _ | exact below_same _ _ _ | exact Below.refl _ _) | exact below_same _ _ _ | (refine Below.alloc ?_ (by first | (simp; done) | (simp; omega)) _) | (refine Below.grow ?_ (by first | (simp; done) | (simp; omega)) _ _) | refine Below.drew ?_ | refine Below.drewN ?_ _ | (refine Below.putF ?_ (by first | (simp; done) | omega | (simp; omega)) _) | (refine Below.setCell ?_ (by first | (simp; done) | (simp; omega)) _)))), fun h => by cases h⟩
        case o7 =>
          intro x w1 hH
          clear hH
          exact Or.inl ⟨rfl, fun _ => rfl⟩
        case o8 =>
          intro x w1 hH
          clear hH
          exact Or.inl ⟨rfl, fun _ => rfl⟩
        case o9 =>
          intro x w1 hH K hK
          have e18 : x 18 = _ := hH.holds 7 (by decide) (by decide +kernel) 18 rfl
          have e19 : x 19 = _ := hH.holds 8 (by decide) (by decide +kernel) 19 rfl
          obtain ⟨xs, d, rfl⟩ := grow_of_below hH.below
          clear hH
          try simp only [World.grow_drew] at hK ⊢
          try simp only [World.grow_grow] at hK ⊢
          simp only [e18, e19] at hK ⊢
          clear e18 e19
          go_simp
          go_wp2_with fail
          exact ⟨_, rfl, rfl, (by repeat (first | exact below_of_grow _ _ | exact Below.refl _ _ | exact below_more _ _ _ _ | (simp only [← Array.append_assoc]; first | exact below_more _ _ _ _ | exact below_same _ _ _ | exact Below.refl _ _) | exact below_same _ _ _ | (refine Below.alloc ?_ (by first | (simp; done) | (simp; omega)) _) | (refine Below.grow ?_ (by first | (simp; done) | (simp; omega)) _ _) | refine Below.drew ?_ | refine Below.drewN ?_ _ | (refine Below.putF ?_ (by first | (simp; done) | omega | (simp; omega)) _) | (refine Below.setCell ?_ (by first | (simp; done) | (simp; omega)) _))), fun h => by cases h⟩
        case o10 =>
          intro x w1 hH K hK
          have e20 : x 20 = _ := hH.holds 9 (by decide) (by decide +kernel) 20 rfl
          obtain ⟨xs, d, rfl⟩ := grow_of_below hH.below
          clear hH
          try simp only [World.grow_drew] at hK ⊢
          try simp only [World.grow_grow] at hK ⊢
          simp only [e20] at hK ⊢
          clear e20
          go_simp
          go_wp2_with fail
          exact ⟨_, rfl, rfl, (by repeat (first | exact below_of_grow _ _ | exact Below.refl _ _ | exact below_more _ _ _ _ | (simp only [← Array.append_assoc]; first | exact below_more _ _ _ _ | exact below_same _ _ _ | exact Below.refl _ _) | exact below_same _ _ _ | (refine Below.alloc ?_ (by first | (simp; done) | (simp; omega)) _) | (refine Below.grow ?_ (by first | (simp; done) | (simp; omega)) _ _) | refine Below.drew ?_ | refine Below.drewN ?_ _ | (refine Below.putF ?_ (by first | (simp; done) | omega | (simp; omega)) _) | (refine Below.setCell ?_ (by first | (simp; done) | (simp; omega)) _))), fun h => by cases h⟩
        case o11 =>
          intro x w1 hH K hK
          have e21 : x 21 = _ := hH.holds 10 (by decide) (by decide +kernel) 21 rfl
          obtain ⟨xs, d, rfl⟩ := grow_of_below hH.below
          clear hH
          try simp only [World.grow_drew] at hK ⊢
          try simp only [World.grow_grow] at hK ⊢
          simp only [e21] at hK ⊢
          clear e21
          go_simp
          go_wp2_with fail
          exact ⟨_, rfl, rfl, (by repeat (first | exact below_of_grow _ _ | exact Below.refl _ _ | exact below_more _ _ _ _ | (simp only [← Array.append_assoc]; first | exact below_more _ _ _ _ | exact below_same _ _ _ | exact Below.refl _ _) | exact below_same _ _ _ | (refine Below.alloc ?_ (by first | (simp; done) | (simp; omega)) _) | (refine Below.grow ?_ (by first | (simp; done) | (simp; omega)) _ _) | refine Below.drew ?_ | refine Below.drewN ?_ _ | (refine Below.putF ?_ (by first | (simp; done) | omega | (simp; omega)) _) | (refine Below.setCell ?_ (by first | (simp; done) | (simp; omega)) _))), fun h => by cases h⟩
        case o12 =>
          intro x w1 hH K hK
          have e22 : x 22 = _ := hH.holds 11 (by decide) (by decide +kernel) 22 rfl
          obtain ⟨xs, d, rfl⟩ := grow_of_below hH.below
          clear hH
          try simp only [World.grow_drew] at hK ⊢
          try simp only [World.grow_grow] at hK ⊢
          simp only [e22] at hK ⊢
          clear e22
          go_simp
          go_wp2_with (refine Gives.use (HRC.out _) ?_; intro ys e)
          exact ⟨_, rfl, rfl, (by first | exact below_more _ _ _ _ | exact (by repeat (first | exact below_of_grow _ _ | exact Below.refl _ _ | exact below_more _ _ _ _ | (simp only [← Array.append_assoc]; first | exact below_more _ _ _ _ | exact below_same _ _ _ | exact Below.refl _ _) | exact below_same _ _ _ | (refine Below.alloc ?_ (by first | (simp; done) | (simp; omega)) _) | (refine Below.grow ?_ (by first | (simp; done) | (simp; omega)) _ _) | refine Below.drew ?_ | refine Below.drewN ?_ _ | (refine Below.putF ?_ (by first | (simp; done) | omega | (simp; omega)) _) | (refine Below.setCell ?_ (by first | (simp; done) | (simp; omega)) _)))), fun h => by cases h⟩
        case o13 =>
          intro x w1 hH K hK
          have e17 : x 17 = _ := hH.holds 6 (by decide) (by decide +kernel) 17 rfl
          have e23 : x 23 = _ := hH.holds 12 (by decide) (by decide +kernel) 23 rfl
          obtain ⟨xs, d, rfl⟩ := grow_of_below hH.below
          clear hH
          try simp only [World.grow_drew] at hK ⊢
          try simp only [World.grow_grow] at hK ⊢
          simp only [e17, e23] at hK ⊢
          clear e17 e23
          go_simp
          go_wp2_with fail
          exact ⟨_, rfl, rfl, (by repeat (first | exact below_of_grow _ _ | exact Below.refl _ _ | exact below_more _ _ _ _ | (simp only [← Array.append_assoc]; first | exact below_more _ _ _ _ | exact below_same _ _ _ | exact Below.refl _ _) | exact below_same _ _ _ | (refine Below.alloc ?_ (by first | (simp; done) | (simp; omega)) _) | (refine Below.grow ?_ (by first | (simp; done) | (simp; omega)) _ _) | refine Below.drew ?_ | refine Below.drewN ?_ _ | (refine Below.putF ?_ (by first | (simp; done) | omega | (simp; omega)) _) | (refine Below.setCell ?_ (by first | (simp; done) | (simp; omega)) _))), fun h => by cases h⟩
        case o14 =>
          intro x w1 hH K hK
          have e24 : x 24 = _ := hH.holds 13 (by decide) (by decide +kernel) 24 rfl
          obtain ⟨xs, d, rfl⟩ := grow_of_below hH.below
          clear hH
          try simp only [World.grow_drew] at hK ⊢
          try simp only [World.grow_grow] at hK ⊢
          simp only [e24] at hK ⊢
          clear e24
          go_simp
          go_wp2_with fail
          exact ⟨_, rfl, fun w3 h3 => OneAt.keep ⟨_, rfl, by rw [heap_al, if_pos (by simp)]⟩ h3, (by repeat (first | exact below_of_grow _ _ | exact Below.refl _ _ | exact below_more _ _ _ _ | (simp only [← Array.append_assoc]; first | exact below_more _ _ _ _ | exact below_same _ _ _ | exact Below.refl _ _) | exact below_same _ _ _ | (refine Below.alloc ?_ (by first | (simp; done) | (simp; omega)) _) | (refine Below.grow ?_ (by first | (simp; done) | (simp; omega)) _ _) | refine Below.drew ?_ | refine Below.drewN ?_ _ | (refine Below.putF ?_ (by first | (simp; done) | omega | (simp; omega)) _) | (refine Below.setCell ?_ (by first | (simp; done) | (simp; omega)) _))), fun h => by cases h⟩
      case hend =>
        intro x w1 hH
        have e11 : x 11 = _ := hH.holds 0 (by decide) trivial 11 rfl
        have e12 : x 12 = _ := hH.holds 1 (by decide) trivial 12 rfl
        have e13 : x 13 = _ := hH.holds 2 (by decide) trivial 13 rfl
        have e14 : x 14 = _ := hH.holds 3 (by decide) trivial 14 rfl
        have e15 : x 15 = _ := hH.holds 4 (by decide) trivial 15 rfl
        have e16 : x 16 = _ := hH.holds 5 (by decide) trivial 16 rfl
        have e17 : x 17 = _ := hH.holds 6 (by decide) trivial 17 rfl
        have e18 : x 18 = _ := hH.holds 7 (by decide) trivial 18 rfl
        have e19 : x 19 = _ := hH.holds 8 (by decide) trivial 19 rfl
        have e20 : x 20 = _ := hH.holds 9 (by decide) trivial 20 rfl
        have e21 : x 21 = _ := hH.holds 10 (by decide) trivial 21 rfl
        have e22 : x 22 = _ := hH.holds 11 (by decide) trivial 22 rfl
        have e23 : x 23 = _ := hH.holds 12 (by decide) trivial 23 rfl
        have e24 : x 24 = _ := hH.holds 13 (by decide) trivial 24 rfl
        have r25 := hH.holds 14 (by decide) trivial 25 rfl (_) (Below.refl _ _)
        obtain ⟨xs, d, rfl⟩ := grow_of_below hH.below
        clear hH
        simp only [e11, e12, e13, e14, e15, e16, e17, e18, e19, e20, e21, e22, e23, e24]; clear e11 e12 e13 e14 e15 e16 e17 e18 e19 e20 e21 e22 e23 e24
        simp only [List.drop_succ_cons, List.drop_zero]
        refine wpList_append (B := w.heap.size) (xs := (l.take i).map entD) (ys := [entD ⟨ek, er⟩]) row_entD rfl (.tmp 11) (.tmp 25) rfl (v := u3) rfl ?_ rfl ?_ ?_ ?_ ?_ ?_
        · exact HO.out.drew.grow _ _
        · have hs := r25.sl
          rw [entD_size] at hs
          exact ⟨_, hs⟩
        · intro x hx; simp at hx; subst hx; exact one_entD _
        · simp; omega
        · simp; omega
        intro v3 w3 ho hg _
        have hb3 : Below w.heap.size w w3 := Below.grown (HB.out.drew.grow hsz xs d) hg (by show w.heap.size ≤ (wr.drew.grow xs d).heap.size; rw [World.grow_size]; show w.heap.size ≤ wr.heap.size + _; omega) (fun q hq => (HO.out.lt q hq).1)
        rw [← HSU.out] at ho
        have HB3 := Lib.hid hb3
        have HO3 := Lib.hid ho
        clear hb3 ho hg r25
        go_wp2_with fail
        go_roundw
        case rel => exact ⟨i + 1, by omega, by go_num, HB3, HO3⟩
        case measure => simp [intOf]; omega
    · have hie : i = l.length := by omega
      subst hie
      have hgn : ¬ (l.length : Int) < l.length := by omega
      have ho := HO.out
      rw [List.take_length] at ho
      have HO2 := Lib.hid ho
      clear ho HO
      go_wp2_with fail
      go_ret
      exact ⟨_, rfl, HB.out, HO2.out⟩
end Go.Proofs.Ytbflpnkodpeggaa

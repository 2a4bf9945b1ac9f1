/- The document's Over: entries behind writes. -/
import Derived.Test.YtbflpnkodpeggaaInsR
import Derived.Test.YtbflpnkodpeggaaCut14
namespace Go.Proofs.Ytbflpnkodpeggaa
set_option maxRecDepth 100000
open Go.RowKit

/-- a slice that can be read -/
def RowsAt (sz : Nat) (xs : List (Array Value)) (v : Value) (w : World) : Prop := SlA w w.heap.size sz v xs
theorem RowsAt.keep {sz : Nat} {xs : List (Array Value)} {v : Value} {w w' : World} (h : RowsAt sz xs v w) (hb : Below w.heap.size w w') : RowsAt sz xs v w' := (SlA.below h hb).more hb.size
theorem filter_succ (R : List Ent) (k : K25) (j : Nat) (h : j < R.length) : (R.take (j + 1)).filter (fun e => decide (e.k ≠ k)) = (R.take j).filter (fun e => decide (e.k ≠ k)) ++ (if decide (R[j].k = k) = true then [] else [R[j]]) := by
  rw [List.take_succ_eq_append_getElem h, List.filter_append]
  by_cases hk : R[j].k = k <;> simp [hk]
set_option maxHeartbeats 20000000 in
theorem overR_calls (l : List Ent) (ws : List Wr) (v u : Value) (w : World) (hl : l.length ≤ 200) (hw : ws.length ≤ 200)
    (hv : SlA w w.heap.size 34 v (l.map entD)) (hu : SlA w w.heap.size 35 u (ws.map wrtD)) :
    Calls Try.prog 18 #[v, u] w fun e w' => ∃ v', e = .returned v' ∧ Below w.heap.size w w' ∧ SlA w' w'.heap.size 34 v' ((overR l ws).map entD) := by
  obtain ⟨a1, cap1, rfl, hcl1, hcm1⟩ := hu.form
  rw [List.length_map] at *
  have HV := Lib.hid hv
  have HU := Lib.hid hu
  unfold maxLen at hcm1
  clear hv hu
  go_enter Try.func18, Try.ntmps18
  go_wp2_with fail
  go_loopw [0, 5] (fun s0 s5 wr => ∃ i : Nat, i ≤ ws.length ∧ s5 = .int .i64 i ∧ Hid (Below w.heap.size w wr) ∧ Hid (SlA wr wr.heap.size 34 s0 ((overR l (ws.take i)).map entD))) (fun _ s5 _ => ws.length - (intOf s5).toNat)
  case atStart => exact ⟨0, Nat.zero_le _, rfl, Lib.hid (Below.refl _ _), HV⟩
  case round =>
    obtain ⟨i, hi, rfl, HB, HR⟩ := hrel
    by_cases hli : i < ws.length
    · have hliI : (i : Int) < ws.length := by omega
      obtain ⟨_, a3, cap3, he, _, _, hc⟩ := HU.out.below HB.out
      simp only [Value.slice.injEq, List.length_map, true_and] at he
      obtain ⟨rfl, rfl⟩ := he
      obtain ⟨g, q, rfl, hlb, hcut⟩ := hc (by simp; omega)
      have hcute := hcut i (wrtD ws[i]) (by simp [hli])
      have hcutk := cut_sub (i := 0) (m := 25) hcute (by decide)
      have hcutr := cut_sub (i := 26) (m := 9) hcute (by decide)
      rw [Nat.add_zero, wrtD_key] at hcutk
      rw [wrtD_rec] at hcutr
      have hsz := HB.out.size
      have hgr : g < wr.heap.size := by omega
      have hdc : wr.cell? ⟨g, q + i * 35 + 25, none⟩ = some (.bool ws[i].dead) := by
        have := (cut_spec hcute).2 25 (by decide)
        rw [wrtD_25] at this
        exact this
      have hsu := overR_succ l ws i hli
      have hrl := overR_len (ws.take i) l
      rw [List.length_take] at hrl
      generalize ws[i] = x at *
      generalize overR l (ws.take i) = R at *
      have hRl : R.length ≤ 400 := by omega
      have HSU := Lib.hid hsu
      clear hcut hc hcute hsu hrl
      obtain ⟨xk, xd, xr⟩ := x
      simp only at hcutk hcutr hdc
      cases xd with
      | false =>
        have hone : overOne R ⟨xk, false, xr⟩ = insertR R ⟨xk, xr⟩ true := rfl
        have hsu := HSU.out
        rw [hone] at hsu
        have HSU2 := Lib.hid hsu
        clear hsu hone HSU
        go_wp2_with fail
        apply wp_region_specs (by rfl) [.val _, .val _, .val _, .val _, .val _, .val _, .val _, .val _, .val _, .val _, .val _, .val _, .rel (RowsAt 34 ((insertR R ⟨xk, xr⟩ true).map entD))] 13 (by rfl) [20, 21, 22, 23, 24, 25, 26, 27, 28, 29, 30, 31, 32] [] [] (by rfl) (by rfl) (by decide) (by decide +kernel) (fun _ _ _ _ _ h => h)
        case hF => intro x; simp only [over, List.foldl_cons, List.foldl_nil, List.setIfInBounds_toArray, List.set_cons_succ, List.set_cons_zero]; exact rfl
        case hops =>
          refine ⟨?o0, ?o1, ?o2, ?o3, ?o4, ?o5, ?o6, ?o7, ?o8, ?o9, ?o10, ?o11, ?o12, trivial⟩
          case o0 =>
            intro x w1 hH K hK
            obtain ⟨xs, d, rfl⟩ := grow_of_below hH.below
            clear hH
            try simp only [World.grow_drew] at hK ⊢
            try simp only [World.grow_grow] at hK ⊢
            go_simp
            go_wp2_with fail
            exact ⟨_, rfl, rfl, (by repeat (first | exact below_of_grow _ _ | exact Below.refl _ _ | exact below_more _ _ _ _ | (simp only [← Array.append_assoc]; first | exact below_more _ _ _ _ | exact below_same _ _ _ | exact Below.refl _ _) | exact below_same _ _ _ | (refine Below.alloc ?_ (by first | (simp; done) | (simp; omega)) _) | (refine Below.grow ?_ (by first | (simp; done) | (simp; omega)) _ _) | refine Below.drew ?_ | refine Below.drewN ?_ _ | (refine Below.putF ?_ (by first | (simp; done) | omega | (simp; omega)) _) | (refine Below.setCell ?_ (by first | (simp; done) | (simp; omega)) _))), fun h => by cases h⟩
          case o1 =>
            intro x w1 hH K hK
            obtain ⟨xs, d, rfl⟩ := grow_of_below hH.below
            clear hH
            try simp only [World.grow_drew] at hK ⊢
            try simp only [World.grow_grow] at hK ⊢
            go_simp
            go_wp2_with fail
            exact ⟨_, rfl, rfl, (by repeat (first | exact below_of_grow _ _ | exact Below.refl _ _ | exact below_more _ _ _ _ | (simp only [← Array.append_assoc]; first | exact below_more _ _ _ _ | exact below_same _ _ _ | exact Below.refl _ _) | exact below_same _ _ _ | (refine Below.alloc ?_ (by first | (simp; done) | (simp; omega)) _) | (refine Below.grow ?_ (by first | (simp; done) | (simp; omega)) _ _) | refine Below.drew ?_ | refine Below.drewN ?_ _ | (refine Below.putF ?_ (by first | (simp; done) | omega | (simp; omega)) _) | (refine Below.setCell ?_ (by first | (simp; done) | (simp; omega)) _))), fun h => by cases h⟩
          case o2 =>
            intro x w1 hH K hK
            obtain ⟨xs, d, rfl⟩ := grow_of_below hH.below
            clear hH
            try simp only [World.grow_drew] at hK ⊢
            try simp only [World.grow_grow] at hK ⊢
            go_simp
            go_wp2_with fail
            exact ⟨_, rfl, rfl, (by repeat (first | exact below_of_grow _ _ | exact Below.refl _ _ | exact below_more _ _ _ _ | (simp only [← Array.append_assoc]; first | exact below_more _ _ _ _ | exact below_same _ _ _ | exact Below.refl _ _) | exact below_same _ _ _ | (refine Below.alloc ?_ (by first | (simp; done) | (simp; omega)) _) | (refine Below.grow ?_ (by first | (simp; done) | (simp; omega)) _ _) | refine Below.drew ?_ | refine Below.drewN ?_ _ | (refine Below.putF ?_ (by first | (simp; done) | omega | (simp; omega)) _) | (refine Below.setCell ?_ (by first | (simp; done) | (simp; omega)) _))), fun h => by cases h⟩
          case o3 =>
            intro x w1 hH K hK
            have e21 : x 21 = _ := hH.holds 1 (by decide) (by decide +kernel) 21 rfl
            have e22 : x 22 = _ := hH.holds 2 (by decide) (by decide +kernel) 22 rfl
            obtain ⟨xs, d, rfl⟩ := grow_of_below hH.below
            clear hH
            try simp only [World.grow_drew] at hK ⊢
            try simp only [World.grow_grow] at hK ⊢
            simp only [e21, e22] at hK ⊢
            clear e21 e22
            go_simp
            go_wp2_with fail
            exact ⟨_, rfl, rfl, (by repeat (first | exact below_of_grow _ _ | exact Below.refl _ _ | exact below_more _ _ _ _ | (simp only [← Array.append_assoc]; first | exact below_more _ _ _ _ | exact below_same _ _ _ | exact Below.refl _ _) | exact below_same _ _ _ | (refine Below.alloc ?_ (by first | (simp; done) | (simp; omega)) _) | (refine Below.grow ?_ (by first | (simp; done) | (simp; omega)) _ _) | refine Below.drew ?_ | refine Below.drewN ?_ _ | (refine Below.putF ?_ (by first | (simp; done) | omega | (simp; omega)) _) | (refine Below.setCell ?_ (by first | (simp; done) | (simp; omega)) _))), fun h => by cases h⟩
          case o4 =>
            intro x w1 hH K hK
            have e23 : x 23 = _ := hH.holds 3 (by decide) (by decide +kernel) 23 rfl
            obtain ⟨xs, d, rfl⟩ := grow_of_below hH.below
            clear hH
            try simp only [World.grow_drew] at hK ⊢
            try simp only [World.grow_grow] at hK ⊢
            simp only [e23] at hK ⊢
            clear e23
            go_simp
            go_wp2_with fail
            exact ⟨_, rfl, rfl, (by repeat (first | exact below_of_grow _ _ | exact Below.refl _ _ | exact below_more _ _ _ _ | (simp only [← Array.append_assoc]; first | exact below_more _ _ _ _ | exact below_same _ _ _ | exact Below.refl _ _) | exact below_same _ _ _ | (refine Below.alloc ?_ (by first | (simp; done) | (simp; omega)) _) | (refine Below.grow ?_ (by first | (simp; done) | (simp; omega)) _ _) | refine Below.drew ?_ | refine Below.drewN ?_ _ | (refine Below.putF ?_ (by first | (simp; done) | omega | (simp; omega)) _) | (refine Below.setCell ?_ (by first | (simp; done) | (simp; omega)) _))), fun h => by cases h⟩
          case o5 =>
            intro x w1 hH K hK
            have e24 : x 24 = _ := hH.holds 4 (by decide) (by decide +kernel) 24 rfl
            obtain ⟨xs, d, rfl⟩ := grow_of_below hH.below
            clear hH
            try simp only [World.grow_drew] at hK ⊢
            try simp only [World.grow_grow] at hK ⊢
            simp only [e24] at hK ⊢
            clear e24
            go_simp
            go_wp2_with fail
            exact ⟨_, rfl, rfl, (by repeat (first | exact below_of_grow _ _ | exact Below.refl _ _ | exact below_more _ _ _ _ | (simp only [← Array.append_assoc]; first | exact below_more _ _ _ _ | exact below_same _ _ _ | exact Below.refl _ _) | exact below_same _ _ _ | (refine Below.alloc ?_ (by first | (simp; done) | (simp; omega)) _) | (refine Below.grow ?_ (by first | (simp; done) | (simp; omega)) _ _) | refine Below.drew ?_ | refine Below.drewN ?_ _ | (refine Below.putF ?_ (by first | (simp; done) | omega | (simp; omega)) _) | (refine Below.setCell ?_ (by first | (simp; done) | (simp; omega)) _))), fun h => by cases h⟩
          case o6 =>
            intro x w1 hH K hK
            obtain ⟨xs, d, rfl⟩ := grow_of_below hH.below
            clear hH
            try simp only [World.grow_drew] at hK ⊢
            try simp only [World.grow_grow] at hK ⊢
            go_simp
            go_wp2_with fail
            exact ⟨_, rfl, rfl, (by repeat (first | exact below_of_grow _ _ | exact Below.refl _ _ | exact below_more _ _ _ _ | (simp only [← Array.append_assoc]; first | exact below_more _ _ _ _ | exact below_same _ _ _ | exact Below.refl _ _) | exact below_same _ _ _ | (refine Below.alloc ?_ (by first | (simp; done) | (simp; omega)) _) | (refine Below.grow ?_ (by first | (simp; done) | (simp; omega)) _ _) | refine Below.drew ?_ | refine Below.drewN ?_ _ | (refine Below.putF ?_ (by first | (simp; done) | omega | (simp; omega)) _) | (refine Below.setCell ?_ (by first | (simp; done) | (simp; omega)) _))), fun h => by cases h⟩
          case o7 =>
            intro x w1 hH K hK
            obtain ⟨xs, d, rfl⟩ := grow_of_below hH.below
            clear hH
            try simp only [World.grow_drew] at hK ⊢
            try simp only [World.grow_grow] at hK ⊢
            go_simp
            go_wp2_with fail
            exact ⟨_, rfl, rfl, (by repeat (first | exact below_of_grow _ _ | exact Below.refl _ _ | exact below_more _ _ _ _ | (simp only [← Array.append_assoc]; first | exact below_more _ _ _ _ | exact below_same _ _ _ | exact Below.refl _ _) | exact below_same _ _ _ | (refine Below.alloc ?_ (by first | (simp; done) | (simp; omega)) _) | (refine Below.grow ?_ (by first | (simp; done) | (simp; omega)) _ _) | refine Below.drew ?_ | refine Below.drewN ?_ _ | (refine Below.putF ?_ (by first | (simp; done) | omega | (simp; omega)) _) | (refine Below.setCell ?_ (by first | (simp; done) | (simp; omega)) _))), fun h => by cases h⟩
          case o8 =>
            intro x w1 hH K hK
            have e26 : x 26 = _ := hH.holds 6 (by decide) (by decide +kernel) 26 rfl
            have e27 : x 27 = _ := hH.holds 7 (by decide) (by decide +kernel) 27 rfl
            obtain ⟨xs, d, rfl⟩ := grow_of_below hH.below
            clear hH
            try simp only [World.grow_drew] at hK ⊢
            try simp only [World.grow_grow] at hK ⊢
            simp only [e26, e27] at hK ⊢
            clear e26 e27
            go_simp
            go_wp2_with fail
            exact ⟨_, rfl, rfl, (by repeat (first | exact below_of_grow _ _ | exact Below.refl _ _ | exact below_more _ _ _ _ | (simp only [← Array.append_assoc]; first | exact below_more _ _ _ _ | exact below_same _ _ _ | exact Below.refl _ _) | exact below_same _ _ _ | (refine Below.alloc ?_ (by first | (simp; done) | (simp; omega)) _) | (refine Below.grow ?_ (by first | (simp; done) | (simp; omega)) _ _) | refine Below.drew ?_ | refine Below.drewN ?_ _ | (refine Below.putF ?_ (by first | (simp; done) | omega | (simp; omega)) _) | (refine Below.setCell ?_ (by first | (simp; done) | (simp; omega)) _))), fun h => by cases h⟩
          case o9 =>
            intro x w1 hH K hK
            have e28 : x 28 = _ := hH.holds 8 (by decide) (by decide +kernel) 28 rfl
            obtain ⟨xs, d, rfl⟩ := grow_of_below hH.below
            clear hH
            try simp only [World.grow_drew] at hK ⊢
            try simp only [World.grow_grow] at hK ⊢
            simp only [e28] at hK ⊢
            clear e28
            go_simp
            go_wp2_with fail
            exact ⟨_, rfl, rfl, (by repeat (first | exact below_of_grow _ _ | exact Below.refl _ _ | exact below_more _ _ _ _ | (simp only [← Array.append_assoc]; first | exact below_more _ _ _ _ | exact below_same _ _ _ | exact Below.refl _ _) | exact below_same _ _ _ | (refine Below.alloc ?_ (by first | (simp; done) | (simp; omega)) _) | (refine Below.grow ?_ (by first | (simp; done) | (simp; omega)) _ _) | refine Below.drew ?_ | refine Below.drewN ?_ _ | (refine Below.putF ?_ (by first | (simp; done) | omega | (simp; omega)) _) | (refine Below.setCell ?_ (by first | (simp; done) | (simp; omega)) _))), fun h => by cases h⟩
          case o10 =>
            intro x w1 hH K hK
            have e29 : x 29 = _ := hH.holds 9 (by decide) (by decide +kernel) 29 rfl
            obtain ⟨xs, d, rfl⟩ := grow_of_below hH.below
            clear hH
            try simp only [World.grow_drew] at hK ⊢
            try simp only [World.grow_grow] at hK ⊢
            simp only [e29] at hK ⊢
            clear e29
            go_simp
            go_wp2_with fail
            exact ⟨_, rfl, rfl, (by repeat (first | exact below_of_grow _ _ | exact Below.refl _ _ | exact below_more _ _ _ _ | (simp only [← Array.append_assoc]; first | exact below_more _ _ _ _ | exact below_same _ _ _ | exact Below.refl _ _) | exact below_same _ _ _ | (refine Below.alloc ?_ (by first | (simp; done) | (simp; omega)) _) | (refine Below.grow ?_ (by first | (simp; done) | (simp; omega)) _ _) | refine Below.drew ?_ | refine Below.drewN ?_ _ | (refine Below.putF ?_ (by first | (simp; done) | omega | (simp; omega)) _) | (refine Below.setCell ?_ (by first | (simp; done) | (simp; omega)) _))), fun h => by cases h⟩
          case o11 =>
            intro x w1 hH K hK
            have e25 : x 25 = _ := hH.holds 5 (by decide) (by decide +kernel) 25 rfl
            have e30 : x 30 = _ := hH.holds 10 (by decide) (by decide +kernel) 30 rfl
            obtain ⟨xs, d, rfl⟩ := grow_of_below hH.below
            clear hH
            try simp only [World.grow_drew] at hK ⊢
            try simp only [World.grow_grow] at hK ⊢
            simp only [e25, e30] at hK ⊢
            clear e25 e30
            go_simp
            go_wp2_with fail
            exact ⟨_, rfl, rfl, (by repeat (first | exact below_of_grow _ _ | exact Below.refl _ _ | exact below_more _ _ _ _ | (simp only [← Array.append_assoc]; first | exact below_more _ _ _ _ | exact below_same _ _ _ | exact Below.refl _ _) | exact below_same _ _ _ | (refine Below.alloc ?_ (by first | (simp; done) | (simp; omega)) _) | (refine Below.grow ?_ (by first | (simp; done) | (simp; omega)) _ _) | refine Below.drew ?_ | refine Below.drewN ?_ _ | (refine Below.putF ?_ (by first | (simp; done) | omega | (simp; omega)) _) | (refine Below.setCell ?_ (by first | (simp; done) | (simp; omega)) _))), fun h => by cases h⟩
          case o12 =>
            intro x w1 hH K hK
            have e20 : x 20 = _ := hH.holds 0 (by decide) (by decide +kernel) 20 rfl
            have e31 : x 31 = _ := hH.holds 11 (by decide) (by decide +kernel) 31 rfl
            obtain ⟨xs, d, rfl⟩ := grow_of_below hH.below
            clear hH
            try simp only [World.grow_drew] at hK ⊢
            try simp only [World.grow_grow] at hK ⊢
            simp only [e20, e31] at hK ⊢
            clear e20 e31
            go_simp
            go_wp2_with (go_at_call 25; refine (insR_calls R ⟨xk, xr⟩ true u0 _ (by omega) (RowsAt.keep (sz := 34) HR.out (below_of_grow _ _))).mono ?_; rintro r w9 ⟨v10, rfl, hb10, hs10⟩)
            exact ⟨_, rfl, fun w3 h3 => RowsAt.keep (sz := 34) hs10 h3, hb10, fun h => by cases h⟩
        case hend =>
          intro x w1 hH
          have e20 : x 20 = _ := hH.holds 0 (by decide) trivial 20 rfl
          have e21 : x 21 = _ := hH.holds 1 (by decide) trivial 21 rfl
          have e22 : x 22 = _ := hH.holds 2 (by decide) trivial 22 rfl
          have e23 : x 23 = _ := hH.holds 3 (by decide) trivial 23 rfl
          have e24 : x 24 = _ := hH.holds 4 (by decide) trivial 24 rfl
          have e25 : x 25 = _ := hH.holds 5 (by decide) trivial 25 rfl
          have e26 : x 26 = _ := hH.holds 6 (by decide) trivial 26 rfl
          have e27 : x 27 = _ := hH.holds 7 (by decide) trivial 27 rfl
          have e28 : x 28 = _ := hH.holds 8 (by decide) trivial 28 rfl
          have e29 : x 29 = _ := hH.holds 9 (by decide) trivial 29 rfl
          have e30 : x 30 = _ := hH.holds 10 (by decide) trivial 30 rfl
          have e31 : x 31 = _ := hH.holds 11 (by decide) trivial 31 rfl
          have r32 := hH.holds 12 (by decide) trivial 32 rfl (_) (Below.refl _ _)
          obtain ⟨xs, d, rfl⟩ := grow_of_below hH.below
          clear hH
          simp only [e20, e21, e22, e23, e24, e25, e26, e27, e28, e29, e30, e31]; clear e20 e21 e22 e23 e24 e25 e26 e27 e28 e29 e30 e31
          simp only [List.drop_succ_cons, List.drop_zero]
          have hr2 := r32
          unfold RowsAt at hr2
          rw [← HSU2.out] at hr2
          have HS2 := Lib.hid hr2
          have HB2 := Lib.hid (HB.out.drew.grow hsz xs d)
          clear hr2 r32
          go_wp2_with fail
          go_roundw
          case rel => exact ⟨i + 1, by omega, by go_num, HB2, HS2⟩
          case measure => simp [intOf]; omega
      | true =>
        have hone : overOne R ⟨xk, true, xr⟩ = R.filter (fun e => decide (e.k ≠ xk)) := rfl
        have hsu := HSU.out
        rw [hone] at hsu
        have HSU2 := Lib.hid hsu
        clear hsu hone HSU hcutr
        obtain ⟨a0, cap0, hv0, hcl0, hcm0⟩ := HR.out.form
        subst hv0
        rw [List.length_map] at *
        unfold maxLen at hcm0
        obtain ⟨W0, rfl⟩ : ∃ W0, W0 = wr := ⟨_, rfl⟩
        go_wp2_with fail
        go_loopw [6, 7] (fun s6 s7 wq => ∃ j : Nat, j ≤ R.length ∧ s7 = .int .i64 j ∧ Hid (Below W0.heap.size W0 wq) ∧ Hid (OwnA wq W0.heap.size 34 81 s6 (((R.take j).filter (fun e => decide (e.k ≠ xk))).map entD))) (fun _ s7 _ => R.length - (intOf s7).toNat)
        case atStart => exact ⟨0, Nat.zero_le _, rfl, Lib.hid (Below.refl _ _), Lib.hid (OwnA.nil _ _ _ _)⟩
        case round =>
          obtain ⟨j, hj, rfl, HQ, HO⟩ := hrel
          by_cases hlj : j < R.length
          · have hljI : (j : Int) < R.length := by omega
            obtain ⟨_, a4, cap4, he, _, _, hc4⟩ := HR.out.below HQ.out
            simp only [Value.slice.injEq, List.length_map, true_and] at he
            obtain ⟨rfl, rfl⟩ := he
            obtain ⟨g4, q4, rfl, hlb4, hcut4⟩ := hc4 (by simp; omega)
            have hcute := hcut4 j (entD R[j]) (by simp [hlj])
            have hcutk4 := cut_sub (i := 0) (m := 25) hcute (by decide)
            rw [Nat.add_zero, entD_key] at hcutk4
            have hcutk' := (cut_of_heap (HQ.out.block g hgr) (q + i * 35) 25).trans hcutk
            have hszq := HQ.out.size
            have hg4 : g4 < wr.heap.size := by omega
            have hgq : g < wr.heap.size := by omega
            have hfs := filter_succ R xk j hlj
            have hfl := List.length_filter_le (fun e : Ent => decide (e.k ≠ xk)) (R.take j)
            rw [List.length_take] at hfl
            generalize R[j] = y at *
            have HFS := Lib.hid hfs
            have HHK := Lib.hid hcutk
            clear hcut4 hc4 hfs hcutk hdc
            by_cases hyk : y.k = xk
            · have hd : decide (y.k = xk) = true := by simpa using hyk
              have hf := HFS.out
              rw [hd, if_pos rfl, List.append_nil] at hf
              have HF := Lib.hid hf
              clear hyk hf
              go_wp2_with fail
              apply wp_region_specs (by rfl) [.val _, .val _, .val _, .val _, .val _, .val _, .val _, .val _, .val _, .val _, .val _] 11 (by rfl) [39, 40, 41, 42, 43, 44, 45, 46, 47, 48, 49] [] [] (by rfl) (by rfl) (by decide) (by decide +kernel) (fun _ _ _ _ _ h => h)
              case hF => intro x; simp only [over, List.foldl_cons, List.foldl_nil, List.setIfInBounds_toArray, List.set_cons_succ, List.set_cons_zero]; exact rfl
              case hops =>
                refine ⟨?o0, ?o1, ?o2, ?o3, ?o4, ?o5, ?o6, ?o7, ?o8, ?o9, ?o10, trivial⟩
                case o0 =>
                  intro x w1 hH K hK
                  obtain ⟨xs, d, rfl⟩ := grow_of_below hH.below
                  clear hH
                  try simp only [World.grow_drew] at hK ⊢
                  try simp only [World.grow_grow] at hK ⊢
                  go_simp
                  go_wp2_with fail
                  exact ⟨_, rfl, rfl, (by repeat (first | exact below_of_grow _ _ | exact Below.refl _ _ | exact below_more _ _ _ _ | (simp only [← Array.append_assoc]; first | exact below_more _ _ _ _ | exact below_same _ _ _ | exact Below.refl _ _) | exact below_same _ _ _ | (refine Below.alloc ?_ (by first | (simp; done) | (simp; omega)) _) | (refine Below.grow ?_ (by first | (simp; done) | (simp; omega)) _ _) | refine Below.drew ?_ | refine Below.drewN ?_ _ | (refine Below.putF ?_ (by first | (simp; done) | omega | (simp; omega)) _) | (refine Below.setCell ?_ (by first | (simp; done) | (simp; omega)) _))), fun h => by cases h⟩
                case o1 =>
                  intro x w1 hH K hK
                  obtain ⟨xs, d, rfl⟩ := grow_of_below hH.below
                  clear hH
                  try simp only [World.grow_drew] at hK ⊢
                  try simp only [World.grow_grow] at hK ⊢
                  go_simp
                  go_wp2_with fail
                  exact ⟨_, rfl, rfl, (by repeat (first | exact below_of_grow _ _ | exact Below.refl _ _ | exact below_more _ _ _ _ | (simp only [← Array.append_assoc]; first | exact below_more _ _ _ _ | exact below_same _ _ _ | exact Below.refl _ _) | exact below_same _ _ _ | (refine Below.alloc ?_ (by first | (simp; done) | (simp; omega)) _) | (refine Below.grow ?_ (by first | (simp; done) | (simp; omega)) _ _) | refine Below.drew ?_ | refine Below.drewN ?_ _ | (refine Below.putF ?_ (by first | (simp; done) | omega | (simp; omega)) _) | (refine Below.setCell ?_ (by first | (simp; done) | (simp; omega)) _))), fun h => by cases h⟩
                case o2 =>
                  intro x w1 hH K hK
                  have e39 : x 39 = _ := hH.holds 0 (by decide) (by decide +kernel) 39 rfl
                  have e40 : x 40 = _ := hH.holds 1 (by decide) (by decide +kernel) 40 rfl
                  obtain ⟨xs, d, rfl⟩ := grow_of_below hH.below
                  clear hH
                  try simp only [World.grow_drew] at hK ⊢
                  try simp only [World.grow_grow] at hK ⊢
                  simp only [e39, e40] at hK ⊢
                  clear e39 e40
                  go_simp
                  go_wp2_with fail
                  exact ⟨_, rfl, rfl, (by repeat (first | exact below_of_grow _ _ | exact Below.refl _ _ | exact below_more _ _ _ _ | (simp only [← Array.append_assoc]; first | exact below_more _ _ _ _ | exact below_same _ _ _ | exact Below.refl _ _) | exact below_same _ _ _ | (refine Below.alloc ?_ (by first | (simp; done) | (simp; omega)) _) | (refine Below.grow ?_ (by first | (simp; done) | (simp; omega)) _ _) | refine Below.drew ?_ | refine Below.drewN ?_ _ | (refine Below.putF ?_ (by first | (simp; done) | omega | (simp; omega)) _) | (refine Below.setCell ?_ (by first | (simp; done) | (simp; omega)) _))), fun h => by cases h⟩
                case o3 =>
                  intro x w1 hH K hK
                  have e41 : x 41 = _ := hH.holds 2 (by decide) (by decide +kernel) 41 rfl
                  obtain ⟨xs, d, rfl⟩ := grow_of_below hH.below
                  clear hH
                  try simp only [World.grow_drew] at hK ⊢
                  try simp only [World.grow_grow] at hK ⊢
                  simp only [e41] at hK ⊢
                  clear e41
                  go_simp
                  go_wp2_with fail
                  exact ⟨_, rfl, rfl, (by repeat (first | exact below_of_grow _ _ | exact Below.refl _ _ | exact below_more _ _ _ _ | (simp only [← Array.append_assoc]; first | exact below_more _ _ _ _ | exact below_same _ _ _ | exact Below.refl _ _) | exact below_same _ _ _ | (refine Below.alloc ?_ (by first | (simp; done) | (simp; omega)) _) | (refine Below.grow ?_ (by first | (simp; done) | (simp; omega)) _ _) | refine Below.drew ?_ | refine Below.drewN ?_ _ | (refine Below.putF ?_ (by first | (simp; done) | omega | (simp; omega)) _) | (refine Below.setCell ?_ (by first | (simp; done) | (simp; omega)) _))), fun h => by cases h⟩
                case o4 =>
                  intro x w1 hH K hK
                  have e42 : x 42 = _ := hH.holds 3 (by decide) (by decide +kernel) 42 rfl
                  obtain ⟨xs, d, rfl⟩ := grow_of_below hH.below
                  clear hH
                  try simp only [World.grow_drew] at hK ⊢
                  try simp only [World.grow_grow] at hK ⊢
                  simp only [e42] at hK ⊢
                  clear e42
                  go_simp
                  go_wp2_with fail
                  exact ⟨_, rfl, rfl, (by repeat (first | exact below_of_grow _ _ | exact Below.refl _ _ | exact below_more _ _ _ _ | (simp only [← Array.append_assoc]; first | exact below_more _ _ _ _ | exact below_same _ _ _ | exact Below.refl _ _) | exact below_same _ _ _ | (refine Below.alloc ?_ (by first | (simp; done) | (simp; omega)) _) | (refine Below.grow ?_ (by first | (simp; done) | (simp; omega)) _ _) | refine Below.drew ?_ | refine Below.drewN ?_ _ | (refine Below.putF ?_ (by first | (simp; done) | omega | (simp; omega)) _) | (refine Below.setCell ?_ (by first | (simp; done) | (simp; omega)) _))), fun h => by cases h⟩
                case o5 =>
                  intro x w1 hH K hK
                  obtain ⟨xs, d, rfl⟩ := grow_of_below hH.below
                  clear hH
                  try simp only [World.grow_drew] at hK ⊢
                  try simp only [World.grow_grow] at hK ⊢
                  go_simp
                  go_wp2_with fail
                  exact ⟨_, rfl, rfl, (by repeat (first | exact below_of_grow _ _ | exact Below.refl _ _ | exact below_more _ _ _ _ | (simp only [← Array.append_assoc]; first | exact below_more _ _ _ _ | exact below_same _ _ _ | exact Below.refl _ _) | exact below_same _ _ _ | (refine Below.alloc ?_ (by first | (simp; done) | (simp; omega)) _) | (refine Below.grow ?_ (by first | (simp; done) | (simp; omega)) _ _) | refine Below.drew ?_ | refine Below.drewN ?_ _ | (refine Below.putF ?_ (by first | (simp; done) | omega | (simp; omega)) _) | (refine Below.setCell ?_ (by first | (simp; done) | (simp; omega)) _))), fun h => by cases h⟩
                case o6 =>
                  intro x w1 hH K hK
                  obtain ⟨xs, d, rfl⟩ := grow_of_below hH.below
                  clear hH
                  try simp only [World.grow_drew] at hK ⊢
                  try simp only [World.grow_grow] at hK ⊢
                  go_simp
                  go_wp2_with fail
                  exact ⟨_, rfl, rfl, (by repeat (first | exact below_of_grow _ _ | exact Below.refl _ _ | exact below_more _ _ _ _ | (simp only [← Array.append_assoc]; first | exact below_more _ _ _ _ | exact below_same _ _ _ | exact Below.refl _ _) | exact below_same _ _ _ | (refine Below.alloc ?_ (by first | (simp; done) | (simp; omega)) _) | (refine Below.grow ?_ (by first | (simp; done) | (simp; omega)) _ _) | refine Below.drew ?_ | refine Below.drewN ?_ _ | (refine Below.putF ?_ (by first | (simp; done) | omega | (simp; omega)) _) | (refine Below.setCell ?_ (by first | (simp; done) | (simp; omega)) _))), fun h => by cases h⟩
                case o7 =>
                  intro x w1 hH K hK
                  have e44 : x 44 = _ := hH.holds 5 (by decide) (by decide +kernel) 44 rfl
                  have e45 : x 45 = _ := hH.holds 6 (by decide) (by decide +kernel) 45 rfl
                  obtain ⟨xs, d, rfl⟩ := grow_of_below hH.below
                  clear hH
                  try simp only [World.grow_drew] at hK ⊢
                  try simp only [World.grow_grow] at hK ⊢
                  simp only [e44, e45] at hK ⊢
                  clear e44 e45
                  go_simp
                  go_wp2_with fail
                  exact ⟨_, rfl, rfl, (by repeat (first | exact below_of_grow _ _ | exact Below.refl _ _ | exact below_more _ _ _ _ | (simp only [← Array.append_assoc]; first | exact below_more _ _ _ _ | exact below_same _ _ _ | exact Below.refl _ _) | exact below_same _ _ _ | (refine Below.alloc ?_ (by first | (simp; done) | (simp; omega)) _) | (refine Below.grow ?_ (by first | (simp; done) | (simp; omega)) _ _) | refine Below.drew ?_ | refine Below.drewN ?_ _ | (refine Below.putF ?_ (by first | (simp; done) | omega | (simp; omega)) _) | (refine Below.setCell ?_ (by first | (simp; done) | (simp; omega)) _))), fun h => by cases h⟩
                case o8 =>
                  intro x w1 hH K hK
                  have e46 : x 46 = _ := hH.holds 7 (by decide) (by decide +kernel) 46 rfl
                  obtain ⟨xs, d, rfl⟩ := grow_of_below hH.below
                  clear hH
                  try simp only [World.grow_drew] at hK ⊢
                  try simp only [World.grow_grow] at hK ⊢
                  simp only [e46] at hK ⊢
                  clear e46
                  go_simp
                  go_wp2_with fail
                  exact ⟨_, rfl, rfl, (by repeat (first | exact below_of_grow _ _ | exact Below.refl _ _ | exact below_more _ _ _ _ | (simp only [← Array.append_assoc]; first | exact below_more _ _ _ _ | exact below_same _ _ _ | exact Below.refl _ _) | exact below_same _ _ _ | (refine Below.alloc ?_ (by first | (simp; done) | (simp; omega)) _) | (refine Below.grow ?_ (by first | (simp; done) | (simp; omega)) _ _) | refine Below.drew ?_ | refine Below.drewN ?_ _ | (refine Below.putF ?_ (by first | (simp; done) | omega | (simp; omega)) _) | (refine Below.setCell ?_ (by first | (simp; done) | (simp; omega)) _))), fun h => by cases h⟩
                case o9 =>
                  intro x w1 hH K hK
                  have e47 : x 47 = _ := hH.holds 8 (by decide) (by decide +kernel) 47 rfl
                  obtain ⟨xs, d, rfl⟩ := grow_of_below hH.below
                  clear hH
                  try simp only [World.grow_drew] at hK ⊢
                  try simp only [World.grow_grow] at hK ⊢
                  simp only [e47] at hK ⊢
                  clear e47
                  go_simp
                  go_wp2_with fail
                  exact ⟨_, rfl, rfl, (by repeat (first | exact below_of_grow _ _ | exact Below.refl _ _ | exact below_more _ _ _ _ | (simp only [← Array.append_assoc]; first | exact below_more _ _ _ _ | exact below_same _ _ _ | exact Below.refl _ _) | exact below_same _ _ _ | (refine Below.alloc ?_ (by first | (simp; done) | (simp; omega)) _) | (refine Below.grow ?_ (by first | (simp; done) | (simp; omega)) _ _) | refine Below.drew ?_ | refine Below.drewN ?_ _ | (refine Below.putF ?_ (by first | (simp; done) | omega | (simp; omega)) _) | (refine Below.setCell ?_ (by first | (simp; done) | (simp; omega)) _))), fun h => by cases h⟩
                case o10 =>
                  intro x w1 hH K hK
                  have e43 : x 43 = _ := hH.holds 4 (by decide) (by decide +kernel) 43 rfl
                  have e48 : x 48 = _ := hH.holds 9 (by decide) (by decide +kernel) 48 rfl
                  obtain ⟨xs, d, rfl⟩ := grow_of_below hH.below
                  clear hH
                  try simp only [World.grow_drew] at hK ⊢
                  try simp only [World.grow_grow] at hK ⊢
                  simp only [e43, e48] at hK ⊢
                  clear e43 e48
                  go_simp
                  go_wp2_with fail
                  exact ⟨_, rfl, rfl, (by repeat (first | exact below_of_grow _ _ | exact Below.refl _ _ | exact below_more _ _ _ _ | (simp only [← Array.append_assoc]; first | exact below_more _ _ _ _ | exact below_same _ _ _ | exact Below.refl _ _) | exact below_same _ _ _ | (refine Below.alloc ?_ (by first | (simp; done) | (simp; omega)) _) | (refine Below.grow ?_ (by first | (simp; done) | (simp; omega)) _ _) | refine Below.drew ?_ | refine Below.drewN ?_ _ | (refine Below.putF ?_ (by first | (simp; done) | omega | (simp; omega)) _) | (refine Below.setCell ?_ (by first | (simp; done) | (simp; omega)) _))), fun h => by cases h⟩
              case hend =>
                intro x w1 hH
                have e39 : x 39 = _ := hH.holds 0 (by decide) trivial 39 rfl
                have e40 : x 40 = _ := hH.holds 1 (by decide) trivial 40 rfl
                have e41 : x 41 = _ := hH.holds 2 (by decide) trivial 41 rfl
                have e42 : x 42 = _ := hH.holds 3 (by decide) trivial 42 rfl
                have e43 : x 43 = _ := hH.holds 4 (by decide) trivial 43 rfl
                have e44 : x 44 = _ := hH.holds 5 (by decide) trivial 44 rfl
                have e45 : x 45 = _ := hH.holds 6 (by decide) trivial 45 rfl
                have e46 : x 46 = _ := hH.holds 7 (by decide) trivial 46 rfl
                have e47 : x 47 = _ := hH.holds 8 (by decide) trivial 47 rfl
                have e48 : x 48 = _ := hH.holds 9 (by decide) trivial 48 rfl
                have e49 : x 49 = _ := hH.holds 10 (by decide) trivial 49 rfl
                obtain ⟨xs, d, rfl⟩ := grow_of_below hH.below
                clear hH
                simp only [e39, e40, e41, e42, e43, e44, e45, e46, e47, e48, e49]; clear e39 e40 e41 e42 e43 e44 e45 e46 e47 e48 e49
                simp only [List.drop_succ_cons, List.drop_nil]
                go_wp2_with fail
                go_roundw
                case rel => exact ⟨j + 1, by omega, by go_num, Lib.hid (HQ.out.drew.grow hszq _ _), Lib.hid (by rw [HF.out]; exact HO.out.drew.grow _ _)⟩
                case measure => simp [intOf]; omega
            · have hd : decide (y.k = xk) = false := by simpa using hyk
              have hf := HFS.out
              rw [hd, if_neg (by decide)] at hf
              have HF := Lib.hid hf
              clear hyk hf
              go_wp2_with fail
              apply wp_region_specs (by rfl) [.val _, .val _, .val _, .val _, .val _, .val _, .val _, .val _, .val _, .val _, .val _] 11 (by rfl) [39, 40, 41, 42, 43, 44, 45, 46, 47, 48, 49] [] [] (by rfl) (by rfl) (by decide) (by decide +kernel) (fun _ _ _ _ _ h => h)
              case hF => intro x; simp only [over, List.foldl_cons, List.foldl_nil, List.setIfInBounds_toArray, List.set_cons_succ, List.set_cons_zero]; exact rfl
              case hops =>
                refine ⟨?o0, ?o1, ?o2, ?o3, ?o4, ?o5, ?o6, ?o7, ?o8, ?o9, ?o10, trivial⟩
                case o0 =>
                  intro x w1 hH K hK
                  obtain ⟨xs, d, rfl⟩ := grow_of_below hH.below
                  clear hH
                  try simp only [World.grow_drew] at hK ⊢
                  try simp only [World.grow_grow] at hK ⊢
                  go_simp
                  go_wp2_with fail
                  exact ⟨_, rfl, rfl, (by repeat (first | exact below_of_grow _ _ | exact Below.refl _ _ | exact below_more _ _ _ _ | (simp only [← Array.append_assoc]; first | exact below_more _ _ _ _ | exact below_same _ _ _ | exact Below.refl _ _) | exact below_same _ _ _ | (refine Below.alloc ?_ (by first | (simp; done) | (simp; omega)) _) | (refine Below.grow ?_ (by first | (simp; done) | (simp; omega)) _ _) | refine Below.drew ?_ | refine Below.drewN ?_ _ | (refine Below.putF ?_ (by first | (simp; done) | omega | (simp; omega)) _) | (refine Below.setCell ?_ (by first | (simp; done) | (simp; omega)) _))), fun h => by cases h⟩
                case o1 =>
                  intro x w1 hH K hK
                  obtain ⟨xs, d, rfl⟩ := grow_of_below hH.below
                  clear hH
                  try simp only [World.grow_drew] at hK ⊢
                  try simp only [World.grow_grow] at hK ⊢
                  go_simp
                  go_wp2_with fail
                  exact ⟨_, rfl, rfl, (by repeat (first | exact below_of_grow _ _ | exact Below.refl _ _ | exact below_more _ _ _ _ | (simp only [← Array.append_assoc]; first | exact below_more _ _ _ _ | exact below_same _ _ _ | exact Below.refl _ _) | exact below_same _ _ _ | (refine Below.alloc ?_ (by first | (simp; done) | (simp; omega)) _) | (refine Below.grow ?_ (by first | (simp; done) | (simp; omega)) _ _) | refine Below.drew ?_ | refine Below.drewN ?_ _ | (refine Below.putF ?_ (by first | (simp; done) | omega | (simp; omega)) _) | (refine Below.setCell ?_ (by first | (simp; done) | (simp; omega)) _))), fun h => by cases h⟩
                case o2 =>
                  intro x w1 hH K hK
                  have e39 : x 39 = _ := hH.holds 0 (by decide) (by decide +kernel) 39 rfl
                  have e40 : x 40 = _ := hH.holds 1 (by decide) (by decide +kernel) 40 rfl
                  obtain ⟨xs, d, rfl⟩ := grow_of_below hH.below
                  clear hH
                  try simp only [World.grow_drew] at hK ⊢
                  try simp only [World.grow_grow] at hK ⊢
                  simp only [e39, e40] at hK ⊢
                  clear e39 e40
                  go_simp
                  go_wp2_with fail
                  exact ⟨_, rfl, rfl, (by repeat (first | exact below_of_grow _ _ | exact Below.refl _ _ | exact below_more _ _ _ _ | (simp only [← Array.append_assoc]; first | exact below_more _ _ _ _ | exact below_same _ _ _ | exact Below.refl _ _) | exact below_same _ _ _ | (refine Below.alloc ?_ (by first | (simp; done) | (simp; omega)) _) | (refine Below.grow ?_ (by first | (simp; done) | (simp; omega)) _ _) | refine Below.drew ?_ | refine Below.drewN ?_ _ | (refine Below.putF ?_ (by first | (simp; done) | omega | (simp; omega)) _) | (refine Below.setCell ?_ (by first | (simp; done) | (simp; omega)) _))), fun h => by cases h⟩
                case o3 =>
                  intro x w1 hH K hK
                  have e41 : x 41 = _ := hH.holds 2 (by decide) (by decide +kernel) 41 rfl
                  obtain ⟨xs, d, rfl⟩ := grow_of_below hH.below
                  clear hH
                  try simp only [World.grow_drew] at hK ⊢
                  try simp only [World.grow_grow] at hK ⊢
                  simp only [e41] at hK ⊢
                  clear e41
                  go_simp
                  go_wp2_with fail
                  exact ⟨_, rfl, rfl, (by repeat (first | exact below_of_grow _ _ | exact Below.refl _ _ | exact below_more _ _ _ _ | (simp only [← Array.append_assoc]; first | exact below_more _ _ _ _ | exact below_same _ _ _ | exact Below.refl _ _) | exact below_same _ _ _ | (refine Below.alloc ?_ (by first | (simp; done) | (simp; omega)) _) | (refine Below.grow ?_ (by first | (simp; done) | (simp; omega)) _ _) | refine Below.drew ?_ | refine Below.drewN ?_ _ | (refine Below.putF ?_ (by first | (simp; done) | omega | (simp; omega)) _) | (refine Below.setCell ?_ (by first | (simp; done) | (simp; omega)) _))), fun h => by cases h⟩
                case o4 =>
                  intro x w1 hH K hK
                  have e42 : x 42 = _ := hH.holds 3 (by decide) (by decide +kernel) 42 rfl
                  obtain ⟨xs, d, rfl⟩ := grow_of_below hH.below
                  clear hH
                  try simp only [World.grow_drew] at hK ⊢
                  try simp only [World.grow_grow] at hK ⊢
                  simp only [e42] at hK ⊢
                  clear e42
                  go_simp
                  go_wp2_with fail
                  exact ⟨_, rfl, rfl, (by repeat (first | exact below_of_grow _ _ | exact Below.refl _ _ | exact below_more _ _ _ _ | (simp only [← Array.append_assoc]; first | exact below_more _ _ _ _ | exact below_same _ _ _ | exact Below.refl _ _) | exact below_same _ _ _ | (refine Below.alloc ?_ (by first | (simp; done) | (simp; omega)) _) | (refine Below.grow ?_ (by first | (simp; done) | (simp; omega)) _ _) | refine Below.drew ?_ | refine Below.drewN ?_ _ | (refine Below.putF ?_ (by first | (simp; done) | omega | (simp; omega)) _) | (refine Below.setCell ?_ (by first | (simp; done) | (simp; omega)) _))), fun h => by cases h⟩
                case o5 =>
                  intro x w1 hH K hK
                  obtain ⟨xs, d, rfl⟩ := grow_of_below hH.below
                  clear hH
                  try simp only [World.grow_drew] at hK ⊢
                  try simp only [World.grow_grow] at hK ⊢
                  go_simp
                  go_wp2_with fail
                  exact ⟨_, rfl, rfl, (by repeat (first | exact below_of_grow _ _ | exact Below.refl _ _ | exact below_more _ _ _ _ | (simp only [← Array.append_assoc]; first | exact below_more _ _ _ _ | exact below_same _ _ _ | exact Below.refl _ _) | exact below_same _ _ _ | (refine Below.alloc ?_ (by first | (simp; done) | (simp; omega)) _) | (refine Below.grow ?_ (by first | (simp; done) | (simp; omega)) _ _) | refine Below.drew ?_ | refine Below.drewN ?_ _ | (refine Below.putF ?_ (by first | (simp; done) | omega | (simp; omega)) _) | (refine Below.setCell ?_ (by first | (simp; done) | (simp; omega)) _))), fun h => by cases h⟩
                case o6 =>
                  intro x w1 hH K hK
                  obtain ⟨xs, d, rfl⟩ := grow_of_below hH.below
                  clear hH
                  try simp only [World.grow_drew] at hK ⊢
                  try simp only [World.grow_grow] at hK ⊢
                  go_simp
                  go_wp2_with fail
                  exact ⟨_, rfl, rfl, (by repeat (first | exact below_of_grow _ _ | exact Below.refl _ _ | exact below_more _ _ _ _ | (simp only [← Array.append_assoc]; first | exact below_more _ _ _ _ | exact below_same _ _ _ | exact Below.refl _ _) | exact below_same _ _ _ | (refine Below.alloc ?_ (by first | (simp; done) | (simp; omega)) _) | (refine Below.grow ?_ (by first | (simp; done) | (simp; omega)) _ _) | refine Below.drew ?_ | refine Below.drewN ?_ _ | (refine Below.putF ?_ (by first | (simp; done) | omega | (simp; omega)) _) | (refine Below.setCell ?_ (by first | (simp; done) | (simp; omega)) _))), fun h => by cases h⟩
                case o7 =>
                  intro x w1 hH K hK
                  have e44 : x 44 = _ := hH.holds 5 (by decide) (by decide +kernel) 44 rfl
                  have e45 : x 45 = _ := hH.holds 6 (by decide) (by decide +kernel) 45 rfl
                  obtain ⟨xs, d, rfl⟩ := grow_of_below hH.below
                  clear hH
                  try simp only [World.grow_drew] at hK ⊢
                  try simp only [World.grow_grow] at hK ⊢
                  simp only [e44, e45] at hK ⊢
                  clear e44 e45
                  go_simp
                  go_wp2_with fail
                  exact ⟨_, rfl, rfl, (by repeat (first | exact below_of_grow _ _ | exact Below.refl _ _ | exact below_more _ _ _ _ | (simp only [← Array.append_assoc]; first | exact below_more _ _ _ _ | exact below_same _ _ _ | exact Below.refl _ _) | exact below_same _ _ _ | (refine Below.alloc ?_ (by first | (simp; done) | (simp; omega)) _) | (refine Below.grow ?_ (by first | (simp; done) | (simp; omega)) _ _) | refine Below.drew ?_ | refine Below.drewN ?_ _ | (refine Below.putF ?_ (by first | (simp; done) | omega | (simp; omega)) _) | (refine Below.setCell ?_ (by first | (simp; done) | (simp; omega)) _))), fun h => by cases h⟩
                case o8 =>
                  intro x w1 hH K hK
                  have e46 : x 46 = _ := hH.holds 7 (by decide) (by decide +kernel) 46 rfl
                  obtain ⟨xs, d, rfl⟩ := grow_of_below hH.below
                  clear hH
                  try simp only [World.grow_drew] at hK ⊢
                  try simp only [World.grow_grow] at hK ⊢
                  simp only [e46] at hK ⊢
                  clear e46
                  go_simp
                  go_wp2_with fail
                  exact ⟨_, rfl, rfl, (by repeat (first | exact below_of_grow _ _ | exact Below.refl _ _ | exact below_more _ _ _ _ | (simp only [← Array.append_assoc]; first | exact below_more _ _ _ _ | exact below_same _ _ _ | exact Below.refl _ _) | exact below_same _ _ _ | (refine Below.alloc ?_ (by first | (simp; done) | (simp; omega)) _) | (refine Below.grow ?_ (by first | (simp; done) | (simp; omega)) _ _) | refine Below.drew ?_ | refine Below.drewN ?_ _ | (refine Below.putF ?_ (by first | (simp; done) | omega | (simp; omega)) _) | (refine Below.setCell ?_ (by first | (simp; done) | (simp; omega)) _))), fun h => by cases h⟩
                case o9 =>
                  intro x w1 hH K hK
                  have e47 : x 47 = _ := hH.holds 8 (by decide) (by decide +kernel) 47 rfl
                  obtain ⟨xs, d, rfl⟩ := grow_of_below hH.below
                  clear hH
                  try simp only [World.grow_drew] at hK ⊢
                  try simp only [World.grow_grow] at hK ⊢
                  simp only [e47] at hK ⊢
                  clear e47
                  go_simp
                  go_wp2_with fail
                  exact ⟨_, rfl, rfl, (by repeat (first | exact below_of_grow _ _ | exact Below.refl _ _ | exact below_more _ _ _ _ | (simp only [← Array.append_assoc]; first | exact below_more _ _ _ _ | exact below_same _ _ _ | exact Below.refl _ _) | exact below_same _ _ _ | (refine Below.alloc ?_ (by first | (simp; done) | (simp; omega)) _) | (refine Below.grow ?_ (by first | (simp; done) | (simp; omega)) _ _) | refine Below.drew ?_ | refine Below.drewN ?_ _ | (refine Below.putF ?_ (by first | (simp; done) | omega | (simp; omega)) _) | (refine Below.setCell ?_ (by first | (simp; done) | (simp; omega)) _))), fun h => by cases h⟩
                case o10 =>
                  intro x w1 hH K hK
                  have e43 : x 43 = _ := hH.holds 4 (by decide) (by decide +kernel) 43 rfl
                  have e48 : x 48 = _ := hH.holds 9 (by decide) (by decide +kernel) 48 rfl
                  obtain ⟨xs, d, rfl⟩ := grow_of_below hH.below
                  clear hH
                  try simp only [World.grow_drew] at hK ⊢
                  try simp only [World.grow_grow] at hK ⊢
                  simp only [e43, e48] at hK ⊢
                  clear e43 e48
                  go_simp
                  go_wp2_with fail
                  exact ⟨_, rfl, rfl, (by repeat (first | exact below_of_grow _ _ | exact Below.refl _ _ | exact below_more _ _ _ _ | (simp only [← Array.append_assoc]; first | exact below_more _ _ _ _ | exact below_same _ _ _ | exact Below.refl _ _) | exact below_same _ _ _ | (refine Below.alloc ?_ (by first | (simp; done) | (simp; omega)) _) | (refine Below.grow ?_ (by first | (simp; done) | (simp; omega)) _ _) | refine Below.drew ?_ | refine Below.drewN ?_ _ | (refine Below.putF ?_ (by first | (simp; done) | omega | (simp; omega)) _) | (refine Below.setCell ?_ (by first | (simp; done) | (simp; omega)) _))), fun h => by cases h⟩
              case hend =>
                intro x w1 hH
                have e39 : x 39 = _ := hH.holds 0 (by decide) trivial 39 rfl
                have e40 : x 40 = _ := hH.holds 1 (by decide) trivial 40 rfl
                have e41 : x 41 = _ := hH.holds 2 (by decide) trivial 41 rfl
                have e42 : x 42 = _ := hH.holds 3 (by decide) trivial 42 rfl
                have e43 : x 43 = _ := hH.holds 4 (by decide) trivial 43 rfl
                have e44 : x 44 = _ := hH.holds 5 (by decide) trivial 44 rfl
                have e45 : x 45 = _ := hH.holds 6 (by decide) trivial 45 rfl
                have e46 : x 46 = _ := hH.holds 7 (by decide) trivial 46 rfl
                have e47 : x 47 = _ := hH.holds 8 (by decide) trivial 47 rfl
                have e48 : x 48 = _ := hH.holds 9 (by decide) trivial 48 rfl
                have e49 : x 49 = _ := hH.holds 10 (by decide) trivial 49 rfl
                obtain ⟨xs, d, rfl⟩ := grow_of_below hH.below
                clear hH
                simp only [e39, e40, e41, e42, e43, e44, e45, e46, e47, e48, e49]; clear e39 e40 e41 e42 e43 e44 e45 e46 e47 e48 e49
                simp only [List.drop_succ_cons, List.drop_nil]
                go_wp2_with (at_builtin; refine wpList_append (B := W0.heap.size) (xs := ((R.take j).filter (fun e => decide (e.k ≠ xk))).map entD) (ys := [entD y]) row_entD rfl (.tmp 50) (.tmp 55) rfl (v := u6) rfl ?_ rfl ?_ ?_ ?_ ?_ ?_)
                case refine_1 => exact (HO.out.drew.grow _ _).alloc _
                case refine_2 =>
                  refine ⟨_, sl_one (Nat.le_refl _) (by decide) (cut_heap ((heap_al _ _ _).trans (if_pos ?_)) (by simp))⟩
                  simp
                case refine_3 => intro x hx; simp at hx; subst hx; exact one_entD _
                case refine_4 => simp only [List.length_map, List.length_singleton]; omega
                case refine_5 => simp; omega
                intro v5 w5 ho hg _
                have hb5 : Below W0.heap.size W0 w5 := Below.grown ((HQ.out.drew.grow hszq xs d).alloc (by simp; omega) (.cells (entD y) 81)) hg (by simp; omega) (fun q hq => (HO.out.lt q hq).1)
                have HB5 := Lib.hid hb5
                have HO5 := Lib.hid (show OwnA w5 W0.heap.size 34 81 v5 (((R.take (j + 1)).filter (fun e => decide (e.k ≠ xk))).map entD) by rw [HF.out]; simpa using ho)
                clear ho hg hb5
                go_wp2_with fail
                go_roundw
                case rel => exact ⟨j + 1, by omega, by go_num, HB5, HO5⟩
                case measure => simp [intOf]; omega
          · have hje : j = R.length := by omega
            subst hje
            have hgn : ¬ (R.length : Int) < R.length := by omega
            have ho := HO.out
            rw [List.take_length, ← HSU2.out] at ho
            have HO2 := Lib.hid ho.sl
            have HB2 := Lib.hid (HB.out.trans (HQ.out.mono hsz))
            clear ho HO
            go_wp2_with fail
            go_roundw
            case rel => exact ⟨i + 1, by omega, by go_num, HB2, HO2⟩
            case measure => simp [intOf]; omega
    · have hie : i = ws.length := by omega
      subst hie
      have hgn : ¬ (ws.length : Int) < ws.length := by omega
      have hr := HR.out
      rw [List.take_length] at hr
      have HR2 := Lib.hid hr
      clear hr HR
      go_wp2_with fail
      go_ret
      exact ⟨_, rfl, HB.out, HR2.out⟩
end Go.Proofs.Ytbflpnkodpeggaa

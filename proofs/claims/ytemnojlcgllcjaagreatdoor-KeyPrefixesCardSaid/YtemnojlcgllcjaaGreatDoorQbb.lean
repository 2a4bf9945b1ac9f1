/- Layer 6: the bytes that all keys of a prefix begin with lie in a block of bytes. -/
import Derived.Test.YtemnojlcgllcjaaGreatDoorQam
import Derived.Handy
import Derived.Test.YtemnojlcgllcjaaGreatDoorQay
import Derived.Test.YtemnojlcgllcjaaGreatDoorQba
import Derived.Test.YtemnojlcgllcjaaGreatDoorQat
import Derived.BigRegion
namespace Go.Proofs.YtemnojlcgllcjaaGreatDoor
set_option maxRecDepth 100000
open Go.RowKit

/-- a slice's block is one of bytes -/
def TypB (w : World) (v : Value) : Prop := ∀ g, v.ownBlock = some g → ∃ c, w.heap[g]? = some (.cells c 5)
theorem TypB.nil (w : World) : TypB w (.slice none 0 0) := fun g h => by cases h
theorem TypB.of_own {w : World} {B : Nat} {v : Value} {xs : List (Array Value)} (h : OwnA w B 1 5 v xs) : TypB w v := by
  intro g hg
  obtain ⟨_, _, (⟨rfl, _⟩ | ⟨g', cap, cur, rfl, _, hh, _⟩)⟩ := h
  · cases hg
  · simp only [Value.ownBlock, Option.some.injEq] at hg
    exact ⟨cur, hg ▸ hh⟩
theorem TypB.keep {w w' : World} {v : Value} (h : TypB w v) (hb : Below w.heap.size w w') : TypB w' v := fun g hg => by
  obtain ⟨c, hc⟩ := h g hg
  exact ⟨c, (hb.block g (Array.getElem?_eq_some_iff.1 hc).1).trans hc⟩
theorem clone2_calls {w : World} {B b n cap : Nat} {l : List UInt8} (hn : l.length = n) (hl : n ≤ 25) (h : SlB w B (.slice (some ⟨b, 0, none⟩) n cap) l) (hB : B ≤ w.heap.size) :
    Calls Tryz.prog 99 #[.slice (some ⟨b, 0, none⟩) n cap] w fun e w' => ∃ v, e = .returned v ∧ SlB w' w'.heap.size v l ∧ Below w.heap.size w w' ∧ TypB w' v := by
  have hq : ∀ (w : World) (a : Option Addr) (n c n' c' : Nat), (binOp .eql 109 (.slice a n c) (.slice none n' c')).run Tryz.prog w = .ok (.bool a.isNone) w := fun w a n c n' c' => Lib.run_eql_slice_nil w _ _ a n c n' c' Tryz.underlying109
  have HS := Lib.hid (h.keep (w' := w.alloc (.cells #[] 5)) fun b hb => heap_alloc_old (w := w) _ (by omega)).ones
  have HL := Lib.hid (And.intro hn hl)
  clear h hn hl
  go_enter Tryz.func99, Tryz.ntmps99
  go_wp2_with (at_builtin; refine wpList_append (B := w.heap.size) (xs := []) (ys := l.map one8) row_byte rfl (.tmp 5) (.tmp 6) rfl rfl ?_ rfl ⟨_, HS.out⟩ (all_one8 l) ?_ ?_ ?_)
  case refine_1 => exact own_empty ((heap_al _ _ _).trans (if_pos rfl)) (Nat.le_refl _)
  case refine_2 => have := HL.out; simp; omega
  case refine_3 => simp
  intro v3 w3 ho hg _
  have hb3 : Below w.heap.size w w3 := Below.grown (((Below.refl _ w).alloc (Nat.le_refl _) _)) hg (by simp) (fun q hq => by simp [Value.ownBlock] at hq; omega)
  have HO := Lib.hid (And.intro (SlA.bytes (by simpa using ho.sl)) (And.intro hb3 (TypB.of_own ho)))
  clear ho hg hb3
  go_wp2_with fail
  go_ret
  exact ⟨_, rfl, HO.out.1, HO.out.2.1, HO.out.2.2⟩
set_option maxHeartbeats 8000000 in
theorem front2_calls (p : K25) (d : Int) (w : World) : Calls Tryz.prog 46 #[.agg (prefA p d)] w fun e w' => ∃ v, e = .returned v ∧ SlB w' w'.heap.size v (frontB p d) ∧ Below w.heap.size w w' ∧ TypB w' v := by
  have HR := Lib.hid (pright_gives p d)
  by_cases hd : prefR d = true
  · have h05 : 0 ≤ d ∧ d ≤ 5 := of_decide_eq_true hd
    have HC := Lib.hid (cut_gives p d h05)
    have HF := Lib.hid (show frontB p d = p.val.take (plen d) from if_pos hd)
    have hpl := plen_le d h05.2
    have hcl := cutB_len p.val (plen d) p.property hpl
    have HB := Lib.hid (keyBytes_gives _ hcl)
    have HT := Lib.hid (front_take p (plen d) hpl)
    have HL := Lib.hid hcl
    obtain ⟨n, hn⟩ : ∃ n, n = plen d := ⟨_, rfl⟩
    rw [← hn] at HC HF hpl HB HT HL
    have hcase : (d = 4 ∧ n = 15) ∨ (d = 5 ∧ n = 25) ∨ (¬ d = 4 ∧ ¬ d = 5 ∧ d = n) := by
      rw [hn]; unfold plen
      by_cases h1 : d < 4
      · rw [if_pos h1]; omega
      · rw [if_neg h1]
        by_cases h2 : d < 5
        · rw [if_pos h2]; omega
        · rw [if_neg h2]; omega
    obtain ⟨l, hl⟩ : ∃ l, l = cutB p.val n := ⟨_, rfl⟩
    rw [← hl] at HC HB HT HL
    clear hl hn hcl
    have hll := HL.out
    go_enter Tryz.func46, Tryz.ntmps46
    go_wp2_with fail
    refine Gives.use (HR.out _) ?_
    intro xs1 d1
    clear HR
    go_wp2_with fail
    refine Gives.use (HC.out _) ?_
    intro xs2 d2
    go_wp2_with fail
    refine Gives.use (HB.out _) ?_
    intro xs3 d3
    clear HC HB
    have hnI : (n : Int) ≤ 25 := by omega
    rcases hcase with ⟨rfl, rfl⟩ | ⟨rfl, rfl⟩ | ⟨h4, h5, rfl⟩
    all_goals
      go_wp2_with fail
      refine (clone2_calls (by rw [List.length_take, hll]; omega) (by omega) (sl_fixed hll (cut_heap ((heap_al _ _ _).trans (if_pos (by simp <;> omega))) (by simp [hll])) (by omega) (by omega) (by unfold maxLen; decide)) (by simp <;> omega)).mono ?_
      rintro e w9 ⟨v, rfl, hv, hb, ht⟩
      have HV := Lib.hid (And.intro hv (And.intro hb ht))
      clear hv hb ht
      go_wp2_with fail
      go_ret
      exact ⟨v, rfl, by rw [HF.out, ← HT.out]; exact HV.out.1, Below.trans (by exact (by repeat (first | exact below_of_grow _ _ | exact Below.refl _ _ | exact below_more _ _ _ _ | (simp only [← Array.append_assoc]; first | exact below_more _ _ _ _ | exact below_same _ _ _ | exact Below.refl _ _) | exact below_same _ _ _ | (refine Below.alloc ?_ (by first | (simp; done) | (simp; omega)) _) | (refine Below.grow ?_ (by first | (simp; done) | (simp; omega)) _ _) | refine Below.drew ?_ | refine Below.drewN ?_ _ | (refine Below.putF ?_ (by first | (simp; done) | omega | (simp; omega)) _) | (refine Below.setCell ?_ (by first | (simp; done) | (simp; omega)) _)))) (HV.out.2.1.mono (by simp <;> omega)), HV.out.2.2⟩
  · have hdf : prefR d = false := by cases h : prefR d; rfl; exact absurd h hd
    have HF := Lib.hid (show frontB p d = [] from if_neg hd)
    clear hd
    rw [hdf] at HR
    go_enter Tryz.func46, Tryz.ntmps46
    go_wp2_with fail
    refine Gives.use (HR.out _) ?_
    intro xs1 d1
    go_wp2_with fail
    go_ret
    exact ⟨_, rfl, by rw [HF.out]; exact SlB.nil _ _, (by repeat (first | exact below_of_grow _ _ | exact Below.refl _ _ | exact below_more _ _ _ _ | (simp only [← Array.append_assoc]; first | exact below_more _ _ _ _ | exact below_same _ _ _ | exact Below.refl _ _) | exact below_same _ _ _ | (refine Below.alloc ?_ (by first | (simp; done) | (simp; omega)) _) | (refine Below.grow ?_ (by first | (simp; done) | (simp; omega)) _ _) | refine Below.drew ?_ | refine Below.drewN ?_ _ | (refine Below.putF ?_ (by first | (simp; done) | omega | (simp; omega)) _) | (refine Below.setCell ?_ (by first | (simp; done) | (simp; omega)) _))), TypB.nil _⟩
end Go.Proofs.YtemnojlcgllcjaaGreatDoor
namespace Go.Proofs.YtemnojlcgllcjaaGreatDoor
set_option maxRecDepth 100000
open Go.RowKit

theorem frontB_in (p : K25) {d : Int} (h : 0 ≤ d ∧ d ≤ 5) : frontB p d = p.val.take (plen d) ∧ (frontB p d).length = plen d := by
  have e : frontB p d = p.val.take (plen d) := if_pos (decide_eq_true h)
  refine ⟨e, ?_⟩
  rw [e, List.length_take, p.property]
  have := plen_le d h.2
  omega
theorem hasB_in (p k : K25) {d : Int} (h : 0 ≤ d ∧ d ≤ 5) : hasB p d k = (p.val.take (plen d) == k.val.take (plen d)) := by
  unfold hasB prefR
  rw [decide_eq_true h, Bool.true_and, Bool.eq_iff_iff]; simp
set_option maxHeartbeats 20000000 in
theorem keyPx0 (p k : K25) (dp : Int) (hdp : dp = 0) (w : World) : Gives Tryz.prog 9 #[.agg (prefA p dp), .agg (row8 k.val)] w (.bool true) := by
  have HDP := Lib.hid hdp
  clear hdp
  have HKN := Lib.hid known06_gives
  have HBK := Lib.hid (keyBytes_gives k.val k.property)
  have HHA := Lib.hid (has_gives p k dp)
  have HRH := Lib.hid (refHas6_gives p k dp)
  have HOP := Lib.hid (lawOf_gives p.val p.property)
  have HOK := Lib.hid (lawOf_gives k.val k.property)
  have pp := p.property
  have pk := k.property
  unfold Gives
  go_enter Tryz.func9, Tryz.ntmps9
  go_upto_region 1 with fail
  apply wp_region_specs (by rfl) [.val _, .rel (fun v W => SlB W W.heap.size v (frontB p dp) ∧ TypB W v), .val _, .val _, .new _] 5 (by rfl) [10, 11, 12, 13, 6] [4] [] (by rfl) (by rfl) (by decide) (by decide +kernel) (fun _ _ _ _ _ h => h)
  case hF => intro x; simp only [over, List.foldl_cons, List.foldl_nil, List.setIfInBounds_toArray, List.set_cons_succ, List.set_cons_zero]; exact rfl
  case hops =>
    refine ⟨?o0, ?o1, ?o2, ?o3, ?o4, trivial⟩
    case o0 =>
      intro x w1 hH K hK
      obtain ⟨xs, d, rfl⟩ := grow_of_below hH.below
      clear hH
      try simp only [World.grow_drew] at hK ⊢
      try simp only [World.grow_grow] at hK ⊢
      go_simp
      go_wp2_with fail
      exact ⟨_, rfl, rfl, (by repeat (first | exact below_of_grow _ _ | exact Below.refl _ _ | exact below_more _ _ _ _ | (simp only [← Array.append_assoc]; first | exact below_more _ _ _ _ | exact below_same _ _ _ | exact Below.refl _ _) | exact below_same _ _ _ | (refine Below.alloc ?_ (by first | (simp; done) | (simp; omega)) _) | (refine Below.grow ?_ (by first | (simp; done) | (simp; omega)) _ _) | refine Below.drew ?_ | refine Below.drewN ?_ _ | (refine Below.putF ?_ (by first | (simp; done) | omega | (simp; omega)) _) | (refine Below.setCell ?_ (by first | (simp; done) | (simp; omega)) _))), fun h => by cases h⟩
    case o1 =>
      intro x w1 hH K hK
      have e10 : x 10 = _ := hH.holds 0 (by decide) (by decide +kernel) 10 rfl
      obtain ⟨xs, d, rfl⟩ := grow_of_below hH.below
      clear hH
      try simp only [World.grow_drew] at hK ⊢
      try simp only [World.grow_grow] at hK ⊢
      simp only [e10] at hK ⊢
      clear e10
      go_simp
      go_wp2_with (refine (front2_calls p dp _).mono ?_; rintro e9 W9 ⟨v9, rfl, hv9, hb9, ht9⟩)
      exact ⟨_, rfl, fun w3 h3 => ⟨(hv9.keep fun b hb => h3.block b hb).more h3.size, ht9.keep h3⟩, Below.trans (by repeat (first | exact below_of_grow _ _ | exact Below.refl _ _ | exact below_more _ _ _ _ | (simp only [← Array.append_assoc]; first | exact below_more _ _ _ _ | exact below_same _ _ _ | exact Below.refl _ _) | exact below_same _ _ _ | (refine Below.alloc ?_ (by first | (simp; done) | (simp; omega)) _) | (refine Below.grow ?_ (by first | (simp; done) | (simp; omega)) _ _) | refine Below.drew ?_ | refine Below.drewN ?_ _ | (refine Below.putF ?_ (by first | (simp; done) | omega | (simp; omega)) _) | (refine Below.setCell ?_ (by first | (simp; done) | (simp; omega)) _))) (hb9.mono (by simp <;> omega)), fun h => by cases h⟩
    case o2 =>
      intro x w1 hH K hK
      obtain ⟨xs, d, rfl⟩ := grow_of_below hH.below
      clear hH
      try simp only [World.grow_drew] at hK ⊢
      try simp only [World.grow_grow] at hK ⊢
      go_simp
      go_wp2_with fail
      exact ⟨_, rfl, rfl, (by repeat (first | exact below_of_grow _ _ | exact Below.refl _ _ | exact below_more _ _ _ _ | (simp only [← Array.append_assoc]; first | exact below_more _ _ _ _ | exact below_same _ _ _ | exact Below.refl _ _) | exact below_same _ _ _ | (refine Below.alloc ?_ (by first | (simp; done) | (simp; omega)) _) | (refine Below.grow ?_ (by first | (simp; done) | (simp; omega)) _ _) | refine Below.drew ?_ | refine Below.drewN ?_ _ | (refine Below.putF ?_ (by first | (simp; done) | omega | (simp; omega)) _) | (refine Below.setCell ?_ (by first | (simp; done) | (simp; omega)) _))), fun h => by cases h⟩
    case o3 =>
      intro x w1 hH K hK
      have e12 : x 12 = _ := hH.holds 2 (by decide) (by decide +kernel) 12 rfl
      obtain ⟨xs, d, rfl⟩ := grow_of_below hH.below
      clear hH
      try simp only [World.grow_drew] at hK ⊢
      try simp only [World.grow_grow] at hK ⊢
      simp only [e12] at hK ⊢
      clear e12
      go_simp
      go_wp2_with (refine Gives.use (HBK.out _) ?_; intro ys e)
      exact ⟨_, rfl, rfl, (by first | exact below_more _ _ _ _ | exact (by repeat (first | exact below_of_grow _ _ | exact Below.refl _ _ | exact below_more _ _ _ _ | (simp only [← Array.append_assoc]; first | exact below_more _ _ _ _ | exact below_same _ _ _ | exact Below.refl _ _) | exact below_same _ _ _ | (refine Below.alloc ?_ (by first | (simp; done) | (simp; omega)) _) | (refine Below.grow ?_ (by first | (simp; done) | (simp; omega)) _ _) | refine Below.drew ?_ | refine Below.drewN ?_ _ | (refine Below.putF ?_ (by first | (simp; done) | omega | (simp; omega)) _) | (refine Below.setCell ?_ (by first | (simp; done) | (simp; omega)) _)))), fun h => by cases h⟩
    case o4 =>
      intro x w1 hH K hK
      obtain ⟨xs, d, rfl⟩ := grow_of_below hH.below
      clear hH
      try simp only [World.grow_drew] at hK ⊢
      try simp only [World.grow_grow] at hK ⊢
      go_simp
      go_wp2_with fail
      exact left_new rfl (by simp) (by first | (simp; done) | (simp; omega))
  case hend =>
    intro x w1 hH
    have e10 : x 10 = _ := hH.holds 0 (by decide) trivial 10 rfl
    have r11 := hH.holds 1 (by decide) trivial 11 rfl (_) (Below.refl _ _)
    have e12 : x 12 = _ := hH.holds 2 (by decide) trivial 12 rfl
    have e13 : x 13 = _ := hH.holds 3 (by decide) trivial 13 rfl
    obtain ⟨b6, e6, l6, u6, o6⟩ := hH.holds 4 (by decide) trivial 6 rfl
    obtain ⟨xs, d, rfl⟩ := grow_of_below hH.below
    clear hH
    simp only [e10, e12, e13, e6]; clear e10 e12 e13 e6
    refine new_known1 o6 l6 u6 ?_
    simp [go_sem] at l6 u6
    simp only [List.drop_succ_cons, List.drop_zero]
    obtain ⟨r11, rt⟩ := r11
    obtain ⟨a5, cap, hx11, hcl, hcm, hsl⟩ := id r11
    rw [hx11] at r11 rt ⊢
    clear hx11 hsl
    go_upto_region 2 with fail
    refine wp_name ?_
    intro W hW
    obtain ⟨q, hq⟩ : ∃ q, q = w.heap.size := ⟨_, rfl⟩
    have hbw : Below w.heap.size w W := by rw [hW]; exact (by repeat (first | exact below_of_grow _ _ | exact Below.refl _ _ | exact below_more _ _ _ _ | (simp only [← Array.append_assoc]; first | exact below_more _ _ _ _ | exact below_same _ _ _ | exact Below.refl _ _) | exact below_same _ _ _ | (refine Below.alloc ?_ (by first | (simp; done) | (simp; omega)) _) | (refine Below.grow ?_ (by first | (simp; done) | (simp; omega)) _ _) | refine Below.drew ?_ | refine Below.drewN ?_ _ | (refine Below.putF ?_ (by first | (simp; done) | omega | (simp; omega)) _) | (refine Below.setCell ?_ (by first | (simp; done) | (simp; omega)) _)))
    have hsz : W.heap.size = w.heap.size + 2 + xs.size := by rw [hW]; simp
    have hb6 : W.heap[b6]? = some (.cells (row8 k.val) 104) := by rw [hW]; exact World.putF_heap_eq _ (by simp; omega)
    obtain ⟨V, hV⟩ : ∃ V, V = ((w.alloc (.cells (prefA p dp) 50)).alloc (.cells (row8 k.val) 39)).drew.grow xs d := ⟨_, rfl⟩
    rw [← hV] at r11 rt o6
    have old : ∀ b, b ≠ b6 → W.heap[b]? = V.heap[b]? := fun b hne => by rw [hW, hV]; exact World.putF_heap_ne _ hne
    have hVs : V.heap.size = w.heap.size + 2 + xs.size := by rw [hV, World.grow_size]; simp [World.drew]
    have hp0 : W.heap[q]? = some (.cells (prefA p dp) 50) := by
      rw [old q (by omega), hV, World.grow_heap _ _ _ (by show q < ((w.alloc _).alloc _).heap.size; simp; omega)]
      show (((w.alloc (.cells (prefA p dp) 50)).alloc (.cells (row8 k.val) 39))).heap[q]? = _
      rw [heap_al, if_neg (by simp; omega), heap_al, if_pos hq]
    have hk0 : W.heap[q + 1]? = some (.cells (row8 k.val) 39) := by
      rw [old (q + 1) (by omega), hV, World.grow_heap _ _ _ (by show q + 1 < ((w.alloc _).alloc _).heap.size; simp; omega)]
      show (((w.alloc (.cells (prefA p dp) 50)).alloc (.cells (row8 k.val) 39))).heap[q + 1]? = _
      rw [heap_al, if_pos (by simp; omega)]
    have hne : ∀ g, a5 = some g → g.block ≠ b6 := fun g hg he => by
      obtain ⟨c, hc⟩ := rt g.block (by rw [hg]; rfl)
      rw [he, o6] at hc
      simp at hc
    have hsb : SlB W W.heap.size (.slice a5 (frontB p dp).length cap) (frontB p dp) := by
      obtain ⟨_, _, e, h1, h2, h3⟩ := r11
      refine ⟨a5, cap, rfl, hcl, hcm, fun hp => ?_⟩
      simp only [Value.slice.injEq, true_and] at e
      obtain ⟨rfl, rfl⟩ := e
      obtain ⟨b', o', rfl, hb', hc'⟩ := h3 hp
      exact ⟨b', o', rfl, by omega, (cut_of_heap (old b' (hne _ rfl)) _ _).trans hc'⟩
    have c0 := cut_heap hp0 (sz := 26) (by simp)
    have c1 : W.cell? ⟨q, 25, none⟩ = some (.int .i64 dp) := (cellsK hp0 25).1.trans (prefA_d p dp)
    have c2 : W.cut? q 0 25 = some (row8 p.val) := by
      have := cut_sub c0 (i := 0) (m := 25) (by decide)
      rw [Nat.zero_add, prefA_ext p dp 0 25 (by decide), List.take_of_length_le (by omega), List.drop_zero] at this
      exact this
    have c3 := cut_heap hk0 (sz := 25) (by simp [pk])
    have c6 := cut_heap hb6 (sz := 25) (by simp [pk])
    have m1 : q < W.heap.size := by omega
    have m2 : q + 1 < W.heap.size := by omega
    have m6 : b6 < W.heap.size := by omega
    obtain ⟨F, hF⟩ : ∃ F, F = frontB p dp := ⟨_, rfl⟩
    rw [← hF] at hsb hcl ⊢
    simp only [← hq]
    have HB := Lib.hid (And.intro hbw (And.intro hq hsz))
    have HSB := Lib.hid (show ∀ W', Below W.heap.size W W' → SlB W' W.heap.size (.slice a5 F.length cap) F from fun W' h => hsb.keep fun b hb => h.block b hb)
    have HSK := Lib.hid (show ∀ n, n ≤ 25 → ∀ W', Below W.heap.size W W' → SlB W' (b6 + 1) (.slice (some ⟨b6, 0, none⟩) n 25) (k.val.take n) from fun n hn W' h => (sl_fixed pk c6 hn (by decide) (by unfold maxLen; decide)).keep fun b hb => h.block b (by omega))
    clear hbw hq hsz hsb hne old hV hVs o6 rt r11 hW l6 u6 hp0 hk0 hb6 V
    have hdp := HDP.out
    have hd : 0 ≤ dp ∧ dp ≤ 5 := by omega
    obtain ⟨hF1, hF2⟩ := frontB_in p hd
    have hr := hasB_in p k hd
    rw [← hF1, ← hF] at hr
    rw [← hF] at hF2
    generalize hasB p dp k = r at *
    have HR := Lib.hid hr
    clear hr hF1 hF
    clear HDP
    subst hdp
    have hn : F.length = 0 := hF2
    rw [hn] at HSB hcl ⊢
    have HSK2 := Lib.hid (HSK.out 0 (by decide))
    rw [show plen _ = 0 from rfl] at HR
    clear HSK hF2 hn hd
    go_wp2_with fail
    refine Gives.use (HHA.out _) ?_
    intro xs2 d2
    go_upto_region 7 with fail
    refine wp_name ?_
    intro W3 hW3
    have hb3 : Below W.heap.size W W3 := by rw [hW3]; exact (by repeat (first | exact below_of_grow _ _ | exact Below.refl _ _ | exact below_more _ _ _ _ | (simp only [← Array.append_assoc]; first | exact below_more _ _ _ _ | exact below_same _ _ _ | exact Below.refl _ _) | exact below_same _ _ _ | (refine Below.alloc ?_ (by first | (simp; done) | (simp; omega)) _) | (refine Below.grow ?_ (by first | (simp; done) | (simp; omega)) _ _) | refine Below.drew ?_ | refine Below.drewN ?_ _ | (refine Below.putF ?_ (by first | (simp; done) | omega | (simp; omega)) _) | (refine Below.setCell ?_ (by first | (simp; done) | (simp; omega)) _)))
    have HS := Lib.hid (show ∀ W', Below W3.heap.size W3 W' → Gives Tryz.prog 49 #[.slice a5 0 cap, .slice (some ⟨b6, 0, none⟩) 0 25] W' (.bool r) from fun W' h => by
      have h' := hb3.trans (h.mono hb3.size)
      have hz := h'.size
      have := ref2Same_gives F (k.val.take 0) (HSB.out W' h') (HSK2.out W' h') hz (by omega)
      rw [← HR.out] at this
      exact this)
    have e1 := (cut_of_heap (hb3.block q m1) 0 26).trans c0
    have e2 := (World.cell?_of_block (w := W) (w' := W3) (a := ⟨q, 25, none⟩) (hb3.block q m1)).trans c1
    have e3 := (cut_of_heap (hb3.block q m1) 0 25).trans c2
    have e4 := (cut_of_heap (hb3.block (q + 1) m2) 0 25).trans c3
    have e5 := (cut_of_heap (hb3.block b6 m6) 0 25).trans c6
    have k1 : q < W3.heap.size := Nat.lt_of_lt_of_le m1 hb3.size
    have k2 : q + 1 < W3.heap.size := Nat.lt_of_lt_of_le m2 hb3.size
    have k6 : b6 < W3.heap.size := Nat.lt_of_lt_of_le m6 hb3.size
    have HB3 := Lib.hid hb3
    clear hW3 hb3 c0 c1 c2 c3 c6 m1 m2 m6 HSB HSK2 HR HHA
    apply wp_region_specs (by rfl) [.val _, .val _, .val _, .val _, .val _, .val _, .val _, .val _, .val _, .val _, .val _, .val _, .val _, .val _, .val _, .val _, .val _, .val _, .val _, .val _, .val _, .val _, .val _, .val _, .val _, .val _] 26 (by rfl) [46, 47, 48, 49, 50, 51, 52, 53, 54, 55, 56, 57, 58, 59, 60, 61, 62, 63, 64, 65, 66, 67, 68, 69, 70, 71] [] [] (by rfl) (by rfl) (by decide) (by decide +kernel) (fun _ _ _ _ _ h => h)
    case hF => intro x; simp only [over, List.foldl_cons, List.foldl_nil, List.setIfInBounds_toArray, List.set_cons_succ, List.set_cons_zero]; exact rfl
    case hops =>
      refine ⟨?o0, ?o1, ?o2, ?o3, ?o4, ?o5, ?o6, ?o7, ?o8, ?o9, ?o10, ?o11, ?o12, ?o13, ?o14, ?o15, ?o16, ?o17, ?o18, ?o19, ?o20, ?o21, ?o22, ?o23, ?o24, ?o25, trivial⟩
      case o0 =>
        intro x w1 hH K hK
        obtain ⟨xs, d, rfl⟩ := grow_of_below hH.below
        clear hH
        try simp only [World.grow_drew] at hK ⊢
        try simp only [World.grow_grow] at hK ⊢
        go_simp
        go_wp2_with (refine Gives.use (HKN.out _) ?_; intro ys e)
        exact ⟨_, rfl, rfl, (by first | exact below_more _ _ _ _ | exact (by repeat (first | exact below_of_grow _ _ | exact Below.refl _ _ | exact below_more _ _ _ _ | (simp only [← Array.append_assoc]; first | exact below_more _ _ _ _ | exact below_same _ _ _ | exact Below.refl _ _) | exact below_same _ _ _ | (refine Below.alloc ?_ (by first | (simp; done) | (simp; omega)) _) | (refine Below.grow ?_ (by first | (simp; done) | (simp; omega)) _ _) | refine Below.drew ?_ | refine Below.drewN ?_ _ | (refine Below.putF ?_ (by first | (simp; done) | omega | (simp; omega)) _) | (refine Below.setCell ?_ (by first | (simp; done) | (simp; omega)) _)))), fun h => by cases h⟩
      case o1 =>
        intro x w1 hH K hK
        have e46 : x 46 = _ := hH.holds 0 (by decide) (by decide +kernel) 46 rfl
        obtain ⟨xs, d, rfl⟩ := grow_of_below hH.below
        clear hH
        try simp only [World.grow_drew] at hK ⊢
        try simp only [World.grow_grow] at hK ⊢
        simp only [e46] at hK ⊢
        clear e46
        go_simp
        go_wp2_with fail
        exact ⟨_, rfl, rfl, (by first | exact Below.refl _ _ | exact below_same _ _ _ | exact below_more _ _ _ _ | exact below_of_grow _ _), fun h => by cases h⟩
      case o2 =>
        intro x w1 hH K hK
        have e47 : x 47 = _ := hH.holds 1 (by decide) (by decide +kernel) 47 rfl
        obtain ⟨xs, d, rfl⟩ := grow_of_below hH.below
        clear hH
        try simp only [World.grow_drew] at hK ⊢
        try simp only [World.grow_grow] at hK ⊢
        simp only [e47] at hK ⊢
        clear e47
        go_simp
        go_wp2_with fail
        exact ⟨_, rfl, rfl, (by first | exact Below.refl _ _ | exact below_same _ _ _ | exact below_more _ _ _ _ | exact below_of_grow _ _), fun h => by cases h⟩
      case o3 =>
        intro x w1 hH K hK
        have e47 : x 47 = _ := hH.holds 1 (by decide) (by decide +kernel) 47 rfl
        obtain ⟨xs, d, rfl⟩ := grow_of_below hH.below
        clear hH
        try simp only [World.grow_drew] at hK ⊢
        try simp only [World.grow_grow] at hK ⊢
        simp only [e47] at hK ⊢
        clear e47
        go_simp
        go_wp2_with fail
        exact ⟨_, rfl, rfl, (by first | exact Below.refl _ _ | exact below_same _ _ _ | exact below_more _ _ _ _ | exact below_of_grow _ _), fun h => by cases h⟩
      case o4 =>
        intro x w1 hH K hK
        have e47 : x 47 = _ := hH.holds 1 (by decide) (by decide +kernel) 47 rfl
        have e49 : x 49 = _ := hH.holds 3 (by decide) (by decide +kernel) 49 rfl
        obtain ⟨xs, d, rfl⟩ := grow_of_below hH.below
        clear hH
        try simp only [World.grow_drew] at hK ⊢
        try simp only [World.grow_grow] at hK ⊢
        simp only [e47, e49] at hK ⊢
        clear e47 e49
        go_simp
        go_wp2_with fail
        exact ⟨_, rfl, rfl, (by first | exact Below.refl _ _ | exact below_same _ _ _ | exact below_more _ _ _ _ | exact below_of_grow _ _), fun h => by cases h⟩
      case o5 =>
        intro x w1 hH K hK
        have e47 : x 47 = _ := hH.holds 1 (by decide) (by decide +kernel) 47 rfl
        have e50 : x 50 = _ := hH.holds 4 (by decide) (by decide +kernel) 50 rfl
        obtain ⟨xs, d, rfl⟩ := grow_of_below hH.below
        clear hH
        try simp only [World.grow_drew] at hK ⊢
        try simp only [World.grow_grow] at hK ⊢
        simp only [e47, e50] at hK ⊢
        clear e47 e50
        go_simp
        go_wp2_with (refine Gives.use (HOP.out _) ?_; intro ys e)
        exact ⟨_, rfl, rfl, (by first | exact below_more _ _ _ _ | exact (by repeat (first | exact below_of_grow _ _ | exact Below.refl _ _ | exact below_more _ _ _ _ | (simp only [← Array.append_assoc]; first | exact below_more _ _ _ _ | exact below_same _ _ _ | exact Below.refl _ _) | exact below_same _ _ _ | (refine Below.alloc ?_ (by first | (simp; done) | (simp; omega)) _) | (refine Below.grow ?_ (by first | (simp; done) | (simp; omega)) _ _) | refine Below.drew ?_ | refine Below.drewN ?_ _ | (refine Below.putF ?_ (by first | (simp; done) | omega | (simp; omega)) _) | (refine Below.setCell ?_ (by first | (simp; done) | (simp; omega)) _)))), fun h => by cases h⟩
      case o6 =>
        intro x w1 hH K hK
        have e47 : x 47 = _ := hH.holds 1 (by decide) (by decide +kernel) 47 rfl
        obtain ⟨xs, d, rfl⟩ := grow_of_below hH.below
        clear hH
        try simp only [World.grow_drew] at hK ⊢
        try simp only [World.grow_grow] at hK ⊢
        simp only [e47] at hK ⊢
        clear e47
        go_simp
        go_wp2_with fail
        exact ⟨_, rfl, rfl, (by first | exact Below.refl _ _ | exact below_same _ _ _ | exact below_more _ _ _ _ | exact below_of_grow _ _), fun h => by cases h⟩
      case o7 =>
        intro x w1 hH K hK
        have e47 : x 47 = _ := hH.holds 1 (by decide) (by decide +kernel) 47 rfl
        have e52 : x 52 = _ := hH.holds 6 (by decide) (by decide +kernel) 52 rfl
        obtain ⟨xs, d, rfl⟩ := grow_of_below hH.below
        clear hH
        try simp only [World.grow_drew] at hK ⊢
        try simp only [World.grow_grow] at hK ⊢
        simp only [e47, e52] at hK ⊢
        clear e47 e52
        go_simp
        go_wp2_with fail
        exact ⟨_, rfl, rfl, (by first | exact Below.refl _ _ | exact below_same _ _ _ | exact below_more _ _ _ _ | exact below_of_grow _ _), fun h => by cases h⟩
      case o8 =>
        intro x w1 hH K hK
        have e47 : x 47 = _ := hH.holds 1 (by decide) (by decide +kernel) 47 rfl
        obtain ⟨xs, d, rfl⟩ := grow_of_below hH.below
        clear hH
        try simp only [World.grow_drew] at hK ⊢
        try simp only [World.grow_grow] at hK ⊢
        simp only [e47] at hK ⊢
        clear e47
        go_simp
        go_wp2_with fail
        exact ⟨_, rfl, rfl, (by first | exact Below.refl _ _ | exact below_same _ _ _ | exact below_more _ _ _ _ | exact below_of_grow _ _), fun h => by cases h⟩
      case o9 =>
        intro x w1 hH K hK
        have e47 : x 47 = _ := hH.holds 1 (by decide) (by decide +kernel) 47 rfl
        have e54 : x 54 = _ := hH.holds 8 (by decide) (by decide +kernel) 54 rfl
        obtain ⟨xs, d, rfl⟩ := grow_of_below hH.below
        clear hH
        try simp only [World.grow_drew] at hK ⊢
        try simp only [World.grow_grow] at hK ⊢
        simp only [e47, e54] at hK ⊢
        clear e47 e54
        go_simp
        go_wp2_with (refine Gives.use (HOK.out _) ?_; intro ys e)
        exact ⟨_, rfl, rfl, (by first | exact below_more _ _ _ _ | exact (by repeat (first | exact below_of_grow _ _ | exact Below.refl _ _ | exact below_more _ _ _ _ | (simp only [← Array.append_assoc]; first | exact below_more _ _ _ _ | exact below_same _ _ _ | exact Below.refl _ _) | exact below_same _ _ _ | (refine Below.alloc ?_ (by first | (simp; done) | (simp; omega)) _) | (refine Below.grow ?_ (by first | (simp; done) | (simp; omega)) _ _) | refine Below.drew ?_ | refine Below.drewN ?_ _ | (refine Below.putF ?_ (by first | (simp; done) | omega | (simp; omega)) _) | (refine Below.setCell ?_ (by first | (simp; done) | (simp; omega)) _)))), fun h => by cases h⟩
      case o10 =>
        intro x w1 hH K hK
        have e47 : x 47 = _ := hH.holds 1 (by decide) (by decide +kernel) 47 rfl
        have e51 : x 51 = _ := hH.holds 5 (by decide) (by decide +kernel) 51 rfl
        have e53 : x 53 = _ := hH.holds 7 (by decide) (by decide +kernel) 53 rfl
        have e55 : x 55 = _ := hH.holds 9 (by decide) (by decide +kernel) 55 rfl
        obtain ⟨xs, d, rfl⟩ := grow_of_below hH.below
        clear hH
        try simp only [World.grow_drew] at hK ⊢
        try simp only [World.grow_grow] at hK ⊢
        simp only [e47, e51, e53, e55] at hK ⊢
        clear e47 e51 e53 e55
        go_simp
        go_wp2_with (refine Gives.use (HRH.out _) ?_; intro ys e)
        exact ⟨_, rfl, rfl, (by first | exact below_more _ _ _ _ | exact (by repeat (first | exact below_of_grow _ _ | exact Below.refl _ _ | exact below_more _ _ _ _ | (simp only [← Array.append_assoc]; first | exact below_more _ _ _ _ | exact below_same _ _ _ | exact Below.refl _ _) | exact below_same _ _ _ | (refine Below.alloc ?_ (by first | (simp; done) | (simp; omega)) _) | (refine Below.grow ?_ (by first | (simp; done) | (simp; omega)) _ _) | refine Below.drew ?_ | refine Below.drewN ?_ _ | (refine Below.putF ?_ (by first | (simp; done) | omega | (simp; omega)) _) | (refine Below.setCell ?_ (by first | (simp; done) | (simp; omega)) _)))), fun h => by cases h⟩
      case o11 =>
        intro x w1 hH K hK
        have e47 : x 47 = _ := hH.holds 1 (by decide) (by decide +kernel) 47 rfl
        have e48 : x 48 = _ := hH.holds 2 (by decide) (by decide +kernel) 48 rfl
        have e56 : x 56 = _ := hH.holds 10 (by decide) (by decide +kernel) 56 rfl
        obtain ⟨xs, d, rfl⟩ := grow_of_below hH.below
        clear hH
        try simp only [World.grow_drew] at hK ⊢
        try simp only [World.grow_grow] at hK ⊢
        simp only [e47, e48, e56] at hK ⊢
        clear e47 e48 e56
        go_simp
        go_wp2_with fail
        exact ⟨_, rfl, rfl, (by first | exact Below.refl _ _ | exact below_same _ _ _ | exact below_more _ _ _ _ | exact below_of_grow _ _), fun h => by cases h⟩
      case o12 =>
        intro x w1 hH K hK
        have e47 : x 47 = _ := hH.holds 1 (by decide) (by decide +kernel) 47 rfl
        have e57 : x 57 = _ := hH.holds 11 (by decide) (by decide +kernel) 57 rfl
        obtain ⟨xs, d, rfl⟩ := grow_of_below hH.below
        clear hH
        try simp only [World.grow_drew] at hK ⊢
        try simp only [World.grow_grow] at hK ⊢
        simp only [e47, e57] at hK ⊢
        clear e47 e57
        go_simp
        go_wp2_with fail
        exact ⟨_, rfl, rfl, (by first | exact Below.refl _ _ | exact below_same _ _ _ | exact below_more _ _ _ _ | exact below_of_grow _ _), fun h => by cases h⟩
      case o13 =>
        intro x w1 hH K hK
        have e58 : x 58 = _ := hH.holds 12 (by decide) (by decide +kernel) 58 rfl
        obtain ⟨xs, d, rfl⟩ := grow_of_below hH.below
        clear hH
        try simp only [World.grow_drew] at hK ⊢
        try simp only [World.grow_grow] at hK ⊢
        simp only [e58] at hK ⊢
        clear e58
        go_simp
        go_wp2_with fail
        exact ⟨_, rfl, rfl, (by first | exact Below.refl _ _ | exact below_same _ _ _ | exact below_more _ _ _ _ | exact below_of_grow _ _), fun h => by cases h⟩
      case o14 =>
        intro x w1 hH K hK
        have e59 : x 59 = _ := hH.holds 13 (by decide) (by decide +kernel) 59 rfl
        obtain ⟨xs, d, rfl⟩ := grow_of_below hH.below
        clear hH
        try simp only [World.grow_drew] at hK ⊢
        try simp only [World.grow_grow] at hK ⊢
        simp only [e59] at hK ⊢
        clear e59
        go_simp
        go_wp2_with fail
        exact ⟨_, rfl, rfl, (by first | exact Below.refl _ _ | exact below_same _ _ _ | exact below_more _ _ _ _ | exact below_of_grow _ _), fun h => by cases h⟩
      case o15 =>
        intro x w1 hH K hK
        have e59 : x 59 = _ := hH.holds 13 (by decide) (by decide +kernel) 59 rfl
        have e60 : x 60 = _ := hH.holds 14 (by decide) (by decide +kernel) 60 rfl
        obtain ⟨xs, d, rfl⟩ := grow_of_below hH.below
        clear hH
        try simp only [World.grow_drew] at hK ⊢
        try simp only [World.grow_grow] at hK ⊢
        simp only [e59, e60] at hK ⊢
        clear e59 e60
        go_simp
        go_wp2_with fail
        exact ⟨_, rfl, rfl, (by first | exact Below.refl _ _ | exact below_same _ _ _ | exact below_more _ _ _ _ | exact below_of_grow _ _), fun h => by cases h⟩
      case o16 =>
        intro x w1 hH K hK
        have e59 : x 59 = _ := hH.holds 13 (by decide) (by decide +kernel) 59 rfl
        have e61 : x 61 = _ := hH.holds 15 (by decide) (by decide +kernel) 61 rfl
        obtain ⟨xs, d, rfl⟩ := grow_of_below hH.below
        clear hH
        try simp only [World.grow_drew] at hK ⊢
        try simp only [World.grow_grow] at hK ⊢
        simp only [e59, e61] at hK ⊢
        clear e59 e61
        go_simp
        go_wp2_with fail
        exact ⟨_, rfl, rfl, (by first | exact Below.refl _ _ | exact below_same _ _ _ | exact below_more _ _ _ _ | exact below_of_grow _ _), fun h => by cases h⟩
      case o17 =>
        intro x w1 hH K hK
        have e62 : x 62 = _ := hH.holds 16 (by decide) (by decide +kernel) 62 rfl
        obtain ⟨xs, d, rfl⟩ := grow_of_below hH.below
        clear hH
        try simp only [World.grow_drew] at hK ⊢
        try simp only [World.grow_grow] at hK ⊢
        simp only [e62] at hK ⊢
        clear e62
        go_simp
        go_wp2_with fail
        exact ⟨_, rfl, rfl, (by first | exact Below.refl _ _ | exact below_same _ _ _ | exact below_more _ _ _ _ | exact below_of_grow _ _), fun h => by cases h⟩
      case o18 =>
        intro x w1 hH K hK
        have e62 : x 62 = _ := hH.holds 16 (by decide) (by decide +kernel) 62 rfl
        obtain ⟨xs, d, rfl⟩ := grow_of_below hH.below
        clear hH
        try simp only [World.grow_drew] at hK ⊢
        try simp only [World.grow_grow] at hK ⊢
        simp only [e62] at hK ⊢
        clear e62
        go_simp
        go_wp2_with fail
        exact ⟨_, rfl, rfl, (by first | exact Below.refl _ _ | exact below_same _ _ _ | exact below_more _ _ _ _ | exact below_of_grow _ _), fun h => by cases h⟩
      case o19 =>
        intro x w1 hH K hK
        have e62 : x 62 = _ := hH.holds 16 (by decide) (by decide +kernel) 62 rfl
        obtain ⟨xs, d, rfl⟩ := grow_of_below hH.below
        clear hH
        try simp only [World.grow_drew] at hK ⊢
        try simp only [World.grow_grow] at hK ⊢
        simp only [e62] at hK ⊢
        clear e62
        go_simp
        go_wp2_with fail
        exact ⟨_, rfl, rfl, (by first | exact Below.refl _ _ | exact below_same _ _ _ | exact below_more _ _ _ _ | exact below_of_grow _ _), fun h => by cases h⟩
      case o20 =>
        intro x w1 hH K hK
        have e62 : x 62 = _ := hH.holds 16 (by decide) (by decide +kernel) 62 rfl
        have e65 : x 65 = _ := hH.holds 19 (by decide) (by decide +kernel) 65 rfl
        obtain ⟨xs, d, rfl⟩ := grow_of_below hH.below
        clear hH
        try simp only [World.grow_drew] at hK ⊢
        try simp only [World.grow_grow] at hK ⊢
        simp only [e62, e65] at hK ⊢
        clear e62 e65
        go_simp
        go_wp2_with fail
        exact ⟨_, rfl, rfl, (by first | exact Below.refl _ _ | exact below_same _ _ _ | exact below_more _ _ _ _ | exact below_of_grow _ _), fun h => by cases h⟩
      case o21 =>
        intro x w1 hH K hK
        have e62 : x 62 = _ := hH.holds 16 (by decide) (by decide +kernel) 62 rfl
        have e66 : x 66 = _ := hH.holds 20 (by decide) (by decide +kernel) 66 rfl
        obtain ⟨xs, d, rfl⟩ := grow_of_below hH.below
        clear hH
        try simp only [World.grow_drew] at hK ⊢
        try simp only [World.grow_grow] at hK ⊢
        simp only [e62, e66] at hK ⊢
        clear e62 e66
        go_simp
        go_wp2_with fail
        exact ⟨_, rfl, rfl, (by first | exact Below.refl _ _ | exact below_same _ _ _ | exact below_more _ _ _ _ | exact below_of_grow _ _), fun h => by cases h⟩
      case o22 =>
        intro x w1 hH K hK
        have e62 : x 62 = _ := hH.holds 16 (by decide) (by decide +kernel) 62 rfl
        have e64 : x 64 = _ := hH.holds 18 (by decide) (by decide +kernel) 64 rfl
        have e67 : x 67 = _ := hH.holds 21 (by decide) (by decide +kernel) 67 rfl
        obtain ⟨xs, d, rfl⟩ := grow_of_below hH.below
        clear hH
        try simp only [World.grow_drew] at hK ⊢
        try simp only [World.grow_grow] at hK ⊢
        simp only [e62, e64, e67] at hK ⊢
        clear e62 e64 e67
        go_simp
        go_wp2_with (refine Gives.use (HS.out _ (by first | exact below_of_grow _ _ | exact Below.refl _ _ | exact (by repeat (first | exact below_of_grow _ _ | exact Below.refl _ _ | exact below_more _ _ _ _ | (simp only [← Array.append_assoc]; first | exact below_more _ _ _ _ | exact below_same _ _ _ | exact Below.refl _ _) | exact below_same _ _ _ | (refine Below.alloc ?_ (by first | (simp; done) | (simp; omega)) _) | (refine Below.grow ?_ (by first | (simp; done) | (simp; omega)) _ _) | refine Below.drew ?_ | refine Below.drewN ?_ _ | (refine Below.putF ?_ (by first | (simp; done) | omega | (simp; omega)) _) | (refine Below.setCell ?_ (by first | (simp; done) | (simp; omega)) _))))) ?_; intro ys e)
        exact ⟨_, rfl, rfl, (by first | exact below_more _ _ _ _ | exact (by repeat (first | exact below_of_grow _ _ | exact Below.refl _ _ | exact below_more _ _ _ _ | (simp only [← Array.append_assoc]; first | exact below_more _ _ _ _ | exact below_same _ _ _ | exact Below.refl _ _) | exact below_same _ _ _ | (refine Below.alloc ?_ (by first | (simp; done) | (simp; omega)) _) | (refine Below.grow ?_ (by first | (simp; done) | (simp; omega)) _ _) | refine Below.drew ?_ | refine Below.drewN ?_ _ | (refine Below.putF ?_ (by first | (simp; done) | omega | (simp; omega)) _) | (refine Below.setCell ?_ (by first | (simp; done) | (simp; omega)) _)))), fun h => by cases h⟩
      case o23 =>
        intro x w1 hH K hK
        have e62 : x 62 = _ := hH.holds 16 (by decide) (by decide +kernel) 62 rfl
        have e63 : x 63 = _ := hH.holds 17 (by decide) (by decide +kernel) 63 rfl
        have e68 : x 68 = _ := hH.holds 22 (by decide) (by decide +kernel) 68 rfl
        obtain ⟨xs, d, rfl⟩ := grow_of_below hH.below
        clear hH
        try simp only [World.grow_drew] at hK ⊢
        try simp only [World.grow_grow] at hK ⊢
        simp only [e62, e63, e68] at hK ⊢
        clear e62 e63 e68
        go_simp
        go_wp2_with fail
        exact ⟨_, rfl, rfl, (by first | exact Below.refl _ _ | exact below_same _ _ _ | exact below_more _ _ _ _ | exact below_of_grow _ _), fun h => by cases h⟩
      case o24 =>
        intro x w1 hH K hK
        have e59 : x 59 = _ := hH.holds 13 (by decide) (by decide +kernel) 59 rfl
        have e62 : x 62 = _ := hH.holds 16 (by decide) (by decide +kernel) 62 rfl
        have e69 : x 69 = _ := hH.holds 23 (by decide) (by decide +kernel) 69 rfl
        obtain ⟨xs, d, rfl⟩ := grow_of_below hH.below
        clear hH
        try simp only [World.grow_drew] at hK ⊢
        try simp only [World.grow_grow] at hK ⊢
        simp only [e59, e62, e69] at hK ⊢
        clear e59 e62 e69
        go_simp
        go_wp2_with fail
        exact ⟨_, rfl, rfl, (by first | exact Below.refl _ _ | exact below_same _ _ _ | exact below_more _ _ _ _ | exact below_of_grow _ _), fun h => by cases h⟩
      case o25 =>
        intro x w1 hH K hK
        have e59 : x 59 = _ := hH.holds 13 (by decide) (by decide +kernel) 59 rfl
        have e70 : x 70 = _ := hH.holds 24 (by decide) (by decide +kernel) 70 rfl
        obtain ⟨xs, d, rfl⟩ := grow_of_below hH.below
        clear hH
        try simp only [World.grow_drew] at hK ⊢
        try simp only [World.grow_grow] at hK ⊢
        simp only [e59, e70] at hK ⊢
        clear e59 e70
        go_simp
        go_wp2_with fail
        exact ⟨_, rfl, rfl, (by first | exact Below.refl _ _ | exact below_same _ _ _ | exact below_more _ _ _ _ | exact below_of_grow _ _), fun h => by cases h⟩
    case hend =>
      intro x w1 hH
      have e46 : x 46 = _ := hH.holds 0 (by decide) trivial 46 rfl
      have e47 : x 47 = _ := hH.holds 1 (by decide) trivial 47 rfl
      have e48 : x 48 = _ := hH.holds 2 (by decide) trivial 48 rfl
      have e49 : x 49 = _ := hH.holds 3 (by decide) trivial 49 rfl
      have e50 : x 50 = _ := hH.holds 4 (by decide) trivial 50 rfl
      have e51 : x 51 = _ := hH.holds 5 (by decide) trivial 51 rfl
      have e52 : x 52 = _ := hH.holds 6 (by decide) trivial 52 rfl
      have e53 : x 53 = _ := hH.holds 7 (by decide) trivial 53 rfl
      have e54 : x 54 = _ := hH.holds 8 (by decide) trivial 54 rfl
      have e55 : x 55 = _ := hH.holds 9 (by decide) trivial 55 rfl
      have e56 : x 56 = _ := hH.holds 10 (by decide) trivial 56 rfl
      have e57 : x 57 = _ := hH.holds 11 (by decide) trivial 57 rfl
      have e58 : x 58 = _ := hH.holds 12 (by decide) trivial 58 rfl
      have e59 : x 59 = _ := hH.holds 13 (by decide) trivial 59 rfl
      have e60 : x 60 = _ := hH.holds 14 (by decide) trivial 60 rfl
      have e61 : x 61 = _ := hH.holds 15 (by decide) trivial 61 rfl
      have e62 : x 62 = _ := hH.holds 16 (by decide) trivial 62 rfl
      have e63 : x 63 = _ := hH.holds 17 (by decide) trivial 63 rfl
      have e64 : x 64 = _ := hH.holds 18 (by decide) trivial 64 rfl
      have e65 : x 65 = _ := hH.holds 19 (by decide) trivial 65 rfl
      have e66 : x 66 = _ := hH.holds 20 (by decide) trivial 66 rfl
      have e67 : x 67 = _ := hH.holds 21 (by decide) trivial 67 rfl
      have e68 : x 68 = _ := hH.holds 22 (by decide) trivial 68 rfl
      have e69 : x 69 = _ := hH.holds 23 (by decide) trivial 69 rfl
      have e70 : x 70 = _ := hH.holds 24 (by decide) trivial 70 rfl
      have e71 : x 71 = _ := hH.holds 25 (by decide) trivial 71 rfl
      obtain ⟨xs, d, rfl⟩ := grow_of_below hH.below
      clear hH
      simp only [e46, e47, e48, e49, e50, e51, e52, e53, e54, e55, e56, e57, e58, e59, e60, e61, e62, e63, e64, e65, e66, e67, e68, e69, e70, e71]; clear e46 e47 e48 e49 e50 e51 e52 e53 e54 e55 e56 e57 e58 e59 e60 e61 e62 e63 e64 e65 e66 e67 e68 e69 e70 e71
      simp only [List.drop_succ_cons, List.drop_zero]
      go_wp2_with fail
      go_ret
      exact ⟨rfl, HB.out.1.trans ((HB3.out.trans (((Below.refl W3.heap.size W3).drew.grow (Nat.le_refl _) _ _).mono HB3.out.size)).mono (by have := HB.out.2; omega))⟩
set_option maxHeartbeats 20000000 in
theorem keyPx1 (p k : K25) (dp : Int) (hdp : dp = 1) (w : World) : Gives Tryz.prog 9 #[.agg (prefA p dp), .agg (row8 k.val)] w (.bool true) := by
  have HDP := Lib.hid hdp
  clear hdp
  have HKN := Lib.hid known06_gives
  have HBK := Lib.hid (keyBytes_gives k.val k.property)
  have HHA := Lib.hid (has_gives p k dp)
  have HRH := Lib.hid (refHas6_gives p k dp)
  have HOP := Lib.hid (lawOf_gives p.val p.property)
  have HOK := Lib.hid (lawOf_gives k.val k.property)
  have pp := p.property
  have pk := k.property
  unfold Gives
  go_enter Tryz.func9, Tryz.ntmps9
  go_upto_region 1 with fail
  apply wp_region_specs (by rfl) [.val _, .rel (fun v W => SlB W W.heap.size v (frontB p dp) ∧ TypB W v), .val _, .val _, .new _] 5 (by rfl) [10, 11, 12, 13, 6] [4] [] (by rfl) (by rfl) (by decide) (by decide +kernel) (fun _ _ _ _ _ h => h)
  case hF => intro x; simp only [over, List.foldl_cons, List.foldl_nil, List.setIfInBounds_toArray, List.set_cons_succ, List.set_cons_zero]; exact rfl
  case hops =>
    refine ⟨?o0, ?o1, ?o2, ?o3, ?o4, trivial⟩
    case o0 =>
      intro x w1 hH K hK
      obtain ⟨xs, d, rfl⟩ := grow_of_below hH.below
      clear hH
      try simp only [World.grow_drew] at hK ⊢
      try simp only [World.grow_grow] at hK ⊢
      go_simp
      go_wp2_with fail
      exact ⟨_, rfl, rfl, (by repeat (first | exact below_of_grow _ _ | exact Below.refl _ _ | exact below_more _ _ _ _ | (simp only [← Array.append_assoc]; first | exact below_more _ _ _ _ | exact below_same _ _ _ | exact Below.refl _ _) | exact below_same _ _ _ | (refine Below.alloc ?_ (by first | (simp; done) | (simp; omega)) _) | (refine Below.grow ?_ (by first | (simp; done) | (simp; omega)) _ _) | refine Below.drew ?_ | refine Below.drewN ?_ _ | (refine Below.putF ?_ (by first | (simp; done) | omega | (simp; omega)) _) | (refine Below.setCell ?_ (by first | (simp; done) | (simp; omega)) _))), fun h => by cases h⟩
    case o1 =>
      intro x w1 hH K hK
      have e10 : x 10 = _ := hH.holds 0 (by decide) (by decide +kernel) 10 rfl
      obtain ⟨xs, d, rfl⟩ := grow_of_below hH.below
      clear hH
      try simp only [World.grow_drew] at hK ⊢
      try simp only [World.grow_grow] at hK ⊢
      simp only [e10] at hK ⊢
      clear e10
      go_simp
      go_wp2_with (refine (front2_calls p dp _).mono ?_; rintro e9 W9 ⟨v9, rfl, hv9, hb9, ht9⟩)
      exact ⟨_, rfl, fun w3 h3 => ⟨(hv9.keep fun b hb => h3.block b hb).more h3.size, ht9.keep h3⟩, Below.trans (by repeat (first | exact below_of_grow _ _ | exact Below.refl _ _ | exact below_more _ _ _ _ | (simp only [← Array.append_assoc]; first | exact below_more _ _ _ _ | exact below_same _ _ _ | exact Below.refl _ _) | exact below_same _ _ _ | (refine Below.alloc ?_ (by first | (simp; done) | (simp; omega)) _) | (refine Below.grow ?_ (by first | (simp; done) | (simp; omega)) _ _) | refine Below.drew ?_ | refine Below.drewN ?_ _ | (refine Below.putF ?_ (by first | (simp; done) | omega | (simp; omega)) _) | (refine Below.setCell ?_ (by first | (simp; done) | (simp; omega)) _))) (hb9.mono (by simp <;> omega)), fun h => by cases h⟩
    case o2 =>
      intro x w1 hH K hK
      obtain ⟨xs, d, rfl⟩ := grow_of_below hH.below
      clear hH
      try simp only [World.grow_drew] at hK ⊢
      try simp only [World.grow_grow] at hK ⊢
      go_simp
      go_wp2_with fail
      exact ⟨_, rfl, rfl, (by repeat (first | exact below_of_grow _ _ | exact Below.refl _ _ | exact below_more _ _ _ _ | (simp only [← Array.append_assoc]; first | exact below_more _ _ _ _ | exact below_same _ _ _ | exact Below.refl _ _) | exact below_same _ _ _ | (refine Below.alloc ?_ (by first | (simp; done) | (simp; omega)) _) | (refine Below.grow ?_ (by first | (simp; done) | (simp; omega)) _ _) | refine Below.drew ?_ | refine Below.drewN ?_ _ | (refine Below.putF ?_ (by first | (simp; done) | omega | (simp; omega)) _) | (refine Below.setCell ?_ (by first | (simp; done) | (simp; omega)) _))), fun h => by cases h⟩
    case o3 =>
      intro x w1 hH K hK
      have e12 : x 12 = _ := hH.holds 2 (by decide) (by decide +kernel) 12 rfl
      obtain ⟨xs, d, rfl⟩ := grow_of_below hH.below
      clear hH
      try simp only [World.grow_drew] at hK ⊢
      try simp only [World.grow_grow] at hK ⊢
      simp only [e12] at hK ⊢
      clear e12
      go_simp
      go_wp2_with (refine Gives.use (HBK.out _) ?_; intro ys e)
      exact ⟨_, rfl, rfl, (by first | exact below_more _ _ _ _ | exact (by repeat (first | exact below_of_grow _ _ | exact Below.refl _ _ | exact below_more _ _ _ _ | (simp only [← Array.append_assoc]; first | exact below_more _ _ _ _ | exact below_same _ _ _ | exact Below.refl _ _) | exact below_same _ _ _ | (refine Below.alloc ?_ (by first | (simp; done) | (simp; omega)) _) | (refine Below.grow ?_ (by first | (simp; done) | (simp; omega)) _ _) | refine Below.drew ?_ | refine Below.drewN ?_ _ | (refine Below.putF ?_ (by first | (simp; done) | omega | (simp; omega)) _) | (refine Below.setCell ?_ (by first | (simp; done) | (simp; omega)) _)))), fun h => by cases h⟩
    case o4 =>
      intro x w1 hH K hK
      obtain ⟨xs, d, rfl⟩ := grow_of_below hH.below
      clear hH
      try simp only [World.grow_drew] at hK ⊢
      try simp only [World.grow_grow] at hK ⊢
      go_simp
      go_wp2_with fail
      exact left_new rfl (by simp) (by first | (simp; done) | (simp; omega))
  case hend =>
    intro x w1 hH
    have e10 : x 10 = _ := hH.holds 0 (by decide) trivial 10 rfl
    have r11 := hH.holds 1 (by decide) trivial 11 rfl (_) (Below.refl _ _)
    have e12 : x 12 = _ := hH.holds 2 (by decide) trivial 12 rfl
    have e13 : x 13 = _ := hH.holds 3 (by decide) trivial 13 rfl
    obtain ⟨b6, e6, l6, u6, o6⟩ := hH.holds 4 (by decide) trivial 6 rfl
    obtain ⟨xs, d, rfl⟩ := grow_of_below hH.below
    clear hH
    simp only [e10, e12, e13, e6]; clear e10 e12 e13 e6
    refine new_known1 o6 l6 u6 ?_
    simp [go_sem] at l6 u6
    simp only [List.drop_succ_cons, List.drop_zero]
    obtain ⟨r11, rt⟩ := r11
    obtain ⟨a5, cap, hx11, hcl, hcm, hsl⟩ := id r11
    rw [hx11] at r11 rt ⊢
    clear hx11 hsl
    go_upto_region 2 with fail
    refine wp_name ?_
    intro W hW
    obtain ⟨q, hq⟩ : ∃ q, q = w.heap.size := ⟨_, rfl⟩
    have hbw : Below w.heap.size w W := by rw [hW]; exact (by repeat (first | exact below_of_grow _ _ | exact Below.refl _ _ | exact below_more _ _ _ _ | (simp only [← Array.append_assoc]; first | exact below_more _ _ _ _ | exact below_same _ _ _ | exact Below.refl _ _) | exact below_same _ _ _ | (refine Below.alloc ?_ (by first | (simp; done) | (simp; omega)) _) | (refine Below.grow ?_ (by first | (simp; done) | (simp; omega)) _ _) | refine Below.drew ?_ | refine Below.drewN ?_ _ | (refine Below.putF ?_ (by first | (simp; done) | omega | (simp; omega)) _) | (refine Below.setCell ?_ (by first | (simp; done) | (simp; omega)) _)))
    have hsz : W.heap.size = w.heap.size + 2 + xs.size := by rw [hW]; simp
    have hb6 : W.heap[b6]? = some (.cells (row8 k.val) 104) := by rw [hW]; exact World.putF_heap_eq _ (by simp; omega)
    obtain ⟨V, hV⟩ : ∃ V, V = ((w.alloc (.cells (prefA p dp) 50)).alloc (.cells (row8 k.val) 39)).drew.grow xs d := ⟨_, rfl⟩
    rw [← hV] at r11 rt o6
    have old : ∀ b, b ≠ b6 → W.heap[b]? = V.heap[b]? := fun b hne => by rw [hW, hV]; exact World.putF_heap_ne _ hne
    have hVs : V.heap.size = w.heap.size + 2 + xs.size := by rw [hV, World.grow_size]; simp [World.drew]
    have hp0 : W.heap[q]? = some (.cells (prefA p dp) 50) := by
      rw [old q (by omega), hV, World.grow_heap _ _ _ (by show q < ((w.alloc _).alloc _).heap.size; simp; omega)]
      show (((w.alloc (.cells (prefA p dp) 50)).alloc (.cells (row8 k.val) 39))).heap[q]? = _
      rw [heap_al, if_neg (by simp; omega), heap_al, if_pos hq]
    have hk0 : W.heap[q + 1]? = some (.cells (row8 k.val) 39) := by
      rw [old (q + 1) (by omega), hV, World.grow_heap _ _ _ (by show q + 1 < ((w.alloc _).alloc _).heap.size; simp; omega)]
      show (((w.alloc (.cells (prefA p dp) 50)).alloc (.cells (row8 k.val) 39))).heap[q + 1]? = _
      rw [heap_al, if_pos (by simp; omega)]
    have hne : ∀ g, a5 = some g → g.block ≠ b6 := fun g hg he => by
      obtain ⟨c, hc⟩ := rt g.block (by rw [hg]; rfl)
      rw [he, o6] at hc
      simp at hc
    have hsb : SlB W W.heap.size (.slice a5 (frontB p dp).length cap) (frontB p dp) := by
      obtain ⟨_, _, e, h1, h2, h3⟩ := r11
      refine ⟨a5, cap, rfl, hcl, hcm, fun hp => ?_⟩
      simp only [Value.slice.injEq, true_and] at e
      obtain ⟨rfl, rfl⟩ := e
      obtain ⟨b', o', rfl, hb', hc'⟩ := h3 hp
      exact ⟨b', o', rfl, by omega, (cut_of_heap (old b' (hne _ rfl)) _ _).trans hc'⟩
    have c0 := cut_heap hp0 (sz := 26) (by simp)
    have c1 : W.cell? ⟨q, 25, none⟩ = some (.int .i64 dp) := (cellsK hp0 25).1.trans (prefA_d p dp)
    have c2 : W.cut? q 0 25 = some (row8 p.val) := by
      have := cut_sub c0 (i := 0) (m := 25) (by decide)
      rw [Nat.zero_add, prefA_ext p dp 0 25 (by decide), List.take_of_length_le (by omega), List.drop_zero] at this
      exact this
    have c3 := cut_heap hk0 (sz := 25) (by simp [pk])
    have c6 := cut_heap hb6 (sz := 25) (by simp [pk])
    have m1 : q < W.heap.size := by omega
    have m2 : q + 1 < W.heap.size := by omega
    have m6 : b6 < W.heap.size := by omega
    obtain ⟨F, hF⟩ : ∃ F, F = frontB p dp := ⟨_, rfl⟩
    rw [← hF] at hsb hcl ⊢
    simp only [← hq]
    have HB := Lib.hid (And.intro hbw (And.intro hq hsz))
    have HSB := Lib.hid (show ∀ W', Below W.heap.size W W' → SlB W' W.heap.size (.slice a5 F.length cap) F from fun W' h => hsb.keep fun b hb => h.block b hb)
    have HSK := Lib.hid (show ∀ n, n ≤ 25 → ∀ W', Below W.heap.size W W' → SlB W' (b6 + 1) (.slice (some ⟨b6, 0, none⟩) n 25) (k.val.take n) from fun n hn W' h => (sl_fixed pk c6 hn (by decide) (by unfold maxLen; decide)).keep fun b hb => h.block b (by omega))
    clear hbw hq hsz hsb hne old hV hVs o6 rt r11 hW l6 u6 hp0 hk0 hb6 V
    have hdp := HDP.out
    have hd : 0 ≤ dp ∧ dp ≤ 5 := by omega
    obtain ⟨hF1, hF2⟩ := frontB_in p hd
    have hr := hasB_in p k hd
    rw [← hF1, ← hF] at hr
    rw [← hF] at hF2
    generalize hasB p dp k = r at *
    have HR := Lib.hid hr
    clear hr hF1 hF
    clear HDP
    subst hdp
    have hn : F.length = 1 := hF2
    rw [hn] at HSB hcl ⊢
    have HSK2 := Lib.hid (HSK.out 1 (by decide))
    rw [show plen _ = 1 from rfl] at HR
    clear HSK hF2 hn hd
    go_wp2_with fail
    refine Gives.use (HHA.out _) ?_
    intro xs2 d2
    go_upto_region 7 with fail
    refine wp_name ?_
    intro W3 hW3
    have hb3 : Below W.heap.size W W3 := by rw [hW3]; exact (by repeat (first | exact below_of_grow _ _ | exact Below.refl _ _ | exact below_more _ _ _ _ | (simp only [← Array.append_assoc]; first | exact below_more _ _ _ _ | exact below_same _ _ _ | exact Below.refl _ _) | exact below_same _ _ _ | (refine Below.alloc ?_ (by first | (simp; done) | (simp; omega)) _) | (refine Below.grow ?_ (by first | (simp; done) | (simp; omega)) _ _) | refine Below.drew ?_ | refine Below.drewN ?_ _ | (refine Below.putF ?_ (by first | (simp; done) | omega | (simp; omega)) _) | (refine Below.setCell ?_ (by first | (simp; done) | (simp; omega)) _)))
    have HS := Lib.hid (show ∀ W', Below W3.heap.size W3 W' → Gives Tryz.prog 49 #[.slice a5 1 cap, .slice (some ⟨b6, 0, none⟩) 1 25] W' (.bool r) from fun W' h => by
      have h' := hb3.trans (h.mono hb3.size)
      have hz := h'.size
      have := ref2Same_gives F (k.val.take 1) (HSB.out W' h') (HSK2.out W' h') hz (by omega)
      rw [← HR.out] at this
      exact this)
    have e1 := (cut_of_heap (hb3.block q m1) 0 26).trans c0
    have e2 := (World.cell?_of_block (w := W) (w' := W3) (a := ⟨q, 25, none⟩) (hb3.block q m1)).trans c1
    have e3 := (cut_of_heap (hb3.block q m1) 0 25).trans c2
    have e4 := (cut_of_heap (hb3.block (q + 1) m2) 0 25).trans c3
    have e5 := (cut_of_heap (hb3.block b6 m6) 0 25).trans c6
    have k1 : q < W3.heap.size := Nat.lt_of_lt_of_le m1 hb3.size
    have k2 : q + 1 < W3.heap.size := Nat.lt_of_lt_of_le m2 hb3.size
    have k6 : b6 < W3.heap.size := Nat.lt_of_lt_of_le m6 hb3.size
    have HB3 := Lib.hid hb3
    clear hW3 hb3 c0 c1 c2 c3 c6 m1 m2 m6 HSB HSK2 HR HHA
    apply wp_region_specs (by rfl) [.val _, .val _, .val _, .val _, .val _, .val _, .val _, .val _, .val _, .val _, .val _, .val _, .val _, .val _, .val _, .val _, .val _, .val _, .val _, .val _, .val _, .val _, .val _, .val _, .val _, .val _] 26 (by rfl) [46, 47, 48, 49, 50, 51, 52, 53, 54, 55, 56, 57, 58, 59, 60, 61, 62, 63, 64, 65, 66, 67, 68, 69, 70, 71] [] [] (by rfl) (by rfl) (by decide) (by decide +kernel) (fun _ _ _ _ _ h => h)
    case hF => intro x; simp only [over, List.foldl_cons, List.foldl_nil, List.setIfInBounds_toArray, List.set_cons_succ, List.set_cons_zero]; exact rfl
    case hops =>
      refine ⟨?o0, ?o1, ?o2, ?o3, ?o4, ?o5, ?o6, ?o7, ?o8, ?o9, ?o10, ?o11, ?o12, ?o13, ?o14, ?o15, ?o16, ?o17, ?o18, ?o19, ?o20, ?o21, ?o22, ?o23, ?o24, ?o25, trivial⟩
      case o0 =>
        intro x w1 hH K hK
        obtain ⟨xs, d, rfl⟩ := grow_of_below hH.below
        clear hH
        try simp only [World.grow_drew] at hK ⊢
        try simp only [World.grow_grow] at hK ⊢
        go_simp
        go_wp2_with (refine Gives.use (HKN.out _) ?_; intro ys e)
        exact ⟨_, rfl, rfl, (by first | exact below_more _ _ _ _ | exact (by repeat (first | exact below_of_grow _ _ | exact Below.refl _ _ | exact below_more _ _ _ _ | (simp only [← Array.append_assoc]; first | exact below_more _ _ _ _ | exact below_same _ _ _ | exact Below.refl _ _) | exact below_same _ _ _ | (refine Below.alloc ?_ (by first | (simp; done) | (simp; omega)) _) | (refine Below.grow ?_ (by first | (simp; done) | (simp; omega)) _ _) | refine Below.drew ?_ | refine Below.drewN ?_ _ | (refine Below.putF ?_ (by first | (simp; done) | omega | (simp; omega)) _) | (refine Below.setCell ?_ (by first | (simp; done) | (simp; omega)) _)))), fun h => by cases h⟩
      case o1 =>
        intro x w1 hH K hK
        have e46 : x 46 = _ := hH.holds 0 (by decide) (by decide +kernel) 46 rfl
        obtain ⟨xs, d, rfl⟩ := grow_of_below hH.below
        clear hH
        try simp only [World.grow_drew] at hK ⊢
        try simp only [World.grow_grow] at hK ⊢
        simp only [e46] at hK ⊢
        clear e46
        go_simp
        go_wp2_with fail
        exact ⟨_, rfl, rfl, (by first | exact Below.refl _ _ | exact below_same _ _ _ | exact below_more _ _ _ _ | exact below_of_grow _ _), fun h => by cases h⟩
      case o2 =>
        intro x w1 hH K hK
        have e47 : x 47 = _ := hH.holds 1 (by decide) (by decide +kernel) 47 rfl
        obtain ⟨xs, d, rfl⟩ := grow_of_below hH.below
        clear hH
        try simp only [World.grow_drew] at hK ⊢
        try simp only [World.grow_grow] at hK ⊢
        simp only [e47] at hK ⊢
        clear e47
        go_simp
        go_wp2_with fail
        exact ⟨_, rfl, rfl, (by first | exact Below.refl _ _ | exact below_same _ _ _ | exact below_more _ _ _ _ | exact below_of_grow _ _), fun h => by cases h⟩
      case o3 =>
        intro x w1 hH K hK
        have e47 : x 47 = _ := hH.holds 1 (by decide) (by decide +kernel) 47 rfl
        obtain ⟨xs, d, rfl⟩ := grow_of_below hH.below
        clear hH
        try simp only [World.grow_drew] at hK ⊢
        try simp only [World.grow_grow] at hK ⊢
        simp only [e47] at hK ⊢
        clear e47
        go_simp
        go_wp2_with fail
        exact ⟨_, rfl, rfl, (by first | exact Below.refl _ _ | exact below_same _ _ _ | exact below_more _ _ _ _ | exact below_of_grow _ _), fun h => by cases h⟩
      case o4 =>
        intro x w1 hH K hK
        have e47 : x 47 = _ := hH.holds 1 (by decide) (by decide +kernel) 47 rfl
        have e49 : x 49 = _ := hH.holds 3 (by decide) (by decide +kernel) 49 rfl
        obtain ⟨xs, d, rfl⟩ := grow_of_below hH.below
        clear hH
        try simp only [World.grow_drew] at hK ⊢
        try simp only [World.grow_grow] at hK ⊢
        simp only [e47, e49] at hK ⊢
        clear e47 e49
        go_simp
        go_wp2_with fail
        exact ⟨_, rfl, rfl, (by first | exact Below.refl _ _ | exact below_same _ _ _ | exact below_more _ _ _ _ | exact below_of_grow _ _), fun h => by cases h⟩
      case o5 =>
        intro x w1 hH K hK
        have e47 : x 47 = _ := hH.holds 1 (by decide) (by decide +kernel) 47 rfl
        have e50 : x 50 = _ := hH.holds 4 (by decide) (by decide +kernel) 50 rfl
        obtain ⟨xs, d, rfl⟩ := grow_of_below hH.below
        clear hH
        try simp only [World.grow_drew] at hK ⊢
        try simp only [World.grow_grow] at hK ⊢
        simp only [e47, e50] at hK ⊢
        clear e47 e50
        go_simp
        go_wp2_with (refine Gives.use (HOP.out _) ?_; intro ys e)
        exact ⟨_, rfl, rfl, (by first | exact below_more _ _ _ _ | exact (by repeat (first | exact below_of_grow _ _ | exact Below.refl _ _ | exact below_more _ _ _ _ | (simp only [← Array.append_assoc]; first | exact below_more _ _ _ _ | exact below_same _ _ _ | exact Below.refl _ _) | exact below_same _ _ _ | (refine Below.alloc ?_ (by first | (simp; done) | (simp; omega)) _) | (refine Below.grow ?_ (by first | (simp; done) | (simp; omega)) _ _) | refine Below.drew ?_ | refine Below.drewN ?_ _ | (refine Below.putF ?_ (by first | (simp; done) | omega | (simp; omega)) _) | (refine Below.setCell ?_ (by first | (simp; done) | (simp; omega)) _)))), fun h => by cases h⟩
      case o6 =>
        intro x w1 hH K hK
        have e47 : x 47 = _ := hH.holds 1 (by decide) (by decide +kernel) 47 rfl
        obtain ⟨xs, d, rfl⟩ := grow_of_below hH.below
        clear hH
        try simp only [World.grow_drew] at hK ⊢
        try simp only [World.grow_grow] at hK ⊢
        simp only [e47] at hK ⊢
        clear e47
        go_simp
        go_wp2_with fail
        exact ⟨_, rfl, rfl, (by first | exact Below.refl _ _ | exact below_same _ _ _ | exact below_more _ _ _ _ | exact below_of_grow _ _), fun h => by cases h⟩
      case o7 =>
        intro x w1 hH K hK
        have e47 : x 47 = _ := hH.holds 1 (by decide) (by decide +kernel) 47 rfl
        have e52 : x 52 = _ := hH.holds 6 (by decide) (by decide +kernel) 52 rfl
        obtain ⟨xs, d, rfl⟩ := grow_of_below hH.below
        clear hH
        try simp only [World.grow_drew] at hK ⊢
        try simp only [World.grow_grow] at hK ⊢
        simp only [e47, e52] at hK ⊢
        clear e47 e52
        go_simp
        go_wp2_with fail
        exact ⟨_, rfl, rfl, (by first | exact Below.refl _ _ | exact below_same _ _ _ | exact below_more _ _ _ _ | exact below_of_grow _ _), fun h => by cases h⟩
      case o8 =>
        intro x w1 hH K hK
        have e47 : x 47 = _ := hH.holds 1 (by decide) (by decide +kernel) 47 rfl
        obtain ⟨xs, d, rfl⟩ := grow_of_below hH.below
        clear hH
        try simp only [World.grow_drew] at hK ⊢
        try simp only [World.grow_grow] at hK ⊢
        simp only [e47] at hK ⊢
        clear e47
        go_simp
        go_wp2_with fail
        exact ⟨_, rfl, rfl, (by first | exact Below.refl _ _ | exact below_same _ _ _ | exact below_more _ _ _ _ | exact below_of_grow _ _), fun h => by cases h⟩
      case o9 =>
        intro x w1 hH K hK
        have e47 : x 47 = _ := hH.holds 1 (by decide) (by decide +kernel) 47 rfl
        have e54 : x 54 = _ := hH.holds 8 (by decide) (by decide +kernel) 54 rfl
        obtain ⟨xs, d, rfl⟩ := grow_of_below hH.below
        clear hH
        try simp only [World.grow_drew] at hK ⊢
        try simp only [World.grow_grow] at hK ⊢
        simp only [e47, e54] at hK ⊢
        clear e47 e54
        go_simp
        go_wp2_with (refine Gives.use (HOK.out _) ?_; intro ys e)
        exact ⟨_, rfl, rfl, (by first | exact below_more _ _ _ _ | exact (by repeat (first | exact below_of_grow _ _ | exact Below.refl _ _ | exact below_more _ _ _ _ | (simp only [← Array.append_assoc]; first | exact below_more _ _ _ _ | exact below_same _ _ _ | exact Below.refl _ _) | exact below_same _ _ _ | (refine Below.alloc ?_ (by first | (simp; done) | (simp; omega)) _) | (refine Below.grow ?_ (by first | (simp; done) | (simp; omega)) _ _) | refine Below.drew ?_ | refine Below.drewN ?_ _ | (refine Below.putF ?_ (by first | (simp; done) | omega | (simp; omega)) _) | (refine Below.setCell ?_ (by first | (simp; done) | (simp; omega)) _)))), fun h => by cases h⟩
      case o10 =>
        intro x w1 hH K hK
        have e47 : x 47 = _ := hH.holds 1 (by decide) (by decide +kernel) 47 rfl
        have e51 : x 51 = _ := hH.holds 5 (by decide) (by decide +kernel) 51 rfl
        have e53 : x 53 = _ := hH.holds 7 (by decide) (by decide +kernel) 53 rfl
        have e55 : x 55 = _ := hH.holds 9 (by decide) (by decide +kernel) 55 rfl
        obtain ⟨xs, d, rfl⟩ := grow_of_below hH.below
        clear hH
        try simp only [World.grow_drew] at hK ⊢
        try simp only [World.grow_grow] at hK ⊢
        simp only [e47, e51, e53, e55] at hK ⊢
        clear e47 e51 e53 e55
        go_simp
        go_wp2_with (refine Gives.use (HRH.out _) ?_; intro ys e)
        exact ⟨_, rfl, rfl, (by first | exact below_more _ _ _ _ | exact (by repeat (first | exact below_of_grow _ _ | exact Below.refl _ _ | exact below_more _ _ _ _ | (simp only [← Array.append_assoc]; first | exact below_more _ _ _ _ | exact below_same _ _ _ | exact Below.refl _ _) | exact below_same _ _ _ | (refine Below.alloc ?_ (by first | (simp; done) | (simp; omega)) _) | (refine Below.grow ?_ (by first | (simp; done) | (simp; omega)) _ _) | refine Below.drew ?_ | refine Below.drewN ?_ _ | (refine Below.putF ?_ (by first | (simp; done) | omega | (simp; omega)) _) | (refine Below.setCell ?_ (by first | (simp; done) | (simp; omega)) _)))), fun h => by cases h⟩
      case o11 =>
        intro x w1 hH K hK
        have e47 : x 47 = _ := hH.holds 1 (by decide) (by decide +kernel) 47 rfl
        have e48 : x 48 = _ := hH.holds 2 (by decide) (by decide +kernel) 48 rfl
        have e56 : x 56 = _ := hH.holds 10 (by decide) (by decide +kernel) 56 rfl
        obtain ⟨xs, d, rfl⟩ := grow_of_below hH.below
        clear hH
        try simp only [World.grow_drew] at hK ⊢
        try simp only [World.grow_grow] at hK ⊢
        simp only [e47, e48, e56] at hK ⊢
        clear e47 e48 e56
        go_simp
        go_wp2_with fail
        exact ⟨_, rfl, rfl, (by first | exact Below.refl _ _ | exact below_same _ _ _ | exact below_more _ _ _ _ | exact below_of_grow _ _), fun h => by cases h⟩
      case o12 =>
        intro x w1 hH K hK
        have e47 : x 47 = _ := hH.holds 1 (by decide) (by decide +kernel) 47 rfl
        have e57 : x 57 = _ := hH.holds 11 (by decide) (by decide +kernel) 57 rfl
        obtain ⟨xs, d, rfl⟩ := grow_of_below hH.below
        clear hH
        try simp only [World.grow_drew] at hK ⊢
        try simp only [World.grow_grow] at hK ⊢
        simp only [e47, e57] at hK ⊢
        clear e47 e57
        go_simp
        go_wp2_with fail
        exact ⟨_, rfl, rfl, (by first | exact Below.refl _ _ | exact below_same _ _ _ | exact below_more _ _ _ _ | exact below_of_grow _ _), fun h => by cases h⟩
      case o13 =>
        intro x w1 hH K hK
        have e58 : x 58 = _ := hH.holds 12 (by decide) (by decide +kernel) 58 rfl
        obtain ⟨xs, d, rfl⟩ := grow_of_below hH.below
        clear hH
        try simp only [World.grow_drew] at hK ⊢
        try simp only [World.grow_grow] at hK ⊢
        simp only [e58] at hK ⊢
        clear e58
        go_simp
        go_wp2_with fail
        exact ⟨_, rfl, rfl, (by first | exact Below.refl _ _ | exact below_same _ _ _ | exact below_more _ _ _ _ | exact below_of_grow _ _), fun h => by cases h⟩
      case o14 =>
        intro x w1 hH K hK
        have e59 : x 59 = _ := hH.holds 13 (by decide) (by decide +kernel) 59 rfl
        obtain ⟨xs, d, rfl⟩ := grow_of_below hH.below
        clear hH
        try simp only [World.grow_drew] at hK ⊢
        try simp only [World.grow_grow] at hK ⊢
        simp only [e59] at hK ⊢
        clear e59
        go_simp
        go_wp2_with fail
        exact ⟨_, rfl, rfl, (by first | exact Below.refl _ _ | exact below_same _ _ _ | exact below_more _ _ _ _ | exact below_of_grow _ _), fun h => by cases h⟩
      case o15 =>
        intro x w1 hH K hK
        have e59 : x 59 = _ := hH.holds 13 (by decide) (by decide +kernel) 59 rfl
        have e60 : x 60 = _ := hH.holds 14 (by decide) (by decide +kernel) 60 rfl
        obtain ⟨xs, d, rfl⟩ := grow_of_below hH.below
        clear hH
        try simp only [World.grow_drew] at hK ⊢
        try simp only [World.grow_grow] at hK ⊢
        simp only [e59, e60] at hK ⊢
        clear e59 e60
        go_simp
        go_wp2_with fail
        exact ⟨_, rfl, rfl, (by first | exact Below.refl _ _ | exact below_same _ _ _ | exact below_more _ _ _ _ | exact below_of_grow _ _), fun h => by cases h⟩
      case o16 =>
        intro x w1 hH K hK
        have e59 : x 59 = _ := hH.holds 13 (by decide) (by decide +kernel) 59 rfl
        have e61 : x 61 = _ := hH.holds 15 (by decide) (by decide +kernel) 61 rfl
        obtain ⟨xs, d, rfl⟩ := grow_of_below hH.below
        clear hH
        try simp only [World.grow_drew] at hK ⊢
        try simp only [World.grow_grow] at hK ⊢
        simp only [e59, e61] at hK ⊢
        clear e59 e61
        go_simp
        go_wp2_with fail
        exact ⟨_, rfl, rfl, (by first | exact Below.refl _ _ | exact below_same _ _ _ | exact below_more _ _ _ _ | exact below_of_grow _ _), fun h => by cases h⟩
      case o17 =>
        intro x w1 hH K hK
        have e62 : x 62 = _ := hH.holds 16 (by decide) (by decide +kernel) 62 rfl
        obtain ⟨xs, d, rfl⟩ := grow_of_below hH.below
        clear hH
        try simp only [World.grow_drew] at hK ⊢
        try simp only [World.grow_grow] at hK ⊢
        simp only [e62] at hK ⊢
        clear e62
        go_simp
        go_wp2_with fail
        exact ⟨_, rfl, rfl, (by first | exact Below.refl _ _ | exact below_same _ _ _ | exact below_more _ _ _ _ | exact below_of_grow _ _), fun h => by cases h⟩
      case o18 =>
        intro x w1 hH K hK
        have e62 : x 62 = _ := hH.holds 16 (by decide) (by decide +kernel) 62 rfl
        obtain ⟨xs, d, rfl⟩ := grow_of_below hH.below
        clear hH
        try simp only [World.grow_drew] at hK ⊢
        try simp only [World.grow_grow] at hK ⊢
        simp only [e62] at hK ⊢
        clear e62
        go_simp
        go_wp2_with fail
        exact ⟨_, rfl, rfl, (by first | exact Below.refl _ _ | exact below_same _ _ _ | exact below_more _ _ _ _ | exact below_of_grow _ _), fun h => by cases h⟩
      case o19 =>
        intro x w1 hH K hK
        have e62 : x 62 = _ := hH.holds 16 (by decide) (by decide +kernel) 62 rfl
        obtain ⟨xs, d, rfl⟩ := grow_of_below hH.below
        clear hH
        try simp only [World.grow_drew] at hK ⊢
        try simp only [World.grow_grow] at hK ⊢
        simp only [e62] at hK ⊢
        clear e62
        go_simp
        go_wp2_with fail
        exact ⟨_, rfl, rfl, (by first | exact Below.refl _ _ | exact below_same _ _ _ | exact below_more _ _ _ _ | exact below_of_grow _ _), fun h => by cases h⟩
      case o20 =>
        intro x w1 hH K hK
        have e62 : x 62 = _ := hH.holds 16 (by decide) (by decide +kernel) 62 rfl
        have e65 : x 65 = _ := hH.holds 19 (by decide) (by decide +kernel) 65 rfl
        obtain ⟨xs, d, rfl⟩ := grow_of_below hH.below
        clear hH
        try simp only [World.grow_drew] at hK ⊢
        try simp only [World.grow_grow] at hK ⊢
        simp only [e62, e65] at hK ⊢
        clear e62 e65
        go_simp
        go_wp2_with fail
        exact ⟨_, rfl, rfl, (by first | exact Below.refl _ _ | exact below_same _ _ _ | exact below_more _ _ _ _ | exact below_of_grow _ _), fun h => by cases h⟩
      case o21 =>
        intro x w1 hH K hK
        have e62 : x 62 = _ := hH.holds 16 (by decide) (by decide +kernel) 62 rfl
        have e66 : x 66 = _ := hH.holds 20 (by decide) (by decide +kernel) 66 rfl
        obtain ⟨xs, d, rfl⟩ := grow_of_below hH.below
        clear hH
        try simp only [World.grow_drew] at hK ⊢
        try simp only [World.grow_grow] at hK ⊢
        simp only [e62, e66] at hK ⊢
        clear e62 e66
        go_simp
        go_wp2_with fail
        exact ⟨_, rfl, rfl, (by first | exact Below.refl _ _ | exact below_same _ _ _ | exact below_more _ _ _ _ | exact below_of_grow _ _), fun h => by cases h⟩
      case o22 =>
        intro x w1 hH K hK
        have e62 : x 62 = _ := hH.holds 16 (by decide) (by decide +kernel) 62 rfl
        have e64 : x 64 = _ := hH.holds 18 (by decide) (by decide +kernel) 64 rfl
        have e67 : x 67 = _ := hH.holds 21 (by decide) (by decide +kernel) 67 rfl
        obtain ⟨xs, d, rfl⟩ := grow_of_below hH.below
        clear hH
        try simp only [World.grow_drew] at hK ⊢
        try simp only [World.grow_grow] at hK ⊢
        simp only [e62, e64, e67] at hK ⊢
        clear e62 e64 e67
        go_simp
        go_wp2_with (refine Gives.use (HS.out _ (by first | exact below_of_grow _ _ | exact Below.refl _ _ | exact (by repeat (first | exact below_of_grow _ _ | exact Below.refl _ _ | exact below_more _ _ _ _ | (simp only [← Array.append_assoc]; first | exact below_more _ _ _ _ | exact below_same _ _ _ | exact Below.refl _ _) | exact below_same _ _ _ | (refine Below.alloc ?_ (by first | (simp; done) | (simp; omega)) _) | (refine Below.grow ?_ (by first | (simp; done) | (simp; omega)) _ _) | refine Below.drew ?_ | refine Below.drewN ?_ _ | (refine Below.putF ?_ (by first | (simp; done) | omega | (simp; omega)) _) | (refine Below.setCell ?_ (by first | (simp; done) | (simp; omega)) _))))) ?_; intro ys e)
        exact ⟨_, rfl, rfl, (by first | exact below_more _ _ _ _ | exact (by repeat (first | exact below_of_grow _ _ | exact Below.refl _ _ | exact below_more _ _ _ _ | (simp only [← Array.append_assoc]; first | exact below_more _ _ _ _ | exact below_same _ _ _ | exact Below.refl _ _) | exact below_same _ _ _ | (refine Below.alloc ?_ (by first | (simp; done) | (simp; omega)) _) | (refine Below.grow ?_ (by first | (simp; done) | (simp; omega)) _ _) | refine Below.drew ?_ | refine Below.drewN ?_ _ | (refine Below.putF ?_ (by first | (simp; done) | omega | (simp; omega)) _) | (refine Below.setCell ?_ (by first | (simp; done) | (simp; omega)) _)))), fun h => by cases h⟩
      case o23 =>
        intro x w1 hH K hK
        have e62 : x 62 = _ := hH.holds 16 (by decide) (by decide +kernel) 62 rfl
        have e63 : x 63 = _ := hH.holds 17 (by decide) (by decide +kernel) 63 rfl
        have e68 : x 68 = _ := hH.holds 22 (by decide) (by decide +kernel) 68 rfl
        obtain ⟨xs, d, rfl⟩ := grow_of_below hH.below
        clear hH
        try simp only [World.grow_drew] at hK ⊢
        try simp only [World.grow_grow] at hK ⊢
        simp only [e62, e63, e68] at hK ⊢
        clear e62 e63 e68
        go_simp
        go_wp2_with fail
        exact ⟨_, rfl, rfl, (by first | exact Below.refl _ _ | exact below_same _ _ _ | exact below_more _ _ _ _ | exact below_of_grow _ _), fun h => by cases h⟩
      case o24 =>
        intro x w1 hH K hK
        have e59 : x 59 = _ := hH.holds 13 (by decide) (by decide +kernel) 59 rfl
        have e62 : x 62 = _ := hH.holds 16 (by decide) (by decide +kernel) 62 rfl
        have e69 : x 69 = _ := hH.holds 23 (by decide) (by decide +kernel) 69 rfl
        obtain ⟨xs, d, rfl⟩ := grow_of_below hH.below
        clear hH
        try simp only [World.grow_drew] at hK ⊢
        try simp only [World.grow_grow] at hK ⊢
        simp only [e59, e62, e69] at hK ⊢
        clear e59 e62 e69
        go_simp
        go_wp2_with fail
        exact ⟨_, rfl, rfl, (by first | exact Below.refl _ _ | exact below_same _ _ _ | exact below_more _ _ _ _ | exact below_of_grow _ _), fun h => by cases h⟩
      case o25 =>
        intro x w1 hH K hK
        have e59 : x 59 = _ := hH.holds 13 (by decide) (by decide +kernel) 59 rfl
        have e70 : x 70 = _ := hH.holds 24 (by decide) (by decide +kernel) 70 rfl
        obtain ⟨xs, d, rfl⟩ := grow_of_below hH.below
        clear hH
        try simp only [World.grow_drew] at hK ⊢
        try simp only [World.grow_grow] at hK ⊢
        simp only [e59, e70] at hK ⊢
        clear e59 e70
        go_simp
        go_wp2_with fail
        exact ⟨_, rfl, rfl, (by first | exact Below.refl _ _ | exact below_same _ _ _ | exact below_more _ _ _ _ | exact below_of_grow _ _), fun h => by cases h⟩
    case hend =>
      intro x w1 hH
      have e46 : x 46 = _ := hH.holds 0 (by decide) trivial 46 rfl
      have e47 : x 47 = _ := hH.holds 1 (by decide) trivial 47 rfl
      have e48 : x 48 = _ := hH.holds 2 (by decide) trivial 48 rfl
      have e49 : x 49 = _ := hH.holds 3 (by decide) trivial 49 rfl
      have e50 : x 50 = _ := hH.holds 4 (by decide) trivial 50 rfl
      have e51 : x 51 = _ := hH.holds 5 (by decide) trivial 51 rfl
      have e52 : x 52 = _ := hH.holds 6 (by decide) trivial 52 rfl
      have e53 : x 53 = _ := hH.holds 7 (by decide) trivial 53 rfl
      have e54 : x 54 = _ := hH.holds 8 (by decide) trivial 54 rfl
      have e55 : x 55 = _ := hH.holds 9 (by decide) trivial 55 rfl
      have e56 : x 56 = _ := hH.holds 10 (by decide) trivial 56 rfl
      have e57 : x 57 = _ := hH.holds 11 (by decide) trivial 57 rfl
      have e58 : x 58 = _ := hH.holds 12 (by decide) trivial 58 rfl
      have e59 : x 59 = _ := hH.holds 13 (by decide) trivial 59 rfl
      have e60 : x 60 = _ := hH.holds 14 (by decide) trivial 60 rfl
      have e61 : x 61 = _ := hH.holds 15 (by decide) trivial 61 rfl
      have e62 : x 62 = _ := hH.holds 16 (by decide) trivial 62 rfl
      have e63 : x 63 = _ := hH.holds 17 (by decide) trivial 63 rfl
      have e64 : x 64 = _ := hH.holds 18 (by decide) trivial 64 rfl
      have e65 : x 65 = _ := hH.holds 19 (by decide) trivial 65 rfl
      have e66 : x 66 = _ := hH.holds 20 (by decide) trivial 66 rfl
      have e67 : x 67 = _ := hH.holds 21 (by decide) trivial 67 rfl
      have e68 : x 68 = _ := hH.holds 22 (by decide) trivial 68 rfl
      have e69 : x 69 = _ := hH.holds 23 (by decide) trivial 69 rfl
      have e70 : x 70 = _ := hH.holds 24 (by decide) trivial 70 rfl
      have e71 : x 71 = _ := hH.holds 25 (by decide) trivial 71 rfl
      obtain ⟨xs, d, rfl⟩ := grow_of_below hH.below
      clear hH
      simp only [e46, e47, e48, e49, e50, e51, e52, e53, e54, e55, e56, e57, e58, e59, e60, e61, e62, e63, e64, e65, e66, e67, e68, e69, e70, e71]; clear e46 e47 e48 e49 e50 e51 e52 e53 e54 e55 e56 e57 e58 e59 e60 e61 e62 e63 e64 e65 e66 e67 e68 e69 e70 e71
      simp only [List.drop_succ_cons, List.drop_zero]
      go_wp2_with fail
      go_ret
      exact ⟨rfl, HB.out.1.trans ((HB3.out.trans (((Below.refl W3.heap.size W3).drew.grow (Nat.le_refl _) _ _).mono HB3.out.size)).mono (by have := HB.out.2; omega))⟩
set_option maxHeartbeats 20000000 in
theorem keyPx2 (p k : K25) (dp : Int) (hdp : dp = 2) (w : World) : Gives Tryz.prog 9 #[.agg (prefA p dp), .agg (row8 k.val)] w (.bool true) := by
  have HDP := Lib.hid hdp
  clear hdp
  have HKN := Lib.hid known06_gives
  have HBK := Lib.hid (keyBytes_gives k.val k.property)
  have HHA := Lib.hid (has_gives p k dp)
  have HRH := Lib.hid (refHas6_gives p k dp)
  have HOP := Lib.hid (lawOf_gives p.val p.property)
  have HOK := Lib.hid (lawOf_gives k.val k.property)
  have pp := p.property
  have pk := k.property
  unfold Gives
  go_enter Tryz.func9, Tryz.ntmps9
  go_upto_region 1 with fail
  apply wp_region_specs (by rfl) [.val _, .rel (fun v W => SlB W W.heap.size v (frontB p dp) ∧ TypB W v), .val _, .val _, .new _] 5 (by rfl) [10, 11, 12, 13, 6] [4] [] (by rfl) (by rfl) (by decide) (by decide +kernel) (fun _ _ _ _ _ h => h)
  case hF => intro x; simp only [over, List.foldl_cons, List.foldl_nil, List.setIfInBounds_toArray, List.set_cons_succ, List.set_cons_zero]; exact rfl
  case hops =>
    refine ⟨?o0, ?o1, ?o2, ?o3, ?o4, trivial⟩
    case o0 =>
      intro x w1 hH K hK
      obtain ⟨xs, d, rfl⟩ := grow_of_below hH.below
      clear hH
      try simp only [World.grow_drew] at hK ⊢
      try simp only [World.grow_grow] at hK ⊢
      go_simp
      go_wp2_with fail
      exact ⟨_, rfl, rfl, (by repeat (first | exact below_of_grow _ _ | exact Below.refl _ _ | exact below_more _ _ _ _ | (simp only [← Array.append_assoc]; first | exact below_more _ _ _ _ | exact below_same _ _ _ | exact Below.refl _ _) | exact below_same _ _ _ | (refine Below.alloc ?_ (by first | (simp; done) | (simp; omega)) _) | (refine Below.grow ?_ (by first | (simp; done) | (simp; omega)) _ _) | refine Below.drew ?_ | refine Below.drewN ?_ _ | (refine Below.putF ?_ (by first | (simp; done) | omega | (simp; omega)) _) | (refine Below.setCell ?_ (by first | (simp; done) | (simp; omega)) _))), fun h => by cases h⟩
    case o1 =>
      intro x w1 hH K hK
      have e10 : x 10 = _ := hH.holds 0 (by decide) (by decide +kernel) 10 rfl
      obtain ⟨xs, d, rfl⟩ := grow_of_below hH.below
      clear hH
      try simp only [World.grow_drew] at hK ⊢
      try simp only [World.grow_grow] at hK ⊢
      simp only [e10] at hK ⊢
      clear e10
      go_simp
      go_wp2_with (refine (front2_calls p dp _).mono ?_; rintro e9 W9 ⟨v9, rfl, hv9, hb9, ht9⟩)
      exact ⟨_, rfl, fun w3 h3 => ⟨(hv9.keep fun b hb => h3.block b hb).more h3.size, ht9.keep h3⟩, Below.trans (by repeat (first | exact below_of_grow _ _ | exact Below.refl _ _ | exact below_more _ _ _ _ | (simp only [← Array.append_assoc]; first | exact below_more _ _ _ _ | exact below_same _ _ _ | exact Below.refl _ _) | exact below_same _ _ _ | (refine Below.alloc ?_ (by first | (simp; done) | (simp; omega)) _) | (refine Below.grow ?_ (by first | (simp; done) | (simp; omega)) _ _) | refine Below.drew ?_ | refine Below.drewN ?_ _ | (refine Below.putF ?_ (by first | (simp; done) | omega | (simp; omega)) _) | (refine Below.setCell ?_ (by first | (simp; done) | (simp; omega)) _))) (hb9.mono (by simp <;> omega)), fun h => by cases h⟩
    case o2 =>
      intro x w1 hH K hK
      obtain ⟨xs, d, rfl⟩ := grow_of_below hH.below
      clear hH
      try simp only [World.grow_drew] at hK ⊢
      try simp only [World.grow_grow] at hK ⊢
      go_simp
      go_wp2_with fail
      exact ⟨_, rfl, rfl, (by repeat (first | exact below_of_grow _ _ | exact Below.refl _ _ | exact below_more _ _ _ _ | (simp only [← Array.append_assoc]; first | exact below_more _ _ _ _ | exact below_same _ _ _ | exact Below.refl _ _) | exact below_same _ _ _ | (refine Below.alloc ?_ (by first | (simp; done) | (simp; omega)) _) | (refine Below.grow ?_ (by first | (simp; done) | (simp; omega)) _ _) | refine Below.drew ?_ | refine Below.drewN ?_ _ | (refine Below.putF ?_ (by first | (simp; done) | omega | (simp; omega)) _) | (refine Below.setCell ?_ (by first | (simp; done) | (simp; omega)) _))), fun h => by cases h⟩
    case o3 =>
      intro x w1 hH K hK
      have e12 : x 12 = _ := hH.holds 2 (by decide) (by decide +kernel) 12 rfl
      obtain ⟨xs, d, rfl⟩ := grow_of_below hH.below
      clear hH
      try simp only [World.grow_drew] at hK ⊢
      try simp only [World.grow_grow] at hK ⊢
      simp only [e12] at hK ⊢
      clear e12
      go_simp
      go_wp2_with (refine Gives.use (HBK.out _) ?_; intro ys e)
      exact ⟨_, rfl, rfl, (by first | exact below_more _ _ _ _ | exact (by repeat (first | exact below_of_grow _ _ | exact Below.refl _ _ | exact below_more _ _ _ _ | (simp only [← Array.append_assoc]; first | exact below_more _ _ _ _ | exact below_same _ _ _ | exact Below.refl _ _) | exact below_same _ _ _ | (refine Below.alloc ?_ (by first | (simp; done) | (simp; omega)) _) | (refine Below.grow ?_ (by first | (simp; done) | (simp; omega)) _ _) | refine Below.drew ?_ | refine Below.drewN ?_ _ | (refine Below.putF ?_ (by first | (simp; done) | omega | (simp; omega)) _) | (refine Below.setCell ?_ (by first | (simp; done) | (simp; omega)) _)))), fun h => by cases h⟩
    case o4 =>
      intro x w1 hH K hK
      obtain ⟨xs, d, rfl⟩ := grow_of_below hH.below
      clear hH
      try simp only [World.grow_drew] at hK ⊢
      try simp only [World.grow_grow] at hK ⊢
      go_simp
      go_wp2_with fail
      exact left_new rfl (by simp) (by first | (simp; done) | (simp; omega))
  case hend =>
    intro x w1 hH
    have e10 : x 10 = _ := hH.holds 0 (by decide) trivial 10 rfl
    have r11 := hH.holds 1 (by decide) trivial 11 rfl (_) (Below.refl _ _)
    have e12 : x 12 = _ := hH.holds 2 (by decide) trivial 12 rfl
    have e13 : x 13 = _ := hH.holds 3 (by decide) trivial 13 rfl
    obtain ⟨b6, e6, l6, u6, o6⟩ := hH.holds 4 (by decide) trivial 6 rfl
    obtain ⟨xs, d, rfl⟩ := grow_of_below hH.below
    clear hH
    simp only [e10, e12, e13, e6]; clear e10 e12 e13 e6
    refine new_known1 o6 l6 u6 ?_
    simp [go_sem] at l6 u6
    simp only [List.drop_succ_cons, List.drop_zero]
    obtain ⟨r11, rt⟩ := r11
    obtain ⟨a5, cap, hx11, hcl, hcm, hsl⟩ := id r11
    rw [hx11] at r11 rt ⊢
    clear hx11 hsl
    go_upto_region 2 with fail
    refine wp_name ?_
    intro W hW
    obtain ⟨q, hq⟩ : ∃ q, q = w.heap.size := ⟨_, rfl⟩
    have hbw : Below w.heap.size w W := by rw [hW]; exact (by repeat (first | exact below_of_grow _ _ | exact Below.refl _ _ | exact below_more _ _ _ _ | (simp only [← Array.append_assoc]; first | exact below_more _ _ _ _ | exact below_same _ _ _ | exact Below.refl _ _) | exact below_same _ _ _ | (refine Below.alloc ?_ (by first | (simp; done) | (simp; omega)) _) | (refine Below.grow ?_ (by first | (simp; done) | (simp; omega)) _ _) | refine Below.drew ?_ | refine Below.drewN ?_ _ | (refine Below.putF ?_ (by first | (simp; done) | omega | (simp; omega)) _) | (refine Below.setCell ?_ (by first | (simp; done) | (simp; omega)) _)))
    have hsz : W.heap.size = w.heap.size + 2 + xs.size := by rw [hW]; simp
    have hb6 : W.heap[b6]? = some (.cells (row8 k.val) 104) := by rw [hW]; exact World.putF_heap_eq _ (by simp; omega)
    obtain ⟨V, hV⟩ : ∃ V, V = ((w.alloc (.cells (prefA p dp) 50)).alloc (.cells (row8 k.val) 39)).drew.grow xs d := ⟨_, rfl⟩
    rw [← hV] at r11 rt o6
    have old : ∀ b, b ≠ b6 → W.heap[b]? = V.heap[b]? := fun b hne => by rw [hW, hV]; exact World.putF_heap_ne _ hne
    have hVs : V.heap.size = w.heap.size + 2 + xs.size := by rw [hV, World.grow_size]; simp [World.drew]
    have hp0 : W.heap[q]? = some (.cells (prefA p dp) 50) := by
      rw [old q (by omega), hV, World.grow_heap _ _ _ (by show q < ((w.alloc _).alloc _).heap.size; simp; omega)]
      show (((w.alloc (.cells (prefA p dp) 50)).alloc (.cells (row8 k.val) 39))).heap[q]? = _
      rw [heap_al, if_neg (by simp; omega), heap_al, if_pos hq]
    have hk0 : W.heap[q + 1]? = some (.cells (row8 k.val) 39) := by
      rw [old (q + 1) (by omega), hV, World.grow_heap _ _ _ (by show q + 1 < ((w.alloc _).alloc _).heap.size; simp; omega)]
      show (((w.alloc (.cells (prefA p dp) 50)).alloc (.cells (row8 k.val) 39))).heap[q + 1]? = _
      rw [heap_al, if_pos (by simp; omega)]
    have hne : ∀ g, a5 = some g → g.block ≠ b6 := fun g hg he => by
      obtain ⟨c, hc⟩ := rt g.block (by rw [hg]; rfl)
      rw [he, o6] at hc
      simp at hc
    have hsb : SlB W W.heap.size (.slice a5 (frontB p dp).length cap) (frontB p dp) := by
      obtain ⟨_, _, e, h1, h2, h3⟩ := r11
      refine ⟨a5, cap, rfl, hcl, hcm, fun hp => ?_⟩
      simp only [Value.slice.injEq, true_and] at e
      obtain ⟨rfl, rfl⟩ := e
      obtain ⟨b', o', rfl, hb', hc'⟩ := h3 hp
      exact ⟨b', o', rfl, by omega, (cut_of_heap (old b' (hne _ rfl)) _ _).trans hc'⟩
    have c0 := cut_heap hp0 (sz := 26) (by simp)
    have c1 : W.cell? ⟨q, 25, none⟩ = some (.int .i64 dp) := (cellsK hp0 25).1.trans (prefA_d p dp)
    have c2 : W.cut? q 0 25 = some (row8 p.val) := by
      have := cut_sub c0 (i := 0) (m := 25) (by decide)
      rw [Nat.zero_add, prefA_ext p dp 0 25 (by decide), List.take_of_length_le (by omega), List.drop_zero] at this
      exact this
    have c3 := cut_heap hk0 (sz := 25) (by simp [pk])
    have c6 := cut_heap hb6 (sz := 25) (by simp [pk])
    have m1 : q < W.heap.size := by omega
    have m2 : q + 1 < W.heap.size := by omega
    have m6 : b6 < W.heap.size := by omega
    obtain ⟨F, hF⟩ : ∃ F, F = frontB p dp := ⟨_, rfl⟩
    rw [← hF] at hsb hcl ⊢
    simp only [← hq]
    have HB := Lib.hid (And.intro hbw (And.intro hq hsz))
    have HSB := Lib.hid (show ∀ W', Below W.heap.size W W' → SlB W' W.heap.size (.slice a5 F.length cap) F from fun W' h => hsb.keep fun b hb => h.block b hb)
    have HSK := Lib.hid (show ∀ n, n ≤ 25 → ∀ W', Below W.heap.size W W' → SlB W' (b6 + 1) (.slice (some ⟨b6, 0, none⟩) n 25) (k.val.take n) from fun n hn W' h => (sl_fixed pk c6 hn (by decide) (by unfold maxLen; decide)).keep fun b hb => h.block b (by omega))
    clear hbw hq hsz hsb hne old hV hVs o6 rt r11 hW l6 u6 hp0 hk0 hb6 V
    have hdp := HDP.out
    have hd : 0 ≤ dp ∧ dp ≤ 5 := by omega
    obtain ⟨hF1, hF2⟩ := frontB_in p hd
    have hr := hasB_in p k hd
    rw [← hF1, ← hF] at hr
    rw [← hF] at hF2
    generalize hasB p dp k = r at *
    have HR := Lib.hid hr
    clear hr hF1 hF
    clear HDP
    subst hdp
    have hn : F.length = 2 := hF2
    rw [hn] at HSB hcl ⊢
    have HSK2 := Lib.hid (HSK.out 2 (by decide))
    rw [show plen _ = 2 from rfl] at HR
    clear HSK hF2 hn hd
    go_wp2_with fail
    refine Gives.use (HHA.out _) ?_
    intro xs2 d2
    go_upto_region 7 with fail
    refine wp_name ?_
    intro W3 hW3
    have hb3 : Below W.heap.size W W3 := by rw [hW3]; exact (by repeat (first | exact below_of_grow _ _ | exact Below.refl _ _ | exact below_more _ _ _ _ | (simp only [← Array.append_assoc]; first | exact below_more _ _ _ _ | exact below_same _ _ _ | exact Below.refl _ _) | exact below_same _ _ _ | (refine Below.alloc ?_ (by first | (simp; done) | (simp; omega)) _) | (refine Below.grow ?_ (by first | (simp; done) | (simp; omega)) _ _) | refine Below.drew ?_ | refine Below.drewN ?_ _ | (refine Below.putF ?_ (by first | (simp; done) | omega | (simp; omega)) _) | (refine Below.setCell ?_ (by first | (simp; done) | (simp; omega)) _)))
    have HS := Lib.hid (show ∀ W', Below W3.heap.size W3 W' → Gives Tryz.prog 49 #[.slice a5 2 cap, .slice (some ⟨b6, 0, none⟩) 2 25] W' (.bool r) from fun W' h => by
      have h' := hb3.trans (h.mono hb3.size)
      have hz := h'.size
      have := ref2Same_gives F (k.val.take 2) (HSB.out W' h') (HSK2.out W' h') hz (by omega)
      rw [← HR.out] at this
      exact this)
    have e1 := (cut_of_heap (hb3.block q m1) 0 26).trans c0
    have e2 := (World.cell?_of_block (w := W) (w' := W3) (a := ⟨q, 25, none⟩) (hb3.block q m1)).trans c1
    have e3 := (cut_of_heap (hb3.block q m1) 0 25).trans c2
    have e4 := (cut_of_heap (hb3.block (q + 1) m2) 0 25).trans c3
    have e5 := (cut_of_heap (hb3.block b6 m6) 0 25).trans c6
    have k1 : q < W3.heap.size := Nat.lt_of_lt_of_le m1 hb3.size
    have k2 : q + 1 < W3.heap.size := Nat.lt_of_lt_of_le m2 hb3.size
    have k6 : b6 < W3.heap.size := Nat.lt_of_lt_of_le m6 hb3.size
    have HB3 := Lib.hid hb3
    clear hW3 hb3 c0 c1 c2 c3 c6 m1 m2 m6 HSB HSK2 HR HHA
    apply wp_region_specs (by rfl) [.val _, .val _, .val _, .val _, .val _, .val _, .val _, .val _, .val _, .val _, .val _, .val _, .val _, .val _, .val _, .val _, .val _, .val _, .val _, .val _, .val _, .val _, .val _, .val _, .val _, .val _] 26 (by rfl) [46, 47, 48, 49, 50, 51, 52, 53, 54, 55, 56, 57, 58, 59, 60, 61, 62, 63, 64, 65, 66, 67, 68, 69, 70, 71] [] [] (by rfl) (by rfl) (by decide) (by decide +kernel) (fun _ _ _ _ _ h => h)
    case hF => intro x; simp only [over, List.foldl_cons, List.foldl_nil, List.setIfInBounds_toArray, List.set_cons_succ, List.set_cons_zero]; exact rfl
    case hops =>
      refine ⟨?o0, ?o1, ?o2, ?o3, ?o4, ?o5, ?o6, ?o7, ?o8, ?o9, ?o10, ?o11, ?o12, ?o13, ?o14, ?o15, ?o16, ?o17, ?o18, ?o19, ?o20, ?o21, ?o22, ?o23, ?o24, ?o25, trivial⟩
      case o0 =>
        intro x w1 hH K hK
        obtain ⟨xs, d, rfl⟩ := grow_of_below hH.below
        clear hH
        try simp only [World.grow_drew] at hK ⊢
        try simp only [World.grow_grow] at hK ⊢
        go_simp
        go_wp2_with (refine Gives.use (HKN.out _) ?_; intro ys e)
        exact ⟨_, rfl, rfl, (by first | exact below_more _ _ _ _ | exact (by repeat (first | exact below_of_grow _ _ | exact Below.refl _ _ | exact below_more _ _ _ _ | (simp only [← Array.append_assoc]; first | exact below_more _ _ _ _ | exact below_same _ _ _ | exact Below.refl _ _) | exact below_same _ _ _ | (refine Below.alloc ?_ (by first | (simp; done) | (simp; omega)) _) | (refine Below.grow ?_ (by first | (simp; done) | (simp; omega)) _ _) | refine Below.drew ?_ | refine Below.drewN ?_ _ | (refine Below.putF ?_ (by first | (simp; done) | omega | (simp; omega)) _) | (refine Below.setCell ?_ (by first | (simp; done) | (simp; omega)) _)))), fun h => by cases h⟩
      case o1 =>
        intro x w1 hH K hK
        have e46 : x 46 = _ := hH.holds 0 (by decide) (by decide +kernel) 46 rfl
        obtain ⟨xs, d, rfl⟩ := grow_of_below hH.below
        clear hH
        try simp only [World.grow_drew] at hK ⊢
        try simp only [World.grow_grow] at hK ⊢
        simp only [e46] at hK ⊢
        clear e46
        go_simp
        go_wp2_with fail
        exact ⟨_, rfl, rfl, (by first | exact Below.refl _ _ | exact below_same _ _ _ | exact below_more _ _ _ _ | exact below_of_grow _ _), fun h => by cases h⟩
      case o2 =>
        intro x w1 hH K hK
        have e47 : x 47 = _ := hH.holds 1 (by decide) (by decide +kernel) 47 rfl
        obtain ⟨xs, d, rfl⟩ := grow_of_below hH.below
        clear hH
        try simp only [World.grow_drew] at hK ⊢
        try simp only [World.grow_grow] at hK ⊢
        simp only [e47] at hK ⊢
        clear e47
        go_simp
        go_wp2_with fail
        exact ⟨_, rfl, rfl, (by first | exact Below.refl _ _ | exact below_same _ _ _ | exact below_more _ _ _ _ | exact below_of_grow _ _), fun h => by cases h⟩
      case o3 =>
        intro x w1 hH K hK
        have e47 : x 47 = _ := hH.holds 1 (by decide) (by decide +kernel) 47 rfl
        obtain ⟨xs, d, rfl⟩ := grow_of_below hH.below
        clear hH
        try simp only [World.grow_drew] at hK ⊢
        try simp only [World.grow_grow] at hK ⊢
        simp only [e47] at hK ⊢
        clear e47
        go_simp
        go_wp2_with fail
        exact ⟨_, rfl, rfl, (by first | exact Below.refl _ _ | exact below_same _ _ _ | exact below_more _ _ _ _ | exact below_of_grow _ _), fun h => by cases h⟩
      case o4 =>
        intro x w1 hH K hK
        have e47 : x 47 = _ := hH.holds 1 (by decide) (by decide +kernel) 47 rfl
        have e49 : x 49 = _ := hH.holds 3 (by decide) (by decide +kernel) 49 rfl
        obtain ⟨xs, d, rfl⟩ := grow_of_below hH.below
        clear hH
        try simp only [World.grow_drew] at hK ⊢
        try simp only [World.grow_grow] at hK ⊢
        simp only [e47, e49] at hK ⊢
        clear e47 e49
        go_simp
        go_wp2_with fail
        exact ⟨_, rfl, rfl, (by first | exact Below.refl _ _ | exact below_same _ _ _ | exact below_more _ _ _ _ | exact below_of_grow _ _), fun h => by cases h⟩
      case o5 =>
        intro x w1 hH K hK
        have e47 : x 47 = _ := hH.holds 1 (by decide) (by decide +kernel) 47 rfl
        have e50 : x 50 = _ := hH.holds 4 (by decide) (by decide +kernel) 50 rfl
        obtain ⟨xs, d, rfl⟩ := grow_of_below hH.below
        clear hH
        try simp only [World.grow_drew] at hK ⊢
        try simp only [World.grow_grow] at hK ⊢
        simp only [e47, e50] at hK ⊢
        clear e47 e50
        go_simp
        go_wp2_with (refine Gives.use (HOP.out _) ?_; intro ys e)
        exact ⟨_, rfl, rfl, (by first | exact below_more _ _ _ _ | exact (by repeat (first | exact below_of_grow _ _ | exact Below.refl _ _ | exact below_more _ _ _ _ | (simp only [← Array.append_assoc]; first | exact below_more _ _ _ _ | exact below_same _ _ _ | exact Below.refl _ _) | exact below_same _ _ _ | (refine Below.alloc ?_ (by first | (simp; done) | (simp; omega)) _) | (refine Below.grow ?_ (by first | (simp; done) | (simp; omega)) _ _) | refine Below.drew ?_ | refine Below.drewN ?_ _ | (refine Below.putF ?_ (by first | (simp; done) | omega | (simp; omega)) _) | (refine Below.setCell ?_ (by first | (simp; done) | (simp; omega)) _)))), fun h => by cases h⟩
      case o6 =>
        intro x w1 hH K hK
        have e47 : x 47 = _ := hH.holds 1 (by decide) (by decide +kernel) 47 rfl
        obtain ⟨xs, d, rfl⟩ := grow_of_below hH.below
        clear hH
        try simp only [World.grow_drew] at hK ⊢
        try simp only [World.grow_grow] at hK ⊢
        simp only [e47] at hK ⊢
        clear e47
        go_simp
        go_wp2_with fail
        exact ⟨_, rfl, rfl, (by first | exact Below.refl _ _ | exact below_same _ _ _ | exact below_more _ _ _ _ | exact below_of_grow _ _), fun h => by cases h⟩
      case o7 =>
        intro x w1 hH K hK
        have e47 : x 47 = _ := hH.holds 1 (by decide) (by decide +kernel) 47 rfl
        have e52 : x 52 = _ := hH.holds 6 (by decide) (by decide +kernel) 52 rfl
        obtain ⟨xs, d, rfl⟩ := grow_of_below hH.below
        clear hH
        try simp only [World.grow_drew] at hK ⊢
        try simp only [World.grow_grow] at hK ⊢
        simp only [e47, e52] at hK ⊢
        clear e47 e52
        go_simp
        go_wp2_with fail
        exact ⟨_, rfl, rfl, (by first | exact Below.refl _ _ | exact below_same _ _ _ | exact below_more _ _ _ _ | exact below_of_grow _ _), fun h => by cases h⟩
      case o8 =>
        intro x w1 hH K hK
        have e47 : x 47 = _ := hH.holds 1 (by decide) (by decide +kernel) 47 rfl
        obtain ⟨xs, d, rfl⟩ := grow_of_below hH.below
        clear hH
        try simp only [World.grow_drew] at hK ⊢
        try simp only [World.grow_grow] at hK ⊢
        simp only [e47] at hK ⊢
        clear e47
        go_simp
        go_wp2_with fail
        exact ⟨_, rfl, rfl, (by first | exact Below.refl _ _ | exact below_same _ _ _ | exact below_more _ _ _ _ | exact below_of_grow _ _), fun h => by cases h⟩
      case o9 =>
        intro x w1 hH K hK
        have e47 : x 47 = _ := hH.holds 1 (by decide) (by decide +kernel) 47 rfl
        have e54 : x 54 = _ := hH.holds 8 (by decide) (by decide +kernel) 54 rfl
        obtain ⟨xs, d, rfl⟩ := grow_of_below hH.below
        clear hH
        try simp only [World.grow_drew] at hK ⊢
        try simp only [World.grow_grow] at hK ⊢
        simp only [e47, e54] at hK ⊢
        clear e47 e54
        go_simp
        go_wp2_with (refine Gives.use (HOK.out _) ?_; intro ys e)
        exact ⟨_, rfl, rfl, (by first | exact below_more _ _ _ _ | exact (by repeat (first | exact below_of_grow _ _ | exact Below.refl _ _ | exact below_more _ _ _ _ | (simp only [← Array.append_assoc]; first | exact below_more _ _ _ _ | exact below_same _ _ _ | exact Below.refl _ _) | exact below_same _ _ _ | (refine Below.alloc ?_ (by first | (simp; done) | (simp; omega)) _) | (refine Below.grow ?_ (by first | (simp; done) | (simp; omega)) _ _) | refine Below.drew ?_ | refine Below.drewN ?_ _ | (refine Below.putF ?_ (by first | (simp; done) | omega | (simp; omega)) _) | (refine Below.setCell ?_ (by first | (simp; done) | (simp; omega)) _)))), fun h => by cases h⟩
      case o10 =>
        intro x w1 hH K hK
        have e47 : x 47 = _ := hH.holds 1 (by decide) (by decide +kernel) 47 rfl
        have e51 : x 51 = _ := hH.holds 5 (by decide) (by decide +kernel) 51 rfl
        have e53 : x 53 = _ := hH.holds 7 (by decide) (by decide +kernel) 53 rfl
        have e55 : x 55 = _ := hH.holds 9 (by decide) (by decide +kernel) 55 rfl
        obtain ⟨xs, d, rfl⟩ := grow_of_below hH.below
        clear hH
        try simp only [World.grow_drew] at hK ⊢
        try simp only [World.grow_grow] at hK ⊢
        simp only [e47, e51, e53, e55] at hK ⊢
        clear e47 e51 e53 e55
        go_simp
        go_wp2_with (refine Gives.use (HRH.out _) ?_; intro ys e)
        exact ⟨_, rfl, rfl, (by first | exact below_more _ _ _ _ | exact (by repeat (first | exact below_of_grow _ _ | exact Below.refl _ _ | exact below_more _ _ _ _ | (simp only [← Array.append_assoc]; first | exact below_more _ _ _ _ | exact below_same _ _ _ | exact Below.refl _ _) | exact below_same _ _ _ | (refine Below.alloc ?_ (by first | (simp; done) | (simp; omega)) _) | (refine Below.grow ?_ (by first | (simp; done) | (simp; omega)) _ _) | refine Below.drew ?_ | refine Below.drewN ?_ _ | (refine Below.putF ?_ (by first | (simp; done) | omega | (simp; omega)) _) | (refine Below.setCell ?_ (by first | (simp; done) | (simp; omega)) _)))), fun h => by cases h⟩
      case o11 =>
        intro x w1 hH K hK
        have e47 : x 47 = _ := hH.holds 1 (by decide) (by decide +kernel) 47 rfl
        have e48 : x 48 = _ := hH.holds 2 (by decide) (by decide +kernel) 48 rfl
        have e56 : x 56 = _ := hH.holds 10 (by decide) (by decide +kernel) 56 rfl
        obtain ⟨xs, d, rfl⟩ := grow_of_below hH.below
        clear hH
        try simp only [World.grow_drew] at hK ⊢
        try simp only [World.grow_grow] at hK ⊢
        simp only [e47, e48, e56] at hK ⊢
        clear e47 e48 e56
        go_simp
        go_wp2_with fail
        exact ⟨_, rfl, rfl, (by first | exact Below.refl _ _ | exact below_same _ _ _ | exact below_more _ _ _ _ | exact below_of_grow _ _), fun h => by cases h⟩
      case o12 =>
        intro x w1 hH K hK
        have e47 : x 47 = _ := hH.holds 1 (by decide) (by decide +kernel) 47 rfl
        have e57 : x 57 = _ := hH.holds 11 (by decide) (by decide +kernel) 57 rfl
        obtain ⟨xs, d, rfl⟩ := grow_of_below hH.below
        clear hH
        try simp only [World.grow_drew] at hK ⊢
        try simp only [World.grow_grow] at hK ⊢
        simp only [e47, e57] at hK ⊢
        clear e47 e57
        go_simp
        go_wp2_with fail
        exact ⟨_, rfl, rfl, (by first | exact Below.refl _ _ | exact below_same _ _ _ | exact below_more _ _ _ _ | exact below_of_grow _ _), fun h => by cases h⟩
      case o13 =>
        intro x w1 hH K hK
        have e58 : x 58 = _ := hH.holds 12 (by decide) (by decide +kernel) 58 rfl
        obtain ⟨xs, d, rfl⟩ := grow_of_below hH.below
        clear hH
        try simp only [World.grow_drew] at hK ⊢
        try simp only [World.grow_grow] at hK ⊢
        simp only [e58] at hK ⊢
        clear e58
        go_simp
        go_wp2_with fail
        exact ⟨_, rfl, rfl, (by first | exact Below.refl _ _ | exact below_same _ _ _ | exact below_more _ _ _ _ | exact below_of_grow _ _), fun h => by cases h⟩
      case o14 =>
        intro x w1 hH K hK
        have e59 : x 59 = _ := hH.holds 13 (by decide) (by decide +kernel) 59 rfl
        obtain ⟨xs, d, rfl⟩ := grow_of_below hH.below
        clear hH
        try simp only [World.grow_drew] at hK ⊢
        try simp only [World.grow_grow] at hK ⊢
        simp only [e59] at hK ⊢
        clear e59
        go_simp
        go_wp2_with fail
        exact ⟨_, rfl, rfl, (by first | exact Below.refl _ _ | exact below_same _ _ _ | exact below_more _ _ _ _ | exact below_of_grow _ _), fun h => by cases h⟩
      case o15 =>
        intro x w1 hH K hK
        have e59 : x 59 = _ := hH.holds 13 (by decide) (by decide +kernel) 59 rfl
        have e60 : x 60 = _ := hH.holds 14 (by decide) (by decide +kernel) 60 rfl
        obtain ⟨xs, d, rfl⟩ := grow_of_below hH.below
        clear hH
        try simp only [World.grow_drew] at hK ⊢
        try simp only [World.grow_grow] at hK ⊢
        simp only [e59, e60] at hK ⊢
        clear e59 e60
        go_simp
        go_wp2_with fail
        exact ⟨_, rfl, rfl, (by first | exact Below.refl _ _ | exact below_same _ _ _ | exact below_more _ _ _ _ | exact below_of_grow _ _), fun h => by cases h⟩
      case o16 =>
        intro x w1 hH K hK
        have e59 : x 59 = _ := hH.holds 13 (by decide) (by decide +kernel) 59 rfl
        have e61 : x 61 = _ := hH.holds 15 (by decide) (by decide +kernel) 61 rfl
        obtain ⟨xs, d, rfl⟩ := grow_of_below hH.below
        clear hH
        try simp only [World.grow_drew] at hK ⊢
        try simp only [World.grow_grow] at hK ⊢
        simp only [e59, e61] at hK ⊢
        clear e59 e61
        go_simp
        go_wp2_with fail
        exact ⟨_, rfl, rfl, (by first | exact Below.refl _ _ | exact below_same _ _ _ | exact below_more _ _ _ _ | exact below_of_grow _ _), fun h => by cases h⟩
      case o17 =>
        intro x w1 hH K hK
        have e62 : x 62 = _ := hH.holds 16 (by decide) (by decide +kernel) 62 rfl
        obtain ⟨xs, d, rfl⟩ := grow_of_below hH.below
        clear hH
        try simp only [World.grow_drew] at hK ⊢
        try simp only [World.grow_grow] at hK ⊢
        simp only [e62] at hK ⊢
        clear e62
        go_simp
        go_wp2_with fail
        exact ⟨_, rfl, rfl, (by first | exact Below.refl _ _ | exact below_same _ _ _ | exact below_more _ _ _ _ | exact below_of_grow _ _), fun h => by cases h⟩
      case o18 =>
        intro x w1 hH K hK
        have e62 : x 62 = _ := hH.holds 16 (by decide) (by decide +kernel) 62 rfl
        obtain ⟨xs, d, rfl⟩ := grow_of_below hH.below
        clear hH
        try simp only [World.grow_drew] at hK ⊢
        try simp only [World.grow_grow] at hK ⊢
        simp only [e62] at hK ⊢
        clear e62
        go_simp
        go_wp2_with fail
        exact ⟨_, rfl, rfl, (by first | exact Below.refl _ _ | exact below_same _ _ _ | exact below_more _ _ _ _ | exact below_of_grow _ _), fun h => by cases h⟩
      case o19 =>
        intro x w1 hH K hK
        have e62 : x 62 = _ := hH.holds 16 (by decide) (by decide +kernel) 62 rfl
        obtain ⟨xs, d, rfl⟩ := grow_of_below hH.below
        clear hH
        try simp only [World.grow_drew] at hK ⊢
        try simp only [World.grow_grow] at hK ⊢
        simp only [e62] at hK ⊢
        clear e62
        go_simp
        go_wp2_with fail
        exact ⟨_, rfl, rfl, (by first | exact Below.refl _ _ | exact below_same _ _ _ | exact below_more _ _ _ _ | exact below_of_grow _ _), fun h => by cases h⟩
      case o20 =>
        intro x w1 hH K hK
        have e62 : x 62 = _ := hH.holds 16 (by decide) (by decide +kernel) 62 rfl
        have e65 : x 65 = _ := hH.holds 19 (by decide) (by decide +kernel) 65 rfl
        obtain ⟨xs, d, rfl⟩ := grow_of_below hH.below
        clear hH
        try simp only [World.grow_drew] at hK ⊢
        try simp only [World.grow_grow] at hK ⊢
        simp only [e62, e65] at hK ⊢
        clear e62 e65
        go_simp
        go_wp2_with fail
        exact ⟨_, rfl, rfl, (by first | exact Below.refl _ _ | exact below_same _ _ _ | exact below_more _ _ _ _ | exact below_of_grow _ _), fun h => by cases h⟩
      case o21 =>
        intro x w1 hH K hK
        have e62 : x 62 = _ := hH.holds 16 (by decide) (by decide +kernel) 62 rfl
        have e66 : x 66 = _ := hH.holds 20 (by decide) (by decide +kernel) 66 rfl
        obtain ⟨xs, d, rfl⟩ := grow_of_below hH.below
        clear hH
        try simp only [World.grow_drew] at hK ⊢
        try simp only [World.grow_grow] at hK ⊢
        simp only [e62, e66] at hK ⊢
        clear e62 e66
        go_simp
        go_wp2_with fail
        exact ⟨_, rfl, rfl, (by first | exact Below.refl _ _ | exact below_same _ _ _ | exact below_more _ _ _ _ | exact below_of_grow _ _), fun h => by cases h⟩
      case o22 =>
        intro x w1 hH K hK
        have e62 : x 62 = _ := hH.holds 16 (by decide) (by decide +kernel) 62 rfl
        have e64 : x 64 = _ := hH.holds 18 (by decide) (by decide +kernel) 64 rfl
        have e67 : x 67 = _ := hH.holds 21 (by decide) (by decide +kernel) 67 rfl
        obtain ⟨xs, d, rfl⟩ := grow_of_below hH.below
        clear hH
        try simp only [World.grow_drew] at hK ⊢
        try simp only [World.grow_grow] at hK ⊢
        simp only [e62, e64, e67] at hK ⊢
        clear e62 e64 e67
        go_simp
        go_wp2_with (refine Gives.use (HS.out _ (by first | exact below_of_grow _ _ | exact Below.refl _ _ | exact (by repeat (first | exact below_of_grow _ _ | exact Below.refl _ _ | exact below_more _ _ _ _ | (simp only [← Array.append_assoc]; first | exact below_more _ _ _ _ | exact below_same _ _ _ | exact Below.refl _ _) | exact below_same _ _ _ | (refine Below.alloc ?_ (by first | (simp; done) | (simp; omega)) _) | (refine Below.grow ?_ (by first | (simp; done) | (simp; omega)) _ _) | refine Below.drew ?_ | refine Below.drewN ?_ _ | (refine Below.putF ?_ (by first | (simp; done) | omega | (simp; omega)) _) | (refine Below.setCell ?_ (by first | (simp; done) | (simp; omega)) _))))) ?_; intro ys e)
        exact ⟨_, rfl, rfl, (by first | exact below_more _ _ _ _ | exact (by repeat (first | exact below_of_grow _ _ | exact Below.refl _ _ | exact below_more _ _ _ _ | (simp only [← Array.append_assoc]; first | exact below_more _ _ _ _ | exact below_same _ _ _ | exact Below.refl _ _) | exact below_same _ _ _ | (refine Below.alloc ?_ (by first | (simp; done) | (simp; omega)) _) | (refine Below.grow ?_ (by first | (simp; done) | (simp; omega)) _ _) | refine Below.drew ?_ | refine Below.drewN ?_ _ | (refine Below.putF ?_ (by first | (simp; done) | omega | (simp; omega)) _) | (refine Below.setCell ?_ (by first | (simp; done) | (simp; omega)) _)))), fun h => by cases h⟩
      case o23 =>
        intro x w1 hH K hK
        have e62 : x 62 = _ := hH.holds 16 (by decide) (by decide +kernel) 62 rfl
        have e63 : x 63 = _ := hH.holds 17 (by decide) (by decide +kernel) 63 rfl
        have e68 : x 68 = _ := hH.holds 22 (by decide) (by decide +kernel) 68 rfl
        obtain ⟨xs, d, rfl⟩ := grow_of_below hH.below
        clear hH
        try simp only [World.grow_drew] at hK ⊢
        try simp only [World.grow_grow] at hK ⊢
        simp only [e62, e63, e68] at hK ⊢
        clear e62 e63 e68
        go_simp
        go_wp2_with fail
        exact ⟨_, rfl, rfl, (by first | exact Below.refl _ _ | exact below_same _ _ _ | exact below_more _ _ _ _ | exact below_of_grow _ _), fun h => by cases h⟩
      case o24 =>
        intro x w1 hH K hK
        have e59 : x 59 = _ := hH.holds 13 (by decide) (by decide +kernel) 59 rfl
        have e62 : x 62 = _ := hH.holds 16 (by decide) (by decide +kernel) 62 rfl
        have e69 : x 69 = _ := hH.holds 23 (by decide) (by decide +kernel) 69 rfl
        obtain ⟨xs, d, rfl⟩ := grow_of_below hH.below
        clear hH
        try simp only [World.grow_drew] at hK ⊢
        try simp only [World.grow_grow] at hK ⊢
        simp only [e59, e62, e69] at hK ⊢
        clear e59 e62 e69
        go_simp
        go_wp2_with fail
        exact ⟨_, rfl, rfl, (by first | exact Below.refl _ _ | exact below_same _ _ _ | exact below_more _ _ _ _ | exact below_of_grow _ _), fun h => by cases h⟩
      case o25 =>
        intro x w1 hH K hK
        have e59 : x 59 = _ := hH.holds 13 (by decide) (by decide +kernel) 59 rfl
        have e70 : x 70 = _ := hH.holds 24 (by decide) (by decide +kernel) 70 rfl
        obtain ⟨xs, d, rfl⟩ := grow_of_below hH.below
        clear hH
        try simp only [World.grow_drew] at hK ⊢
        try simp only [World.grow_grow] at hK ⊢
        simp only [e59, e70] at hK ⊢
        clear e59 e70
        go_simp
        go_wp2_with fail
        exact ⟨_, rfl, rfl, (by first | exact Below.refl _ _ | exact below_same _ _ _ | exact below_more _ _ _ _ | exact below_of_grow _ _), fun h => by cases h⟩
    case hend =>
      intro x w1 hH
      have e46 : x 46 = _ := hH.holds 0 (by decide) trivial 46 rfl
      have e47 : x 47 = _ := hH.holds 1 (by decide) trivial 47 rfl
      have e48 : x 48 = _ := hH.holds 2 (by decide) trivial 48 rfl
      have e49 : x 49 = _ := hH.holds 3 (by decide) trivial 49 rfl
      have e50 : x 50 = _ := hH.holds 4 (by decide) trivial 50 rfl
      have e51 : x 51 = _ := hH.holds 5 (by decide) trivial 51 rfl
      have e52 : x 52 = _ := hH.holds 6 (by decide) trivial 52 rfl
      have e53 : x 53 = _ := hH.holds 7 (by decide) trivial 53 rfl
      have e54 : x 54 = _ := hH.holds 8 (by decide) trivial 54 rfl
      have e55 : x 55 = _ := hH.holds 9 (by decide) trivial 55 rfl
      have e56 : x 56 = _ := hH.holds 10 (by decide) trivial 56 rfl
      have e57 : x 57 = _ := hH.holds 11 (by decide) trivial 57 rfl
      have e58 : x 58 = _ := hH.holds 12 (by decide) trivial 58 rfl
      have e59 : x 59 = _ := hH.holds 13 (by decide) trivial 59 rfl
      have e60 : x 60 = _ := hH.holds 14 (by decide) trivial 60 rfl
      have e61 : x 61 = _ := hH.holds 15 (by decide) trivial 61 rfl
      have e62 : x 62 = _ := hH.holds 16 (by decide) trivial 62 rfl
      have e63 : x 63 = _ := hH.holds 17 (by decide) trivial 63 rfl
      have e64 : x 64 = _ := hH.holds 18 (by decide) trivial 64 rfl
      have e65 : x 65 = _ := hH.holds 19 (by decide) trivial 65 rfl
      have e66 : x 66 = _ := hH.holds 20 (by decide) trivial 66 rfl
      have e67 : x 67 = _ := hH.holds 21 (by decide) trivial 67 rfl
      have e68 : x 68 = _ := hH.holds 22 (by decide) trivial 68 rfl
      have e69 : x 69 = _ := hH.holds 23 (by decide) trivial 69 rfl
      have e70 : x 70 = _ := hH.holds 24 (by decide) trivial 70 rfl
      have e71 : x 71 = _ := hH.holds 25 (by decide) trivial 71 rfl
      obtain ⟨xs, d, rfl⟩ := grow_of_below hH.below
      clear hH
      simp only [e46, e47, e48, e49, e50, e51, e52, e53, e54, e55, e56, e57, e58, e59, e60, e61, e62, e63, e64, e65, e66, e67, e68, e69, e70, e71]; clear e46 e47 e48 e49 e50 e51 e52 e53 e54 e55 e56 e57 e58 e59 e60 e61 e62 e63 e64 e65 e66 e67 e68 e69 e70 e71
      simp only [List.drop_succ_cons, List.drop_zero]
      go_wp2_with fail
      go_ret
      exact ⟨rfl, HB.out.1.trans ((HB3.out.trans (((Below.refl W3.heap.size W3).drew.grow (Nat.le_refl _) _ _).mono HB3.out.size)).mono (by have := HB.out.2; omega))⟩
set_option maxHeartbeats 20000000 in
theorem keyPxOut (p k : K25) (dp : Int) (hd : ¬ (0 ≤ dp ∧ dp ≤ 5)) (w : World) : Gives Tryz.prog 9 #[.agg (prefA p dp), .agg (row8 k.val)] w (.bool true) := by
  have HDN := Lib.hid hd
  clear hd
  have HKN := Lib.hid known06_gives
  have HBK := Lib.hid (keyBytes_gives k.val k.property)
  have HHA := Lib.hid (has_gives p k dp)
  have HRH := Lib.hid (refHas6_gives p k dp)
  have HOP := Lib.hid (lawOf_gives p.val p.property)
  have HOK := Lib.hid (lawOf_gives k.val k.property)
  have pp := p.property
  have pk := k.property
  unfold Gives
  go_enter Tryz.func9, Tryz.ntmps9
  go_upto_region 1 with fail
  apply wp_region_specs (by rfl) [.val _, .rel (fun v W => SlB W W.heap.size v (frontB p dp) ∧ TypB W v), .val _, .val _, .new _] 5 (by rfl) [10, 11, 12, 13, 6] [4] [] (by rfl) (by rfl) (by decide) (by decide +kernel) (fun _ _ _ _ _ h => h)
  case hF => intro x; simp only [over, List.foldl_cons, List.foldl_nil, List.setIfInBounds_toArray, List.set_cons_succ, List.set_cons_zero]; exact rfl
  case hops =>
    refine ⟨?o0, ?o1, ?o2, ?o3, ?o4, trivial⟩
    case o0 =>
      intro x w1 hH K hK
      obtain ⟨xs, d, rfl⟩ := grow_of_below hH.below
      clear hH
      try simp only [World.grow_drew] at hK ⊢
      try simp only [World.grow_grow] at hK ⊢
      go_simp
      go_wp2_with fail
      exact ⟨_, rfl, rfl, (by repeat (first | exact below_of_grow _ _ | exact Below.refl _ _ | exact below_more _ _ _ _ | (simp only [← Array.append_assoc]; first | exact below_more _ _ _ _ | exact below_same _ _ _ | exact Below.refl _ _) | exact below_same _ _ _ | (refine Below.alloc ?_ (by first | (simp; done) | (simp; omega)) _) | (refine Below.grow ?_ (by first | (simp; done) | (simp; omega)) _ _) | refine Below.drew ?_ | refine Below.drewN ?_ _ | (refine Below.putF ?_ (by first | (simp; done) | omega | (simp; omega)) _) | (refine Below.setCell ?_ (by first | (simp; done) | (simp; omega)) _))), fun h => by cases h⟩
    case o1 =>
      intro x w1 hH K hK
      have e10 : x 10 = _ := hH.holds 0 (by decide) (by decide +kernel) 10 rfl
      obtain ⟨xs, d, rfl⟩ := grow_of_below hH.below
      clear hH
      try simp only [World.grow_drew] at hK ⊢
      try simp only [World.grow_grow] at hK ⊢
      simp only [e10] at hK ⊢
      clear e10
      go_simp
      go_wp2_with (refine (front2_calls p dp _).mono ?_; rintro e9 W9 ⟨v9, rfl, hv9, hb9, ht9⟩)
      exact ⟨_, rfl, fun w3 h3 => ⟨(hv9.keep fun b hb => h3.block b hb).more h3.size, ht9.keep h3⟩, Below.trans (by repeat (first | exact below_of_grow _ _ | exact Below.refl _ _ | exact below_more _ _ _ _ | (simp only [← Array.append_assoc]; first | exact below_more _ _ _ _ | exact below_same _ _ _ | exact Below.refl _ _) | exact below_same _ _ _ | (refine Below.alloc ?_ (by first | (simp; done) | (simp; omega)) _) | (refine Below.grow ?_ (by first | (simp; done) | (simp; omega)) _ _) | refine Below.drew ?_ | refine Below.drewN ?_ _ | (refine Below.putF ?_ (by first | (simp; done) | omega | (simp; omega)) _) | (refine Below.setCell ?_ (by first | (simp; done) | (simp; omega)) _))) (hb9.mono (by simp <;> omega)), fun h => by cases h⟩
    case o2 =>
      intro x w1 hH K hK
      obtain ⟨xs, d, rfl⟩ := grow_of_below hH.below
      clear hH
      try simp only [World.grow_drew] at hK ⊢
      try simp only [World.grow_grow] at hK ⊢
      go_simp
      go_wp2_with fail
      exact ⟨_, rfl, rfl, (by repeat (first | exact below_of_grow _ _ | exact Below.refl _ _ | exact below_more _ _ _ _ | (simp only [← Array.append_assoc]; first | exact below_more _ _ _ _ | exact below_same _ _ _ | exact Below.refl _ _) | exact below_same _ _ _ | (refine Below.alloc ?_ (by first | (simp; done) | (simp; omega)) _) | (refine Below.grow ?_ (by first | (simp; done) | (simp; omega)) _ _) | refine Below.drew ?_ | refine Below.drewN ?_ _ | (refine Below.putF ?_ (by first | (simp; done) | omega | (simp; omega)) _) | (refine Below.setCell ?_ (by first | (simp; done) | (simp; omega)) _))), fun h => by cases h⟩
    case o3 =>
      intro x w1 hH K hK
      have e12 : x 12 = _ := hH.holds 2 (by decide) (by decide +kernel) 12 rfl
      obtain ⟨xs, d, rfl⟩ := grow_of_below hH.below
      clear hH
      try simp only [World.grow_drew] at hK ⊢
      try simp only [World.grow_grow] at hK ⊢
      simp only [e12] at hK ⊢
      clear e12
      go_simp
      go_wp2_with (refine Gives.use (HBK.out _) ?_; intro ys e)
      exact ⟨_, rfl, rfl, (by first | exact below_more _ _ _ _ | exact (by repeat (first | exact below_of_grow _ _ | exact Below.refl _ _ | exact below_more _ _ _ _ | (simp only [← Array.append_assoc]; first | exact below_more _ _ _ _ | exact below_same _ _ _ | exact Below.refl _ _) | exact below_same _ _ _ | (refine Below.alloc ?_ (by first | (simp; done) | (simp; omega)) _) | (refine Below.grow ?_ (by first | (simp; done) | (simp; omega)) _ _) | refine Below.drew ?_ | refine Below.drewN ?_ _ | (refine Below.putF ?_ (by first | (simp; done) | omega | (simp; omega)) _) | (refine Below.setCell ?_ (by first | (simp; done) | (simp; omega)) _)))), fun h => by cases h⟩
    case o4 =>
      intro x w1 hH K hK
      obtain ⟨xs, d, rfl⟩ := grow_of_below hH.below
      clear hH
      try simp only [World.grow_drew] at hK ⊢
      try simp only [World.grow_grow] at hK ⊢
      go_simp
      go_wp2_with fail
      exact left_new rfl (by simp) (by first | (simp; done) | (simp; omega))
  case hend =>
    intro x w1 hH
    have e10 : x 10 = _ := hH.holds 0 (by decide) trivial 10 rfl
    have r11 := hH.holds 1 (by decide) trivial 11 rfl (_) (Below.refl _ _)
    have e12 : x 12 = _ := hH.holds 2 (by decide) trivial 12 rfl
    have e13 : x 13 = _ := hH.holds 3 (by decide) trivial 13 rfl
    obtain ⟨b6, e6, l6, u6, o6⟩ := hH.holds 4 (by decide) trivial 6 rfl
    obtain ⟨xs, d, rfl⟩ := grow_of_below hH.below
    clear hH
    simp only [e10, e12, e13, e6]; clear e10 e12 e13 e6
    refine new_known1 o6 l6 u6 ?_
    simp [go_sem] at l6 u6
    simp only [List.drop_succ_cons, List.drop_zero]
    obtain ⟨r11, rt⟩ := r11
    obtain ⟨a5, cap, hx11, hcl, hcm, hsl⟩ := id r11
    rw [hx11] at r11 rt ⊢
    clear hx11 hsl
    go_upto_region 2 with fail
    refine wp_name ?_
    intro W hW
    obtain ⟨q, hq⟩ : ∃ q, q = w.heap.size := ⟨_, rfl⟩
    have hbw : Below w.heap.size w W := by rw [hW]; exact (by repeat (first | exact below_of_grow _ _ | exact Below.refl _ _ | exact below_more _ _ _ _ | (simp only [← Array.append_assoc]; first | exact below_more _ _ _ _ | exact below_same _ _ _ | exact Below.refl _ _) | exact below_same _ _ _ | (refine Below.alloc ?_ (by first | (simp; done) | (simp; omega)) _) | (refine Below.grow ?_ (by first | (simp; done) | (simp; omega)) _ _) | refine Below.drew ?_ | refine Below.drewN ?_ _ | (refine Below.putF ?_ (by first | (simp; done) | omega | (simp; omega)) _) | (refine Below.setCell ?_ (by first | (simp; done) | (simp; omega)) _)))
    have hsz : W.heap.size = w.heap.size + 2 + xs.size := by rw [hW]; simp
    have hb6 : W.heap[b6]? = some (.cells (row8 k.val) 104) := by rw [hW]; exact World.putF_heap_eq _ (by simp; omega)
    obtain ⟨V, hV⟩ : ∃ V, V = ((w.alloc (.cells (prefA p dp) 50)).alloc (.cells (row8 k.val) 39)).drew.grow xs d := ⟨_, rfl⟩
    rw [← hV] at r11 rt o6
    have old : ∀ b, b ≠ b6 → W.heap[b]? = V.heap[b]? := fun b hne => by rw [hW, hV]; exact World.putF_heap_ne _ hne
    have hVs : V.heap.size = w.heap.size + 2 + xs.size := by rw [hV, World.grow_size]; simp [World.drew]
    have hp0 : W.heap[q]? = some (.cells (prefA p dp) 50) := by
      rw [old q (by omega), hV, World.grow_heap _ _ _ (by show q < ((w.alloc _).alloc _).heap.size; simp; omega)]
      show (((w.alloc (.cells (prefA p dp) 50)).alloc (.cells (row8 k.val) 39))).heap[q]? = _
      rw [heap_al, if_neg (by simp; omega), heap_al, if_pos hq]
    have hk0 : W.heap[q + 1]? = some (.cells (row8 k.val) 39) := by
      rw [old (q + 1) (by omega), hV, World.grow_heap _ _ _ (by show q + 1 < ((w.alloc _).alloc _).heap.size; simp; omega)]
      show (((w.alloc (.cells (prefA p dp) 50)).alloc (.cells (row8 k.val) 39))).heap[q + 1]? = _
      rw [heap_al, if_pos (by simp; omega)]
    have hne : ∀ g, a5 = some g → g.block ≠ b6 := fun g hg he => by
      obtain ⟨c, hc⟩ := rt g.block (by rw [hg]; rfl)
      rw [he, o6] at hc
      simp at hc
    have hsb : SlB W W.heap.size (.slice a5 (frontB p dp).length cap) (frontB p dp) := by
      obtain ⟨_, _, e, h1, h2, h3⟩ := r11
      refine ⟨a5, cap, rfl, hcl, hcm, fun hp => ?_⟩
      simp only [Value.slice.injEq, true_and] at e
      obtain ⟨rfl, rfl⟩ := e
      obtain ⟨b', o', rfl, hb', hc'⟩ := h3 hp
      exact ⟨b', o', rfl, by omega, (cut_of_heap (old b' (hne _ rfl)) _ _).trans hc'⟩
    have c0 := cut_heap hp0 (sz := 26) (by simp)
    have c1 : W.cell? ⟨q, 25, none⟩ = some (.int .i64 dp) := (cellsK hp0 25).1.trans (prefA_d p dp)
    have c2 : W.cut? q 0 25 = some (row8 p.val) := by
      have := cut_sub c0 (i := 0) (m := 25) (by decide)
      rw [Nat.zero_add, prefA_ext p dp 0 25 (by decide), List.take_of_length_le (by omega), List.drop_zero] at this
      exact this
    have c3 := cut_heap hk0 (sz := 25) (by simp [pk])
    have c6 := cut_heap hb6 (sz := 25) (by simp [pk])
    have m1 : q < W.heap.size := by omega
    have m2 : q + 1 < W.heap.size := by omega
    have m6 : b6 < W.heap.size := by omega
    obtain ⟨F, hF⟩ : ∃ F, F = frontB p dp := ⟨_, rfl⟩
    rw [← hF] at hsb hcl ⊢
    simp only [← hq]
    have HB := Lib.hid (And.intro hbw (And.intro hq hsz))
    have HSB := Lib.hid (show ∀ W', Below W.heap.size W W' → SlB W' W.heap.size (.slice a5 F.length cap) F from fun W' h => hsb.keep fun b hb => h.block b hb)
    have HSK := Lib.hid (show ∀ n, n ≤ 25 → ∀ W', Below W.heap.size W W' → SlB W' (b6 + 1) (.slice (some ⟨b6, 0, none⟩) n 25) (k.val.take n) from fun n hn W' h => (sl_fixed pk c6 hn (by decide) (by unfold maxLen; decide)).keep fun b hb => h.block b (by omega))
    clear hbw hq hsz hsb hne old hV hVs o6 rt r11 hW l6 u6 hp0 hk0 hb6 V
    have hd := HDN.out
    have hpr : prefR dp = false := decide_eq_false hd
    have hF0 : F.length = 0 := by rw [hF]; unfold frontB; rw [hpr]; rfl
    have hr : hasB p dp k = false := by unfold hasB; rw [hpr]; rfl
    rw [hr] at HHA HRH
    rw [hF0] at hcl ⊢
    clear hF hF0 hr hpr HSB HSK
    rcases (show dp < 0 ∨ 5 < dp by omega) with h | h
    all_goals
      have g1 : ¬ (5 < dp) ∨ ¬ (dp < 0) := by omega
      clear hd HDN
      go_wp2_with fail
      refine Gives.use (HHA.out _) ?_
      intro xs2 d2
      go_upto_region 7 with fail
      refine wp_name ?_
      intro W3 hW3
      have hb3 : Below W.heap.size W W3 := by rw [hW3]; exact (by repeat (first | exact below_of_grow _ _ | exact Below.refl _ _ | exact below_more _ _ _ _ | (simp only [← Array.append_assoc]; first | exact below_more _ _ _ _ | exact below_same _ _ _ | exact Below.refl _ _) | exact below_same _ _ _ | (refine Below.alloc ?_ (by first | (simp; done) | (simp; omega)) _) | (refine Below.grow ?_ (by first | (simp; done) | (simp; omega)) _ _) | refine Below.drew ?_ | refine Below.drewN ?_ _ | (refine Below.putF ?_ (by first | (simp; done) | omega | (simp; omega)) _) | (refine Below.setCell ?_ (by first | (simp; done) | (simp; omega)) _)))
      have e1 := (cut_of_heap (hb3.block q m1) 0 26).trans c0
      have e2 := (World.cell?_of_block (w := W) (w' := W3) (a := ⟨q, 25, none⟩) (hb3.block q m1)).trans c1
      have e3 := (cut_of_heap (hb3.block q m1) 0 25).trans c2
      have e4 := (cut_of_heap (hb3.block (q + 1) m2) 0 25).trans c3
      have k1 : q < W3.heap.size := Nat.lt_of_lt_of_le m1 hb3.size
      have k2 : q + 1 < W3.heap.size := Nat.lt_of_lt_of_le m2 hb3.size
      have HB3 := Lib.hid hb3
      clear hW3 hb3 c0 c1 c2 c3 c6 m1 m2 m6 HHA h g1
      apply wp_region_specs (by rfl) [.val _, .val _, .val _, .val _, .val _, .val _, .val _, .val _, .val _, .val _, .val _, .val _, .val _, .val _, .val _, .val _, .val _, .val _, .val _, .val _, .val _, .val _, .val _, .val _, .val _, .val _] 26 (by rfl) [46, 47, 48, 49, 50, 51, 52, 53, 54, 55, 56, 57, 58, 59, 60, 61, 62, 63, 64, 65, 66, 67, 68, 69, 70, 71] [] [] (by rfl) (by rfl) (by decide) (by decide +kernel) (fun _ _ _ _ _ h => h)
      case hF => intro x; simp only [over, List.foldl_cons, List.foldl_nil, List.setIfInBounds_toArray, List.set_cons_succ, List.set_cons_zero]; exact rfl
      case hops =>
        refine ⟨?o0, ?o1, ?o2, ?o3, ?o4, ?o5, ?o6, ?o7, ?o8, ?o9, ?o10, ?o11, ?o12, ?o13, ?o14, ?o15, ?o16, ?o17, ?o18, ?o19, ?o20, ?o21, ?o22, ?o23, ?o24, ?o25, trivial⟩
        case o0 =>
          intro x w1 hH K hK
          obtain ⟨xs, d, rfl⟩ := grow_of_below hH.below
          clear hH
          try simp only [World.grow_drew] at hK ⊢
          try simp only [World.grow_grow] at hK ⊢
          go_simp
          go_wp2_with (refine Gives.use (HKN.out _) ?_; intro ys e)
          exact ⟨_, rfl, rfl, (by first | exact below_more _ _ _ _ | exact (by repeat (first | exact below_of_grow _ _ | exact Below.refl _ _ | exact below_more _ _ _ _ | (simp only [← Array.append_assoc]; first | exact below_more _ _ _ _ | exact below_same _ _ _ | exact Below.refl _ _) | exact below_same _ _ _ | (refine Below.alloc ?_ (by first | (simp; done) | (simp; omega)) _) | (refine Below.grow ?_ (by first | (simp; done) | (simp; omega)) _ _) | refine Below.drew ?_ | refine Below.drewN ?_ _ | (refine Below.putF ?_ (by first | (simp; done) | omega | (simp; omega)) _) | (refine Below.setCell ?_ (by first | (simp; done) | (simp; omega)) _)))), fun h => by cases h⟩
        case o1 =>
          intro x w1 hH K hK
          have e46 : x 46 = _ := hH.holds 0 (by decide) (by decide +kernel) 46 rfl
          obtain ⟨xs, d, rfl⟩ := grow_of_below hH.below
          clear hH
          try simp only [World.grow_drew] at hK ⊢
          try simp only [World.grow_grow] at hK ⊢
          simp only [e46] at hK ⊢
          clear e46
          go_simp
          go_wp2_with fail
          exact ⟨_, rfl, rfl, (by first | exact Below.refl _ _ | exact below_same _ _ _ | exact below_more _ _ _ _ | exact below_of_grow _ _), fun h => by cases h⟩
        case o2 =>
          intro x w1 hH K hK
          have e47 : x 47 = _ := hH.holds 1 (by decide) (by decide +kernel) 47 rfl
          obtain ⟨xs, d, rfl⟩ := grow_of_below hH.below
          clear hH
          try simp only [World.grow_drew] at hK ⊢
          try simp only [World.grow_grow] at hK ⊢
          simp only [e47] at hK ⊢
          clear e47
          go_simp
          go_wp2_with fail
          exact ⟨_, rfl, rfl, (by first | exact Below.refl _ _ | exact below_same _ _ _ | exact below_more _ _ _ _ | exact below_of_grow _ _), fun h => by cases h⟩
        case o3 =>
          intro x w1 hH K hK
          have e47 : x 47 = _ := hH.holds 1 (by decide) (by decide +kernel) 47 rfl
          obtain ⟨xs, d, rfl⟩ := grow_of_below hH.below
          clear hH
          try simp only [World.grow_drew] at hK ⊢
          try simp only [World.grow_grow] at hK ⊢
          simp only [e47] at hK ⊢
          clear e47
          go_simp
          go_wp2_with fail
          exact ⟨_, rfl, rfl, (by first | exact Below.refl _ _ | exact below_same _ _ _ | exact below_more _ _ _ _ | exact below_of_grow _ _), fun h => by cases h⟩
        case o4 =>
          intro x w1 hH K hK
          have e47 : x 47 = _ := hH.holds 1 (by decide) (by decide +kernel) 47 rfl
          have e49 : x 49 = _ := hH.holds 3 (by decide) (by decide +kernel) 49 rfl
          obtain ⟨xs, d, rfl⟩ := grow_of_below hH.below
          clear hH
          try simp only [World.grow_drew] at hK ⊢
          try simp only [World.grow_grow] at hK ⊢
          simp only [e47, e49] at hK ⊢
          clear e47 e49
          go_simp
          go_wp2_with fail
          exact ⟨_, rfl, rfl, (by first | exact Below.refl _ _ | exact below_same _ _ _ | exact below_more _ _ _ _ | exact below_of_grow _ _), fun h => by cases h⟩
        case o5 =>
          intro x w1 hH K hK
          have e47 : x 47 = _ := hH.holds 1 (by decide) (by decide +kernel) 47 rfl
          have e50 : x 50 = _ := hH.holds 4 (by decide) (by decide +kernel) 50 rfl
          obtain ⟨xs, d, rfl⟩ := grow_of_below hH.below
          clear hH
          try simp only [World.grow_drew] at hK ⊢
          try simp only [World.grow_grow] at hK ⊢
          simp only [e47, e50] at hK ⊢
          clear e47 e50
          go_simp
          go_wp2_with (refine Gives.use (HOP.out _) ?_; intro ys e)
          exact ⟨_, rfl, rfl, (by first | exact below_more _ _ _ _ | exact (by repeat (first | exact below_of_grow _ _ | exact Below.refl _ _ | exact below_more _ _ _ _ | (simp only [← Array.append_assoc]; first | exact below_more _ _ _ _ | exact below_same _ _ _ | exact Below.refl _ _) | exact below_same _ _ _ | (refine Below.alloc ?_ (by first | (simp; done) | (simp; omega)) _) | (refine Below.grow ?_ (by first | (simp; done) | (simp; omega)) _ _) | refine Below.drew ?_ | refine Below.drewN ?_ _ | (refine Below.putF ?_ (by first | (simp; done) | omega | (simp; omega)) _) | (refine Below.setCell ?_ (by first | (simp; done) | (simp; omega)) _)))), fun h => by cases h⟩
        case o6 =>
          intro x w1 hH K hK
          have e47 : x 47 = _ := hH.holds 1 (by decide) (by decide +kernel) 47 rfl
          obtain ⟨xs, d, rfl⟩ := grow_of_below hH.below
          clear hH
          try simp only [World.grow_drew] at hK ⊢
          try simp only [World.grow_grow] at hK ⊢
          simp only [e47] at hK ⊢
          clear e47
          go_simp
          go_wp2_with fail
          exact ⟨_, rfl, rfl, (by first | exact Below.refl _ _ | exact below_same _ _ _ | exact below_more _ _ _ _ | exact below_of_grow _ _), fun h => by cases h⟩
        case o7 =>
          intro x w1 hH K hK
          have e47 : x 47 = _ := hH.holds 1 (by decide) (by decide +kernel) 47 rfl
          have e52 : x 52 = _ := hH.holds 6 (by decide) (by decide +kernel) 52 rfl
          obtain ⟨xs, d, rfl⟩ := grow_of_below hH.below
          clear hH
          try simp only [World.grow_drew] at hK ⊢
          try simp only [World.grow_grow] at hK ⊢
          simp only [e47, e52] at hK ⊢
          clear e47 e52
          go_simp
          go_wp2_with fail
          exact ⟨_, rfl, rfl, (by first | exact Below.refl _ _ | exact below_same _ _ _ | exact below_more _ _ _ _ | exact below_of_grow _ _), fun h => by cases h⟩
        case o8 =>
          intro x w1 hH K hK
          have e47 : x 47 = _ := hH.holds 1 (by decide) (by decide +kernel) 47 rfl
          obtain ⟨xs, d, rfl⟩ := grow_of_below hH.below
          clear hH
          try simp only [World.grow_drew] at hK ⊢
          try simp only [World.grow_grow] at hK ⊢
          simp only [e47] at hK ⊢
          clear e47
          go_simp
          go_wp2_with fail
          exact ⟨_, rfl, rfl, (by first | exact Below.refl _ _ | exact below_same _ _ _ | exact below_more _ _ _ _ | exact below_of_grow _ _), fun h => by cases h⟩
        case o9 =>
          intro x w1 hH K hK
          have e47 : x 47 = _ := hH.holds 1 (by decide) (by decide +kernel) 47 rfl
          have e54 : x 54 = _ := hH.holds 8 (by decide) (by decide +kernel) 54 rfl
          obtain ⟨xs, d, rfl⟩ := grow_of_below hH.below
          clear hH
          try simp only [World.grow_drew] at hK ⊢
          try simp only [World.grow_grow] at hK ⊢
          simp only [e47, e54] at hK ⊢
          clear e47 e54
          go_simp
          go_wp2_with (refine Gives.use (HOK.out _) ?_; intro ys e)
          exact ⟨_, rfl, rfl, (by first | exact below_more _ _ _ _ | exact (by repeat (first | exact below_of_grow _ _ | exact Below.refl _ _ | exact below_more _ _ _ _ | (simp only [← Array.append_assoc]; first | exact below_more _ _ _ _ | exact below_same _ _ _ | exact Below.refl _ _) | exact below_same _ _ _ | (refine Below.alloc ?_ (by first | (simp; done) | (simp; omega)) _) | (refine Below.grow ?_ (by first | (simp; done) | (simp; omega)) _ _) | refine Below.drew ?_ | refine Below.drewN ?_ _ | (refine Below.putF ?_ (by first | (simp; done) | omega | (simp; omega)) _) | (refine Below.setCell ?_ (by first | (simp; done) | (simp; omega)) _)))), fun h => by cases h⟩
        case o10 =>
          intro x w1 hH K hK
          have e47 : x 47 = _ := hH.holds 1 (by decide) (by decide +kernel) 47 rfl
          have e51 : x 51 = _ := hH.holds 5 (by decide) (by decide +kernel) 51 rfl
          have e53 : x 53 = _ := hH.holds 7 (by decide) (by decide +kernel) 53 rfl
          have e55 : x 55 = _ := hH.holds 9 (by decide) (by decide +kernel) 55 rfl
          obtain ⟨xs, d, rfl⟩ := grow_of_below hH.below
          clear hH
          try simp only [World.grow_drew] at hK ⊢
          try simp only [World.grow_grow] at hK ⊢
          simp only [e47, e51, e53, e55] at hK ⊢
          clear e47 e51 e53 e55
          go_simp
          go_wp2_with (refine Gives.use (HRH.out _) ?_; intro ys e)
          exact ⟨_, rfl, rfl, (by first | exact below_more _ _ _ _ | exact (by repeat (first | exact below_of_grow _ _ | exact Below.refl _ _ | exact below_more _ _ _ _ | (simp only [← Array.append_assoc]; first | exact below_more _ _ _ _ | exact below_same _ _ _ | exact Below.refl _ _) | exact below_same _ _ _ | (refine Below.alloc ?_ (by first | (simp; done) | (simp; omega)) _) | (refine Below.grow ?_ (by first | (simp; done) | (simp; omega)) _ _) | refine Below.drew ?_ | refine Below.drewN ?_ _ | (refine Below.putF ?_ (by first | (simp; done) | omega | (simp; omega)) _) | (refine Below.setCell ?_ (by first | (simp; done) | (simp; omega)) _)))), fun h => by cases h⟩
        case o11 =>
          intro x w1 hH K hK
          have e47 : x 47 = _ := hH.holds 1 (by decide) (by decide +kernel) 47 rfl
          have e48 : x 48 = _ := hH.holds 2 (by decide) (by decide +kernel) 48 rfl
          have e56 : x 56 = _ := hH.holds 10 (by decide) (by decide +kernel) 56 rfl
          obtain ⟨xs, d, rfl⟩ := grow_of_below hH.below
          clear hH
          try simp only [World.grow_drew] at hK ⊢
          try simp only [World.grow_grow] at hK ⊢
          simp only [e47, e48, e56] at hK ⊢
          clear e47 e48 e56
          go_simp
          go_wp2_with fail
          exact ⟨_, rfl, rfl, (by first | exact Below.refl _ _ | exact below_same _ _ _ | exact below_more _ _ _ _ | exact below_of_grow _ _), fun h => by cases h⟩
        case o12 =>
          intro x w1 hH K hK
          have e47 : x 47 = _ := hH.holds 1 (by decide) (by decide +kernel) 47 rfl
          have e57 : x 57 = _ := hH.holds 11 (by decide) (by decide +kernel) 57 rfl
          obtain ⟨xs, d, rfl⟩ := grow_of_below hH.below
          clear hH
          try simp only [World.grow_drew] at hK ⊢
          try simp only [World.grow_grow] at hK ⊢
          simp only [e47, e57] at hK ⊢
          clear e47 e57
          go_simp
          go_wp2_with fail
          exact ⟨_, rfl, rfl, (by first | exact Below.refl _ _ | exact below_same _ _ _ | exact below_more _ _ _ _ | exact below_of_grow _ _), fun h => by cases h⟩
        case o13 =>
          intro x w1 hH K hK
          have e58 : x 58 = _ := hH.holds 12 (by decide) (by decide +kernel) 58 rfl
          obtain ⟨xs, d, rfl⟩ := grow_of_below hH.below
          clear hH
          try simp only [World.grow_drew] at hK ⊢
          try simp only [World.grow_grow] at hK ⊢
          simp only [e58] at hK ⊢
          clear e58
          go_simp
          go_wp2_with fail
          exact ⟨_, rfl, rfl, (by first | exact Below.refl _ _ | exact below_same _ _ _ | exact below_more _ _ _ _ | exact below_of_grow _ _), fun h => by cases h⟩
        case o14 =>
          intro x w1 hH K hK
          have e59 : x 59 = _ := hH.holds 13 (by decide) (by decide +kernel) 59 rfl
          obtain ⟨xs, d, rfl⟩ := grow_of_below hH.below
          clear hH
          try simp only [World.grow_drew] at hK ⊢
          try simp only [World.grow_grow] at hK ⊢
          simp only [e59] at hK ⊢
          clear e59
          go_simp
          go_wp2_with fail
          exact ⟨_, rfl, rfl, (by first | exact Below.refl _ _ | exact below_same _ _ _ | exact below_more _ _ _ _ | exact below_of_grow _ _), fun h => by cases h⟩
        case o15 =>
          intro x w1 hH K hK
          have e59 : x 59 = _ := hH.holds 13 (by decide) (by decide +kernel) 59 rfl
          have e60 : x 60 = _ := hH.holds 14 (by decide) (by decide +kernel) 60 rfl
          obtain ⟨xs, d, rfl⟩ := grow_of_below hH.below
          clear hH
          try simp only [World.grow_drew] at hK ⊢
          try simp only [World.grow_grow] at hK ⊢
          simp only [e59, e60] at hK ⊢
          clear e59 e60
          go_simp
          go_wp2_with fail
          exact ⟨_, rfl, rfl, (by first | exact Below.refl _ _ | exact below_same _ _ _ | exact below_more _ _ _ _ | exact below_of_grow _ _), fun h => by cases h⟩
        case o16 =>
          intro x w1 hH K hK
          have e59 : x 59 = _ := hH.holds 13 (by decide) (by decide +kernel) 59 rfl
          have e61 : x 61 = _ := hH.holds 15 (by decide) (by decide +kernel) 61 rfl
          obtain ⟨xs, d, rfl⟩ := grow_of_below hH.below
          clear hH
          try simp only [World.grow_drew] at hK ⊢
          try simp only [World.grow_grow] at hK ⊢
          simp only [e59, e61] at hK ⊢
          clear e59 e61
          go_simp
          go_wp2_with fail
          exact ⟨_, rfl, rfl, (by first | exact Below.refl _ _ | exact below_same _ _ _ | exact below_more _ _ _ _ | exact below_of_grow _ _), fun h => by cases h⟩
        case o17 =>
          intro x w1 hH K hK
          have e62 : x 62 = _ := hH.holds 16 (by decide) (by decide +kernel) 62 rfl
          obtain ⟨xs, d, rfl⟩ := grow_of_below hH.below
          clear hH
          try simp only [World.grow_drew] at hK ⊢
          try simp only [World.grow_grow] at hK ⊢
          simp only [e62] at hK ⊢
          clear e62
          go_simp
          go_wp2_with fail
          exact ⟨_, rfl, rfl, (by first | exact Below.refl _ _ | exact below_same _ _ _ | exact below_more _ _ _ _ | exact below_of_grow _ _), fun h => by cases h⟩
        case o18 =>
          intro x w1 hH K hK
          have e62 : x 62 = _ := hH.holds 16 (by decide) (by decide +kernel) 62 rfl
          obtain ⟨xs, d, rfl⟩ := grow_of_below hH.below
          clear hH
          try simp only [World.grow_drew] at hK ⊢
          try simp only [World.grow_grow] at hK ⊢
          simp only [e62] at hK ⊢
          clear e62
          go_simp
          go_wp2_with fail
          exact ⟨_, rfl, rfl, (by first | exact Below.refl _ _ | exact below_same _ _ _ | exact below_more _ _ _ _ | exact below_of_grow _ _), fun h => by cases h⟩
        case o19 =>
          intro x w1 hH K hK
          have e62 : x 62 = _ := hH.holds 16 (by decide) (by decide +kernel) 62 rfl
          obtain ⟨xs, d, rfl⟩ := grow_of_below hH.below
          clear hH
          try simp only [World.grow_drew] at hK ⊢
          try simp only [World.grow_grow] at hK ⊢
          simp only [e62] at hK ⊢
          clear e62
          go_simp
          go_wp2_with fail
          exact ⟨_, rfl, rfl, (by first | exact Below.refl _ _ | exact below_same _ _ _ | exact below_more _ _ _ _ | exact below_of_grow _ _), fun h => by cases h⟩
        case o20 =>
          intro x w1 hH K hK
          have e62 : x 62 = _ := hH.holds 16 (by decide) (by decide +kernel) 62 rfl
          have e65 : x 65 = _ := hH.holds 19 (by decide) (by decide +kernel) 65 rfl
          obtain ⟨xs, d, rfl⟩ := grow_of_below hH.below
          clear hH
          try simp only [World.grow_drew] at hK ⊢
          try simp only [World.grow_grow] at hK ⊢
          simp only [e62, e65] at hK ⊢
          clear e62 e65
          go_simp
          go_wp2_with fail
          exact ⟨_, rfl, rfl, (by first | exact Below.refl _ _ | exact below_same _ _ _ | exact below_more _ _ _ _ | exact below_of_grow _ _), fun h => by cases h⟩
        case o21 =>
          intro x w1 hH K hK
          have e62 : x 62 = _ := hH.holds 16 (by decide) (by decide +kernel) 62 rfl
          have e66 : x 66 = _ := hH.holds 20 (by decide) (by decide +kernel) 66 rfl
          obtain ⟨xs, d, rfl⟩ := grow_of_below hH.below
          clear hH
          try simp only [World.grow_drew] at hK ⊢
          try simp only [World.grow_grow] at hK ⊢
          simp only [e62, e66] at hK ⊢
          clear e62 e66
          go_simp
          go_wp2_with fail
          exact ⟨_, rfl, rfl, (by first | exact Below.refl _ _ | exact below_same _ _ _ | exact below_more _ _ _ _ | exact below_of_grow _ _), fun h => by cases h⟩
        case o22 =>
          intro x w1 hH K hK
          have e62 : x 62 = _ := hH.holds 16 (by decide) (by decide +kernel) 62 rfl
          have e64 : x 64 = _ := hH.holds 18 (by decide) (by decide +kernel) 64 rfl
          have e67 : x 67 = _ := hH.holds 21 (by decide) (by decide +kernel) 67 rfl
          obtain ⟨xs, d, rfl⟩ := grow_of_below hH.below
          clear hH
          try simp only [World.grow_drew] at hK ⊢
          try simp only [World.grow_grow] at hK ⊢
          simp only [e62, e64, e67] at hK ⊢
          clear e62 e64 e67
          go_simp
          go_wp2_with fail
          exact ⟨_, rfl, rfl, (by first | exact Below.refl _ _ | exact below_same _ _ _ | exact below_more _ _ _ _ | exact below_of_grow _ _), fun h => by cases h⟩
        case o23 =>
          intro x w1 hH K hK
          have e62 : x 62 = _ := hH.holds 16 (by decide) (by decide +kernel) 62 rfl
          have e63 : x 63 = _ := hH.holds 17 (by decide) (by decide +kernel) 63 rfl
          have e68 : x 68 = _ := hH.holds 22 (by decide) (by decide +kernel) 68 rfl
          obtain ⟨xs, d, rfl⟩ := grow_of_below hH.below
          clear hH
          try simp only [World.grow_drew] at hK ⊢
          try simp only [World.grow_grow] at hK ⊢
          simp only [e62, e63, e68] at hK ⊢
          clear e62 e63 e68
          go_simp
          go_wp2_with fail
          exact ⟨_, rfl, rfl, (by first | exact Below.refl _ _ | exact below_same _ _ _ | exact below_more _ _ _ _ | exact below_of_grow _ _), fun h => by cases h⟩
        case o24 =>
          intro x w1 hH K hK
          have e59 : x 59 = _ := hH.holds 13 (by decide) (by decide +kernel) 59 rfl
          have e62 : x 62 = _ := hH.holds 16 (by decide) (by decide +kernel) 62 rfl
          have e69 : x 69 = _ := hH.holds 23 (by decide) (by decide +kernel) 69 rfl
          obtain ⟨xs, d, rfl⟩ := grow_of_below hH.below
          clear hH
          try simp only [World.grow_drew] at hK ⊢
          try simp only [World.grow_grow] at hK ⊢
          simp only [e59, e62, e69] at hK ⊢
          clear e59 e62 e69
          go_simp
          go_wp2_with fail
          exact ⟨_, rfl, rfl, (by first | exact Below.refl _ _ | exact below_same _ _ _ | exact below_more _ _ _ _ | exact below_of_grow _ _), fun h => by cases h⟩
        case o25 =>
          intro x w1 hH K hK
          have e59 : x 59 = _ := hH.holds 13 (by decide) (by decide +kernel) 59 rfl
          have e70 : x 70 = _ := hH.holds 24 (by decide) (by decide +kernel) 70 rfl
          obtain ⟨xs, d, rfl⟩ := grow_of_below hH.below
          clear hH
          try simp only [World.grow_drew] at hK ⊢
          try simp only [World.grow_grow] at hK ⊢
          simp only [e59, e70] at hK ⊢
          clear e59 e70
          go_simp
          go_wp2_with fail
          exact ⟨_, rfl, rfl, (by first | exact Below.refl _ _ | exact below_same _ _ _ | exact below_more _ _ _ _ | exact below_of_grow _ _), fun h => by cases h⟩
      case hend =>
        intro x w1 hH
        have e46 : x 46 = _ := hH.holds 0 (by decide) trivial 46 rfl
        have e47 : x 47 = _ := hH.holds 1 (by decide) trivial 47 rfl
        have e48 : x 48 = _ := hH.holds 2 (by decide) trivial 48 rfl
        have e49 : x 49 = _ := hH.holds 3 (by decide) trivial 49 rfl
        have e50 : x 50 = _ := hH.holds 4 (by decide) trivial 50 rfl
        have e51 : x 51 = _ := hH.holds 5 (by decide) trivial 51 rfl
        have e52 : x 52 = _ := hH.holds 6 (by decide) trivial 52 rfl
        have e53 : x 53 = _ := hH.holds 7 (by decide) trivial 53 rfl
        have e54 : x 54 = _ := hH.holds 8 (by decide) trivial 54 rfl
        have e55 : x 55 = _ := hH.holds 9 (by decide) trivial 55 rfl
        have e56 : x 56 = _ := hH.holds 10 (by decide) trivial 56 rfl
        have e57 : x 57 = _ := hH.holds 11 (by decide) trivial 57 rfl
        have e58 : x 58 = _ := hH.holds 12 (by decide) trivial 58 rfl
        have e59 : x 59 = _ := hH.holds 13 (by decide) trivial 59 rfl
        have e60 : x 60 = _ := hH.holds 14 (by decide) trivial 60 rfl
        have e61 : x 61 = _ := hH.holds 15 (by decide) trivial 61 rfl
        have e62 : x 62 = _ := hH.holds 16 (by decide) trivial 62 rfl
        have e63 : x 63 = _ := hH.holds 17 (by decide) trivial 63 rfl
        have e64 : x 64 = _ := hH.holds 18 (by decide) trivial 64 rfl
        have e65 : x 65 = _ := hH.holds 19 (by decide) trivial 65 rfl
        have e66 : x 66 = _ := hH.holds 20 (by decide) trivial 66 rfl
        have e67 : x 67 = _ := hH.holds 21 (by decide) trivial 67 rfl
        have e68 : x 68 = _ := hH.holds 22 (by decide) trivial 68 rfl
        have e69 : x 69 = _ := hH.holds 23 (by decide) trivial 69 rfl
        have e70 : x 70 = _ := hH.holds 24 (by decide) trivial 70 rfl
        have e71 : x 71 = _ := hH.holds 25 (by decide) trivial 71 rfl
        obtain ⟨xs, d, rfl⟩ := grow_of_below hH.below
        clear hH
        simp only [e46, e47, e48, e49, e50, e51, e52, e53, e54, e55, e56, e57, e58, e59, e60, e61, e62, e63, e64, e65, e66, e67, e68, e69, e70, e71]; clear e46 e47 e48 e49 e50 e51 e52 e53 e54 e55 e56 e57 e58 e59 e60 e61 e62 e63 e64 e65 e66 e67 e68 e69 e70 e71
        simp only [List.drop_succ_cons, List.drop_zero]
        go_wp2_with fail
        go_ret
        exact ⟨rfl, HB.out.1.trans ((HB3.out.trans (((Below.refl W3.heap.size W3).drew.grow (Nat.le_refl _) _ _).mono HB3.out.size)).mono (by have := HB.out.2; omega))⟩
end Go.Proofs.YtemnojlcgllcjaaGreatDoor

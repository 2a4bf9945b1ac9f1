/- Layer 22: the walk of the law of acts and masks. -/
import Derived.Test.YteefknjaandjhaaRolePlain
import Derived.Deep.RegionHeld3
import Derived.Deep.DeepCutAuto
namespace Go.Proofs.Yteefknjaandjhaa
open Go.RowKit

/-- a slice of numbers that came in -/
def IntsIn (w : World) (v : Value) (l : List Int) : Prop :=
  (v = .slice none 0 0 ∧ l = []) ∨ (l = [] ∧ ∃ x cap, v = .slice (some x) 0 cap ∧ cap ≤ maxLen) ∨
    ∃ b o cap, v = .slice (some ⟨b, o, none⟩) l.length cap ∧ 0 < l.length ∧ l.length ≤ cap ∧ cap ≤ maxLen ∧ b < w.heap.size ∧ (∀ i (hi : i < l.length), w.cell? ⟨b, o + i, none⟩ = some (.int .i64 l[i]))

theorem rd_take {w : World} {b o q cap : Nat} {l : List Int} (hb : b < w.heap.size) (hc : ∀ i (hi : i < l.length), w.cell? ⟨b, o + i, none⟩ = some (.int .i64 l[i])) (hq : q ≤ l.length) (hl : l.length ≤ cap) (hm : cap ≤ maxLen) :
    Rd w w.heap.size (.slice (some ⟨b, o, none⟩) q cap) (l.take q).length (iv (l.take q)) := by
  have e : (l.take q).length = q := by simp; omega
  refine ⟨_, cap, by rw [e], by omega, hm, fun _ => ⟨b, o, rfl, hb, fun j u hu => ?_⟩⟩
  have hj : j < q := by have := (List.getElem?_eq_some_iff.1 hu).1; simp [iv] at this; omega
  rw [hc j (by omega)]
  simp [iv, hj, List.getElem?_eq_getElem (show j < l.length by omega)] at hu
  rw [← hu]

theorem actsTo_one (m : Int) : (actsTo m 1).length = 0 := by
  have h : mayB m (0 : Nat) = false := by unfold mayB; simp
  rw [actsTo_succ, h]; rfl
theorem ActsAt.keep {v : Value} {w w' : World} (h : ActsAt v w) (hb : Below w.heap.size w w') : ActsAt v w' := by
  obtain ⟨b, h1, h2, h3⟩ := h
  refine ⟨b, h1, Nat.lt_of_lt_of_le h2 hb.size, fun k hk => ?_⟩
  rw [hb.cell (p := ⟨b, k * 2, none⟩) h2, hb.cell (p := ⟨b, k * 2 + 1, none⟩) h2]
  exact h3 k hk
/-- a pointer into the acts: at place q, where the next cell (or this one) holds the needs of act p -/
def ActPtr (p q : Nat) (v : Value) (w : World) : Prop := ∃ b, v = .pointer (some ⟨b, q, none⟩) ∧ b < w.heap.size ∧ w.cell? ⟨b, p * 2 + 1, none⟩ = some (.string (bs (actsL.getD p ([], [])).2))
theorem ActPtr.keep {p q : Nat} {v : Value} {w w' : World} (h : ActPtr p q v w) (hb : Below w.heap.size w w') : ActPtr p q v w' := by
  obtain ⟨b, h1, h2, h3⟩ := h
  exact ⟨b, h1, Nat.lt_of_lt_of_le h2 hb.size, by rw [hb.cell (p := ⟨b, p * 2 + 1, none⟩) h2]; exact h3⟩

set_option maxRecDepth 100000 in
set_option maxHeartbeats 1600000 in
theorem roleMay_walk (m a : Int) (l : List Int) (v2 : Value) (w : World) (hv : IntsIn w v2 l) :
    Gives Try.prog 4 #[.int .i64 m, .int .i64 a, v2] w (.bool true) := by
  have hh : v2 = v2 := rfl
  obtain ⟨a0, n, cap, hv2⟩ : ∃ a0 n cap, v2 = .slice a0 n cap := by
    rcases hv with ⟨rfl, _⟩ | ⟨_, x, cap, rfl, _⟩ | ⟨b, o, cap, rfl, _⟩ <;> exact ⟨_, _, _, rfl⟩
  subst hv2
  unfold Gives
  have HV := Lib.hid hv
  clear hv hh
  go_enter Try.func4, Try.ntmps4
  go_upto_region 2 with fail
  go_cut [19] (fun s19 wx => s19 = .bool (decide (1 ≤ a ∧ a ≤ 16)) ∧ w = wx)
  case first =>
    by_cases h1 : 1 ≤ a
    · by_cases h2 : a ≤ 16
      · go_wp2_with fail
        go_meet
        exact ⟨by simp [h1, h2], rfl⟩
      · go_wp2_with fail
        go_meet
        exact ⟨by simp [h1, h2], rfl⟩
    · go_wp2_with fail
      go_meet
      exact ⟨by simp; omega, rfl⟩
  case rest =>
  obtain ⟨rfl, rfl⟩ := hcut
  go_upto_if 19 with fail
  go_cut [7] (fun s7 wx => s7 = .int .i64 (need a) ∧ ∃ xs d, wx = w.grow xs d)
  case first =>
    by_cases ha : 1 ≤ a ∧ a ≤ 16
    · obtain ⟨k, hk⟩ : ∃ k : Nat, a = (k : Int) + 1 := ⟨(a - 1).toNat, by omega⟩
      subst hk
      have hk : k < 16 := by omega
      go_wp2_with fail
      refine (acts_gives _).mono ?_
      rintro e w1 ⟨v, rfl, hb, b, rfl, hbs, hc⟩
      have hc1 := (hc k hk).2
      clear hc
      obtain ⟨xs, d, rfl⟩ := grow_of_below hb
      clear hb
      go_wp2_with (go_at_call 11; refine Gives.use (mask_gives _ (show (bs (actsL.getD k ([], [])).2).size ≤ 1000000 from Nat.le_trans (needs_len k) (by decide)) _) ?_; intro ys d2)
      go_meet
      have hn := need_ref (a := (k : Int) + 1) ha
      unfold needsL at hn
      rw [show ((k : Int) + 1 - 1).toNat = k by omega] at hn
      exact ⟨by rw [← hn]; rfl, _, _, rfl⟩
    · have hd : decide (1 ≤ a ∧ a ≤ 16) = false := decide_eq_false ha
      go_wp2_with fail
      go_meet
      exact ⟨by rw [need_out ha], #[], w.drawn, World.grow_nil.symm⟩
  case rest =>
  obtain ⟨rfl, xs0, d0, rfl⟩ := hcut
  go_upto_region 4 with fail
  go_cut [9] (fun s9 wx => Rd w w.heap.size s9 (l.take 20).length (iv (l.take 20)) ∧ ∃ xs d, wx = w.grow xs d)
  case first =>
    rcases HV.out with ⟨hv, rfl⟩ | ⟨rfl, x, c, hv, hm⟩ | ⟨b, o, c, hv, h0, hlc, hm, hbs, hcell⟩
    · injection hv with e1 e2 e3
      subst e1 e2 e3
      clear HV
      go_wp2_with fail
      go_meet
      exact ⟨⟨none, 0, rfl, Nat.le_refl _, Nat.zero_le _, fun h => by simp at h⟩, _, _, rfl⟩
    · injection hv with e1 e2 e3
      subst e1 e2 e3
      clear HV
      unfold maxLen at hm
      go_wp2_with fail
      go_meet
      exact ⟨⟨_, _, rfl, Nat.zero_le _, by unfold maxLen; omega, fun h => by simp at h⟩, _, _, rfl⟩
    · injection hv with e1 e2 e3
      subst e1 e2 e3
      clear HV
      have HC := Lib.hid hcell
      clear hcell
      have hm' := hm
      unfold maxLen at hm
      by_cases hq : l.length ≤ 20
      · go_wp2_with fail
        go_meet
        have := rd_take hbs HC.out (q := l.length) (Nat.le_refl _) hlc hm'
        rw [List.take_of_length_le (Nat.le_refl _)] at this
        rw [List.take_of_length_le hq]
        exact ⟨this, _, _, rfl⟩
      · go_wp2_with fail
        go_meet
        exact ⟨rd_take hbs HC.out (q := 20) (by omega) hlc hm', _, _, rfl⟩
  case rest =>
  obtain ⟨hrd, xs1, d1, rfl⟩ := hcut
  have h20 : (l.take 20).length ≤ 20 := by simp; omega
  generalize hls : l.take 20 = ls at *
  clear HV hls
  obtain ⟨a1, c1, rfl, hn1, hm1, hcell⟩ := hrd
  unfold maxLen at hm1
  have HC := Lib.hid hcell
  clear hcell
  go_wp2_with fail
  go_loopw [8, 10] (fun s i wr => ∃ (k : Nat) (xs : Array Obj) (d : Nat), k ≤ ls.length ∧ s = .string (bs (leastS (ls.take k))) ∧ i = .int .i64 k ∧ wr = w.grow xs d) (fun _ i _ => ls.length - (intOf i).toNat)
  case atStart => exact ⟨0, xs1, d1, by omega, rfl, rfl, rfl⟩
  case round =>
    obtain ⟨k, xs, d, hk, rfl, rfl, rfl⟩ := hrel
    by_cases hlt : k < ls.length
    · obtain ⟨b, o, rfl, hbs, hcell⟩ := HC.out (by omega)
      have hck := hcell k (.int .i64 ls[k]) (by simp [iv, hlt])
      clear hcell HC
      have hlen : (bs (leastS (ls.take k))).size ≤ 40 := by
        have := leastS_len (ls.take k)
        show (leastS (ls.take k)).length ≤ 40
        simp at this; omega
      have htake : ls.take (k + 1) = ls.take k ++ [ls[k]] := List.take_succ_eq_append_getElem hlt
      have HT := Lib.hid htake
      clear htake
      generalize hz : ls[k] = z at *
      clear hz
      generalize hacc : leastS (ls.take k) = acc at *
      have HA := Lib.hid hacc
      clear hacc
      by_cases hz : 1 ≤ z ∧ z ≤ 16
      · obtain ⟨hz1, hz2⟩ := hz
        obtain ⟨p, hp⟩ : ∃ p : Nat, z = (p : Int) + 1 := ⟨(z - 1).toNat, by omega⟩
        subst hp
        have hp : p < 16 := by omega
        have hnl := needs_len p
        have hpi : (p : Int) < 16 := by omega
        have hw1 : IntKind.i64.wrap (p : Int) = (p : Int) := by rw [IntWalk.i64_in _ (by omega)]
        have hsz : (bs (actsL[p]?.getD ([], [])).snd).size ≤ 2 := by have := needs_len p; rw [List.getD_eq_getElem?_getD] at this; exact this
        have hki : (k : Int) < (ls.length : Int) := by omega
        go_wp2_with fail
        apply wp_region_specs (by rfl) [.val _, .rel (fun v w => ActsAt v w), .val _, .val _, .val _, .val _, .val _, .rel (ActPtr p (p * 2)), .rel (ActPtr p (p * 2 + 1)), .val _, .val _] 11 (by rfl) [50, 51, 52, 53, 54, 55, 56, 57, 58, 59, 60] [] [] (by rfl) (by rfl) (by decide) (by decide +kernel) (fun _ _ _ _ _ h => h)
        case hF => intro x; simp only [over, List.foldl_cons, List.foldl_nil, List.setIfInBounds_toArray, List.set_cons_succ, List.set_cons_zero]; exact rfl
        case hops =>
          refine ⟨?o0, ?o1, ?o2, ?o3, ?o4, ?o5, ?o6, ?o7, ?o8, ?o9, ?o10, trivial⟩
          case o0 =>
            intro x w1 hH K hK
            obtain ⟨xs, d, rfl⟩ := grow_of_below hH.below
            clear hH
            try simp only [World.grow_drew, World.grow_grow] at hK ⊢
            go_simp
            go_wp2_with fail
            exact ⟨_, rfl, rfl, (by repeat (first | exact Below.refl _ _ | exact below_of_grow _ _ | exact below_more _ _ _ _ | exact below_same _ _ _ | (refine Below.alloc ?_ (by first | (simp; done) | (simp; omega)) _) | (refine Below.grow ?_ (by first | (simp; done) | (simp; omega)) _ _) | refine Below.drew ?_ | refine Below.drewN ?_ _ | (refine Below.putF ?_ (by first | (simp; done) | omega | (simp; omega)) _) | (refine Below.setCell ?_ (by first | (simp; done) | (simp; omega)) _))), fun h => by cases h⟩
          case o1 =>
            intro x w1 hH K hK
            obtain ⟨xs, d, rfl⟩ := grow_of_below hH.below
            clear hH
            try simp only [World.grow_drew, World.grow_grow] at hK ⊢
            go_simp
            go_wp2_with (refine (acts_gives _).mono ?_; rintro e w2 ⟨v, rfl, hb2, hA⟩)
            exact ⟨_, rfl, fun w3 h3 => hA.keep h3, hb2, fun h => by cases h⟩
          case o2 =>
            intro x w1 hH K hK
            obtain ⟨xs, d, rfl⟩ := grow_of_below hH.below
            clear hH
            try simp only [World.grow_drew, World.grow_grow] at hK ⊢
            go_simp
            go_wp2_with fail
            exact ⟨_, rfl, rfl, (by repeat (first | exact Below.refl _ _ | exact below_of_grow _ _ | exact below_more _ _ _ _ | exact below_same _ _ _ | (refine Below.alloc ?_ (by first | (simp; done) | (simp; omega)) _) | (refine Below.grow ?_ (by first | (simp; done) | (simp; omega)) _ _) | refine Below.drew ?_ | refine Below.drewN ?_ _ | (refine Below.putF ?_ (by first | (simp; done) | omega | (simp; omega)) _) | (refine Below.setCell ?_ (by first | (simp; done) | (simp; omega)) _))), fun h => by cases h⟩
          case o3 =>
            intro x w1 hH K hK
            obtain ⟨xs, d, rfl⟩ := grow_of_below hH.below
            clear hH
            try simp only [World.grow_drew, World.grow_grow] at hK ⊢
            go_simp
            go_wp2_with fail
            exact ⟨_, rfl, rfl, (by repeat (first | exact Below.refl _ _ | exact below_of_grow _ _ | exact below_more _ _ _ _ | exact below_same _ _ _ | (refine Below.alloc ?_ (by first | (simp; done) | (simp; omega)) _) | (refine Below.grow ?_ (by first | (simp; done) | (simp; omega)) _ _) | refine Below.drew ?_ | refine Below.drewN ?_ _ | (refine Below.putF ?_ (by first | (simp; done) | omega | (simp; omega)) _) | (refine Below.setCell ?_ (by first | (simp; done) | (simp; omega)) _))), fun h => by cases h⟩
          case o4 =>
            intro x w1 hH K hK
            have e52 : x 52 = _ := hH.holds 2 (by decide) (by decide +kernel) 52 rfl
            have e53 : x 53 = _ := hH.holds 3 (by decide) (by decide +kernel) 53 rfl
            obtain ⟨xs, d, rfl⟩ := grow_of_below hH.below
            clear hH
            try simp only [World.grow_drew, World.grow_grow] at hK ⊢
            simp only [e52, e53] at hK ⊢
            clear e52 e53
            go_simp
            go_wp2_with fail
            exact ⟨_, rfl, rfl, (by repeat (first | exact Below.refl _ _ | exact below_of_grow _ _ | exact below_more _ _ _ _ | exact below_same _ _ _ | (refine Below.alloc ?_ (by first | (simp; done) | (simp; omega)) _) | (refine Below.grow ?_ (by first | (simp; done) | (simp; omega)) _ _) | refine Below.drew ?_ | refine Below.drewN ?_ _ | (refine Below.putF ?_ (by first | (simp; done) | omega | (simp; omega)) _) | (refine Below.setCell ?_ (by first | (simp; done) | (simp; omega)) _))), fun h => by cases h⟩
          case o5 =>
            intro x w1 hH K hK
            have e54 : x 54 = _ := hH.holds 4 (by decide) (by decide +kernel) 54 rfl
            obtain ⟨xs, d, rfl⟩ := grow_of_below hH.below
            clear hH
            try simp only [World.grow_drew, World.grow_grow] at hK ⊢
            simp only [e54] at hK ⊢
            clear e54
            go_simp
            go_wp2_with fail
            exact ⟨_, rfl, rfl, (by repeat (first | exact Below.refl _ _ | exact below_of_grow _ _ | exact below_more _ _ _ _ | exact below_same _ _ _ | (refine Below.alloc ?_ (by first | (simp; done) | (simp; omega)) _) | (refine Below.grow ?_ (by first | (simp; done) | (simp; omega)) _ _) | refine Below.drew ?_ | refine Below.drewN ?_ _ | (refine Below.putF ?_ (by first | (simp; done) | omega | (simp; omega)) _) | (refine Below.setCell ?_ (by first | (simp; done) | (simp; omega)) _))), fun h => by cases h⟩
          case o6 =>
            intro x w1 hH K hK
            have e55 : x 55 = _ := hH.holds 5 (by decide) (by decide +kernel) 55 rfl
            obtain ⟨xs, d, rfl⟩ := grow_of_below hH.below
            clear hH
            try simp only [World.grow_drew, World.grow_grow] at hK ⊢
            simp only [e55] at hK ⊢
            clear e55
            go_simp
            go_wp2_with fail
            exact ⟨_, rfl, rfl, (by repeat (first | exact Below.refl _ _ | exact below_of_grow _ _ | exact below_more _ _ _ _ | exact below_same _ _ _ | (refine Below.alloc ?_ (by first | (simp; done) | (simp; omega)) _) | (refine Below.grow ?_ (by first | (simp; done) | (simp; omega)) _ _) | refine Below.drew ?_ | refine Below.drewN ?_ _ | (refine Below.putF ?_ (by first | (simp; done) | omega | (simp; omega)) _) | (refine Below.setCell ?_ (by first | (simp; done) | (simp; omega)) _))), fun h => by cases h⟩
          case o7 =>
            intro x w1 hH K hK
            have r51 := hH.holds 1 (by decide) (by decide +kernel) 51 rfl (_) (Below.refl _ _)
            have e56 : x 56 = _ := hH.holds 6 (by decide) (by decide +kernel) 56 rfl
            obtain ⟨xs, d, rfl⟩ := grow_of_below hH.below
            clear hH
            try simp only [World.grow_drew, World.grow_grow] at hK r51 ⊢
            simp only [e56] at hK ⊢
            clear e56
            obtain ⟨b2, h51, hbs2, hc2⟩ := r51
            simp only [h51] at hK ⊢
            go_simp
            go_wp2_with fail
            exact ⟨_, rfl, fun w3 h3 => ActPtr.keep ⟨b2, rfl, hbs2, (hc2 p hp).2⟩ h3, Below.refl _ _, fun h => by cases h⟩
          case o8 =>
            intro x w1 hH K hK
            have r57 := hH.holds 7 (by decide) (by decide +kernel) 57 rfl (_) (Below.refl _ _)
            obtain ⟨xs, d, rfl⟩ := grow_of_below hH.below
            clear hH
            try simp only [World.grow_drew, World.grow_grow] at hK r57 ⊢
            obtain ⟨b2, h57, hbs2, hc2⟩ := r57
            simp only [h57] at hK ⊢
            go_simp
            go_wp2_with fail
            exact ⟨_, rfl, fun w3 h3 => ActPtr.keep ⟨b2, rfl, hbs2, hc2⟩ h3, Below.refl _ _, fun h => by cases h⟩
          case o9 =>
            intro x w1 hH K hK
            have r58 := hH.holds 8 (by decide) (by decide +kernel) 58 rfl (_) (Below.refl _ _)
            obtain ⟨xs, d, rfl⟩ := grow_of_below hH.below
            clear hH
            try simp only [World.grow_drew, World.grow_grow] at hK r58 ⊢
            obtain ⟨b2, h58, hbs2, hc2⟩ := r58
            simp only [h58] at hK ⊢
            go_simp
            go_wp2_with fail
            exact ⟨_, rfl, rfl, Below.refl _ _, fun h => by cases h⟩
          case o10 =>
            intro x w1 hH K hK
            have e50 : x 50 = _ := hH.holds 0 (by decide) (by decide +kernel) 50 rfl
            have e59 : x 59 = _ := hH.holds 9 (by decide) (by decide +kernel) 59 rfl
            obtain ⟨xs, d, rfl⟩ := grow_of_below hH.below
            clear hH
            try simp only [World.grow_drew, World.grow_grow] at hK ⊢
            simp only [e50, e59] at hK ⊢
            clear e50 e59
            go_simp
            go_wp2_with fail
            exact ⟨_, rfl, rfl, (by repeat (first | exact Below.refl _ _ | exact below_of_grow _ _ | exact below_more _ _ _ _ | exact below_same _ _ _ | (refine Below.alloc ?_ (by first | (simp; done) | (simp; omega)) _) | (refine Below.grow ?_ (by first | (simp; done) | (simp; omega)) _ _) | refine Below.drew ?_ | refine Below.drewN ?_ _ | (refine Below.putF ?_ (by first | (simp; done) | omega | (simp; omega)) _) | (refine Below.setCell ?_ (by first | (simp; done) | (simp; omega)) _))), fun h => by cases h⟩
        case hend =>
          intro x w1 hH
          have e50 : x 50 = _ := hH.holds 0 (by decide) trivial 50 rfl
          have r51 := hH.holds 1 (by decide) trivial 51 rfl (_) (Below.refl _ _)
          have e52 : x 52 = _ := hH.holds 2 (by decide) trivial 52 rfl
          have e53 : x 53 = _ := hH.holds 3 (by decide) trivial 53 rfl
          have e54 : x 54 = _ := hH.holds 4 (by decide) trivial 54 rfl
          have e55 : x 55 = _ := hH.holds 5 (by decide) trivial 55 rfl
          have e56 : x 56 = _ := hH.holds 6 (by decide) trivial 56 rfl
          have r57 := hH.holds 7 (by decide) trivial 57 rfl (_) (Below.refl _ _)
          have r58 := hH.holds 8 (by decide) trivial 58 rfl (_) (Below.refl _ _)
          have e59 : x 59 = _ := hH.holds 9 (by decide) trivial 59 rfl
          have e60 : x 60 = _ := hH.holds 10 (by decide) trivial 60 rfl
          obtain ⟨xs, d, rfl⟩ := grow_of_below hH.below
          clear hH
          simp only [e50, e52, e53, e54, e55, e56, e59, e60]; clear e50 e52 e53 e54 e55 e56 e59 e60
          simp only [List.drop_succ_cons, List.drop_zero]
          go_wp2_with fail
          go_roundw
          case rel =>
            refine ⟨k + 1, _, _, by omega, ?_, by go_num, rfl⟩
            rw [HT.out, leastS_snoc, HA.out, if_pos ⟨hz1, hz2⟩]
            unfold needsL
            rw [show ((p : Int) + 1 - 1).toNat = p by omega, List.getD_eq_getElem?_getD]
            exact congrArg Value.string (bytes_append _ _)
          case measure => simp [intOf]; omega
      · have HZ := Lib.hid hz
        by_cases hz1 : 1 ≤ z
        · have hz2 : 16 < z := by have := HZ.out; omega
          clear hz
          go_wp2_with fail
          go_roundw
          case rel =>
            refine ⟨k + 1, _, _, by omega, ?_, by go_num, rfl⟩
            rw [HT.out, leastS_snoc, HA.out, if_neg HZ.out, List.append_nil]
          case measure => simp [intOf]; omega
        · clear hz
          go_wp2_with fail
          go_roundw
          case rel =>
            refine ⟨k + 1, _, _, by omega, ?_, by go_num, rfl⟩
            rw [HT.out, leastS_snoc, HA.out, if_neg HZ.out, List.append_nil]
          case measure => simp [intOf]; omega
    · have : k = ls.length := by omega
      subst this
      rw [List.take_length]
      go_wp2_with fail
      refine (roleActs_gives m _).mono ?_
      rintro e w1 ⟨v, rfl, hb1, hown⟩
      have hb := (below_of_grow (w := w) xs d).trans (hb1.mono (by simp))
      obtain ⟨a2, c2, rfl, hn2, hm2, hcell2⟩ := Rd.of_own hown
      have HB := Lib.hid hb
      have HC2 := Lib.hid hcell2
      have hs1 := hb.size
      clear hb hb1 hown hcell2
      unfold maxLen at hm2
      have hL := actsTo_len m 17
      go_wp2_with fail
      go_loopw [12, 13] (fun s i wr => ∃ (q : Nat) (xs : Array Obj) (d : Nat), 1 ≤ q ∧ q ≤ 17 ∧ s = .int .i64 (actsTo m q).length ∧ i = .int .i64 q ∧ wr = w1.grow xs d) (fun _ i _ => 17 - (intOf i).toNat)
      case atStart => exact ⟨1, #[], w1.drawn, by omega, by omega, by rw [actsTo_one]; rfl, rfl, World.grow_nil.symm⟩
      case round =>
        obtain ⟨q, xs2, d2, hq1, hq2, rfl, rfl, rfl⟩ := hrel
        have hLq := actsTo_len m q
        by_cases hlt2 : q < 17
        · have hsucc := actsTo_succ m q
          have HS := Lib.hid hsucc
          clear hsucc
          cases hmb : mayB m q
          · have hrm := refMay_gives m q
            rw [may_ref, hmb] at hrm
            have HR := Lib.hid hrm
            have HM := Lib.hid hmb
            clear hrm hmb
            go_wp2_with (go_at_call 14; refine Gives.use (HR.out _) ?_; intro zs d3)
            go_roundw
            case rel =>
              refine ⟨q + 1, _, _, by omega, by omega, ?_, by go_num, rfl⟩
              rw [HS.out, HM.out, if_neg (by decide), List.append_nil]
            case measure => simp [intOf]; omega
          · have hrm := refMay_gives m q
            rw [may_ref, hmb] at hrm
            have HR := Lib.hid hrm
            have HM := Lib.hid hmb
            obtain ⟨hp1, hp2⟩ := acts_pick m q hlt2 hmb
            obtain ⟨b3, o3, rfl, hbs3, hc3⟩ := HC2.out (by omega)
            have hc4 := hc3 (actsTo m q).length (.int .i64 q) (by simp [ints, hp2])
            clear hrm hmb hc3 HC2 hp2
            go_wp2_with (go_at_call 14; refine Gives.use (HR.out _) ?_; intro zs d3)
            go_roundw
            case rel =>
              refine ⟨q + 1, _, _, by omega, by omega, ?_, by go_num, rfl⟩
              rw [HS.out, HM.out, if_pos rfl, List.length_append]; rfl
            case measure => simp [intOf]; omega
        · have : q = 17 := by omega
          subst this
          have hls := least_ref ls
          have hsz : (bs (leastS ls)).size ≤ 1000000 := by
            have := leastS_len ls
            show (leastS ls).length ≤ 1000000
            omega
          have hrd : ∀ xs d, Rd ((w1.grow xs d)) (w1.grow xs d).heap.size (.slice a1 ls.length c1) ls.length (iv ls) := by
            intro xs d
            refine Rd.more (Rd.keep (w := w) ⟨a1, c1, rfl, hn1, by unfold maxLen; exact hm1, HC.out⟩ (HB.out.trans ((below_of_grow (w := w1) xs d).mono hs1))) ?_
            rw [World.grow_size]; omega
          have HR := Lib.hid hrd
          have HL := Lib.hid hls
          have hrm := refMay_gives m a
          rw [may_ref] at hrm
          have HM := Lib.hid hrm
          clear hrd hls hrm
          go_wp2_with (first | (go_at_call 15; refine Gives.use (known22 _) ?_; intro zs d3) | (go_at_call 16; refine Gives.use (need_gives a _) ?_; intro zs d3) | (go_at_call 17; refine Gives.use (may_gives m a _) ?_; intro zs d3) | (go_at_call 14; refine Gives.use (HM.out _) ?_; intro zs d3) | (go_at_call 11; refine Gives.use (mask_gives _ hsz _) ?_; intro zs d3) | (go_at_call 18; refine Gives.use (least_gives ls _ _ ?lrd) ?_; rotate_left; intro zs d3))
          case lrd => exact HR.out _ _
          go_ret
          refine ⟨?_, ?_⟩
          · simp
          · exact (HB.out.trans ((below_of_grow (w := w1) _ _).mono hs1))
end Go.Proofs.Yteefknjaandjhaa

/- Layer 11: the walk over a tree's leaves, in order. -/
import Derived.Test.YtfgpcflegodlmaaGreatDoorQac
import Derived.Test.YtfgpcflegodlmaaGreatDoorQam
import Derived.Handy
import Derived.LoopIn
import Derived.Test.YtfgpcflegodlmaaGreatDoorQae
import Derived.Test.YtfgpcflegodlmaaGreatDoorQaf
namespace Go.Proofs.YtfgpcflegodlmaaGreatDoor
set_option maxRecDepth 100000
open Go.RowKit

/-- do bytes begin with some? -/
def hasF (fr : List UInt8) (l : List UInt8) : Bool := decide (l.take fr.length = fr)
theorem hasF_byt {fr l : List UInt8} (h : hasF fr l = true) {i : Nat} (hi : i < fr.length) : byt l i = byt fr i := by
  unfold hasF at h
  have h := of_decide_eq_true h
  have hl : fr.length ≤ l.length := by
    have := congrArg List.length h
    simp at this; omega
  have h2 : fr[i]? = l[i]? := by rw [← h]; rw [List.getElem?_take]; simp [hi]
  rw [List.getElem?_eq_getElem hi, List.getElem?_eq_getElem (by omega), byt_get, byt_get] at h2
  exact (Option.some.inj h2).symm
theorem padF_byt (fr : List UInt8) (k : Nat) {i : Nat} (hi : i < fr.length) : byt (fr ++ zeros k) i = byt fr i := by
  have h1 : (fr ++ zeros k)[i]? = fr[i]? := List.getElem?_append_left hi
  rw [List.getElem?_eq_getElem hi, List.getElem?_eq_getElem (by simp; omega), byt_get, byt_get] at h1
  exact Option.some.inj h1
theorem hasF_bit {fr l : List UInt8} (k : Nat) (h : hasF fr l = true) {bit : Nat} (hb : bit < 8 * fr.length) : bitB l bit = bitB (fr ++ zeros k) bit := by
  have hi : bit / 8 < fr.length := by omega
  unfold bitB
  rw [hasF_byt h hi, padF_byt fr k hi]
/-- the leaves that begin with some bytes -/
def frontL (fr : List UInt8) (l : List (Nat × K25 × Nat)) : List (Nat × K25 × Nat) := l.filter fun x => hasF fr x.2.1.val
theorem front_down {fr : List UInt8} {a bit : Nat} {l r : CT K25} (hO : (CT.fork a bit l r).Ok keyBytes 200) (hb : bit < 8 * fr.length) :
    frontL fr (CT.fork a bit l r).list = if bitB (fr ++ zeros (25 - fr.length)) bit = true then frontL fr r.list else frontL fr l.list := by
  obtain ⟨_, _, _, h0, h1, _⟩ := hO
  unfold frontL
  rw [CT.list, List.filter_append]
  by_cases hs : bitB (fr ++ zeros (25 - fr.length)) bit = true
  · have e : List.filter (fun x => hasF fr x.2.1.val) l.list = [] := List.filter_eq_nil_iff.2 (by
      intro x hx hf
      have := hasF_bit (25 - fr.length) hf hb
      have h2 := h0 x hx
      unfold keyBytes at h2
      rw [hs] at this; rw [h2] at this; cases this)
    rw [if_pos hs, e, List.nil_append]
  · have e : List.filter (fun x => hasF fr x.2.1.val) r.list = [] := List.filter_eq_nil_iff.2 (by
      intro x hx hf
      have := hasF_bit (25 - fr.length) hf hb
      have h2 := h1 x hx
      unfold keyBytes at h2
      rw [h2] at this; exact hs this.symm)
    rw [if_neg hs, e, List.append_nil]
def fnV (Fb Yb : Nat) : Value := .func (.func 134) #[] #[.pointer (some ⟨Fb, 0, none⟩), .pointer (some ⟨Yb, 0, none⟩)]
def LeafAt (W : World) (x : Nat × K25 × Nat) : Prop := NodeAt W x.1 true x.2.1.val x.2.1.val (pt x.2.2) 0 (.pointer none) (.pointer none)
/-- these blocks lie as they lay -/
def Sm (S : Nat → Prop) (W W' : World) : Prop := ∀ b, S b → W'.heap[b]? = W.heap[b]?
theorem Sm.trans {S : Nat → Prop} {A B C : World} (h : Sm S A B) (h' : Sm S B C) : Sm S A C := fun b hb => (h' b hb).trans (h b hb)
theorem Sm.cell {S : Nat → Prop} {A B : World} (h : Sm S A B) {a : Nat} (ha : S a) (i : Nat) : B.cell? ⟨a, i, none⟩ = A.cell? ⟨a, i, none⟩ := by
  unfold World.cell?; rw [h a ha]
set_option maxHeartbeats 4000000 in
theorem walk_calls (Fb Yb : Nat) (S : Nat → Prop) (J Jx : List (Nat × K25 × Nat) → World → Prop) (L : List (Nat × K25 × Nat))
    (hY : ∀ pre x W, J pre W → pre ++ [x] <+: L → LeafAt W x → Calls Tryz.prog 134 #[pt x.1, .pointer (some ⟨Fb, 0, none⟩), .pointer (some ⟨Yb, 0, none⟩)] W fun e W' =>
      (e = .returned (.bool true) ∧ J (pre ++ [x]) W' ∧ Sm S W W') ∨ (e = .returned (.bool false) ∧ Jx (pre ++ [x]) W')) :
    ∀ (T : CT K25) (pre : List (Nat × K25 × Nat)) (W : World), pre ++ T.list <+: L → T.At W → (∀ b ∈ T.foot, S b) → J pre W →
      Calls Tryz.prog 133 #[pt T.at_, fnV Fb Yb] W fun e W' =>
        (e = .returned (.bool true) ∧ J (pre ++ T.list) W' ∧ Sm S W W') ∨ (e = .returned (.bool false) ∧ ∃ q, q <+: T.list ∧ Jx (pre ++ q) W')
  | .leaf a k c, pre, W, hL, hT, hb, hJ => by
    have hy := hY pre (a, k, c) W hJ hL hT
    have hc0 := (NodeAt.cells hT k.property k.property).1
    have HY := Lib.hid hy
    clear hy hT hb hL hY hJ
    rw [at_leaf]
    unfold fnV
    simp only [pt] at HY ⊢
    go_enter Tryz.func133, Tryz.ntmps133
    go_wp2_with fail
    refine HY.out.mono ?_
    rintro e W1 (⟨rfl, hj, hbl⟩ | ⟨rfl, hx⟩)
    · go_wp2_with fail
      go_ret
      exact .inl ⟨rfl, hj, hbl⟩
    · go_wp2_with fail
      go_ret
      exact .inr ⟨rfl, [(a, k, c)], List.prefix_refl _, hx⟩
  | .fork a bit l r, pre, W, hL, hT, hb, hJ => by
    obtain ⟨hn, hl, hr⟩ := hT
    have hL1 : pre ++ l.list <+: L := by
      refine List.IsPrefix.trans ?_ hL
      show pre ++ l.list <+: pre ++ (l.list ++ r.list)
      rw [← List.append_assoc]; exact List.prefix_append _ _
    have ih1 := walk_calls Fb Yb S J Jx L hY l pre W hL1 hl (fun b hbm => hb b (by simp [CT.foot, hbm])) hJ
    have ih2 := fun (W1 : World) (hj : J (pre ++ l.list) W1) (hbl : Sm S W W1) =>
      walk_calls Fb Yb S J Jx L hY r (pre ++ l.list) W1 (by rw [List.append_assoc]; exact hL) (hr.keep fun b hbm => hbl b (hb b (by simp [CT.foot, hbm]))) (fun b hbm => hb b (by simp [CT.foot, hbm])) hj
    obtain ⟨hc0, _, _, hc3, hc4⟩ := NodeAt.cells hn (by simp [zeros]) (by simp [zeros])
    have ha := hb a (by simp [CT.foot])
    have IH1 := Lib.hid ih1
    have IH2 := Lib.hid ih2
    clear ih1 ih2 hY hL hL1 hb hn hl hr hJ
    rw [at_fork]
    rw [show (CT.fork a bit l r).list = l.list ++ r.list from rfl]
    unfold fnV at *
    simp only [pt] at *
    go_enter Tryz.func133, Tryz.ntmps133
    go_wp2_with fail
    refine IH1.out.mono ?_
    rintro e W1 (⟨rfl, hj, hbl⟩ | ⟨rfl, q, hq, hx⟩)
    · have d4 := (hbl.cell ha 54).trans hc4
      have H2 := Lib.hid (IH2.out W1 hj hbl)
      have HB := Lib.hid hbl
      clear IH1 IH2 hj hbl hc0 hc3 hc4
      go_wp2_with fail
      refine H2.out.mono ?_
      rintro e W2 (⟨rfl, hj2, hbl2⟩ | ⟨rfl, q, hq, hx⟩)
      · go_wp2_with fail
        go_ret
        exact .inl ⟨rfl, by rw [← List.append_assoc]; exact hj2, HB.out.trans hbl2⟩
      · have HQ := Lib.hid (And.intro hq hx)
        clear hq hx
        go_wp2_with fail
        go_ret
        obtain ⟨t, ht⟩ := HQ.out.1
        exact .inr ⟨rfl, l.list ++ q, ⟨t, by rw [← ht, List.append_assoc]⟩, by rw [← List.append_assoc]; exact HQ.out.2⟩
    · have HQ := Lib.hid (And.intro hq hx)
      clear hq hx IH1 IH2
      go_wp2_with fail
      go_ret
      exact .inr ⟨rfl, q, HQ.out.1.trans (List.prefix_append _ _), HQ.out.2⟩
end Go.Proofs.YtfgpcflegodlmaaGreatDoor
namespace Go.Proofs.YtfgpcflegodlmaaGreatDoor.Rd
set_option maxRecDepth 100000
open Go.RowKit
attribute [local go_sem] Oper.semAt_some

set_option maxHeartbeats 8000000 in
theorem leaf_in (l Fb Yb n₀ : Nat) (fv : Value) (fr : List UInt8) (x : Nat × K25 × Nat) (W : World) (A C : World → Prop) (hx : LeafAt W x) (hF : W.cell? ⟨Fb, 0, none⟩ = some fv) (hFl : Fb < W.heap.size) (hS : SlB W n₀ fv fr) (hYb : W.cell? ⟨Yb, 0, none⟩ = some (.func (.yield l) #[] #[])) (hYl : Yb < W.heap.size) (hn : n₀ ≤ W.heap.size) (hm : fr.length ≤ 25)
    (hno : hasF fr x.2.1.val = false → ∀ xs d, A (W.grow xs d))
    (hyes : hasF fr x.2.1.val = true → ∀ m xs d, YieldAt Fence.wide m Tryz.prog l #[.pointer (some ⟨x.1, 0, none⟩)] (W.grow xs d) fun e W' => (e = .returned (.bool true) ∧ A W') ∨ (e = .returned (.bool false) ∧ C W')) :
    Calls Tryz.prog 134 #[.pointer (some ⟨x.1, 0, none⟩), .pointer (some ⟨Fb, 0, none⟩), .pointer (some ⟨Yb, 0, none⟩)] W fun e W' => (e = .returned (.bool true) ∧ A W') ∨ (e = .returned (.bool false) ∧ C W') := by
  have hby := NodeAt.bytes hx x.2.1.property x.2.1.property
  have hxl := lt_of_heap hx
  have hp := fun (xs : Array Obj) (d : Nat) => hasPrefix_gives (w := W.grow xs d) (o := 26) x.2.1.property ((cut_grow xs d _ _ _ hxl).trans hby) hm (hS.keep fun b hb => World.grow_heap _ _ _ (by omega)) (by simp; omega)
  have hpe : decide (List.take fr.length x.2.1.val = fr) = hasF fr x.2.1.val := rfl
  rw [hpe] at hp
  have HP := Lib.hid hp
  clear hp hpe hby hS hm hn
  refine (callsIn_wide (n := 9)).1 ?_
  refine callsIn_of_wp Tryz.func134 rfl trivial ?_ rfl
  simp only [Tryz.ntmps134, List.size_toArray, List.length_cons, List.length_nil, Nat.reduceAdd, Nat.reduceSub, Array.replicate_succ, Array.replicate_zero, List.push_toArray, List.append_toArray, List.nil_append, List.cons_append]
  unfold LeafAt at hx
  clear hx
  generalize x.1 = a at *
  cases hh : hasF fr x.2.1.val with
  | false =>
    rw [hh] at HP hno
    have HN := Lib.hid (hno rfl)
    clear hno hyes hh
    gi_wp2
    apply wp_region_specs (by rfl) [.val _, .val _, .val _, .val _, .val _, .val _, .val _, .val _, .val _, .val _, .val _, .val _] 12 (by rfl) [5, 6, 7, 8, 9, 10, 11, 12, 13, 14, 15, 16] [] [] (by rfl) (by rfl) (by decide) (by decide +kernel) (fun _ _ _ _ _ h => h)
    case hF => intro x; simp only [over, List.foldl_cons, List.foldl_nil, List.setIfInBounds_toArray, List.set_cons_succ, List.set_cons_zero]; exact rfl
    case hops =>
      refine ⟨?o0, ?o1, ?o2, ?o3, ?o4, ?o5, ?o6, ?o7, ?o8, ?o9, ?o10, ?o11, trivial⟩
      case o0 =>
        intro x w1 hH K hK
        obtain ⟨xs, d, rfl⟩ := grow_of_below hH.below
        clear hH
        try simp only [World.grow_drew] at hK ⊢
        try simp only [World.grow_grow] at hK ⊢
        go_simp
        go_wp2_with fail
        exact ⟨_, rfl, rfl, (by repeat (first | exact below_of_grow _ _ | exact Below.refl _ _ | exact below_more _ _ _ _ | (simp only [← Array.append_assoc]; first | exact below_more _ _ _ _ | exact below_same _ _ _ | exact Below.refl _ _) | exact below_same _ _ _ | (refine Below.alloc ?_ (by first | (simp; done) | (simp; omega)) _) | (refine Below.grow ?_ (by first | (simp; done) | (simp; omega)) _ _) | refine Below.drew ?_ | refine Below.drewN ?_ _ | (refine Below.putF ?_ (by first | (simp; done) | omega | (simp; omega)) _) | (refine Below.setCell ?_ (by first | (simp; done) | (simp; omega)) _))), fun h => by cases h⟩
      case o1 =>
        intro x w1 hH K hK
        have e5 : x 5 = _ := hH.holds 0 (by decide) (by decide +kernel) 5 rfl
        obtain ⟨xs, d, rfl⟩ := grow_of_below hH.below
        clear hH
        try simp only [World.grow_drew] at hK ⊢
        try simp only [World.grow_grow] at hK ⊢
        simp only [e5] at hK ⊢
        clear e5
        go_simp
        go_wp2_with fail
        exact ⟨_, rfl, rfl, (by repeat (first | exact below_of_grow _ _ | exact Below.refl _ _ | exact below_more _ _ _ _ | (simp only [← Array.append_assoc]; first | exact below_more _ _ _ _ | exact below_same _ _ _ | exact Below.refl _ _) | exact below_same _ _ _ | (refine Below.alloc ?_ (by first | (simp; done) | (simp; omega)) _) | (refine Below.grow ?_ (by first | (simp; done) | (simp; omega)) _ _) | refine Below.drew ?_ | refine Below.drewN ?_ _ | (refine Below.putF ?_ (by first | (simp; done) | omega | (simp; omega)) _) | (refine Below.setCell ?_ (by first | (simp; done) | (simp; omega)) _))), fun h => by cases h⟩
      case o2 =>
        intro x w1 hH K hK
        have e6 : x 6 = _ := hH.holds 1 (by decide) (by decide +kernel) 6 rfl
        obtain ⟨xs, d, rfl⟩ := grow_of_below hH.below
        clear hH
        try simp only [World.grow_drew] at hK ⊢
        try simp only [World.grow_grow] at hK ⊢
        simp only [e6] at hK ⊢
        clear e6
        go_simp
        go_wp2_with fail
        exact ⟨_, rfl, rfl, (by repeat (first | exact below_of_grow _ _ | exact Below.refl _ _ | exact below_more _ _ _ _ | (simp only [← Array.append_assoc]; first | exact below_more _ _ _ _ | exact below_same _ _ _ | exact Below.refl _ _) | exact below_same _ _ _ | (refine Below.alloc ?_ (by first | (simp; done) | (simp; omega)) _) | (refine Below.grow ?_ (by first | (simp; done) | (simp; omega)) _ _) | refine Below.drew ?_ | refine Below.drewN ?_ _ | (refine Below.putF ?_ (by first | (simp; done) | omega | (simp; omega)) _) | (refine Below.setCell ?_ (by first | (simp; done) | (simp; omega)) _))), fun h => by cases h⟩
      case o3 =>
        intro x w1 hH K hK
        have e7 : x 7 = _ := hH.holds 2 (by decide) (by decide +kernel) 7 rfl
        obtain ⟨xs, d, rfl⟩ := grow_of_below hH.below
        clear hH
        try simp only [World.grow_drew] at hK ⊢
        try simp only [World.grow_grow] at hK ⊢
        simp only [e7] at hK ⊢
        clear e7
        go_simp
        go_wp2_with fail
        exact ⟨_, rfl, rfl, (by repeat (first | exact below_of_grow _ _ | exact Below.refl _ _ | exact below_more _ _ _ _ | (simp only [← Array.append_assoc]; first | exact below_more _ _ _ _ | exact below_same _ _ _ | exact Below.refl _ _) | exact below_same _ _ _ | (refine Below.alloc ?_ (by first | (simp; done) | (simp; omega)) _) | (refine Below.grow ?_ (by first | (simp; done) | (simp; omega)) _ _) | refine Below.drew ?_ | refine Below.drewN ?_ _ | (refine Below.putF ?_ (by first | (simp; done) | omega | (simp; omega)) _) | (refine Below.setCell ?_ (by first | (simp; done) | (simp; omega)) _))), fun h => by cases h⟩
      case o4 =>
        intro x w1 hH K hK
        obtain ⟨xs, d, rfl⟩ := grow_of_below hH.below
        clear hH
        try simp only [World.grow_drew] at hK ⊢
        try simp only [World.grow_grow] at hK ⊢
        go_simp
        go_wp2_with fail
        exact ⟨_, rfl, rfl, (by repeat (first | exact below_of_grow _ _ | exact Below.refl _ _ | exact below_more _ _ _ _ | (simp only [← Array.append_assoc]; first | exact below_more _ _ _ _ | exact below_same _ _ _ | exact Below.refl _ _) | exact below_same _ _ _ | (refine Below.alloc ?_ (by first | (simp; done) | (simp; omega)) _) | (refine Below.grow ?_ (by first | (simp; done) | (simp; omega)) _ _) | refine Below.drew ?_ | refine Below.drewN ?_ _ | (refine Below.putF ?_ (by first | (simp; done) | omega | (simp; omega)) _) | (refine Below.setCell ?_ (by first | (simp; done) | (simp; omega)) _))), fun h => by cases h⟩
      case o5 =>
        intro x w1 hH K hK
        have e8 : x 8 = _ := hH.holds 3 (by decide) (by decide +kernel) 8 rfl
        have e9 : x 9 = _ := hH.holds 4 (by decide) (by decide +kernel) 9 rfl
        obtain ⟨xs, d, rfl⟩ := grow_of_below hH.below
        clear hH
        try simp only [World.grow_drew] at hK ⊢
        try simp only [World.grow_grow] at hK ⊢
        simp only [e8, e9] at hK ⊢
        clear e8 e9
        go_simp
        go_wp2_with (refine Gives.use (HP.out _ _) ?_; intro ys e)
        exact ⟨_, rfl, rfl, (by first | exact below_more _ _ _ _ | exact (by repeat (first | exact below_of_grow _ _ | exact Below.refl _ _ | exact below_more _ _ _ _ | (simp only [← Array.append_assoc]; first | exact below_more _ _ _ _ | exact below_same _ _ _ | exact Below.refl _ _) | exact below_same _ _ _ | (refine Below.alloc ?_ (by first | (simp; done) | (simp; omega)) _) | (refine Below.grow ?_ (by first | (simp; done) | (simp; omega)) _ _) | refine Below.drew ?_ | refine Below.drewN ?_ _ | (refine Below.putF ?_ (by first | (simp; done) | omega | (simp; omega)) _) | (refine Below.setCell ?_ (by first | (simp; done) | (simp; omega)) _)))), fun h => by cases h⟩
      case o6 =>
        intro x w1 hH K hK
        have e10 : x 10 = _ := hH.holds 5 (by decide) (by decide +kernel) 10 rfl
        obtain ⟨xs, d, rfl⟩ := grow_of_below hH.below
        clear hH
        try simp only [World.grow_drew] at hK ⊢
        try simp only [World.grow_grow] at hK ⊢
        simp only [e10] at hK ⊢
        clear e10
        go_simp
        go_wp2_with fail
        exact ⟨_, rfl, rfl, (by repeat (first | exact below_of_grow _ _ | exact Below.refl _ _ | exact below_more _ _ _ _ | (simp only [← Array.append_assoc]; first | exact below_more _ _ _ _ | exact below_same _ _ _ | exact Below.refl _ _) | exact below_same _ _ _ | (refine Below.alloc ?_ (by first | (simp; done) | (simp; omega)) _) | (refine Below.grow ?_ (by first | (simp; done) | (simp; omega)) _ _) | refine Below.drew ?_ | refine Below.drewN ?_ _ | (refine Below.putF ?_ (by first | (simp; done) | omega | (simp; omega)) _) | (refine Below.setCell ?_ (by first | (simp; done) | (simp; omega)) _))), fun h => by cases h⟩
      case o7 =>
        intro x w1 hH K hK
        have e11 : x 11 = _ := hH.holds 6 (by decide) (by decide +kernel) 11 rfl
        obtain ⟨xs, d, rfl⟩ := grow_of_below hH.below
        clear hH
        try simp only [World.grow_drew] at hK ⊢
        try simp only [World.grow_grow] at hK ⊢
        simp only [e11] at hK ⊢
        clear e11
        go_simp
        go_wp2_with fail
        exact ⟨_, rfl, rfl, (by repeat (first | exact below_of_grow _ _ | exact Below.refl _ _ | exact below_more _ _ _ _ | (simp only [← Array.append_assoc]; first | exact below_more _ _ _ _ | exact below_same _ _ _ | exact Below.refl _ _) | exact below_same _ _ _ | (refine Below.alloc ?_ (by first | (simp; done) | (simp; omega)) _) | (refine Below.grow ?_ (by first | (simp; done) | (simp; omega)) _ _) | refine Below.drew ?_ | refine Below.drewN ?_ _ | (refine Below.putF ?_ (by first | (simp; done) | omega | (simp; omega)) _) | (refine Below.setCell ?_ (by first | (simp; done) | (simp; omega)) _))), fun h => by cases h⟩
      case o8 =>
        intro x w1 hH K hK
        have e12 : x 12 = _ := hH.holds 7 (by decide) (by decide +kernel) 12 rfl
        obtain ⟨xs, d, rfl⟩ := grow_of_below hH.below
        clear hH
        try simp only [World.grow_drew] at hK ⊢
        try simp only [World.grow_grow] at hK ⊢
        simp only [e12] at hK ⊢
        clear e12
        go_simp
        go_wp2_with fail
        exact ⟨_, rfl, rfl, (by repeat (first | exact below_of_grow _ _ | exact Below.refl _ _ | exact below_more _ _ _ _ | (simp only [← Array.append_assoc]; first | exact below_more _ _ _ _ | exact below_same _ _ _ | exact Below.refl _ _) | exact below_same _ _ _ | (refine Below.alloc ?_ (by first | (simp; done) | (simp; omega)) _) | (refine Below.grow ?_ (by first | (simp; done) | (simp; omega)) _ _) | refine Below.drew ?_ | refine Below.drewN ?_ _ | (refine Below.putF ?_ (by first | (simp; done) | omega | (simp; omega)) _) | (refine Below.setCell ?_ (by first | (simp; done) | (simp; omega)) _))), fun h => by cases h⟩
      case o9 =>
        intro x w1 hH K hK
        have e12 : x 12 = _ := hH.holds 7 (by decide) (by decide +kernel) 12 rfl
        obtain ⟨xs, d, rfl⟩ := grow_of_below hH.below
        clear hH
        try simp only [World.grow_drew] at hK ⊢
        try simp only [World.grow_grow] at hK ⊢
        simp only [e12] at hK ⊢
        clear e12
        go_simp
        go_wp2_with fail
        exact ⟨_, rfl, rfl, (by repeat (first | exact below_of_grow _ _ | exact Below.refl _ _ | exact below_more _ _ _ _ | (simp only [← Array.append_assoc]; first | exact below_more _ _ _ _ | exact below_same _ _ _ | exact Below.refl _ _) | exact below_same _ _ _ | (refine Below.alloc ?_ (by first | (simp; done) | (simp; omega)) _) | (refine Below.grow ?_ (by first | (simp; done) | (simp; omega)) _ _) | refine Below.drew ?_ | refine Below.drewN ?_ _ | (refine Below.putF ?_ (by first | (simp; done) | omega | (simp; omega)) _) | (refine Below.setCell ?_ (by first | (simp; done) | (simp; omega)) _))), fun h => by cases h⟩
      case o10 =>
        intro x w1 hH K hK
        have e12 : x 12 = _ := hH.holds 7 (by decide) (by decide +kernel) 12 rfl
        have e13 : x 13 = _ := hH.holds 8 (by decide) (by decide +kernel) 13 rfl
        have e14 : x 14 = _ := hH.holds 9 (by decide) (by decide +kernel) 14 rfl
        obtain ⟨xs, d, rfl⟩ := grow_of_below hH.below
        clear hH
        try simp only [World.grow_drew] at hK ⊢
        try simp only [World.grow_grow] at hK ⊢
        simp only [e12, e13, e14] at hK ⊢
        clear e12 e13 e14
        go_simp
        go_wp2_with fail
        exact ⟨_, rfl, rfl, (by repeat (first | exact below_of_grow _ _ | exact Below.refl _ _ | exact below_more _ _ _ _ | (simp only [← Array.append_assoc]; first | exact below_more _ _ _ _ | exact below_same _ _ _ | exact Below.refl _ _) | exact below_same _ _ _ | (refine Below.alloc ?_ (by first | (simp; done) | (simp; omega)) _) | (refine Below.grow ?_ (by first | (simp; done) | (simp; omega)) _ _) | refine Below.drew ?_ | refine Below.drewN ?_ _ | (refine Below.putF ?_ (by first | (simp; done) | omega | (simp; omega)) _) | (refine Below.setCell ?_ (by first | (simp; done) | (simp; omega)) _))), fun h => by cases h⟩
      case o11 =>
        intro x w1 hH K hK
        have e12 : x 12 = _ := hH.holds 7 (by decide) (by decide +kernel) 12 rfl
        have e15 : x 15 = _ := hH.holds 10 (by decide) (by decide +kernel) 15 rfl
        obtain ⟨xs, d, rfl⟩ := grow_of_below hH.below
        clear hH
        try simp only [World.grow_drew] at hK ⊢
        try simp only [World.grow_grow] at hK ⊢
        simp only [e12, e15] at hK ⊢
        clear e12 e15
        go_simp
        go_wp2_with fail
        exact ⟨_, rfl, rfl, (by repeat (first | exact below_of_grow _ _ | exact Below.refl _ _ | exact below_more _ _ _ _ | (simp only [← Array.append_assoc]; first | exact below_more _ _ _ _ | exact below_same _ _ _ | exact Below.refl _ _) | exact below_same _ _ _ | (refine Below.alloc ?_ (by first | (simp; done) | (simp; omega)) _) | (refine Below.grow ?_ (by first | (simp; done) | (simp; omega)) _ _) | refine Below.drew ?_ | refine Below.drewN ?_ _ | (refine Below.putF ?_ (by first | (simp; done) | omega | (simp; omega)) _) | (refine Below.setCell ?_ (by first | (simp; done) | (simp; omega)) _))), fun h => by cases h⟩
    case hend =>
      intro x w1 hH
      have e5 : x 5 = _ := hH.holds 0 (by decide) trivial 5 rfl
      have e6 : x 6 = _ := hH.holds 1 (by decide) trivial 6 rfl
      have e7 : x 7 = _ := hH.holds 2 (by decide) trivial 7 rfl
      have e8 : x 8 = _ := hH.holds 3 (by decide) trivial 8 rfl
      have e9 : x 9 = _ := hH.holds 4 (by decide) trivial 9 rfl
      have e10 : x 10 = _ := hH.holds 5 (by decide) trivial 10 rfl
      have e11 : x 11 = _ := hH.holds 6 (by decide) trivial 11 rfl
      have e12 : x 12 = _ := hH.holds 7 (by decide) trivial 12 rfl
      have e13 : x 13 = _ := hH.holds 8 (by decide) trivial 13 rfl
      have e14 : x 14 = _ := hH.holds 9 (by decide) trivial 14 rfl
      have e15 : x 15 = _ := hH.holds 10 (by decide) trivial 15 rfl
      have e16 : x 16 = _ := hH.holds 11 (by decide) trivial 16 rfl
      obtain ⟨xs, d, rfl⟩ := grow_of_below hH.below
      clear hH
      simp only [e5, e6, e7, e8, e9, e10, e11, e12, e13, e14, e15, e16]; clear e5 e6 e7 e8 e9 e10 e11 e12 e13 e14 e15 e16
      simp only [List.drop_succ_cons, List.drop_zero]
      gi_wp2
      go_ret
      exact .inl ⟨rfl, HN.out xs d⟩
  | true =>
    rw [hh] at HP hyes
    have HN := Lib.hid (hyes rfl)
    clear hno hyes hh
    gi_wp2
    apply wp_region_specs (by rfl) [.val _, .val _, .val _, .val _, .val _, .val _, .val _, .val _, .val _, .val _] 10 (by rfl) [5, 6, 7, 8, 9, 10, 11, 12, 13, 14] [] [] (by rfl) (by rfl) (by decide) (by decide +kernel) (fun _ _ _ _ _ h => h)
    case hF => intro x; simp only [over, List.foldl_cons, List.foldl_nil, List.setIfInBounds_toArray, List.set_cons_succ, List.set_cons_zero]; exact rfl
    case hops =>
      refine ⟨?o0, ?o1, ?o2, ?o3, ?o4, ?o5, ?o6, ?o7, ?o8, ?o9, trivial⟩
      case o0 =>
        intro x w1 hH K hK
        obtain ⟨xs, d, rfl⟩ := grow_of_below hH.below
        clear hH
        try simp only [World.grow_drew] at hK ⊢
        try simp only [World.grow_grow] at hK ⊢
        go_simp
        go_wp2_with fail
        exact ⟨_, rfl, rfl, (by repeat (first | exact below_of_grow _ _ | exact Below.refl _ _ | exact below_more _ _ _ _ | (simp only [← Array.append_assoc]; first | exact below_more _ _ _ _ | exact below_same _ _ _ | exact Below.refl _ _) | exact below_same _ _ _ | (refine Below.alloc ?_ (by first | (simp; done) | (simp; omega)) _) | (refine Below.grow ?_ (by first | (simp; done) | (simp; omega)) _ _) | refine Below.drew ?_ | refine Below.drewN ?_ _ | (refine Below.putF ?_ (by first | (simp; done) | omega | (simp; omega)) _) | (refine Below.setCell ?_ (by first | (simp; done) | (simp; omega)) _))), fun h => by cases h⟩
      case o1 =>
        intro x w1 hH K hK
        have e5 : x 5 = _ := hH.holds 0 (by decide) (by decide +kernel) 5 rfl
        obtain ⟨xs, d, rfl⟩ := grow_of_below hH.below
        clear hH
        try simp only [World.grow_drew] at hK ⊢
        try simp only [World.grow_grow] at hK ⊢
        simp only [e5] at hK ⊢
        clear e5
        go_simp
        go_wp2_with fail
        exact ⟨_, rfl, rfl, (by repeat (first | exact below_of_grow _ _ | exact Below.refl _ _ | exact below_more _ _ _ _ | (simp only [← Array.append_assoc]; first | exact below_more _ _ _ _ | exact below_same _ _ _ | exact Below.refl _ _) | exact below_same _ _ _ | (refine Below.alloc ?_ (by first | (simp; done) | (simp; omega)) _) | (refine Below.grow ?_ (by first | (simp; done) | (simp; omega)) _ _) | refine Below.drew ?_ | refine Below.drewN ?_ _ | (refine Below.putF ?_ (by first | (simp; done) | omega | (simp; omega)) _) | (refine Below.setCell ?_ (by first | (simp; done) | (simp; omega)) _))), fun h => by cases h⟩
      case o2 =>
        intro x w1 hH K hK
        have e6 : x 6 = _ := hH.holds 1 (by decide) (by decide +kernel) 6 rfl
        obtain ⟨xs, d, rfl⟩ := grow_of_below hH.below
        clear hH
        try simp only [World.grow_drew] at hK ⊢
        try simp only [World.grow_grow] at hK ⊢
        simp only [e6] at hK ⊢
        clear e6
        go_simp
        go_wp2_with fail
        exact ⟨_, rfl, rfl, (by repeat (first | exact below_of_grow _ _ | exact Below.refl _ _ | exact below_more _ _ _ _ | (simp only [← Array.append_assoc]; first | exact below_more _ _ _ _ | exact below_same _ _ _ | exact Below.refl _ _) | exact below_same _ _ _ | (refine Below.alloc ?_ (by first | (simp; done) | (simp; omega)) _) | (refine Below.grow ?_ (by first | (simp; done) | (simp; omega)) _ _) | refine Below.drew ?_ | refine Below.drewN ?_ _ | (refine Below.putF ?_ (by first | (simp; done) | omega | (simp; omega)) _) | (refine Below.setCell ?_ (by first | (simp; done) | (simp; omega)) _))), fun h => by cases h⟩
      case o3 =>
        intro x w1 hH K hK
        have e7 : x 7 = _ := hH.holds 2 (by decide) (by decide +kernel) 7 rfl
        obtain ⟨xs, d, rfl⟩ := grow_of_below hH.below
        clear hH
        try simp only [World.grow_drew] at hK ⊢
        try simp only [World.grow_grow] at hK ⊢
        simp only [e7] at hK ⊢
        clear e7
        go_simp
        go_wp2_with fail
        exact ⟨_, rfl, rfl, (by repeat (first | exact below_of_grow _ _ | exact Below.refl _ _ | exact below_more _ _ _ _ | (simp only [← Array.append_assoc]; first | exact below_more _ _ _ _ | exact below_same _ _ _ | exact Below.refl _ _) | exact below_same _ _ _ | (refine Below.alloc ?_ (by first | (simp; done) | (simp; omega)) _) | (refine Below.grow ?_ (by first | (simp; done) | (simp; omega)) _ _) | refine Below.drew ?_ | refine Below.drewN ?_ _ | (refine Below.putF ?_ (by first | (simp; done) | omega | (simp; omega)) _) | (refine Below.setCell ?_ (by first | (simp; done) | (simp; omega)) _))), fun h => by cases h⟩
      case o4 =>
        intro x w1 hH K hK
        obtain ⟨xs, d, rfl⟩ := grow_of_below hH.below
        clear hH
        try simp only [World.grow_drew] at hK ⊢
        try simp only [World.grow_grow] at hK ⊢
        go_simp
        go_wp2_with fail
        exact ⟨_, rfl, rfl, (by repeat (first | exact below_of_grow _ _ | exact Below.refl _ _ | exact below_more _ _ _ _ | (simp only [← Array.append_assoc]; first | exact below_more _ _ _ _ | exact below_same _ _ _ | exact Below.refl _ _) | exact below_same _ _ _ | (refine Below.alloc ?_ (by first | (simp; done) | (simp; omega)) _) | (refine Below.grow ?_ (by first | (simp; done) | (simp; omega)) _ _) | refine Below.drew ?_ | refine Below.drewN ?_ _ | (refine Below.putF ?_ (by first | (simp; done) | omega | (simp; omega)) _) | (refine Below.setCell ?_ (by first | (simp; done) | (simp; omega)) _))), fun h => by cases h⟩
      case o5 =>
        intro x w1 hH K hK
        have e8 : x 8 = _ := hH.holds 3 (by decide) (by decide +kernel) 8 rfl
        have e9 : x 9 = _ := hH.holds 4 (by decide) (by decide +kernel) 9 rfl
        obtain ⟨xs, d, rfl⟩ := grow_of_below hH.below
        clear hH
        try simp only [World.grow_drew] at hK ⊢
        try simp only [World.grow_grow] at hK ⊢
        simp only [e8, e9] at hK ⊢
        clear e8 e9
        go_simp
        go_wp2_with (refine Gives.use (HP.out _ _) ?_; intro ys e)
        exact ⟨_, rfl, rfl, (by first | exact below_more _ _ _ _ | exact (by repeat (first | exact below_of_grow _ _ | exact Below.refl _ _ | exact below_more _ _ _ _ | (simp only [← Array.append_assoc]; first | exact below_more _ _ _ _ | exact below_same _ _ _ | exact Below.refl _ _) | exact below_same _ _ _ | (refine Below.alloc ?_ (by first | (simp; done) | (simp; omega)) _) | (refine Below.grow ?_ (by first | (simp; done) | (simp; omega)) _ _) | refine Below.drew ?_ | refine Below.drewN ?_ _ | (refine Below.putF ?_ (by first | (simp; done) | omega | (simp; omega)) _) | (refine Below.setCell ?_ (by first | (simp; done) | (simp; omega)) _)))), fun h => by cases h⟩
      case o6 =>
        intro x w1 hH K hK
        have e10 : x 10 = _ := hH.holds 5 (by decide) (by decide +kernel) 10 rfl
        obtain ⟨xs, d, rfl⟩ := grow_of_below hH.below
        clear hH
        try simp only [World.grow_drew] at hK ⊢
        try simp only [World.grow_grow] at hK ⊢
        simp only [e10] at hK ⊢
        clear e10
        go_simp
        go_wp2_with fail
        exact ⟨_, rfl, rfl, (by repeat (first | exact below_of_grow _ _ | exact Below.refl _ _ | exact below_more _ _ _ _ | (simp only [← Array.append_assoc]; first | exact below_more _ _ _ _ | exact below_same _ _ _ | exact Below.refl _ _) | exact below_same _ _ _ | (refine Below.alloc ?_ (by first | (simp; done) | (simp; omega)) _) | (refine Below.grow ?_ (by first | (simp; done) | (simp; omega)) _ _) | refine Below.drew ?_ | refine Below.drewN ?_ _ | (refine Below.putF ?_ (by first | (simp; done) | omega | (simp; omega)) _) | (refine Below.setCell ?_ (by first | (simp; done) | (simp; omega)) _))), fun h => by cases h⟩
      case o7 =>
        intro x w1 hH K hK
        have e11 : x 11 = _ := hH.holds 6 (by decide) (by decide +kernel) 11 rfl
        obtain ⟨xs, d, rfl⟩ := grow_of_below hH.below
        clear hH
        try simp only [World.grow_drew] at hK ⊢
        try simp only [World.grow_grow] at hK ⊢
        simp only [e11] at hK ⊢
        clear e11
        go_simp
        go_wp2_with fail
        exact ⟨_, rfl, rfl, (by repeat (first | exact below_of_grow _ _ | exact Below.refl _ _ | exact below_more _ _ _ _ | (simp only [← Array.append_assoc]; first | exact below_more _ _ _ _ | exact below_same _ _ _ | exact Below.refl _ _) | exact below_same _ _ _ | (refine Below.alloc ?_ (by first | (simp; done) | (simp; omega)) _) | (refine Below.grow ?_ (by first | (simp; done) | (simp; omega)) _ _) | refine Below.drew ?_ | refine Below.drewN ?_ _ | (refine Below.putF ?_ (by first | (simp; done) | omega | (simp; omega)) _) | (refine Below.setCell ?_ (by first | (simp; done) | (simp; omega)) _))), fun h => by cases h⟩
      case o8 =>
        intro x w1 hH K hK
        have e12 : x 12 = _ := hH.holds 7 (by decide) (by decide +kernel) 12 rfl
        obtain ⟨xs, d, rfl⟩ := grow_of_below hH.below
        clear hH
        try simp only [World.grow_drew] at hK ⊢
        try simp only [World.grow_grow] at hK ⊢
        simp only [e12] at hK ⊢
        clear e12
        go_simp
        go_wp2_with fail
        exact ⟨_, rfl, rfl, (by repeat (first | exact below_of_grow _ _ | exact Below.refl _ _ | exact below_more _ _ _ _ | (simp only [← Array.append_assoc]; first | exact below_more _ _ _ _ | exact below_same _ _ _ | exact Below.refl _ _) | exact below_same _ _ _ | (refine Below.alloc ?_ (by first | (simp; done) | (simp; omega)) _) | (refine Below.grow ?_ (by first | (simp; done) | (simp; omega)) _ _) | refine Below.drew ?_ | refine Below.drewN ?_ _ | (refine Below.putF ?_ (by first | (simp; done) | omega | (simp; omega)) _) | (refine Below.setCell ?_ (by first | (simp; done) | (simp; omega)) _))), fun h => by cases h⟩
      case o9 =>
        intro x w1 hH K hK
        have e12 : x 12 = _ := hH.holds 7 (by decide) (by decide +kernel) 12 rfl
        obtain ⟨xs, d, rfl⟩ := grow_of_below hH.below
        clear hH
        try simp only [World.grow_drew] at hK ⊢
        try simp only [World.grow_grow] at hK ⊢
        simp only [e12] at hK ⊢
        clear e12
        go_simp
        go_wp2_with fail
        exact ⟨_, rfl, rfl, (by repeat (first | exact below_of_grow _ _ | exact Below.refl _ _ | exact below_more _ _ _ _ | (simp only [← Array.append_assoc]; first | exact below_more _ _ _ _ | exact below_same _ _ _ | exact Below.refl _ _) | exact below_same _ _ _ | (refine Below.alloc ?_ (by first | (simp; done) | (simp; omega)) _) | (refine Below.grow ?_ (by first | (simp; done) | (simp; omega)) _ _) | refine Below.drew ?_ | refine Below.drewN ?_ _ | (refine Below.putF ?_ (by first | (simp; done) | omega | (simp; omega)) _) | (refine Below.setCell ?_ (by first | (simp; done) | (simp; omega)) _))), fun h => by cases h⟩
    case hend =>
      intro x w1 hH
      have e5 : x 5 = _ := hH.holds 0 (by decide) trivial 5 rfl
      have e6 : x 6 = _ := hH.holds 1 (by decide) trivial 6 rfl
      have e7 : x 7 = _ := hH.holds 2 (by decide) trivial 7 rfl
      have e8 : x 8 = _ := hH.holds 3 (by decide) trivial 8 rfl
      have e9 : x 9 = _ := hH.holds 4 (by decide) trivial 9 rfl
      have e10 : x 10 = _ := hH.holds 5 (by decide) trivial 10 rfl
      have e11 : x 11 = _ := hH.holds 6 (by decide) trivial 11 rfl
      have e12 : x 12 = _ := hH.holds 7 (by decide) trivial 12 rfl
      have e13 : x 13 = _ := hH.holds 8 (by decide) trivial 13 rfl
      have e14 : x 14 = _ := hH.holds 9 (by decide) trivial 14 rfl
      obtain ⟨xs, d, rfl⟩ := grow_of_below hH.below
      clear hH
      simp only [e5, e6, e7, e8, e9, e10, e11, e12, e13, e14]; clear e5 e6 e7 e8 e9 e10 e11 e12 e13 e14
      simp only [List.drop_succ_cons, List.drop_zero]
      gi_wp2
      obtain ⟨fn, tmps, assign, body, hy, hR⟩ := HN.out 8 xs d
      clear HN HP
      rw [hy]
      refine ⟨fun h => (by cases h), ?_⟩
      refine hR.mono ?_
      rintro e W3 (⟨rfl, hA⟩ | ⟨rfl, hC⟩)
      · gi_wp2
        go_ret
        exact .inl ⟨rfl, hA⟩
      · gi_wp2
        go_ret
        exact .inr ⟨rfl, hC⟩
end Go.Proofs.YtfgpcflegodlmaaGreatDoor.Rd
namespace Go.Proofs.YtfgpcflegodlmaaGreatDoor
open Go.RowKit

/-- every block from B on that is of a kind lies as it lay -/
structure KeepsX (kp : Obj → Bool) (B : Nat) (W W' : World) : Prop where
  size : W.heap.size ≤ W'.heap.size
  same : ∀ k o, B ≤ k → W.heap[k]? = some o → kp o = true → W'.heap[k]? = some o
section
variable {kp : Obj → Bool}
theorem KeepsX.refl (B : Nat) (W : World) : KeepsX kp B W W := ⟨Nat.le_refl _, fun _ _ _ h _ => h⟩
theorem KeepsX.trans {B : Nat} {W W' W'' : World} (h : KeepsX kp B W W') (h' : KeepsX kp B W' W'') : KeepsX kp B W W'' :=
  ⟨Nat.le_trans h.size h'.size, fun k o hB hk ho => h'.same k o hB (h.same k o hB hk ho) ho⟩
theorem KeepsX.more {B B' : Nat} {W W' : World} (h : KeepsX kp B W W') (hB : B ≤ B') : KeepsX kp B' W W' := ⟨h.size, fun k o hk => h.same k o (by omega)⟩
theorem KeepsX.some {B : Nat} {W W' : World} (h : KeepsX kp B W W') {k : Nat} {o : Obj} (ho : kp o = true) (hB : B ≤ k) (hk : W.heap[k]? = .some o) : W'.heap[k]? = .some o := h.same k o hB hk ho
theorem KeepsUp.x {B : Nat} {W W' : World} (h : KeepsUp B W W') : KeepsX kp B W W' := ⟨h.size, fun _ _ hB hk _ => h.some hB hk⟩
theorem KeepsX.alloc (B : Nat) (W : World) (o : Obj) : KeepsX kp B W (W.alloc o) := (KeepsUp.alloc B W o).x
theorem KeepsX.putObj {B : Nat} {W : World} {l : Nat} (o : Obj) (h : l < B) : KeepsX kp B W (W.putObj l o) := (KeepsUp.putObj o h).x
theorem KeepsX.setCell {B : Nat} {W : World} {b i : Nat} (v : Value) (h : b < B) : KeepsX kp B W (W.setCell ⟨b, i, none⟩ v) := (KeepsUp.setCell v h).x
theorem KeepsX.of_below {B : Nat} {W W' : World} (h : Below W.heap.size W W') : KeepsX kp B W W' := (KeepsUp.of_below h).x
end

/-- how a round's body may be left -/
def ownPostX {α : Type} (kp : Obj → Bool) (B : Nat) (Kp : World → World → Prop) (I : List α → World → Prop) (Ix : Code → List α → World → Prop) (xs : List α) (W : World) : Exit → Act → World → Prop
  | .normal, _, W' => KeepsX kp B W W' ∧ Kp W W' ∧ I xs W'
  | .ret, _, W' => KeepsX kp B W W' ∧ Ix .ret xs W'
  | .exit id, _, W' => KeepsX kp B W W' ∧ Ix (.exit id) xs W'
  | .goto t, _, W' => KeepsX kp B W W' ∧ Ix (.goto t) xs W'
  | .panic _, _, _ => False
  | .outgrown, _, _ => False
/-- the contract of an iterator -/
def SeqStopsX {α : Type} (kp : Obj → Bool) (F : Fence) (n : Nat) (P : Program) (g : Nat) (lb : Array Value) (encs : α → Array Value) (Kp : World → World → Prop) (S Sp : List α → Prop) (N : Nat) (w : World) : Prop :=
  ∀ (l : Nat) (J Jx : List α → World → Prop) (W : World), Below w.heap.size w W → OwnFrom W.heap.size J → OwnFrom W.heap.size Jx →
    (∀ pre x W1, J pre W1 → pre.length < N → YieldAt F (n - 1) P l (encs x) W1 fun e W' =>
      ((e = .returned (.bool true) ∧ J (pre ++ [x]) W' ∧ Kp W1 W') ∨ (e = .returned (.bool false) ∧ Jx (pre ++ [x]) W')) ∧ KeepsX kp W.heap.size W1 W') →
    J [] W →
    CallsIn F n P g (#[.func (.yield l) #[] #[]] ++ lb) W fun e W' => (∃ v, e = .returned v) ∧ ((∃ xs, S xs ∧ J xs W') ∨ (∃ pre, Sp pre ∧ Jx pre W'))

section
variable {F : Fence} {n : Nat} {P : Program}
theorem wpIn_rangeX {kp : Obj → Bool} (hkp : ∀ o : Obj, o.isCells = false → kp o = true) {α : Type} {g : Operand} {ps : Array Tmp} {assign body : Code} {Q : Exit → Act → World → Prop} {a : Act} {w : World}
    (hro : F.round = none) (h1 : 1 ≤ n) {gf : Nat} {lb : Array Value} (hg : a.eval g = .func (.func gf) #[] lb) (hFg : F.fn gf) (eg : ∀ args w, (callFunc gf args).run P w = .ok (.enter gf args) w)
    {encs : α → Array Value} {Kp : World → World → Prop} {S Sp : List α → Prop} {N : Nat} {w0 : World} (hseq : SeqStopsX kp F (n - 1) P gf lb encs Kp S Sp N w0)
    (hKt : ∀ {A B C : World}, Kp A B → Kp B C → Kp A C) (hKb : ∀ (W : World) (l : Nat) (o o' : Obj), w.heap.size ≤ l → W.heap[l]? = some o → o.isCells = false → o.isWalk = false → Kp W (W.putObj l o'))
    (hb0 : Below w0.heap.size w0 w) (hps : ∀ x, (encs x).size = ps.size)
    (I : List α → World → Prop) (Ix : Code → List α → World → Prop) (hI : OwnFrom w.heap.size I) (hIx : ∀ c, OwnFrom w.heap.size (Ix c)) (h0 : I [] w)
    (Ax : α → Act → World → Prop) (hAx : ∀ x a', OwnFrom w.heap.size (fun (_ : Unit) W => Ax x a' W))
    (hassign : ∀ (l : Nat) (pre : List α) (x : α) (W : World) (K : Act → World → Prop), I pre W → (∀ a' W', KeepsX kp w.heap.size W W' → Kp W W' → I pre W' → Ax x a' W' → K a' W') →
      assign.wpIn (F.inRound l) (n - 1 - 1) P (Exit.then K (fun _ _ _ => False)) { tmps := (ps.zip (encs x)).foldl (fun t (p, v) => t.setIfInBounds p v) a.tmps, defers := [] } W)
    (hbody : ∀ (l : Nat) (pre : List α) (x : α) (a' : Act) (W : World), I pre W → Ax x a' W → pre.length < N → body.wpIn (F.inRound l) (n - 1 - 1) P (ownPostX kp w.heap.size Kp I Ix (pre ++ [x]) W) a' W)
    (hdone : ∀ (D : Nat) (xs : List α) (W : World), w.heap.size ≤ D → S xs → I xs W → W.heap[D]? = some (.deferred (some [])) → Q .normal { a with defers := { target := .collected D, args := #[] } :: a.defers } W)
    (hstop : ∀ (D : Nat) (c : Code) (pre : List α) (W : World), w.heap.size ≤ D → Sp pre → Ix c pre W → W.heap[D]? = some (.deferred (some [])) → c.wpIn F n P Q { a with defers := { target := .collected D, args := #[] } :: a.defers } W) :
    (Code.rangeFunc g ps assign body).wpIn F n P Q a w := by
  refine wpIn_rangeFunc fun fn hfn => ?_
  obtain ⟨s, hs⟩ : ∃ s, s = w.heap.size := ⟨_, rfl⟩
  obtain ⟨R, hR⟩ : ∃ R : LoopState → Option Code → Loop, R = fun st pe => { state := st, pending := pe, fn := fn, tmps := a.tmps, params := ps, assign := assign, body := body, defers := s } := ⟨_, rfl⟩
  have hRs : ∀ st pe st', ({ R st pe with state := st' } : Loop) = R st' pe := by intro st pe st'; rw [hR]
  have hRp : ∀ st pe st' pe', ({ R st pe with state := st', pending := pe' } : Loop) = R st' pe' := by intro st pe st' pe'; rw [hR]
  -- the two blocks that the statement lays
  let Bk : LoopState → Option Code → World → Prop := fun st pe W => W.heap[s + 1]? = some (.loop (R st pe)) ∧ W.heap[s]? = some (.deferred (some []))
  have bput : ∀ {st pe W} (st' : LoopState) (pe' : Option Code), Bk st pe W → Bk st' pe' (W.putObj (s + 1) (.loop (R st' pe'))) := fun st' pe' h =>
    ⟨World.putObj_heap_same (Array.getElem?_eq_some_iff.1 h.1).1, (World.putObj_heap_other (by omega)).trans h.2⟩
  have bturn : ∀ {st pe A B row}, Bk st pe A → A.grownBy B row → (∀ r, row = some r → s + 2 ≤ r) → Bk st pe B := fun h hgr hr =>
    ⟨(hgr.block _ (Array.getElem?_eq_some_iff.1 h.1).1 (fun e => by have := hr _ e.symm; omega)).trans h.1, (hgr.block _ (Array.getElem?_eq_some_iff.1 h.2).1 (fun e => by have := hr _ e.symm; omega)).trans h.2⟩
  obtain ⟨W1, hW1⟩ : ∃ W1, (w.alloc (.deferred (some []))).alloc (.loop (R .ready none)) = W1 := ⟨_, rfl⟩
  have hz : W1.heap.size = s + 2 := by rw [← hW1, hs]; simp
  have hB1 : Bk .ready none W1 := by
    refine ⟨?_, ?_⟩
    · rw [← hW1, hs]; have := World.alloc_heap_new (w.alloc (.deferred (some []))) (.loop (R .ready none)); rwa [World.size_alloc] at this
    · rw [← hW1, hs]; exact (Below.heap_alloc _ _ _ (by simp)).trans (World.alloc_heap_new w _)
  have hI1 : I [] W1 := by rw [← hW1]; exact hI.alloc _ (hI.alloc _ h0)
  have hbw : Below w0.heap.size w0 W1 := by
    rw [← hW1]; exact hb0.trans ((((Below.refl _ w).alloc (Nat.le_refl _) _).alloc (by simp) _).mono hb0.size)
  refine ⟨s + 1, [{ target := .collected s, args := #[] }], W1, { target := .fn (.func gf) lb, args := #[.func (.yield (s + 1)) #[] #[]] }, W1, gf, #[.func (.yield (s + 1)) #[] #[]] ++ lb, W1, ?_, ?_, ?_, ?_, fun _ => h1, ?_⟩
  · rw [hro, run_enterLoop_outer, ← hW1, hR, hs]
  · simp only [resolve, hg]
    simp [go_sem]
  · intro f' hf'; simp [Target.leads] at hf'; subst hf'; exact hFg
  · simp [invoke, go_sem, eg]
  refine (hseq (s + 1) (fun pre W => I pre W ∧ Bk .ready none W) (fun pre W => ∃ c, Ix c pre W ∧ Bk .done (some c) W) W1 hbw ?_ ?_ ?_ ⟨hI1, hB1⟩).mono ?_
  · intro pre A B row hJ hgr hr
    exact ⟨hI pre A B row hJ.1 hgr (fun r e => ⟨by have := (hr r e).1; omega, (hr r e).2⟩), bturn hJ.2 hgr (fun r e => by have := (hr r e).1; omega)⟩
  · rintro pre A B row ⟨c, hc, hb⟩ hgr hr
    exact ⟨c, hIx c pre A B row hc hgr (fun r e => ⟨by have := (hr r e).1; omega, (hr r e).2⟩), bturn hb hgr (fun r e => by have := (hr r e).1; omega)⟩
  · -- a round
    rintro pre x W ⟨hi, hb⟩ hlen
    have hy := run_yield (P := P) (args := encs x) hb.1 (by rw [hR]; exact hps x)
    have hfn' : (R .ready none).fn = fn ∧ (R .ready none).tmps = a.tmps ∧ (R .ready none).params = ps ∧ (R .ready none).assign = assign ∧ (R .ready none).body = body ∧ (R .ready none).state = .ready := by rw [hR]; exact ⟨rfl, rfl, rfl, rfl, rfl, rfl⟩
    rw [hfn'.1, hfn'.2.1, hfn'.2.2.1, hfn'.2.2.2.1, hfn'.2.2.2.2.1] at hy
    refine ⟨fn, _, assign, body, hy, roundIn_of_wpIn hfn (hassign _ pre x W _ hi fun a' Wa hka hkpa hia hax => ?_)⟩
    have hba : Bk .ready none Wa := ⟨hka.some (hkp _ rfl) (by omega) hb.1, hka.some (hkp _ rfl) (by omega) hb.2⟩
    refine ⟨_, run_beginRound hba.1 hfn'.2.2.2.2.2, ?_⟩
    rw [hRs]
    have hb2 := bput .busy none hba
    have hk2 : Kp W (Wa.putObj (s + 1) (.loop (R .busy none))) := hKt hkpa (hKb _ _ _ _ (by omega) hba.1 rfl rfl)
    refine wpIn_mono (hbody _ pre x a' _ (hI.putObj _ hia (by omega) hba.1 rfl) ((hAx x a').putObj (s := ()) _ hax (by omega) hba.1 rfl) hlen) ?_
    have leave : ∀ (jump : Option Code) (W3 : World), KeepsX kp w.heap.size (Wa.putObj (s + 1) (.loop (R .busy none))) W3 → Bk .busy none W3 ∧
        (Instr.endRound (s + 1) jump).run P W3 = .ok (.bool jump.isNone) (W3.putObj (s + 1) (.loop (R (if jump.isNone then .ready else .done) jump))) ∧
        KeepsX kp W1.heap.size W (W3.putObj (s + 1) (.loop (R (if jump.isNone then .ready else .done) jump))) := fun jump W3 hk => by
      have h3 : Bk .busy none W3 := ⟨hk.some (hkp _ rfl) (by omega) hb2.1, hk.some (hkp _ rfl) (by omega) hb2.2⟩
      refine ⟨h3, ?_, ((hka.more (by omega)).trans ((KeepsX.putObj _ (by omega)).trans (hk.more (by omega)))).trans (KeepsX.putObj _ (by omega))⟩
      have := run_endRound (P := P) jump h3.1
      rwa [hRp] at this
    rintro e a3 W3 hp
    cases e with
    | normal =>
      obtain ⟨h3, hr, hkb⟩ := leave none W3 hp.1
      exact ⟨_, _, hr, .inl ⟨rfl, ⟨hI.putObj _ hp.2.2 (by omega) h3.1 rfl, bput _ _ h3⟩, hKt (hKt hk2 hp.2.1) (hKb _ _ _ _ (by omega) h3.1 rfl rfl)⟩, hkb⟩
    | ret =>
      obtain ⟨h3, hr, hkb⟩ := leave (some .ret) W3 hp.1
      exact ⟨_, _, hr, .inr ⟨rfl, .ret, (hIx _).putObj _ hp.2 (by omega) h3.1 rfl, bput _ _ h3⟩, hkb⟩
    | exit id =>
      obtain ⟨h3, hr, hkb⟩ := leave (some (.exit id)) W3 hp.1
      exact ⟨_, _, hr, .inr ⟨rfl, .exit id, (hIx _).putObj _ hp.2 (by omega) h3.1 rfl, bput _ _ h3⟩, hkb⟩
    | goto t =>
      obtain ⟨h3, hr, hkb⟩ := leave (some (.goto t)) W3 hp.1
      exact ⟨_, _, hr, .inr ⟨rfl, .goto t, (hIx _).putObj _ hp.2 (by omega) h3.1 rfl, bput _ _ h3⟩, hkb⟩
    | panic ch => exact hp.elim
    | outgrown => exact hp.elim
  · -- behind the iterator
    have hst : ∀ st pe, (R st pe).state = st ∧ (R st pe).pending = pe := by intro st pe; rw [hR]; exact ⟨rfl, rfl⟩
    rintro e W2 ⟨⟨v, rfl⟩, ⟨xs, hS, hi, hb⟩ | ⟨pre, hSp, c, hi, hb⟩⟩
    · have := run_endLoop (P := P) hb.1 (by rw [(hst _ _).1]; simp)
      rw [hRs, (hst _ _).2] at this
      exact ⟨none, _, this, hs ▸ hdone s xs _ (by omega) hS (hI.putObj _ hi (by omega) hb.1 rfl) (bput .exhausted none hb).2⟩
    · have := run_endLoop (P := P) hb.1 (by rw [(hst _ _).1]; simp)
      rw [hRs, (hst _ _).2] at this
      exact ⟨some c, _, this, hs ▸ hstop s c pre _ (by omega) hSp ((hIx c).putObj _ hi (by omega) hb.1 rfl) (bput .exhausted (some c) hb).2⟩
end
end Go.Proofs.YtfgpcflegodlmaaGreatDoor
namespace Go.Proofs.YtfgpcflegodlmaaGreatDoor
set_option maxRecDepth 100000
open Go.RowKit Go.Shelf

def lvs : Option (CT K25) → List (Nat × K25 × Nat)
  | none => []
  | some T => T.list
/-- a leaf of a tree -/
def Lf (R : Option (CT K25)) : Type := {x : Nat × K25 × Nat // x ∈ lvs R}
def encLf (R : Option (CT K25)) (x : Lf R) : Array Value := #[pt x.1.1]
def valsL {R : Option (CT K25)} (ys : List (Lf R)) : List (Nat × K25 × Nat) := ys.map fun x => x.1
/-- some blocks lie as they lay; nothing else than memory turned -/
structure KeepS (S : Nat → Prop) (W W' : World) : Prop where
  os : W'.os = W.os
  tape : W'.tape = W.tape
  output : W'.output = W.output
  size : W.heap.size ≤ W'.heap.size
  same : Sm S W W'
theorem KeepS.refl (S : Nat → Prop) (W : World) : KeepS S W W := ⟨rfl, rfl, rfl, Nat.le_refl _, fun _ _ => rfl⟩
theorem KeepS.trans {S : Nat → Prop} {A B C : World} (h : KeepS S A B) (k : KeepS S B C) : KeepS S A C :=
  ⟨k.os.trans h.os, k.tape.trans h.tape, k.output.trans h.output, Nat.le_trans h.size k.size, h.same.trans k.same⟩
theorem KeepS.of_below {S : Nat → Prop} {B : Nat} {W W' : World} (h : Below B W W') (hS : ∀ b, S b → b < B) : KeepS S W W' := ⟨h.os, h.tape, h.output, h.size, fun b hb => h.block b (hS b hb)⟩
theorem keepS_b {S : Nat → Prop} {B : Nat} (hS : ∀ b, S b → b < B) (W : World) (l : Nat) (o o' : Obj) (hl : B ≤ l) (_h : W.heap[l]? = some o) (_hc : o.isCells = false) (_hw : o.isWalk = false) : KeepS S W (W.putObj l o') := by
  refine ⟨rfl, rfl, rfl, by simp, fun b hb => World.putObj_heap_other ?_⟩
  have := hS b hb; omega
theorem grown_below {w w' : World} (h : Below w.heap.size w w') (row : Option Nat) : w.grownBy w' row := ⟨h.os, h.tape, h.output, h.size, fun k hk _ => h.block k hk⟩
theorem own_belowI {β : Type} {B : Nat} {I : β → World → Prop} (h : OwnFrom B I) {s : β} {W W' : World} (hs : I s W) (hb : Below W.heap.size W W') : I s W' :=
  h s W W' none hs (grown_below hb none) (fun r e => by cases e)
theorem yieldAt_mono {F : Fence} {m : Nat} {P : Program} {l : Nat} {args : Array Value} {W : World} {R R' : Ending → World → Prop} (h : YieldAt F m P l args W R) (hR : ∀ e w, R e w → R' e w) : YieldAt F m P l args W R' := by
  obtain ⟨fn, tmps, assign, body, hy, hr⟩ := h
  exact ⟨fn, tmps, assign, body, hy, hr.mono hR⟩
theorem front_more (fr : List UInt8) (pre : List (Nat × K25 × Nat)) (x : Nat × K25 × Nat) : frontL fr (pre ++ [x]) = if hasF fr x.2.1.val = true then frontL fr pre ++ [x] else frontL fr pre := by
  unfold frontL
  rw [List.filter_append]
  by_cases h : hasF fr x.2.1.val = true
  · rw [if_pos h]; simp [h]
  · rw [if_neg h]; simp [h]
theorem front_pre (fr : List UInt8) {p l : List (Nat × K25 × Nat)} (h : p <+: l) : frontL fr p <+: frontL fr l := by
  obtain ⟨r, rfl⟩ := h
  unfold frontL
  rw [List.filter_append]
  exact List.prefix_append _ _
section
variable {w : World} {B : Nat} {fv : Value} {fr : List UInt8}
theorem setRow_but {W : World} {g : Nat} {c c' : Array Value} {t : TypeId} (_hg : W.heap[g]? = some (.cells c t)) : But [g] W (W.setRow g c') := by
  refine ⟨rfl, rfl, rfl, ?_, fun b hb hn => ?_⟩
  · simp [World.setRow]
  · have : b ≠ g := fun e => hn (by rw [e]; exact List.mem_singleton.2 rfl)
    have h2 : ¬ g = b := fun e => this e.symm
    simp only [World.setRow, Array.getElem?_modify, if_neg h2]
theorem copy_front (hS : SlB w B fv fr) (hfr : fr.length ≤ 25) {g : Nat} {t : TypeId} (hg : w.heap[g]? = some (.cells (row8 (zeros 25)) t)) (ty : TypeId) :
    (Builtin.copy_ #[213, 213] ty #[.slice (some ⟨g, 0, none⟩) 25 25, fv]).run Tryz.prog w = .ok (goInt (fr.length : Int)) (w.setRow g (row8 (fr ++ zeros (25 - fr.length)))) := by
  obtain ⟨a, cap, rfl, h2, h3, h4⟩ := hS
  have hi : (Tryz.prog.info? 5).map (·.size) = some 1 := by kernel_rfl
  rcases Nat.eq_zero_or_pos fr.length with h0 | h0
  · have hl : fr = [] := List.eq_nil_of_length_eq_zero h0
    subst hl
    have e := setRow_self w g (row8 (zeros 25)) t (0, 0) hg
    have := run_copy_none (P := Tryz.prog) w 213 213 ty 5 (some ⟨g, 0, none⟩) a 25 25 0 cap Tryz.underlying213 hi (by rfl)
    simp only [List.length_nil, List.nil_append]
    rw [this, show 25 - 0 = 25 from rfl, e]; rfl
  · obtain ⟨b, o, rfl, hb, hc⟩ := h4 h0
    have hmin : Nat.min fr.length 25 = fr.length := Nat.min_eq_left hfr
    have hlen : ((row8 fr).toList).length = fr.length := by simp
    have := run_copy_row (P := Tryz.prog) w 213 213 ty 5 g 0 25 25 ⟨b, o, none⟩ fr.length cap _ t (row8 fr).toList Tryz.underlying213 hi hg (by rw [hlen, hmin]) (fun j v hv => by
      rw [addr_add, (cut_spec hc).2 j (by have := (List.getElem?_eq_some_iff.1 hv).1; omega), ← hv]; simp) (by rw [hlen]; simp [zeros]; omega)
      (fun v hv => (Array.all_eq_true_iff_forall_mem.1 (show (row8 fr).all (·.oneCell') = true from allOne_row8 fr)) v (by simpa using hv))
    rw [this]
    congr 1
    · rw [hlen]
    · congr 1
      apply Array.ext'
      rw [hlen, Nat.zero_add]
      simp only [row8, zeros, List.map_append, List.map_replicate, List.take_zero, List.nil_append, List.drop_replicate]
end
theorem walk_nil (w : World) (v : Value) : Calls Tryz.prog 133 #[.pointer none, v] w fun e W' => e = .returned (.bool true) ∧ W' = w := by
  go_enter Tryz.func133, Tryz.ntmps133
  go_wp2_with fail
  go_ret
  exact ⟨rfl, rfl⟩
/-- what a leaf's call must find and keep -/
theorem leaf_step {kp : Obj → Bool} (S : Nat → Prop) (R : Option (CT K25)) (l Fb Yb : Nat) (fv : Value) (fr : List UInt8) (W W2 : World) (J Jx : List (Lf R) → World → Prop) (hJ : OwnFrom W.heap.size J) (n N : Nat) (hN : N = (frontL fr (lvs R)).length)
    (hSW : ∀ b, S b → b < W.heap.size) (hY : ∀ pre x W1, J pre W1 → pre.length < N → YieldAt Fence.wide (n - 1) Tryz.prog l (encLf R x) W1 fun e W' =>
      ((e = .returned (.bool true) ∧ J (pre ++ [x]) W' ∧ KeepS S W1 W') ∨ (e = .returned (.bool false) ∧ Jx (pre ++ [x]) W')) ∧ KeepsX kp W.heap.size W1 W')
    (hFb : S Fb) (hcF : ∀ W', KeepS S W2 W' → W'.cell? ⟨Fb, 0, none⟩ = some fv) (hF : ∀ W', KeepS S W2 W' → SlB W' W.heap.size fv fr) (hfr : fr.length ≤ 25)
    (hYb : W2.heap[Yb]? = some (.cells #[.func (.yield l) #[] #[]] 278)) (hky : kp (.cells #[.func (.yield l) #[] #[]] 278) = true) (hYl : W.heap.size ≤ Yb) (hW2 : W.heap.size ≤ W2.heap.size)
    (L : List (Nat × K25 × Nat)) (hL : ∀ x ∈ L, x ∈ lvs R) (hLf : frontL fr L = frontL fr (lvs R))
    (pre : List (Nat × K25 × Nat)) (x : Nat × K25 × Nat) (Wx : World) (hpx : pre ++ [x] <+: L) (hx : LeafAt Wx x)
    (hj : ∃ ys : List (Lf R), valsL ys = frontL fr pre ∧ J ys Wx ∧ KeepS S W2 Wx ∧ KeepsX kp W.heap.size W2 Wx) :
    Calls Tryz.prog 134 #[pt x.1, .pointer (some ⟨Fb, 0, none⟩), .pointer (some ⟨Yb, 0, none⟩)] Wx fun e W' =>
      (e = .returned (.bool true) ∧ (∃ ys : List (Lf R), valsL ys = frontL fr (pre ++ [x]) ∧ J ys W' ∧ KeepS S W2 W' ∧ KeepsX kp W.heap.size W2 W') ∧ Sm S Wx W') ∨
      (e = .returned (.bool false) ∧ ∃ ys : List (Lf R), valsL ys = frontL fr (pre ++ [x]) ∧ Jx ys W') := by
  obtain ⟨ys, hys, hJy, hk, hu⟩ := hj
  have hxm : x ∈ lvs R := hL x (hpx.subset (by simp))
  have hWl : W.heap.size ≤ Wx.heap.size := Nat.le_trans hW2 hk.size
  have hyb := hu.some hky hYl hYb
  have hgb : ∀ xs d, Below Wx.heap.size Wx (Wx.grow xs d) := fun xs d => below_of_grow xs d
  refine (Rd.leaf_in l Fb Yb W.heap.size fv fr x Wx
    (fun W' => (∃ ys : List (Lf R), valsL ys = frontL fr (pre ++ [x]) ∧ J ys W' ∧ KeepS S W2 W' ∧ KeepsX kp W.heap.size W2 W') ∧ Sm S Wx W')
    (fun W' => ∃ ys : List (Lf R), valsL ys = frontL fr (pre ++ [x]) ∧ Jx ys W')
    hx (hcF _ hk) (by have := hSW _ hFb; omega) (hF _ hk) (by unfold World.cell?; rw [hyb]; rfl) (lt_of_heap hyb) hWl hfr ?_ ?_).mono ?_
  · intro hno xs d
    have hks : KeepS S Wx (Wx.grow xs d) := KeepS.of_below (hgb xs d) (fun b hb => by have := hSW b hb; omega)
    refine ⟨⟨ys, ?_, own_belowI hJ hJy (hgb xs d), hk.trans hks, hu.trans (KeepsX.of_below (hgb xs d))⟩, hks.same⟩
    rw [front_more, if_neg (by rw [hno]; decide), hys]
  · intro hyes m xs d
    have hks : KeepS S Wx (Wx.grow xs d) := KeepS.of_below (hgb xs d) (fun b hb => by have := hSW b hb; omega)
    have hfx : frontL fr (pre ++ [x]) = frontL fr pre ++ [x] := by rw [front_more, if_pos hyes]
    have hlen : ys.length < N := by
      have h1 := (front_pre fr hpx).length_le
      rw [hfx, hLf, ← hN, List.length_append, ← hys] at h1
      simp [valsL] at h1; omega
    refine yieldAt_mono (yieldAt_any rfl m (hY ys ⟨x, hxm⟩ (Wx.grow xs d) (own_belowI hJ hJy (hgb xs d)) hlen)) ?_
    rintro e W' ⟨⟨rfl, h1, h2⟩ | ⟨rfl, h1⟩, h3⟩
    · refine .inl ⟨rfl, ⟨_, ?_, h1, hk.trans (hks.trans h2), hu.trans ((KeepsX.of_below (hgb xs d)).trans h3)⟩, (hks.trans h2).same⟩
      rw [hfx, ← hys]; exact List.map_append
    · refine .inr ⟨rfl, _, ?_, h1⟩
      rw [hfx, ← hys]; exact List.map_append
  · rintro e W' (⟨rfl, h1, h2⟩ | ⟨rfl, h1⟩)
    · exact .inl ⟨rfl, h1, h2⟩
    · exact .inr ⟨rfl, h1⟩
end Go.Proofs.YtfgpcflegodlmaaGreatDoor

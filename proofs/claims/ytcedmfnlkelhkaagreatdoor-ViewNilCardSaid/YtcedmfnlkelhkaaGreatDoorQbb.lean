/- The document's tags: a tag's text; the tag of ten bytes. -/
import Derived.Test.YtcedmfnlkelhkaaGreatDoorQaz
import Derived.Handy
import Derived.Test.YtcedmfnlkelhkaaGreatDoorQba
import Derived.BigRegion
import Derived.Test.YtcedmfnlkelhkaaGreatDoorQay
namespace Go.Proofs.YtcedmfnlkelhkaaGreatDoor
theorem zxQbb {p : Prop} (h : p := by (go_simp; go_wp2_with fail; exact ⟨_, rfl, rfl, blv, fun h => by cases h⟩)) : p := h
set_option maxRecDepth 100000
open Go.RowKit

@[go_sem, simp] theorem tag3A_0E (x : Tag3) (h : 0 < (tag3A x).size) : (tag3A x)[0]'h = .string (bs x.1) := id rfl
@[go_sem, simp] theorem tag3A_1E (x : Tag3) (h : 1 < (tag3A x).size) : (tag3A x)[1]'h = .string (bs x.2.1) := id rfl
@[go_sem, simp] theorem tag3A_2E (x : Tag3) (h : 2 < (tag3A x).size) : (tag3A x)[2]'h = .string (bs x.2.2) := id rfl
theorem dash_appL (a b : List UInt8) (h : b ≠ []) : bs a ++ (ByteArray.mk #[45]) ++ bs b = bs (a ++ dashed b) := by
 unfold dashed
 rw [if_neg h, show (ByteArray.mk #[45] : ByteArray) = bs [45] from rfl, bs_append, bs_append]
 simp
set_option maxHeartbeats 8000000 in
theorem refTextT_gives (x : Tag3) (hx : OkT x) (w : World) : Gives Tryz.prog 82 #[.agg (tag3A x)] w (.string (bs (refText x))) := by
 obtain ⟨a, b, c⟩ := x
 obtain ⟨l1, l2, l3⟩ := hx
 simp only at l1 l2 l3
 have hR := Lib.hid (show refText (a, b, c) = if a = [] then rootL else a ++ dashed b ++ dashed c from rfl)
 have hz1 := bs_size a
 have hz2 := bs_size b
 have hz3 := bs_size c
 by_cases h1 : a = []
 ·have e1 : (a == []) = true := by rw [h1]; rfl
  have HF := Lib.hid (show refText (a, b, c) = rootL by rw [hR.out, if_pos h1])
  clear h1
  unfold Gives
  go_enter Tryz.func82, Tryz.ntmps82
  go_wp2_with fail
  go_ret
  exact ⟨congrArg (fun l => Ending.returned (Value.string (bs l))) HF.out.symm, blw⟩
 ·have e1 : (a == []) = false := beq_eq_false_iff_ne.2 h1
  have HF := Lib.hid (show refText (a, b, c) = a ++ dashed b ++ dashed c by rw [hR.out, if_neg h1])
  have b1 : (bs a).size ≤ 1000 := by rw [hz1]; exact l1
  have b2 : (bs b).size ≤ 1000 := by rw [hz2]; exact l2
  have b3 : (bs c).size ≤ 1000 := by rw [hz3]; exact l3
  clear h1 hR hz1 hz2 hz3
  by_cases h2 : b = []
  ·have e2 : (b == []) = true := by rw [h2]; rfl
   have HD2 := Lib.hid (show a ++ dashed b = a by rw [h2]; simp [dashed])
   by_cases h3 : c = []
   ·have e3 : (c == []) = true := by rw [h3]; rfl
    have HD3 := Lib.hid (show a ++ dashed c = a by rw [h3]; simp [dashed])
    clear h2 h3
    unfold Gives
    go_enter Tryz.func82, Tryz.ntmps82
    go_wp2_with fail
    go_ret
    exact ⟨congrArg (fun l => Ending.returned (Value.string (bs l))) (by rw [HF.out, HD2.out, HD3.out]), blw⟩
   ·have e3 : (c == []) = false := beq_eq_false_iff_ne.2 h3
    have HD3 := Lib.hid (dash_appL a c h3)
    clear h2 h3
    unfold Gives
    go_enter Tryz.func82, Tryz.ntmps82
    go_wp2_with fail
    go_ret
    exact ⟨congrArg (fun z => Ending.returned (Value.string z)) (HD3.out.trans (congrArg bs (by rw [HF.out, HD2.out]))), blw⟩
  ·have e2 : (b == []) = false := beq_eq_false_iff_ne.2 h2
   have HD2 := Lib.hid (dash_appL a b h2)
   by_cases h3 : c = []
   ·have e3 : (c == []) = true := by rw [h3]; rfl
    have HD3 := Lib.hid (show (a ++ dashed b) ++ dashed c = a ++ dashed b by rw [h3]; simp [dashed])
    clear h2 h3
    unfold Gives
    go_enter Tryz.func82, Tryz.ntmps82
    go_wp2_with fail
    go_ret
    exact ⟨congrArg (fun z => Ending.returned (Value.string z)) (HD2.out.trans (congrArg bs (by rw [HF.out, HD3.out]))), blw⟩
   ·have e3 : (c == []) = false := beq_eq_false_iff_ne.2 h3
    have HD3 := Lib.hid (dash_appL (a ++ dashed b) c h3)
    clear h2 h3
    unfold Gives
    go_enter Tryz.func82, Tryz.ntmps82
    go_wp2_with fail
    go_ret
    exact ⟨congrArg (fun z => Ending.returned (Value.string z)) (show bs a ++ (ByteArray.mk #[45]) ++ bs b ++ (ByteArray.mk #[45]) ++ bs c = bs (refText (a, b, c)) by rw [HD2.out, HD3.out, HF.out]), blw⟩
end Go.Proofs.YtcedmfnlkelhkaaGreatDoor
namespace Go.Proofs.YtcedmfnlkelhkaaGreatDoor
set_option maxRecDepth 100000
open Go.RowKit

theorem split_ok {l : List UInt8} (hl : l.length = 10) : OkT (splitT l) := by
 have h1 := partT_len (l.take 3)
 have h2 := partT_len ((l.drop 3).take 4)
 have h3 := partT_len (l.drop 7)
 simp only [List.length_take, List.length_drop] at h1 h2 h3
 exact ⟨by show (partT _).length ≤ 1000; omega, by show (partT _).length ≤ 1000; omega, by show (partT _).length ≤ 1000; omega⟩
theorem good_ok {x : Tag3} (h : GoodT x) : OkT x := ⟨by have := h.1.1; omega, by have := h.2.1.1; omega, by have := h.2.2.1; omega⟩
theorem refText_len {l : List UInt8} (hl : l.length = 10) : (refText (splitT l)).length ≤ 1000 := by
 have h1 := partT_len (l.take 3)
 have h2 := partT_len ((l.drop 3).take 4)
 have h3 := partT_len (l.drop 7)
 simp only [List.length_take, List.length_drop] at h1 h2 h3
 unfold refText
 split
 ·decide
 ·have d1 := dashed_len (splitT l).2.1
  have d2 := dashed_len (splitT l).2.2
  rw [List.length_append, List.length_append]
  have e1 : (splitT l).1.length ≤ 10 := by show (partT _).length ≤ 10; omega
  have e2 : (splitT l).2.1.length ≤ 10 := by show (partT _).length ≤ 10; omega
  have e3 : (splitT l).2.2.length ≤ 10 := by show (partT _).length ≤ 10; omega
  omega
@[go_sem ↓ high] theorem eq_tag3R (x y : Tag3) (hx : OkT x) (hy : OkT y) (w : World) : (Op.equalIn 10000 148 (.agg (tag3A x)) (.agg (tag3A y))).run Tryz.prog w = .ok (decide (x = y)) w := eq_tag3 x y hx hy w
set_option maxHeartbeats 20000000 in
theorem refTagOf_gives (l : List UInt8) (hl : l.length = 10) (w : World) : Gives Tryz.prog 44 #[.agg (row8 l)] w (.tuple #[.agg (tag3A (refOf l).1), .bool (refOf l).2]) := by
 have hro : refOf l = if (splitT l).1 = [] then (zT3, decide (splitT l = zT3)) else if refTag (refText (splitT l)) = some (splitT l) then (splitT l, true) else (zT3, false) := rfl
 have hok := split_ok hl
 have HRO := Lib.hid hro
 have HTX := Lib.hid (refTextT_gives (splitT l) hok)
 have HPA := Lib.hid (refParse_gives (refText (splitT l)) (refText_len hl))
 have hst : (splitT l) = (partT (l.take 3), partT ((l.drop 3).take 4), partT (l.drop 7)) := rfl
 obtain ⟨ro, hroe⟩ : ∃ ro, ro = refOf l := ⟨_, rfl⟩
 rw [← hroe] at HRO ⊢
 clear hro hroe
 unfold Gives
 go_enter Tryz.func44, Tryz.ntmps44
 go_upto_region 1 with fail
 refine wp_name ?_
 intro W1 hW1
 obtain ⟨lb, hlb⟩ : ∃ lb, lb = w.heap.size := ⟨_, rfl⟩
 have hb1 : Below w.heap.size w W1 := by rw [hW1]; exact ((Below.refl _ w).alloc (Nat.le_refl _) _).alloc (by simp) _
 have hl1 : W1.heap[lb]? = some (.cells (row8 l) 71) := by rw [hW1, hlb, heap_al, if_neg (by simp), heap_al, if_pos rfl]
 have hr1 : W1.heap[lb + 1]? = some (.cells (tag3A zT3) 148) := by rw [hW1, hlb, heap_al, if_pos (by simp)]; rfl
 rw [← hlb]
 have hrow : Row8 W1 lb 0 l := fun j hj => by rw [Nat.zero_add]; exact ((row_is hl1 j).1).trans (row8_get l j hj)
 have h1 : Row8 W1 lb 0 (l.take 3) := hrow.take 3
 have h2 : Row8 W1 lb 3 ((l.drop 3).take 4) := by have := hrow.part 3 4; rwa [Nat.zero_add] at this
 have h3 : Row8 W1 lb 7 (l.drop 7) := by
  have := hrow.part 7 3
  rw [Nat.zero_add, List.take_of_length_le (by simp; omega)] at this
  exact this
 have hll := lt_of_some hr1
 have hll0 : lb < W1.heap.size := by omega
 have C1 := Lib.hid (fun xs d => refFront_gives (l.take 3) lb 0 10 3 (by simp; omega) _ (h1.grow hll0 xs d) (by decide) (by decide))
 have C2 := Lib.hid (fun xs d => refFront_gives ((l.drop 3).take 4) lb 3 7 4 (by simp; omega) _ (h2.grow hll0 xs d) (by decide) (by decide))
 have C3 := Lib.hid (fun xs d => refFront_gives (l.drop 7) lb 7 3 3 (by simp; omega) _ (h3.grow hll0 xs d) (by decide) (by decide))
 have H1 := Lib.hid (And.intro hb1 (And.intro hr1 (And.intro hb1.size hlb)))
 have HST := Lib.hid hst
 obtain ⟨t1, ht1⟩ : ∃ t1, t1 = partT (l.take 3) := ⟨_, rfl⟩
 obtain ⟨t2, ht2⟩ : ∃ t2, t2 = partT ((l.drop 3).take 4) := ⟨_, rfl⟩
 obtain ⟨t3, ht3⟩ : ∃ t3, t3 = partT (l.drop 7) := ⟨_, rfl⟩
 rw [← ht1, ← ht2, ← ht3] at HST
 rw [← ht1] at C1
 rw [← ht2] at C2
 rw [← ht3] at C3
 rw [HST.out] at HRO HTX HPA hok
 clear ht1 ht2 ht3 hW1 hb1 hl1 hr1 hrow h1 h2 h3 hst HST hlb
 apply wp_region_specs (by rfl) [.val _, .val _, .val _, .val _, .val _, .val _, .val _, .new _] 8 (by rfl) [7, 8, 9, 10, 11, 12, 13, 4] [7] [] (by rfl) (by rfl) (by decide) (by decide +kernel) (fun _ _ _ _ _ h => h)
 case hF => intro x; simp only [over, List.foldl_cons, List.foldl_nil, List.setIfInBounds_toArray, List.set_cons_succ, List.set_cons_zero]; exact rfl
 case hops =>
  refine ⟨?o0, ?o1, ?o2, ?o3, ?o4, ?o5, ?o6, ?o7, trivial⟩
  case o0 =>
   intro x w1 hH K hK
   obtain ⟨xs, d, rfl⟩ := grow_of_below hH.below
   clear hH
   try simp only [World.grow_drew] at hK ⊢
   try simp only [World.grow_grow] at hK ⊢
   exact zxQbb
  case o1 =>
   intro x w1 hH K hK
   have e7 : x 7 = _ := hH.g 0 7
   obtain ⟨xs, d, rfl⟩ := grow_of_below hH.below
   clear hH
   try simp only [World.grow_drew] at hK ⊢
   try simp only [World.grow_grow] at hK ⊢
   simp only [e7] at hK ⊢
   clear e7
   go_simp
   go_wp2_with (refine Gives.use (C1.out _ _) ?_; intro ys e)
   exact ⟨_, rfl, rfl, blw, fun h => by cases h⟩
  case o2 =>
   intro x w1 hH K hK
   obtain ⟨xs, d, rfl⟩ := grow_of_below hH.below
   clear hH
   try simp only [World.grow_drew] at hK ⊢
   try simp only [World.grow_grow] at hK ⊢
   exact zxQbb
  case o3 =>
   intro x w1 hH K hK
   have e9 : x 9 = _ := hH.g 2 9
   obtain ⟨xs, d, rfl⟩ := grow_of_below hH.below
   clear hH
   try simp only [World.grow_drew] at hK ⊢
   try simp only [World.grow_grow] at hK ⊢
   simp only [e9] at hK ⊢
   clear e9
   go_simp
   go_wp2_with (refine Gives.use (C2.out _ _) ?_; intro ys e)
   exact ⟨_, rfl, rfl, blw, fun h => by cases h⟩
  case o4 =>
   intro x w1 hH K hK
   obtain ⟨xs, d, rfl⟩ := grow_of_below hH.below
   clear hH
   try simp only [World.grow_drew] at hK ⊢
   try simp only [World.grow_grow] at hK ⊢
   exact zxQbb
  case o5 =>
   intro x w1 hH K hK
   have e11 : x 11 = _ := hH.g 4 11
   obtain ⟨xs, d, rfl⟩ := grow_of_below hH.below
   clear hH
   try simp only [World.grow_drew] at hK ⊢
   try simp only [World.grow_grow] at hK ⊢
   simp only [e11] at hK ⊢
   clear e11
   go_simp
   go_wp2_with (refine Gives.use (C3.out _ _) ?_; intro ys e)
   exact ⟨_, rfl, rfl, blw, fun h => by cases h⟩
  case o6 =>
   intro x w1 hH K hK
   have e8 : x 8 = _ := hH.g 1 8
   have e10 : x 10 = _ := hH.g 3 10
   have e12 : x 12 = _ := hH.g 5 12
   obtain ⟨xs, d, rfl⟩ := grow_of_below hH.below
   clear hH
   try simp only [World.grow_drew] at hK ⊢
   try simp only [World.grow_grow] at hK ⊢
   simp only [e8, e10, e12] at hK ⊢
   clear e8 e10 e12
   exact zxQbb
  case o7 =>
   intro x w1 hH K hK
   obtain ⟨xs, d, rfl⟩ := grow_of_below hH.below
   clear hH
   try simp only [World.grow_drew] at hK ⊢
   try simp only [World.grow_grow] at hK ⊢
   go_simp
   go_wp2_with fail
   exact left_new rfl (by simp) (by first | (simp; done) | (simp; omega))
 case hend =>
  intro x w1 hH
  have e7 : x 7 = _ := hH.t 0 7
  have e8 : x 8 = _ := hH.t 1 8
  have e9 : x 9 = _ := hH.t 2 9
  have e10 : x 10 = _ := hH.t 3 10
  have e11 : x 11 = _ := hH.t 4 11
  have e12 : x 12 = _ := hH.t 5 12
  have e13 : x 13 = _ := hH.t 6 13
  obtain ⟨b4, e4, l4, u4, o4⟩ := hH.t 7 4
  obtain ⟨xs, d, rfl⟩ := grow_of_below hH.below
  clear hH
  simp only [e7, e8, e9, e10, e11, e12, e13, e4]; clear e7 e8 e9 e10 e11 e12 e13 e4
  refine new_known1 o4 l4 u4 ?_
  clear o4
  simp [go_sem] at l4 u4
  simp only [List.drop_succ_cons, List.drop_zero]
  go_upto_region 2 with fail
  refine wp_name ?_
  intro W2 hW2
  have hb2 : Below W1.heap.size W1 W2 := by rw [hW2]; exact blw
  have cT : W2.cut? b4 0 3 = some (tag3A (t1, t2, t3)) := by rw [hW2]; simp [go_sem, u4]
  have lT : b4 < W2.heap.size := by rw [hW2]; simpa using u4
  have c0 : W2.cell? ⟨b4, 0, none⟩ = some (.string (bs t1)) := by have := (cut_spec cT).2 0 (by decide); rwa [Nat.zero_add, tag3A_0] at this
  have hr2 := (hb2.block (lb + 1) hll).trans H1.out.2.1
  have lr := lt_of_some hr2
  have H2 := Lib.hid (And.intro (H1.out.1.trans (hb2.mono H1.out.2.2.1)) (And.intro hr2 (show w.heap.size ≤ lb + 1 by have := H1.out.2.2.2; omega)))
  have tr : W2.there? (lb + 1) 0 3 = true := by simp [World.there?, hr2]
  have okz : OkT zT3 := ⟨Nat.zero_le _, Nat.zero_le _, Nat.zero_le _⟩
  have hne : b4 ≠ lb + 1 := by omega
  have cL : ∀ vs, (W2.lay (lb + 1) 0 vs).cut? b4 0 3 = some (tag3A (t1, t2, t3)) := fun vs => (cut_of_heap (lay_heap_ne hne) 0 3).trans cT
  clear hW2 hb2 hr2 l4 u4 C1 C2 C3 H1 hll hll0
  by_cases h0 : t1 = []
  ·have e1 : (t1 == []) = true := by rw [h0]; rfl
   have hro : ro = (zT3, decide ((t1, t2, t3) = zT3)) := by rw [HRO.out, if_pos h0]
   obtain ⟨T, hT⟩ : ∃ T : Tag3, T = (t1, t2, t3) := ⟨_, rfl⟩
   rw [← hT] at hro hok cT cL
   obtain ⟨q, hq⟩ : ∃ q, decide (T = zT3) = q := ⟨_, rfl⟩
   rw [hq] at hro
   have hq3 : (T.1 = [] ∧ T.2.1 = [] ∧ T.2.2 = [] ∧ q = true) ∨ (T.1 = [] ∧ ¬ T.2.1 = [] ∧ q = false) ∨ (T.1 = [] ∧ T.2.1 = [] ∧ ¬ T.2.2 = [] ∧ q = false) := by
    have hT1 : T.1 = [] := by rw [hT]; exact h0
    by_cases h2 : T.2.1 = []
    ·by_cases h3 : T.2.2 = []
     ·exact .inl ⟨hT1, h2, h3, by rw [← hq]; exact decide_eq_true (Prod.ext hT1 (Prod.ext h2 h3))⟩
     ·exact .inr (.inr ⟨hT1, h2, h3, by rw [← hq]; exact decide_eq_false (fun e => h3 (by rw [e]; rfl))⟩)
    ·exact .inr (.inl ⟨hT1, h2, by rw [← hq]; exact decide_eq_false (fun e => h2 (by rw [e]; rfl))⟩)
   have HR := Lib.hid hro
   rw [← hT]
   clear h0 hro HRO HTX HPA hT hq
   have hfin : ((W2.lay (lb + 1) 0 (tag3A zT3)).cut? (lb + 1) 0 3) = some (tag3A zT3) := cut_lay3 H2.out.2.1 rfl rfl
   have hBf := Go.RowKit.Below.lay (o := 0) (vs := tag3A zT3) H2.out.1 H2.out.2.2
   have HBF := Lib.hid hBf
   clear hBf
   go_upto_region 3 with fail
   rcases hq3 with ⟨q1, q2, q3, rfl⟩ | ⟨q1, q2, rfl⟩ | ⟨q1, q2, q3, rfl⟩
   ·skip
    go_region
    all_goals
     go_wp2_with fail
     exact bodyPost_ret (v := .tuple #[.agg (tag3A zT3), .bool true]) (results_two Tryz.results44 (ResIs.row rfl agg_tag3 (by first | exact hfin | simp [go_sem, hfin])) (by simp [ResIs])) rfl ⟨congrArg (fun x : Tag3 × Bool => Ending.returned (.tuple #[.agg (tag3A x.1), .bool x.2])) HR.out.symm, by first | exact HBF.out.drewN _ | exact HBF.out.drew | exact (HBF.out.drew).drew | exact ((HBF.out.drew).drew).drew⟩
   ·skip
    go_region
    all_goals
     go_wp2_with fail
     exact bodyPost_ret (v := .tuple #[.agg (tag3A zT3), .bool false]) (results_two Tryz.results44 (ResIs.row rfl agg_tag3 (by first | exact hfin | simp [go_sem, hfin])) (by simp [ResIs])) rfl ⟨congrArg (fun x : Tag3 × Bool => Ending.returned (.tuple #[.agg (tag3A x.1), .bool x.2])) HR.out.symm, by first | exact HBF.out.drewN _ | exact HBF.out.drew | exact (HBF.out.drew).drew | exact ((HBF.out.drew).drew).drew⟩
   ·skip
    go_region
    all_goals
     go_wp2_with fail
     exact bodyPost_ret (v := .tuple #[.agg (tag3A zT3), .bool false]) (results_two Tryz.results44 (ResIs.row rfl agg_tag3 (by first | exact hfin | simp [go_sem, hfin])) (by simp [ResIs])) rfl ⟨congrArg (fun x : Tag3 × Bool => Ending.returned (.tuple #[.agg (tag3A x.1), .bool x.2])) HR.out.symm, by first | exact HBF.out.drewN _ | exact HBF.out.drew | exact (HBF.out.drew).drew | exact ((HBF.out.drew).drew).drew⟩
  ·have e1 : (t1 == []) = false := beq_eq_false_iff_ne.2 h0
   have hro := HRO.out
   rw [if_neg h0] at hro
   obtain ⟨T, hT⟩ : ∃ T : Tag3, T = (t1, t2, t3) := ⟨_, rfl⟩
   rw [← hT] at hro hok cT cL HTX HPA
   rw [← hT]
   have hcase : (∃ y, refTagV (refText T) = (y, true) ∧ OkT y ∧ ((y = T ∧ ro = (T, true)) ∨ (¬ y = T ∧ ro = (zT3, false)))) ∨ (refTagV (refText T) = (zT3, false) ∧ ro = (zT3, false)) := by
    unfold refTagV
    cases hx : refTag (refText T) with
    | none => exact .inr ⟨rfl, by rw [hro, hx, if_neg (by simp)]⟩
    | some y =>
     refine .inl ⟨y, rfl, good_ok (refTag_good hx), ?_⟩
     by_cases hy : y = T
     ·exact .inl ⟨hy, by rw [hro, hx, if_pos (by rw [hy])]⟩
     ·exact .inr ⟨hy, by rw [hro, hx, if_neg (fun e => hy (Option.some.inj e))]⟩
   have hws := H2.out.1.size
   clear h0 hro HRO hT
   rcases hcase with ⟨y, hv, hoy, ⟨rfl, hr⟩ | ⟨hy, hr⟩⟩ | ⟨hv, hr⟩
   all_goals
    have HR := Lib.hid hr
    rw [hv] at HPA
    simp only at HPA
    clear hv hr
    go_wp2_with fail
    refine Gives.use (HTX.out _) ?_
    intro xs4 d4
    go_wp2_with fail
    refine Gives.use (HPA.out _) ?_
    intro xs5 d5
    go_upto_region 5 with fail
    refine wp_name ?_
    intro W3 hW3
    obtain ⟨xb, hxb⟩ : ∃ xb, xb = W2.heap.size + (xs4.size + xs5.size) := ⟨_, rfl⟩
    have hb3 : Below W2.heap.size W2 W3 := by rw [hW3]; exact blw
    have hx3 : ∃ z, W3.heap[xb]? = some (.cells (tag3A z) 148) := ⟨_, by rw [hW3, hxb]; exact (heap_al _ _ _).trans (if_pos (by simp))⟩
    rw [← hxb]
    have hr3 := (hb3.block (lb + 1) lr).trans H2.out.2.1
    have cT3 : W3.cut? b4 0 3 = _ := (cut_of_heap (hb3.block b4 lT) 0 3).trans cT
    have lT3 : b4 < W3.heap.size := Nat.lt_of_lt_of_le lT hb3.size
    have lr3 := lt_of_some hr3
    have tr3 : W3.there? (lb + 1) 0 3 = true := by simp [World.there?, hr3]
    have H3 := Lib.hid (And.intro (H2.out.1.trans (hb3.mono hws)) (And.intro hr3 H2.out.2.2))
    have hfz := cut_lay3 (vs := tag3A zT3) hr3 (sz := 3) rfl rfl
    have HBZ := Lib.hid (Go.RowKit.Below.lay (o := 0) (vs := tag3A zT3) H3.out.1 H3.out.2.2)
   ·have cx : W3.cut? xb 0 3 = some (tag3A y) := cut_heap (by rw [hW3, hxb]; exact (heap_al _ _ _).trans (if_pos (by simp))) rfl
    have lx := lt_of_some hx3.choose_spec
    have hfy := cut_lay3 (vs := tag3A y) hr3 (sz := 3) rfl rfl
    have HBY := Lib.hid (Go.RowKit.Below.lay (o := 0) (vs := tag3A y) H3.out.1 H3.out.2.2)
    clear hW3 hxb hb3 hx3 hr3
    go_wp2_with fail
    exact bodyPost_ret (v := .tuple #[.agg (tag3A y), .bool true]) (results_two Tryz.results44 (ResIs.row rfl agg_tag3 (by first | exact hfy | simp [go_sem, hfy])) (by simp [ResIs])) rfl ⟨congrArg (fun x : Tag3 × Bool => Ending.returned (.tuple #[.agg (tag3A x.1), .bool x.2])) HR.out.symm, HBY.out⟩
   ·have cx : W3.cut? xb 0 3 = some (tag3A y) := cut_heap (by rw [hW3, hxb]; exact (heap_al _ _ _).trans (if_pos (by simp))) rfl
    have lx := lt_of_some hx3.choose_spec
    clear hW3 hxb hb3 hx3 hr3
    go_wp2_with fail
    exact bodyPost_ret (v := .tuple #[.agg (tag3A zT3), .bool false]) (results_two Tryz.results44 (ResIs.row rfl agg_tag3 (by first | exact hfz | simp [go_sem, hfz])) (by simp [ResIs])) rfl ⟨congrArg (fun x : Tag3 × Bool => Ending.returned (.tuple #[.agg (tag3A x.1), .bool x.2])) HR.out.symm, HBZ.out⟩
   ·clear hW3 hxb hb3 hx3 hr3
    go_wp2_with fail
    exact bodyPost_ret (v := .tuple #[.agg (tag3A zT3), .bool false]) (results_two Tryz.results44 (ResIs.row rfl agg_tag3 (by first | exact hfz | simp [go_sem, hfz])) (by simp [ResIs])) rfl ⟨congrArg (fun x : Tag3 × Bool => Ending.returned (.tuple #[.agg (tag3A x.1), .bool x.2])) HR.out.symm, HBZ.out⟩
end Go.Proofs.YtcedmfnlkelhkaaGreatDoor
namespace Go.Proofs.YtcedmfnlkelhkaaGreatDoor
set_option maxRecDepth 100000
open Go.RowKit

theorem refUses_gives (k : Int) (w : World) : Gives Tryz.prog 93 #[.int .i64 k] w (.tuple #[.int .i64 (usedAt k), .bool (usedName k), .bool (usedTag k)]) := by
 have key : k = 2 ∨ k = 3 ∨ k = 4 ∨ k = 5 ∨ k = 6 ∨ ((k == 2) = false ∧ (k == 3) = false ∧ (k == 4) = false ∧ (k == 5) = false ∧ (k == 6) = false) := by
  by_cases h2 : k = 2; · exact .inl h2
  by_cases h3 : k = 3; · exact .inr (.inl h3)
  by_cases h4 : k = 4; · exact .inr (.inr (.inl h4))
  by_cases h5 : k = 5; · exact .inr (.inr (.inr (.inl h5)))
  by_cases h6 : k = 6; · exact .inr (.inr (.inr (.inr (.inl h6))))
  exact .inr (.inr (.inr (.inr (.inr ⟨beq_eq_false_iff_ne.2 h2, beq_eq_false_iff_ne.2 h3, beq_eq_false_iff_ne.2 h4, beq_eq_false_iff_ne.2 h5, beq_eq_false_iff_ne.2 h6⟩))))
 have K := Lib.hid (show ∀ k : Int, (k == 2) = false ∧ (k == 3) = false ∧ (k == 4) = false ∧ (k == 5) = false ∧ (k == 6) = false → usedAt k = 0 ∧ usedName k = false ∧ usedTag k = false from by
  rintro k ⟨h2, h3, h4, h5, h6⟩
  simp only [beq_eq_false_iff_ne] at h2 h3 h4 h5 h6
  unfold usedAt usedName usedTag
  simp [h2, h3, h4, h5, h6])
 unfold Gives
 rcases key with rfl | rfl | rfl | rfl | rfl | ⟨h2, h3, h4, h5, h6⟩
 ·go_enter Tryz.func93, Tryz.ntmps93
  go_wp2_with fail
  exact bodyPost_ret (v := .tuple #[.int .i64 16, .bool false, .bool false]) (by simp [results, Tryz.results93, go_sem]) rfl ⟨rfl, blw⟩
 ·go_enter Tryz.func93, Tryz.ntmps93
  go_wp2_with fail
  exact bodyPost_ret (v := .tuple #[.int .i64 0, .bool false, .bool true]) (by simp [results, Tryz.results93, go_sem]) rfl ⟨rfl, blw⟩
 ·go_enter Tryz.func93, Tryz.ntmps93
  go_wp2_with fail
  exact bodyPost_ret (v := .tuple #[.int .i64 4, .bool false, .bool false]) (by simp [results, Tryz.results93, go_sem]) rfl ⟨rfl, blw⟩
 ·go_enter Tryz.func93, Tryz.ntmps93
  go_wp2_with fail
  exact bodyPost_ret (v := .tuple #[.int .i64 4, .bool true, .bool false]) (by simp [results, Tryz.results93, go_sem]) rfl ⟨rfl, blw⟩
 ·go_enter Tryz.func93, Tryz.ntmps93
  go_wp2_with fail
  exact bodyPost_ret (v := .tuple #[.int .i64 4, .bool true, .bool true]) (by simp [results, Tryz.results93, go_sem]) rfl ⟨rfl, blw⟩
 ·have K2 := Lib.hid (K.out k ⟨h2, h3, h4, h5, h6⟩)
  clear K
  go_enter Tryz.func93, Tryz.ntmps93
  go_wp2_with fail
  exact bodyPost_ret (v := .tuple #[.int .i64 0, .bool false, .bool false]) (by simp [results, Tryz.results93, go_sem]) rfl ⟨by rw [K2.out.1, K2.out.2.1, K2.out.2.2], blw⟩
@[go_sem ↓ high] theorem bRk0_run (w : World) : (Instr.build 114 #[]).run Tryz.prog w = .ok (.agg (rk 0 0 0 (zeros 22))) w := by kernel_rfl
@[go_sem ↓ high] theorem bA12_run (w : World) : (Instr.build 55 #[]).run Tryz.prog w = .ok (.agg (row8 (zeros 12))) w := by kernel_rfl
@[go_sem ↓ high] theorem bA10_run (w : World) : (Instr.build 71 #[]).run Tryz.prog w = .ok (.agg (row8 (zeros 10))) w := by kernel_rfl
/-- the key of parts, and the error -/
def rkOf (a b c : Int) (n t : List UInt8) : Array Value := if keyErr a b c n t = 0 then rk a b (if 0 < usedAt a then c else 0) ((if usedName a = true then n else zeros 12) ++ (if usedTag a = true then t else zeros 10)) else rk 0 0 0 (zeros 22)
theorem nameText_nil (n : List UInt8) : (nameText n == []) = !nameRight n := by
 unfold nameText
 cases h : nameRight n with
 | false => rfl
 | true =>
  rw [if_pos rfl]
  unfold nameRight at h
  simp only [Bool.and_eq_true] at h
  have h2 := h.1
  unfold nameOk at h2
  simp only [Bool.and_eq_true, decide_eq_true_eq] at h2
  cases hf : frontN n with
  | nil => rw [hf] at h2; simp at h2
  | cons c r => rfl
theorem lay_row {w : World} {b : Nat} {c vs : Array Value} {t : TypeId} (h : w.heap[b]? = some (.cells c t)) (o : Nat) : (w.lay b o vs).heap[b]? = some (.cells (spliceA c o vs) t) := by
 simp [World.lay, Array.getElem?_modify, h]
end Go.Proofs.YtcedmfnlkelhkaaGreatDoor
namespace Go.Proofs.YtcedmfnlkelhkaaGreatDoor
set_option maxRecDepth 100000
open Go.RowKit

theorem rk_sz (a b c : Int) {l : List UInt8} (hl : l.length = 22) : (rk a b c l).size = 25 := by rw [rk_size, hl]
/-- a key in its box, and the answer's -/
def KF (w : World) (kb : Nat) (K : Array Value) (W : World) : Prop :=
 Below w.heap.size w W ∧ W.heap[kb]? = some (.cells K 114) ∧ W.heap[kb + 1]? = some (.cells (rk 0 0 0 (zeros 22)) 114) ∧ w.heap.size ≤ kb
theorem KF.step {w : World} {kb : Nat} {K : Array Value} {W W' : World} (h : KF w kb K W) (hb : Below W.heap.size W W') : KF w kb K W' :=
 ⟨h.1.trans (hb.mono h.1.size), (hb.block kb (lt_of_some h.2.1)).trans h.2.1, (hb.block (kb + 1) (lt_of_some h.2.2.1)).trans h.2.2.1, h.2.2.2⟩
theorem KF.fin {w : World} {kb : Nat} {K : Array Value} {W : World} (h : KF w kb K W) (a b c : Int) (l : List UInt8) (hl : l.length = 22) : (W.lay (kb + 1) 0 (rk a b c l)).cut? (kb + 1) 0 25 = some (rk a b c l) ∧ Below w.heap.size w (W.lay (kb + 1) 0 (rk a b c l)) :=
 ⟨cut_lay3 h.2.2.1 (rk_sz _ _ _ (by simp)) (rk_sz _ _ _ hl), Go.RowKit.Below.lay h.1 (by have := h.2.2.2; omega)⟩
theorem KF.there {w : World} {kb : Nat} {K : Array Value} {W : World} (h : KF w kb K W) : W.there? (kb + 1) 0 25 = true := by simp [World.there?, h.2.2.1, rk_size]
theorem KF.set2 {w : World} {kb : Nat} {a b c : Int} {l : List UInt8} {W : World} (h : KF w kb (rk a b c l) W) : KF w kb (rk a b 0 l) (W.setCell ⟨kb, 2, none⟩ (.int .i64 0)) :=
 ⟨h.1.setCell (p := ⟨kb, 2, none⟩) h.2.2.2 _, by have := set_row h.2.1 2 (.int .i64 0); rwa [rk_set2] at this, (Below.heap_setCell W ⟨kb, 2, none⟩ _ (kb + 1) (by show kb + 1 ≠ kb; omega)).trans h.2.2.1, h.2.2.2⟩
theorem spl_n {n t : List UInt8} (hn : n.length = 12) : spl (n ++ t) 0 (zeros 12) = zeros 12 ++ t := by
 have e : (n ++ t).drop (0 + (zeros 12).length) = t := List.drop_left' (by rw [hn]; rfl)
 unfold spl
 rw [e, List.take_zero, List.nil_append, List.take_of_length_le]
 simp [hn, zeros]
 omega
theorem spl_t {n t : List UInt8} (hn : n.length = 12) (ht : t.length = 10) : spl (n ++ t) 12 (zeros 10) = n ++ zeros 10 := by
 have e : (n ++ t).drop (12 + (zeros 10).length) = [] := List.drop_of_length_le (by simp [hn, ht, zeros])
 unfold spl
 rw [e, List.take_left' hn, List.append_nil, List.take_of_length_le]
 simp [hn, ht, zeros]
theorem KF.layn {w : World} {kb : Nat} {a b c : Int} {n t : List UInt8} {W : World} (hn : n.length = 12) (ht : t.length = 10) (h : KF w kb (rk a b c (n ++ t)) W) : KF w kb (rk a b c (zeros 12 ++ t)) (W.lay kb 3 (row8 (zeros 12))) :=
 ⟨Go.RowKit.Below.lay h.1 h.2.2.2, by have := lay_row (vs := row8 (zeros 12)) h.2.1 3; rwa [splice_rk _ _ _ _ _ _ (by decide) (by simp [hn, ht]), spl_n hn] at this, (lay_heap_ne (by omega)).trans h.2.2.1, h.2.2.2⟩
theorem KF.layt {w : World} {kb : Nat} {a b c : Int} {n t : List UInt8} {W : World} (hn : n.length = 12) (ht : t.length = 10) (h : KF w kb (rk a b c (n ++ t)) W) : KF w kb (rk a b c (n ++ zeros 10)) (W.lay kb 15 (row8 (zeros 10))) :=
 ⟨Go.RowKit.Below.lay h.1 h.2.2.2, by have := lay_row (vs := row8 (zeros 10)) h.2.1 15; rwa [splice_rk _ _ _ _ _ _ (by decide) (by simp [hn, ht]), spl_t hn ht] at this, (lay_heap_ne (by omega)).trans h.2.2.1, h.2.2.2⟩
theorem KF.there2 {w : World} {kb : Nat} {a b c : Int} {l : List UInt8} {W : World} (h : KF w kb (rk a b c l) W) (hl : l.length = 22) : W.there? kb 3 12 = true ∧ W.there? kb 15 10 = true := by simp [World.there?, h.2.1, rk_size, hl]
theorem rk_cuts {W : World} {kb : Nat} {a b c : Int} {n t : List UInt8} {ty : TypeId} (hn : n.length = 12) (ht : t.length = 10) (h : W.heap[kb]? = some (.cells (rk a b c (n ++ t)) ty)) :
  W.cell? ⟨kb, 0, none⟩ = some (.int .i64 a) ∧ W.cell? ⟨kb, 1, none⟩ = some (.int .i64 b) ∧ W.cell? ⟨kb, 2, none⟩ = some (.int .i64 c) ∧ W.cut? kb 3 12 = some (row8 n) ∧ W.cut? kb 15 10 = some (row8 t) := by
 have hc := cut_heap h (rk_sz a b c (show (n ++ t).length = 22 by simp [hn, ht]))
 refine ⟨((row_is h 0).1).trans (rk_0 _ _ _ _), ((row_is h 1).1).trans (rk_1 _ _ _ _), ((row_is h 2).1).trans (rk_2 _ _ _ _), ?_, ?_⟩
 ·have := cut_sub hc (i := 3) (m := 12) (by decide)
  rw [Nat.zero_add] at this
  rw [this, rk_extract _ _ _ _ _ _ (by decide)]
  congr 2
  rw [show 3 + 12 - 3 = 12 from rfl, show 3 - 3 = 0 from rfl, List.drop_zero, List.take_left' hn]
 ·have := cut_sub hc (i := 15) (m := 10) (by decide)
  rw [Nat.zero_add] at this
  rw [this, rk_extract _ _ _ _ _ _ (by decide)]
  congr 2
  rw [show 15 + 10 - 3 = 22 from rfl, show 15 - 3 = 12 from rfl, List.take_of_length_le (by simp [hn, ht]), List.drop_left' hn]
set_option maxHeartbeats 40000000 in
theorem refOf6_core (a b c ua : Int) (un ut : Bool) (n t : List UInt8) (hn : n.length = 12) (ht : t.length = 10) (hua : usedAt a = ua) (hun : usedName a = un) (hut : usedTag a = ut) (hu0 : ua = 0 ∨ 0 < ua) (w : World) :
  Gives Tryz.prog 62 #[.agg (rk a b c (n ++ t))] w (.tuple #[.agg (rkOf a b c n t), .int .i64 (keyErr a b c n t)]) := by
 have HU := Lib.hid (fun w => show Gives Tryz.prog 93 #[.int .i64 a] w (.tuple #[.int .i64 ua, .bool un, .bool ut]) by have := refUses_gives a w; rwa [hua, hun, hut] at this)
 have hke : keyErr a b c n t = if a < 1 ∨ 6 < a then 16 else if b < 0 ∨ 4 ≤ b ∨ (0 < ua ∧ (c < 0 ∨ ua ≤ c)) then 5 else if un = true ∧ nameRight n = false then 15 else if ut = true ∧ (tagRight t = false ∨ t = zeros 10) then 14 else 0 := by unfold keyErr; rw [hua, hun, hut]
 have hrk : rkOf a b c n t = if keyErr a b c n t = 0 then rk a b (if 0 < ua then c else 0) ((if un = true then n else zeros 12) ++ (if ut = true then t else zeros 10)) else rk 0 0 0 (zeros 22) := by unfold rkOf; rw [hua, hun, hut]
 obtain ⟨e, he⟩ : ∃ e, e = keyErr a b c n t := ⟨_, rfl⟩
 obtain ⟨r, hr⟩ : ∃ r, r = rkOf a b c n t := ⟨_, rfl⟩
 rw [← he, ← hr]
 rw [← he] at hke hrk
 rw [← hr] at hrk
 have HKE := Lib.hid (And.intro hke hrk)
 have HTX := Lib.hid (refText4_gives n hn)
 have HTG := Lib.hid (fun w => refTagOf_gives t ht w)
 have hnt := nameText_nil n
 have hrr := refOf_right ht
 have hrl := refOf_lang ht
 have HRL := Lib.hid hrl
 rw [hrr] at HTG
 clear hke hrk he hr hua hun hut hrr hrl
 unfold Gives
 go_enter Tryz.func62, Tryz.ntmps62
 go_wp2_with fail
 refine Gives.use (HU.out _) ?_
 intro xs1 d1
 go_upto_region 2 with fail
 refine wp_name ?_
 intro W1 hW1
 obtain ⟨kb, hkb⟩ : ∃ kb, kb = w.heap.size := ⟨_, rfl⟩
 have h1 : KF w kb (rk a b c (n ++ t)) W1 := by
  rw [hW1, hkb]
  refine ⟨blw, ?_, ?_, Nat.le_refl _⟩
  ·rw [World.grow_heap _ _ _ (by first | (simp; done) | (simp; omega)), heap_al, if_neg (by simp), heap_al, if_pos rfl]
  ·rw [World.grow_heap _ _ _ (by simp), heap_al, if_pos (by simp)]
 obtain ⟨c0, c1, c2, cn, ct⟩ := rk_cuts hn ht h1.2.1
 have lr := lt_of_some h1.2.2.1
 have lk := lt_of_some h1.2.1
 have tr : W1.there? (kb + 1) 0 25 = true := h1.there
 rw [← hkb]
 have H1 := Lib.hid h1
 clear hW1 hkb h1 HU
 by_cases hA : a < 1 ∨ 6 < a
 ·have hres : e = 16 ∧ r = rk 0 0 0 (zeros 22) := by
   obtain ⟨x1, x2⟩ := HKE.out
   rw [if_pos hA] at x1
   exact ⟨x1, by rw [x2, x1, if_neg (by decide)]⟩
  obtain ⟨rfl, hr⟩ := hres
  have HR := Lib.hid hr
  clear HKE hr
  have hfin := (H1.out.fin 0 0 0 (zeros 22) (by simp)).1
  have hA' : a < 1 ∨ (¬ a < 1 ∧ 6 < a) := by omega
  clear hA
  rcases hA' with g1 | ⟨g1, g2⟩
  all_goals
   go_wp2_with fail
   exact bodyPost_ret (v := .tuple #[.agg (rk 0 0 0 (zeros 22)), .int .i64 16]) (results_two Tryz.results62 (ResIs.row rfl agg_rkey (by first | exact hfin | simp [go_sem, hfin])) (by simp [ResIs])) rfl ⟨by rw [HR.out], (H1.out.fin 0 0 0 (zeros 22) (by simp)).2⟩
 ·have hA1 : ¬ a < 1 := fun h => hA (.inl h)
  have hA2 : ¬ 6 < a := fun h => hA (.inr h)
  obtain ⟨x1, x2⟩ := HKE.out
  rw [if_neg hA] at x1
  clear HKE hA
  go_upto_region 4 with fail
  by_cases hB : b < 0 ∨ 4 ≤ b ∨ (0 < ua ∧ (c < 0 ∨ ua ≤ c))
  ·have hres : e = 5 ∧ r = rk 0 0 0 (zeros 22) := by
    rw [if_pos hB] at x1
    exact ⟨x1, by rw [x2, x1, if_neg (by decide)]⟩
   obtain ⟨rfl, hr⟩ := hres
   have HR := Lib.hid hr
   clear x1 x2 hr
   have hfin := (H1.out.fin 0 0 0 (zeros 22) (by simp)).1
   have hB' : b < 0 ∨ (¬ b < 0 ∧ 3 < b) ∨ (¬ b < 0 ∧ ¬ 3 < b ∧ 0 < ua ∧ c < 0) ∨ (¬ b < 0 ∧ ¬ 3 < b ∧ 0 < ua ∧ ¬ c < 0 ∧ ua ≤ c) := by omega
   clear hB hu0
   rcases hB' with g1 | ⟨g1, g2⟩ | ⟨g1, g2, g3, g4⟩ | ⟨g1, g2, g3, g4, g5⟩
   all_goals
    go_wp2_with fail
    exact bodyPost_ret (v := .tuple #[.agg (rk 0 0 0 (zeros 22)), .int .i64 5]) (results_two Tryz.results62 (ResIs.row rfl agg_rkey (by first | exact hfin | simp [go_sem, hfin])) (by simp [ResIs])) rfl ⟨by rw [HR.out], (H1.out.fin 0 0 0 (zeros 22) (by simp)).2⟩
  ·rw [if_neg hB] at x1
   have g1 : ¬ b < 0 := fun h => hB (.inl h)
   have g2 : ¬ 3 < b := fun h => hB (.inr (.inl (by omega)))
   have hu : (ua = 0 ∧ ¬ 0 < ua ∧ (ua == 0) = true) ∨ (0 < ua ∧ ¬ c < 0 ∧ ¬ ua ≤ c ∧ (ua == 0) = false) := by
    rcases hu0 with h | h
    ·exact .inl ⟨h, by omega, by rw [h]; rfl⟩
    ·exact .inr ⟨h, fun h2 => hB (.inr (.inr ⟨h, .inl h2⟩)), fun h2 => hB (.inr (.inr ⟨h, .inr h2⟩)), by rw [beq_eq_false_iff_ne]; omega⟩
   have HX := Lib.hid (And.intro x1 x2)
   clear x1 x2 hB hu0
   -- the name
   have hname : un = false ∨ (un = true ∧ nameRight n = false) ∨ (un = true ∧ nameRight n = true) := by cases un <;> cases nameRight n <;> simp
   rcases hname with rfl | ⟨rfl, hnr⟩ | ⟨rfl, hnr⟩
   ·rcases hu with ⟨u1, u2, u3⟩ | ⟨u1, u2, u3, u4⟩
    ·go_upto_region 8 with fail
     refine wp_name ?_
     intro W2 hW2
     have hb2 : Below W1.heap.size W1 W2 := by rw [hW2]; first | exact Below.refl _ _ | exact below_of_grow _ _
     have h2 := H1.out.step hb2
     have c15 := (rk_cuts hn ht h2.2.1).2.2.2.2
     have lk2 := lt_of_some h2.2.1
     have H2 := Lib.hid h2
     clear hW2 hb2 h2 c0 c1 c2 cn ct lr lk tr
     go_wp2_with fail
     refine Gives.use (HTG.out _) ?_
     intro xs3 d3
     go_upto_region 9 with fail
     refine wp_name ?_
     intro W3 hW3
     obtain ⟨tb, htb⟩ : ∃ tb, tb = W2.heap.size + xs3.size := ⟨_, rfl⟩
     have hb3 : Below W2.heap.size W2 W3 := by rw [hW3]; exact blw
     have ht3 : W3.heap[tb]? = some (.cells (tag3A (refOf t).1) 148) := by rw [hW3, htb]; exact (heap_al _ _ _).trans (if_pos (by simp))
     rw [← htb]
     have h3 := H2.out.step hb3
     have ctl : W3.cell? ⟨tb, 0, none⟩ = some (.string (bs (refOf t).1.1)) := (row_is ht3 0).1
     have lt3 := lt_of_some ht3
     have lr3 := lt_of_some h3.2.2.1
     have tr3 := h3.there
     have ck3 := (rk_cuts hn ht h3.2.1).2.2.1
     have fk3 := (row_is h3.2.1 2).2
     have lk3 := lt_of_some h3.2.1
     have tn3 : W3.there? kb 3 12 = true := by simp [World.there?, h3.2.1, rk_size, hn, ht]
     have tt3 : W3.there? kb 15 10 = true := by simp [World.there?, h3.2.1, rk_size, hn, ht]
     obtain ⟨p1, p2⟩ := h3.set2.there2 (by simp [hn, ht])
     obtain ⟨p3, p4⟩ := (h3.layn hn ht).there2 (by simp [ht, zeros])
     obtain ⟨p5, p6⟩ := (h3.set2.layn hn ht).there2 (by simp [ht, zeros])
     have H3 := Lib.hid h3
     clear hW3 htb hb3 ht3 h3 c15 lk2
     have htag : ut = false ∨ (ut = true ∧ tagRight t = false) ∨ (ut = true ∧ tagRight t = true ∧ ((refOf t).1.1 == []) = true ∧ t = zeros 10) ∨ (ut = true ∧ tagRight t = true ∧ ((refOf t).1.1 == []) = false ∧ ¬ t = zeros 10) := by
      cases ut with
      | false => exact .inl rfl
      | true =>
       cases htr : tagRight t with
       | false => exact .inr (.inl ⟨rfl, rfl⟩)
       | true =>
        have h := HRL.out (by rw [refOf_right ht]; exact htr)
        by_cases hz : t = zeros 10
        ·exact .inr (.inr (.inl ⟨rfl, rfl, by rw [h.2 hz]; rfl, hz⟩))
        ·exact .inr (.inr (.inr ⟨rfl, rfl, by rw [beq_eq_false_iff_ne]; exact fun e => hz (h.1 e), hz⟩))
     clear HRL
     generalize (refOf t).1 = tg at *
     have hfz := (H3.out.fin 0 0 0 (zeros 22) (by simp)).1
     rcases htag with rfl | ⟨rfl, q1⟩ | ⟨rfl, q1, q2, q3⟩ | ⟨rfl, q1, q2, q3⟩
     ·have hres : e = 0 ∧ r = rk a b 0 (zeros 12 ++ zeros 10) := by
       obtain ⟨x1, x2⟩ := HX.out
       rw [if_neg (fun h => by cases h.1), if_neg (fun h => by cases h.1)] at x1
       refine ⟨x1, ?_⟩
       rw [x2, if_pos x1, if_neg (by omega)]
       rfl
      obtain ⟨rfl, hr⟩ := hres
      have HR := Lib.hid hr
      clear HX hr
      go_upto_region 17 with fail
      refine wp_name ?_
      intro W4 hW4
      have h4 : KF w kb (rk a b 0 (zeros 12 ++ zeros 10)) W4 := by rw [hW4]; exact (((H3.out).set2).layn hn ht).layt (by simp [zeros]) ht
      have hl22 : (zeros 12 ++ zeros 10).length = 22 := by simp [zeros]
      have c25 := cut_heap h4.2.1 (rk_sz a b 0 hl22)
      have lk4 := lt_of_some h4.2.1
      have tr4 := h4.there
      have hfin := (h4.fin a b 0 _ hl22).1
      have HB4 := Lib.hid (h4.fin a b 0 _ hl22).2
      clear hW4 h4
      go_wp2_with fail
      exact bodyPost_ret (v := .tuple #[.agg (rk a b 0 (zeros 12 ++ zeros 10)), .int .i64 0]) (results_two Tryz.results62 (ResIs.row rfl agg_rkey (by first | exact hfin | simp [go_sem, hfin])) (by simp [ResIs])) rfl ⟨by rw [HR.out], HB4.out⟩
     ·have hres : e = 14 ∧ r = rk 0 0 0 (zeros 22) := by
       obtain ⟨x1, x2⟩ := HX.out
       rw [if_neg (fun h => by cases h.1), if_pos ⟨rfl, .inl q1⟩] at x1
       exact ⟨x1, by rw [x2, x1, if_neg (by decide)]⟩
      obtain ⟨rfl, hr⟩ := hres
      have HR := Lib.hid hr
      clear HX hr
      go_wp2_with fail
      exact bodyPost_ret (v := .tuple #[.agg (rk 0 0 0 (zeros 22)), .int .i64 14]) (results_two Tryz.results62 (ResIs.row rfl agg_rkey (by first | exact hfz | simp [go_sem, hfz])) (by simp [ResIs])) rfl ⟨by rw [HR.out], (H3.out.fin 0 0 0 (zeros 22) (by simp)).2⟩
     ·have hres : e = 14 ∧ r = rk 0 0 0 (zeros 22) := by
       obtain ⟨x1, x2⟩ := HX.out
       rw [if_neg (fun h => by cases h.1), if_pos ⟨rfl, .inr q3⟩] at x1
       exact ⟨x1, by rw [x2, x1, if_neg (by decide)]⟩
      obtain ⟨rfl, hr⟩ := hres
      have HR := Lib.hid hr
      clear HX hr
      go_wp2_with fail
      exact bodyPost_ret (v := .tuple #[.agg (rk 0 0 0 (zeros 22)), .int .i64 14]) (results_two Tryz.results62 (ResIs.row rfl agg_rkey (by first | exact hfz | simp [go_sem, hfz])) (by simp [ResIs])) rfl ⟨by rw [HR.out], (H3.out.fin 0 0 0 (zeros 22) (by simp)).2⟩
     ·have hres : e = 0 ∧ r = rk a b 0 (zeros 12 ++ t) := by
       obtain ⟨x1, x2⟩ := HX.out
       rw [if_neg (fun h => by cases h.1), if_neg (fun h => h.2.elim (fun h2 => by rw [q1] at h2; cases h2) q3)] at x1
       refine ⟨x1, ?_⟩
       rw [x2, if_pos x1, if_neg (by omega)]
       rfl
      obtain ⟨rfl, hr⟩ := hres
      have HR := Lib.hid hr
      clear HX hr
      go_upto_region 17 with fail
      refine wp_name ?_
      intro W4 hW4
      have h4 : KF w kb (rk a b 0 (zeros 12 ++ t)) W4 := by rw [hW4]; exact ((H3.out).set2).layn hn ht
      have hl22 : (zeros 12 ++ t).length = 22 := by simp [ht, zeros]
      have c25 := cut_heap h4.2.1 (rk_sz a b 0 hl22)
      have lk4 := lt_of_some h4.2.1
      have tr4 := h4.there
      have hfin := (h4.fin a b 0 _ hl22).1
      have HB4 := Lib.hid (h4.fin a b 0 _ hl22).2
      clear hW4 h4
      go_wp2_with fail
      exact bodyPost_ret (v := .tuple #[.agg (rk a b 0 (zeros 12 ++ t)), .int .i64 0]) (results_two Tryz.results62 (ResIs.row rfl agg_rkey (by first | exact hfin | simp [go_sem, hfin])) (by simp [ResIs])) rfl ⟨by rw [HR.out], HB4.out⟩
    ·go_upto_region 8 with fail
     refine wp_name ?_
     intro W2 hW2
     have hb2 : Below W1.heap.size W1 W2 := by rw [hW2]; first | exact Below.refl _ _ | exact below_of_grow _ _
     have h2 := H1.out.step hb2
     have c15 := (rk_cuts hn ht h2.2.1).2.2.2.2
     have lk2 := lt_of_some h2.2.1
     have H2 := Lib.hid h2
     clear hW2 hb2 h2 c0 c1 c2 cn ct lr lk tr
     go_wp2_with fail
     refine Gives.use (HTG.out _) ?_
     intro xs3 d3
     go_upto_region 9 with fail
     refine wp_name ?_
     intro W3 hW3
     obtain ⟨tb, htb⟩ : ∃ tb, tb = W2.heap.size + xs3.size := ⟨_, rfl⟩
     have hb3 : Below W2.heap.size W2 W3 := by rw [hW3]; exact blw
     have ht3 : W3.heap[tb]? = some (.cells (tag3A (refOf t).1) 148) := by rw [hW3, htb]; exact (heap_al _ _ _).trans (if_pos (by simp))
     rw [← htb]
     have h3 := H2.out.step hb3
     have ctl : W3.cell? ⟨tb, 0, none⟩ = some (.string (bs (refOf t).1.1)) := (row_is ht3 0).1
     have lt3 := lt_of_some ht3
     have lr3 := lt_of_some h3.2.2.1
     have tr3 := h3.there
     have ck3 := (rk_cuts hn ht h3.2.1).2.2.1
     have fk3 := (row_is h3.2.1 2).2
     have lk3 := lt_of_some h3.2.1
     have tn3 : W3.there? kb 3 12 = true := by simp [World.there?, h3.2.1, rk_size, hn, ht]
     have tt3 : W3.there? kb 15 10 = true := by simp [World.there?, h3.2.1, rk_size, hn, ht]
     obtain ⟨p1, p2⟩ := h3.set2.there2 (by simp [hn, ht])
     obtain ⟨p3, p4⟩ := (h3.layn hn ht).there2 (by simp [ht, zeros])
     obtain ⟨p5, p6⟩ := (h3.set2.layn hn ht).there2 (by simp [ht, zeros])
     have H3 := Lib.hid h3
     clear hW3 htb hb3 ht3 h3 c15 lk2
     have htag : ut = false ∨ (ut = true ∧ tagRight t = false) ∨ (ut = true ∧ tagRight t = true ∧ ((refOf t).1.1 == []) = true ∧ t = zeros 10) ∨ (ut = true ∧ tagRight t = true ∧ ((refOf t).1.1 == []) = false ∧ ¬ t = zeros 10) := by
      cases ut with
      | false => exact .inl rfl
      | true =>
       cases htr : tagRight t with
       | false => exact .inr (.inl ⟨rfl, rfl⟩)
       | true =>
        have h := HRL.out (by rw [refOf_right ht]; exact htr)
        by_cases hz : t = zeros 10
        ·exact .inr (.inr (.inl ⟨rfl, rfl, by rw [h.2 hz]; rfl, hz⟩))
        ·exact .inr (.inr (.inr ⟨rfl, rfl, by rw [beq_eq_false_iff_ne]; exact fun e => hz (h.1 e), hz⟩))
     clear HRL
     generalize (refOf t).1 = tg at *
     have hfz := (H3.out.fin 0 0 0 (zeros 22) (by simp)).1
     rcases htag with rfl | ⟨rfl, q1⟩ | ⟨rfl, q1, q2, q3⟩ | ⟨rfl, q1, q2, q3⟩
     ·have hres : e = 0 ∧ r = rk a b c (zeros 12 ++ zeros 10) := by
       obtain ⟨x1, x2⟩ := HX.out
       rw [if_neg (fun h => by cases h.1), if_neg (fun h => by cases h.1)] at x1
       refine ⟨x1, ?_⟩
       rw [x2, if_pos x1, if_pos (by omega)]
       rfl
      obtain ⟨rfl, hr⟩ := hres
      have HR := Lib.hid hr
      clear HX hr
      go_upto_region 17 with fail
      refine wp_name ?_
      intro W4 hW4
      have h4 : KF w kb (rk a b c (zeros 12 ++ zeros 10)) W4 := by rw [hW4]; exact ((H3.out).layn hn ht).layt (by simp [zeros]) ht
      have hl22 : (zeros 12 ++ zeros 10).length = 22 := by simp [zeros]
      have c25 := cut_heap h4.2.1 (rk_sz a b c hl22)
      have lk4 := lt_of_some h4.2.1
      have tr4 := h4.there
      have hfin := (h4.fin a b c _ hl22).1
      have HB4 := Lib.hid (h4.fin a b c _ hl22).2
      clear hW4 h4
      go_wp2_with fail
      exact bodyPost_ret (v := .tuple #[.agg (rk a b c (zeros 12 ++ zeros 10)), .int .i64 0]) (results_two Tryz.results62 (ResIs.row rfl agg_rkey (by first | exact hfin | simp [go_sem, hfin])) (by simp [ResIs])) rfl ⟨by rw [HR.out], HB4.out⟩
     ·have hres : e = 14 ∧ r = rk 0 0 0 (zeros 22) := by
       obtain ⟨x1, x2⟩ := HX.out
       rw [if_neg (fun h => by cases h.1), if_pos ⟨rfl, .inl q1⟩] at x1
       exact ⟨x1, by rw [x2, x1, if_neg (by decide)]⟩
      obtain ⟨rfl, hr⟩ := hres
      have HR := Lib.hid hr
      clear HX hr
      go_wp2_with fail
      exact bodyPost_ret (v := .tuple #[.agg (rk 0 0 0 (zeros 22)), .int .i64 14]) (results_two Tryz.results62 (ResIs.row rfl agg_rkey (by first | exact hfz | simp [go_sem, hfz])) (by simp [ResIs])) rfl ⟨by rw [HR.out], (H3.out.fin 0 0 0 (zeros 22) (by simp)).2⟩
     ·have hres : e = 14 ∧ r = rk 0 0 0 (zeros 22) := by
       obtain ⟨x1, x2⟩ := HX.out
       rw [if_neg (fun h => by cases h.1), if_pos ⟨rfl, .inr q3⟩] at x1
       exact ⟨x1, by rw [x2, x1, if_neg (by decide)]⟩
      obtain ⟨rfl, hr⟩ := hres
      have HR := Lib.hid hr
      clear HX hr
      go_wp2_with fail
      exact bodyPost_ret (v := .tuple #[.agg (rk 0 0 0 (zeros 22)), .int .i64 14]) (results_two Tryz.results62 (ResIs.row rfl agg_rkey (by first | exact hfz | simp [go_sem, hfz])) (by simp [ResIs])) rfl ⟨by rw [HR.out], (H3.out.fin 0 0 0 (zeros 22) (by simp)).2⟩
     ·have hres : e = 0 ∧ r = rk a b c (zeros 12 ++ t) := by
       obtain ⟨x1, x2⟩ := HX.out
       rw [if_neg (fun h => by cases h.1), if_neg (fun h => h.2.elim (fun h2 => by rw [q1] at h2; cases h2) q3)] at x1
       refine ⟨x1, ?_⟩
       rw [x2, if_pos x1, if_pos (by omega)]
       rfl
      obtain ⟨rfl, hr⟩ := hres
      have HR := Lib.hid hr
      clear HX hr
      go_upto_region 17 with fail
      refine wp_name ?_
      intro W4 hW4
      have h4 : KF w kb (rk a b c (zeros 12 ++ t)) W4 := by rw [hW4]; exact (H3.out).layn hn ht
      have hl22 : (zeros 12 ++ t).length = 22 := by simp [ht, zeros]
      have c25 := cut_heap h4.2.1 (rk_sz a b c hl22)
      have lk4 := lt_of_some h4.2.1
      have tr4 := h4.there
      have hfin := (h4.fin a b c _ hl22).1
      have HB4 := Lib.hid (h4.fin a b c _ hl22).2
      clear hW4 h4
      go_wp2_with fail
      exact bodyPost_ret (v := .tuple #[.agg (rk a b c (zeros 12 ++ t)), .int .i64 0]) (results_two Tryz.results62 (ResIs.row rfl agg_rkey (by first | exact hfin | simp [go_sem, hfin])) (by simp [ResIs])) rfl ⟨by rw [HR.out], HB4.out⟩
   ·have hres : e = 15 ∧ r = rk 0 0 0 (zeros 22) := by
     obtain ⟨x1, x2⟩ := HX.out
     rw [if_pos ⟨rfl, hnr⟩] at x1
     exact ⟨x1, by rw [x2, x1, if_neg (by decide)]⟩
    obtain ⟨rfl, hr⟩ := hres
    have HR := Lib.hid hr
    have hn2 : (nameText n == []) = true := by rw [hnt, hnr]; rfl
    have hfin := (H1.out.fin 0 0 0 (zeros 22) (by simp)).1
    clear HX hr hnt hnr
    rcases hu with ⟨u1, u2, u3⟩ | ⟨u1, u2, u3, u4⟩
    all_goals
     go_wp2_with fail
     refine Gives.use (HTX.out _) ?_
     intro xs2 d2
     go_wp2_with fail
     exact bodyPost_ret (v := .tuple #[.agg (rk 0 0 0 (zeros 22)), .int .i64 15]) (results_two Tryz.results62 (ResIs.row rfl agg_rkey (by first | exact hfin | exact (cut_of_heap (World.grow_heap _ _ _ (by simpa using lr)) _ _).trans hfin | simp [go_sem, hfin])) (by simp [ResIs])) rfl ⟨by rw [HR.out], ((H1.out.fin 0 0 0 (zeros 22) (by simp)).2).grow (by have := H1.out.1.size; simp; omega) _ _⟩
   ·have hn2 : (nameText n == []) = false := by rw [hnt, hnr]; rfl
    rcases hu with ⟨u1, u2, u3⟩ | ⟨u1, u2, u3, u4⟩
    ·go_wp2_with fail
     refine Gives.use (HTX.out _) ?_
     intro xs2 d2
     go_upto_region 8 with fail
     refine wp_name ?_
     intro W2 hW2
     have hb2 : Below W1.heap.size W1 W2 := by rw [hW2]; first | exact Below.refl _ _ | exact below_of_grow _ _
     have h2 := H1.out.step hb2
     have c15 := (rk_cuts hn ht h2.2.1).2.2.2.2
     have lk2 := lt_of_some h2.2.1
     have H2 := Lib.hid h2
     clear hW2 hb2 h2 c0 c1 c2 cn ct lr lk tr
     go_wp2_with fail
     refine Gives.use (HTG.out _) ?_
     intro xs3 d3
     go_upto_region 9 with fail
     refine wp_name ?_
     intro W3 hW3
     obtain ⟨tb, htb⟩ : ∃ tb, tb = W2.heap.size + xs3.size := ⟨_, rfl⟩
     have hb3 : Below W2.heap.size W2 W3 := by rw [hW3]; exact blw
     have ht3 : W3.heap[tb]? = some (.cells (tag3A (refOf t).1) 148) := by rw [hW3, htb]; exact (heap_al _ _ _).trans (if_pos (by simp))
     rw [← htb]
     have h3 := H2.out.step hb3
     have ctl : W3.cell? ⟨tb, 0, none⟩ = some (.string (bs (refOf t).1.1)) := (row_is ht3 0).1
     have lt3 := lt_of_some ht3
     have lr3 := lt_of_some h3.2.2.1
     have tr3 := h3.there
     have ck3 := (rk_cuts hn ht h3.2.1).2.2.1
     have fk3 := (row_is h3.2.1 2).2
     have lk3 := lt_of_some h3.2.1
     have tn3 : W3.there? kb 3 12 = true := by simp [World.there?, h3.2.1, rk_size, hn, ht]
     have tt3 : W3.there? kb 15 10 = true := by simp [World.there?, h3.2.1, rk_size, hn, ht]
     obtain ⟨p1, p2⟩ := h3.set2.there2 (by simp [hn, ht])
     obtain ⟨p3, p4⟩ := (h3.layn hn ht).there2 (by simp [ht, zeros])
     obtain ⟨p5, p6⟩ := (h3.set2.layn hn ht).there2 (by simp [ht, zeros])
     have H3 := Lib.hid h3
     clear hW3 htb hb3 ht3 h3 c15 lk2
     have htag : ut = false ∨ (ut = true ∧ tagRight t = false) ∨ (ut = true ∧ tagRight t = true ∧ ((refOf t).1.1 == []) = true ∧ t = zeros 10) ∨ (ut = true ∧ tagRight t = true ∧ ((refOf t).1.1 == []) = false ∧ ¬ t = zeros 10) := by
      cases ut with
      | false => exact .inl rfl
      | true =>
       cases htr : tagRight t with
       | false => exact .inr (.inl ⟨rfl, rfl⟩)
       | true =>
        have h := HRL.out (by rw [refOf_right ht]; exact htr)
        by_cases hz : t = zeros 10
        ·exact .inr (.inr (.inl ⟨rfl, rfl, by rw [h.2 hz]; rfl, hz⟩))
        ·exact .inr (.inr (.inr ⟨rfl, rfl, by rw [beq_eq_false_iff_ne]; exact fun e => hz (h.1 e), hz⟩))
     clear HRL
     generalize (refOf t).1 = tg at *
     have hfz := (H3.out.fin 0 0 0 (zeros 22) (by simp)).1
     rcases htag with rfl | ⟨rfl, q1⟩ | ⟨rfl, q1, q2, q3⟩ | ⟨rfl, q1, q2, q3⟩
     ·have hres : e = 0 ∧ r = rk a b 0 (n ++ zeros 10) := by
       obtain ⟨x1, x2⟩ := HX.out
       rw [if_neg (fun h => by rw [hnr] at h; cases h.2), if_neg (fun h => by cases h.1)] at x1
       refine ⟨x1, ?_⟩
       rw [x2, if_pos x1, if_neg (by omega)]
       rfl
      obtain ⟨rfl, hr⟩ := hres
      have HR := Lib.hid hr
      clear HX hr
      go_upto_region 17 with fail
      refine wp_name ?_
      intro W4 hW4
      have h4 : KF w kb (rk a b 0 (n ++ zeros 10)) W4 := by rw [hW4]; exact ((H3.out).set2).layt hn ht
      have hl22 : (n ++ zeros 10).length = 22 := by simp [hn, zeros]
      have c25 := cut_heap h4.2.1 (rk_sz a b 0 hl22)
      have lk4 := lt_of_some h4.2.1
      have tr4 := h4.there
      have hfin := (h4.fin a b 0 _ hl22).1
      have HB4 := Lib.hid (h4.fin a b 0 _ hl22).2
      clear hW4 h4
      go_wp2_with fail
      exact bodyPost_ret (v := .tuple #[.agg (rk a b 0 (n ++ zeros 10)), .int .i64 0]) (results_two Tryz.results62 (ResIs.row rfl agg_rkey (by first | exact hfin | simp [go_sem, hfin])) (by simp [ResIs])) rfl ⟨by rw [HR.out], HB4.out⟩
     ·have hres : e = 14 ∧ r = rk 0 0 0 (zeros 22) := by
       obtain ⟨x1, x2⟩ := HX.out
       rw [if_neg (fun h => by rw [hnr] at h; cases h.2), if_pos ⟨rfl, .inl q1⟩] at x1
       exact ⟨x1, by rw [x2, x1, if_neg (by decide)]⟩
      obtain ⟨rfl, hr⟩ := hres
      have HR := Lib.hid hr
      clear HX hr
      go_wp2_with fail
      exact bodyPost_ret (v := .tuple #[.agg (rk 0 0 0 (zeros 22)), .int .i64 14]) (results_two Tryz.results62 (ResIs.row rfl agg_rkey (by first | exact hfz | simp [go_sem, hfz])) (by simp [ResIs])) rfl ⟨by rw [HR.out], (H3.out.fin 0 0 0 (zeros 22) (by simp)).2⟩
     ·have hres : e = 14 ∧ r = rk 0 0 0 (zeros 22) := by
       obtain ⟨x1, x2⟩ := HX.out
       rw [if_neg (fun h => by rw [hnr] at h; cases h.2), if_pos ⟨rfl, .inr q3⟩] at x1
       exact ⟨x1, by rw [x2, x1, if_neg (by decide)]⟩
      obtain ⟨rfl, hr⟩ := hres
      have HR := Lib.hid hr
      clear HX hr
      go_wp2_with fail
      exact bodyPost_ret (v := .tuple #[.agg (rk 0 0 0 (zeros 22)), .int .i64 14]) (results_two Tryz.results62 (ResIs.row rfl agg_rkey (by first | exact hfz | simp [go_sem, hfz])) (by simp [ResIs])) rfl ⟨by rw [HR.out], (H3.out.fin 0 0 0 (zeros 22) (by simp)).2⟩
     ·have hres : e = 0 ∧ r = rk a b 0 (n ++ t) := by
       obtain ⟨x1, x2⟩ := HX.out
       rw [if_neg (fun h => by rw [hnr] at h; cases h.2), if_neg (fun h => h.2.elim (fun h2 => by rw [q1] at h2; cases h2) q3)] at x1
       refine ⟨x1, ?_⟩
       rw [x2, if_pos x1, if_neg (by omega)]
       rfl
      obtain ⟨rfl, hr⟩ := hres
      have HR := Lib.hid hr
      clear HX hr
      go_upto_region 17 with fail
      refine wp_name ?_
      intro W4 hW4
      have h4 : KF w kb (rk a b 0 (n ++ t)) W4 := by rw [hW4]; exact (H3.out).set2
      have hl22 : (n ++ t).length = 22 := by simp [hn, ht]
      have c25 := cut_heap h4.2.1 (rk_sz a b 0 hl22)
      have lk4 := lt_of_some h4.2.1
      have tr4 := h4.there
      have hfin := (h4.fin a b 0 _ hl22).1
      have HB4 := Lib.hid (h4.fin a b 0 _ hl22).2
      clear hW4 h4
      go_wp2_with fail
      exact bodyPost_ret (v := .tuple #[.agg (rk a b 0 (n ++ t)), .int .i64 0]) (results_two Tryz.results62 (ResIs.row rfl agg_rkey (by first | exact hfin | simp [go_sem, hfin])) (by simp [ResIs])) rfl ⟨by rw [HR.out], HB4.out⟩
    ·go_wp2_with fail
     refine Gives.use (HTX.out _) ?_
     intro xs2 d2
     go_upto_region 8 with fail
     refine wp_name ?_
     intro W2 hW2
     have hb2 : Below W1.heap.size W1 W2 := by rw [hW2]; first | exact Below.refl _ _ | exact below_of_grow _ _
     have h2 := H1.out.step hb2
     have c15 := (rk_cuts hn ht h2.2.1).2.2.2.2
     have lk2 := lt_of_some h2.2.1
     have H2 := Lib.hid h2
     clear hW2 hb2 h2 c0 c1 c2 cn ct lr lk tr
     go_wp2_with fail
     refine Gives.use (HTG.out _) ?_
     intro xs3 d3
     go_upto_region 9 with fail
     refine wp_name ?_
     intro W3 hW3
     obtain ⟨tb, htb⟩ : ∃ tb, tb = W2.heap.size + xs3.size := ⟨_, rfl⟩
     have hb3 : Below W2.heap.size W2 W3 := by rw [hW3]; exact blw
     have ht3 : W3.heap[tb]? = some (.cells (tag3A (refOf t).1) 148) := by rw [hW3, htb]; exact (heap_al _ _ _).trans (if_pos (by simp))
     rw [← htb]
     have h3 := H2.out.step hb3
     have ctl : W3.cell? ⟨tb, 0, none⟩ = some (.string (bs (refOf t).1.1)) := (row_is ht3 0).1
     have lt3 := lt_of_some ht3
     have lr3 := lt_of_some h3.2.2.1
     have tr3 := h3.there
     have ck3 := (rk_cuts hn ht h3.2.1).2.2.1
     have fk3 := (row_is h3.2.1 2).2
     have lk3 := lt_of_some h3.2.1
     have tn3 : W3.there? kb 3 12 = true := by simp [World.there?, h3.2.1, rk_size, hn, ht]
     have tt3 : W3.there? kb 15 10 = true := by simp [World.there?, h3.2.1, rk_size, hn, ht]
     obtain ⟨p1, p2⟩ := h3.set2.there2 (by simp [hn, ht])
     obtain ⟨p3, p4⟩ := (h3.layn hn ht).there2 (by simp [ht, zeros])
     obtain ⟨p5, p6⟩ := (h3.set2.layn hn ht).there2 (by simp [ht, zeros])
     have H3 := Lib.hid h3
     clear hW3 htb hb3 ht3 h3 c15 lk2
     have htag : ut = false ∨ (ut = true ∧ tagRight t = false) ∨ (ut = true ∧ tagRight t = true ∧ ((refOf t).1.1 == []) = true ∧ t = zeros 10) ∨ (ut = true ∧ tagRight t = true ∧ ((refOf t).1.1 == []) = false ∧ ¬ t = zeros 10) := by
      cases ut with
      | false => exact .inl rfl
      | true =>
       cases htr : tagRight t with
       | false => exact .inr (.inl ⟨rfl, rfl⟩)
       | true =>
        have h := HRL.out (by rw [refOf_right ht]; exact htr)
        by_cases hz : t = zeros 10
        ·exact .inr (.inr (.inl ⟨rfl, rfl, by rw [h.2 hz]; rfl, hz⟩))
        ·exact .inr (.inr (.inr ⟨rfl, rfl, by rw [beq_eq_false_iff_ne]; exact fun e => hz (h.1 e), hz⟩))
     clear HRL
     generalize (refOf t).1 = tg at *
     have hfz := (H3.out.fin 0 0 0 (zeros 22) (by simp)).1
     rcases htag with rfl | ⟨rfl, q1⟩ | ⟨rfl, q1, q2, q3⟩ | ⟨rfl, q1, q2, q3⟩
     ·have hres : e = 0 ∧ r = rk a b c (n ++ zeros 10) := by
       obtain ⟨x1, x2⟩ := HX.out
       rw [if_neg (fun h => by rw [hnr] at h; cases h.2), if_neg (fun h => by cases h.1)] at x1
       refine ⟨x1, ?_⟩
       rw [x2, if_pos x1, if_pos (by omega)]
       rfl
      obtain ⟨rfl, hr⟩ := hres
      have HR := Lib.hid hr
      clear HX hr
      go_upto_region 17 with fail
      refine wp_name ?_
      intro W4 hW4
      have h4 : KF w kb (rk a b c (n ++ zeros 10)) W4 := by rw [hW4]; exact (H3.out).layt hn ht
      have hl22 : (n ++ zeros 10).length = 22 := by simp [hn, zeros]
      have c25 := cut_heap h4.2.1 (rk_sz a b c hl22)
      have lk4 := lt_of_some h4.2.1
      have tr4 := h4.there
      have hfin := (h4.fin a b c _ hl22).1
      have HB4 := Lib.hid (h4.fin a b c _ hl22).2
      clear hW4 h4
      go_wp2_with fail
      exact bodyPost_ret (v := .tuple #[.agg (rk a b c (n ++ zeros 10)), .int .i64 0]) (results_two Tryz.results62 (ResIs.row rfl agg_rkey (by first | exact hfin | simp [go_sem, hfin])) (by simp [ResIs])) rfl ⟨by rw [HR.out], HB4.out⟩
     ·have hres : e = 14 ∧ r = rk 0 0 0 (zeros 22) := by
       obtain ⟨x1, x2⟩ := HX.out
       rw [if_neg (fun h => by rw [hnr] at h; cases h.2), if_pos ⟨rfl, .inl q1⟩] at x1
       exact ⟨x1, by rw [x2, x1, if_neg (by decide)]⟩
      obtain ⟨rfl, hr⟩ := hres
      have HR := Lib.hid hr
      clear HX hr
      go_wp2_with fail
      exact bodyPost_ret (v := .tuple #[.agg (rk 0 0 0 (zeros 22)), .int .i64 14]) (results_two Tryz.results62 (ResIs.row rfl agg_rkey (by first | exact hfz | simp [go_sem, hfz])) (by simp [ResIs])) rfl ⟨by rw [HR.out], (H3.out.fin 0 0 0 (zeros 22) (by simp)).2⟩
     ·have hres : e = 14 ∧ r = rk 0 0 0 (zeros 22) := by
       obtain ⟨x1, x2⟩ := HX.out
       rw [if_neg (fun h => by rw [hnr] at h; cases h.2), if_pos ⟨rfl, .inr q3⟩] at x1
       exact ⟨x1, by rw [x2, x1, if_neg (by decide)]⟩
      obtain ⟨rfl, hr⟩ := hres
      have HR := Lib.hid hr
      clear HX hr
      go_wp2_with fail
      exact bodyPost_ret (v := .tuple #[.agg (rk 0 0 0 (zeros 22)), .int .i64 14]) (results_two Tryz.results62 (ResIs.row rfl agg_rkey (by first | exact hfz | simp [go_sem, hfz])) (by simp [ResIs])) rfl ⟨by rw [HR.out], (H3.out.fin 0 0 0 (zeros 22) (by simp)).2⟩
     ·have hres : e = 0 ∧ r = rk a b c (n ++ t) := by
       obtain ⟨x1, x2⟩ := HX.out
       rw [if_neg (fun h => by rw [hnr] at h; cases h.2), if_neg (fun h => h.2.elim (fun h2 => by rw [q1] at h2; cases h2) q3)] at x1
       refine ⟨x1, ?_⟩
       rw [x2, if_pos x1, if_pos (by omega)]
       rfl
      obtain ⟨rfl, hr⟩ := hres
      have HR := Lib.hid hr
      clear HX hr
      go_upto_region 17 with fail
      refine wp_name ?_
      intro W4 hW4
      have h4 : KF w kb (rk a b c (n ++ t)) W4 := by rw [hW4]; exact H3.out
      have hl22 : (n ++ t).length = 22 := by simp [hn, ht]
      have c25 := cut_heap h4.2.1 (rk_sz a b c hl22)
      have lk4 := lt_of_some h4.2.1
      have tr4 := h4.there
      have hfin := (h4.fin a b c _ hl22).1
      have HB4 := Lib.hid (h4.fin a b c _ hl22).2
      clear hW4 h4
      go_wp2_with fail
      exact bodyPost_ret (v := .tuple #[.agg (rk a b c (n ++ t)), .int .i64 0]) (results_two Tryz.results62 (ResIs.row rfl agg_rkey (by first | exact hfin | simp [go_sem, hfin])) (by simp [ResIs])) rfl ⟨by rw [HR.out], HB4.out⟩
theorem usedAt_pos (a : Int) : usedAt a = 0 ∨ 0 < usedAt a := by
 unfold usedAt
 split
 ·right; decide
 ·split
  ·right; decide
  ·left; rfl
theorem refOf6_gives (a b c : Int) (n t : List UInt8) (hn : n.length = 12) (ht : t.length = 10) (w : World) :
  Gives Tryz.prog 62 #[.agg (rk a b c (n ++ t))] w (.tuple #[.agg (rkOf a b c n t), .int .i64 (keyErr a b c n t)]) :=
 refOf6_core a b c (usedAt a) (usedName a) (usedTag a) n t hn ht rfl rfl rfl (usedAt_pos a) w
end Go.Proofs.YtcedmfnlkelhkaaGreatDoor
namespace Go.Proofs.YtcedmfnlkelhkaaGreatDoor
set_option maxRecDepth 100000
open Go.RowKit

theorem byteOf_byt (x : UInt8) : byteOf (x.toNat : Int) = x := by
 unfold byteOf
 have := x.toNat_lt
 apply UInt8.toNat_inj.1
 rw [UInt8.toNat_ofNat']
 omega
theorem byt_c0 (x : UInt8) (l : List UInt8) : byt (x :: l) 0 = x := rfl
theorem byt_c1 (x y : UInt8) (l : List UInt8) : byt (x :: y :: l) 1 = y := rfl
theorem byt_c2 (x y z : UInt8) (l : List UInt8) : byt (x :: y :: z :: l) 2 = z := rfl
/-- the key of a key's parts is the key that the shelf's makes -/
theorem rkOf_bytes (x y z : UInt8) (n t : List UInt8) : rkOf (x.toNat : Int) (y.toNat : Int) (z.toNat : Int) n t = rkey (keyOf (x.toNat : Int) (y.toNat : Int) (z.toNat : Int) n t) := by
 unfold rkOf keyOf
 split
 ·unfold keyMade rkey
  rw [byteOf_byt, byteOf_byt]
  simp only [List.cons_append, List.nil_append, byt_c0, byt_c1, byt_c2]
  split
  ·rw [byteOf_byt]; rfl
  ·rfl
 ·rfl
theorem flat_keyD : FlatType Tryz.prog 114 keyDKs := ⟨by kernel_rfl, by kernel_rfl, agg_rkey⟩
theorem eq_rkeyK (a b : K25) (w : World) : (Op.equalIn 10000 114 (.agg (rkey a.val)) (.agg (rkey b.val))).run Tryz.prog w = .ok (decide (a = b)) w :=
 eq_of_flat (f := keyDL) (g := keyDLs) flat_keyD keyD_fit (fun _ _ h => keyD_inj h) a b w
@[go_sem ↓ high] theorem eq_rk {a b : List UInt8} (ha : a.length = 25) (hb : b.length = 25) (w : World) : (Op.equalIn 10000 114 (.agg (rkey a)) (.agg (rkey b))).run Tryz.prog w = .ok (a == b) w := by
 have h := eq_rkeyK (⟨a, ha⟩ : K25) (⟨b, hb⟩ : K25) w
 rw [show (Op.equalIn 10000 114 (.agg (rkey a)) (.agg (rkey b))).run Tryz.prog w = .ok (decide ((⟨a, ha⟩ : K25) = ⟨b, hb⟩)) w from h]
 congr 1
 rw [Bool.eq_iff_iff, decide_eq_true_eq, beq_iff_eq]
 exact ⟨fun h => congrArg Subtype.val h, fun h => Subtype.ext h⟩
theorem rkey_sz {k : List UInt8} (hk : k.length = 25) : (rkey k).size = 25 := by unfold rkey; rw [rk_size]; simp [hk]
@[go_sem] theorem rkey_ex (k : List UInt8) (hk : k.length = 25) : (rkey k).extract 0 25 = rkey k := by
 apply Array.extract_eq_self_of_le; rw [rkey_sz hk]; exact Nat.le_refl _
@[go_sem] theorem run_rowStore_rkey {w : World} {n o : Nat} {k : List UInt8} (hk : k.length = 25) (hc : w.there? n o 25 = true) :
  (rowStore 114 ⟨n, o, none⟩ (.agg (rkey k))).run Tryz.prog w = .ok () (w.lay n o (rkey k)) :=
 run_rowStore (by rw [agg_rkey, rkey_sz hk]) (by rw [rkey_sz hk]; exact hc) (rk_one _ _ _ _)
theorem keyOf_lenR (k p a : Int) (n t : List UInt8) (hn : n.length = 12) (ht : t.length = 10) : (keyOf k p a n t).length = 25 := by
 unfold keyOf keyMade
 split
 ·split <;> split <;> split <;> simp [hn, ht, zeros]
 ·simp
set_option maxHeartbeats 1600000 in
theorem refRight_gives (k : List UInt8) (hk : k.length = 25) (w : World) : Gives Tryz.prog 30 #[.agg (rkey k)] w (.bool (keyRight k)) := by
 have hn : ((k.take 15).drop 3).length = 12 := by simp; omega
 have ht : (k.drop 15).length = 10 := by simp; omega
 have ho := refOf6_gives (byt k 0).toNat (byt k 1).toNat (byt k 2).toNat _ _ hn ht
 have hl := keyOf_lenR (byt k 0).toNat (byt k 1).toNat (byt k 2).toNat _ _ hn ht
 have e3 : kName k = (k.take 15).drop 3 := by unfold kName; rw [List.drop_take]
 have esp : (k.take 15).drop 3 ++ k.drop 15 = k.drop 3 := by
  have := List.take_append_drop 12 (k.drop 3)
  rw [List.drop_drop] at this
  rw [List.drop_take]
  exact this
 rw [rkOf_bytes, esp] at ho
 unfold keyRight
 rw [e3]
 unfold kKind kProj kAt kTag
 generalize keyOf ((byt k 0).toNat : Int) ((byt k 1).toNat : Int) ((byt k 2).toNat : Int) ((k.take 15).drop 3) (k.drop 15) = ko at ho hl ⊢
 generalize keyErr ((byt k 0).toNat : Int) ((byt k 1).toNat : Int) ((byt k 2).toNat : Int) ((k.take 15).drop 3) (k.drop 15) = er at ho ⊢
 have HO := Lib.hid (show ∀ w, Gives Tryz.prog 62 #[.agg (rkey k)] w (.tuple #[.agg (rkey ko), .int .i64 er]) from ho)
 have hs1 : (rkey k).size = 25 := by unfold rkey; rw [rk_size]; simp [hk]
 have hs2 : (rkey ko).size = 25 := by unfold rkey; rw [rk_size]; simp [hl]
 have ho1 : (rkey k).all (·.oneCell') = true := rk_one _ _ _ _
 have ho2 : (rkey ko).all (·.oneCell') = true := rk_one _ _ _ _
 clear ho esp e3 hn ht
 unfold Gives
 go_enter Tryz.func30, Tryz.ntmps30
 go_wp2_with (go_at_call 62; refine Gives.use (HO.out _) ?_; intro xs d)
 all_goals
  go_ret
  refine ⟨?_, ?_⟩
  rotate_left
  ·exact blw
  ·exact congrArg Ending.returned (congrArg Value.bool (by first | (simp [*]; done) | (rw [Bool.eq_iff_iff]; simp [*]; done) | (rw [Bool.eq_iff_iff]; simp [*]; omega) | (rw [Bool.eq_iff_iff]; simp; omega)))
end Go.Proofs.YtcedmfnlkelhkaaGreatDoor

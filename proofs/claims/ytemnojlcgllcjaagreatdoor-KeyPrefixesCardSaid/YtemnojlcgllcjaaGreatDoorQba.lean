/- The document's keys: is a key of a prefix? The document's bytes: are they the same? -/
import Derived.Test.YtemnojlcgllcjaaGreatDoorQaw
import Derived.Test.YtemnojlcgllcjaaGreatDoorQaz
import Derived.Test.YtemnojlcgllcjaaGreatDoorQam
import Derived.Test.YtemnojlcgllcjaaGreatDoorQax
import Derived.Handy
namespace Go.Proofs.YtemnojlcgllcjaaGreatDoor
set_option maxRecDepth 100000
open Go.RowKit

theorem flat_b10 : FlatType Tryz.prog 55 (byteKinds 10) := ⟨by kernel_rfl, by kernel_rfl, by kernel_rfl⟩
@[go_sem ↓ high] theorem eq_b10 (a b : List UInt8) (ha : a.length = 10) (hb : b.length = 10) (w : World) :
    (Op.equalIn 10000 55 (.agg (row8 a)) (.agg (row8 b))).run Tryz.prog w = .ok (a == b) w :=
  row8_eq (by rw [ha]; exact flat_b10) (by rw [ha, hb]) w
theorem ref2Same_gives {w : World} {B B' : Nat} {u v : Value} (a b : List UInt8) (ha : SlB w B u a) (hb : SlB w B' v b) (hB : B ≤ w.heap.size) (hB' : B' ≤ w.heap.size) : Gives Tryz.prog 49 #[u, v] w (.bool (a == b)) := by
  have H1 := Lib.hid (ref2Less_gives a b ha hb)
  have H2 := Lib.hid (show ∀ xs d, Gives Tryz.prog 45 #[v, u] (w.grow xs d) (.bool (lessL b a)) from fun xs d => ref2Less_gives b a (hb.keep fun k hk => World.grow_heap _ _ _ (by omega)) (ha.keep fun k hk => World.grow_heap _ _ _ (by omega)))
  rw [← same_lessL]
  clear ha hb
  cases h1 : lessL a b
  · rw [h1] at H1
    clear h1
    unfold Gives
    go_enter Tryz.func49, Tryz.ntmps49
    go_wp2_with fail
    refine Gives.use H1.out ?_
    intro xs d
    go_wp2_with fail
    refine Gives.use (H2.out _ _) ?_
    intro ys e
    go_wp2_with fail
    go_ret
    exact ⟨congrArg Ending.returned (congrArg Value.bool (by simp)), (by repeat (first | exact below_of_grow _ _ | exact Below.refl _ _ | exact below_more _ _ _ _ | (simp only [← Array.append_assoc]; first | exact below_more _ _ _ _ | exact below_same _ _ _ | exact Below.refl _ _) | exact below_same _ _ _ | (refine Below.alloc ?_ (by first | (simp; done) | (simp; omega)) _) | (refine Below.grow ?_ (by first | (simp; done) | (simp; omega)) _ _) | refine Below.drew ?_ | refine Below.drewN ?_ _ | (refine Below.putF ?_ (by first | (simp; done) | omega | (simp; omega)) _) | (refine Below.setCell ?_ (by first | (simp; done) | (simp; omega)) _)))⟩
  · rw [h1] at H1
    clear h1
    unfold Gives
    go_enter Tryz.func49, Tryz.ntmps49
    go_wp2_with fail
    refine Gives.use H1.out ?_
    intro xs d
    go_wp2_with fail
    go_ret
    exact ⟨congrArg Ending.returned (congrArg Value.bool (by simp)), (by repeat (first | exact below_of_grow _ _ | exact Below.refl _ _ | exact below_more _ _ _ _ | (simp only [← Array.append_assoc]; first | exact below_more _ _ _ _ | exact below_same _ _ _ | exact Below.refl _ _) | exact below_same _ _ _ | (refine Below.alloc ?_ (by first | (simp; done) | (simp; omega)) _) | (refine Below.grow ?_ (by first | (simp; done) | (simp; omega)) _ _) | refine Below.drew ?_ | refine Below.drewN ?_ _ | (refine Below.putF ?_ (by first | (simp; done) | omega | (simp; omega)) _) | (refine Below.setCell ?_ (by first | (simp; done) | (simp; omega)) _)))⟩
theorem byte_eqB (a b : UInt8) : (((a.toNat : Int)) == (b.toNat : Int)) = (a == b) := by
  rw [Bool.eq_iff_iff]; simp [← UInt8.toNat_inj]; omega
/-- a prefix by its parts -/
theorem hasB_parts (p k : K25) (d : Int) (h : 0 ≤ d ∧ d ≤ 5) : hasB p d k = ((decide (d < 1) || byt p.val 0 == byt k.val 0) && (decide (d < 2) || byt p.val 1 == byt k.val 1) && (decide (d < 3) || byt p.val 2 == byt k.val 2) && (decide (d < 4) || (p.val.take 15).drop 3 == (k.val.take 15).drop 3) && (decide (d < 5) || p.val.drop 15 == k.val.drop 15)) := by
  obtain ⟨p, hp⟩ := p
  obtain ⟨k, hk⟩ := k
  simp only
  obtain ⟨a0, a1, a2, A, rfl, hA⟩ : ∃ a0 a1 a2 A, p = a0 :: a1 :: a2 :: A ∧ A.length = 22 := by
    match p, hp with
    | a0 :: a1 :: a2 :: A, h => exact ⟨a0, a1, a2, A, rfl, by simpa using h⟩
  obtain ⟨b0, b1, b2, B, rfl, hB⟩ : ∃ b0 b1 b2 B, k = b0 :: b1 :: b2 :: B ∧ B.length = 22 := by
    match k, hk with
    | b0 :: b1 :: b2 :: B, h => exact ⟨b0, b1, b2, B, rfl, by simpa using h⟩
  have hAB : (A = B) ↔ (A.take 12 = B.take 12 ∧ A.drop 12 = B.drop 12) := by
    constructor
    · rintro rfl; exact ⟨rfl, rfl⟩
    · rintro ⟨h1, h2⟩; rw [← List.take_append_drop 12 A, ← List.take_append_drop 12 B, h1, h2]
  have e0 : byt (a0 :: a1 :: a2 :: A) 0 = a0 := rfl
  have e1 : byt (a0 :: a1 :: a2 :: A) 1 = a1 := rfl
  have e2 : byt (a0 :: a1 :: a2 :: A) 2 = a2 := rfl
  have f0 : byt (b0 :: b1 :: b2 :: B) 0 = b0 := rfl
  have f1 : byt (b0 :: b1 :: b2 :: B) 1 = b1 := rfl
  have f2 : byt (b0 :: b1 :: b2 :: B) 2 = b2 := rfl
  unfold hasB prefR plen
  rw [e0, e1, e2, f0, f1, f2, Bool.eq_iff_iff]
  rcases (show d = 0 ∨ d = 1 ∨ d = 2 ∨ d = 3 ∨ d = 4 ∨ d = 5 by omega) with rfl | rfl | rfl | rfl | rfl | rfl
  · simp
  · simp
  · simp
  · simp [and_assoc]
  · simp [and_assoc]
  · simp only [Int.reduceLT, if_false, Bool.and_eq_true, decide_eq_true_eq, Bool.or_eq_true, beq_iff_eq, List.take_succ_cons, List.drop_succ_cons, List.drop_zero]
    rw [List.take_of_length_le (by omega), List.take_of_length_le (by omega)]
    simp [hAB, and_assoc]
set_option maxHeartbeats 8000000 in
theorem refHas6_gives (p k : K25) (d : Int) (w : World) : Gives Tryz.prog 48 #[.agg (rkey p.val), .int .i64 d, .agg (rkey k.val)] w (.bool (hasB p d k)) := by
  by_cases hd : 0 ≤ d ∧ d ≤ 5
  · have hh := hasB_parts p k d hd
    have pp := p.property
    have pk := k.property
    generalize hasB p d k = r at *
    have HH := Lib.hid hh
    clear hh
    unfold Gives
    go_enter Tryz.func48, Tryz.ntmps48
    have h1 : ¬ (d < 0) := by omega
    have h2 : ¬ (5 < d) := by omega
    go_upto_region 3 with fail
    refine wp_name ?_
    intro W hW
    obtain ⟨q, hq⟩ : ∃ q, q = w.heap.size := ⟨_, rfl⟩
    have hbl : Below w.heap.size w W := by rw [hW]; exact (by repeat (first | exact below_of_grow _ _ | exact Below.refl _ _ | exact below_more _ _ _ _ | (simp only [← Array.append_assoc]; first | exact below_more _ _ _ _ | exact below_same _ _ _ | exact Below.refl _ _) | exact below_same _ _ _ | (refine Below.alloc ?_ (by first | (simp; done) | (simp; omega)) _) | (refine Below.grow ?_ (by first | (simp; done) | (simp; omega)) _ _) | refine Below.drew ?_ | refine Below.drewN ?_ _ | (refine Below.putF ?_ (by first | (simp; done) | omega | (simp; omega)) _) | (refine Below.setCell ?_ (by first | (simp; done) | (simp; omega)) _)))
    have hp0 : W.heap[q]? = some (.cells (rkey p.val) 57) := by rw [hW, hq, heap_al, if_neg (by simp), heap_al, if_pos rfl]
    have hk0 : W.heap[q + 1]? = some (.cells (rkey k.val) 57) := by rw [hW, hq, heap_al, if_pos (by simp)]
    have a0 : W.cell? ⟨q, 0, none⟩ = some (.int .i64 ((byt p.val 0).toNat : Int)) := (cellsK hp0 0).1.trans (rk_0 _ _ _ _)
    have a1 : W.cell? ⟨q, 1, none⟩ = some (.int .i64 ((byt p.val 1).toNat : Int)) := (cellsK hp0 1).1.trans (rk_1 _ _ _ _)
    have a2 : W.cell? ⟨q, 2, none⟩ = some (.int .i64 ((byt p.val 2).toNat : Int)) := (cellsK hp0 2).1.trans (rk_2 _ _ _ _)
    have b0 : W.cell? ⟨q + 1, 0, none⟩ = some (.int .i64 ((byt k.val 0).toNat : Int)) := (cellsK hk0 0).1.trans (rk_0 _ _ _ _)
    have b1 : W.cell? ⟨q + 1, 1, none⟩ = some (.int .i64 ((byt k.val 1).toNat : Int)) := (cellsK hk0 1).1.trans (rk_1 _ _ _ _)
    have b2 : W.cell? ⟨q + 1, 2, none⟩ = some (.int .i64 ((byt k.val 2).toNat : Int)) := (cellsK hk0 2).1.trans (rk_2 _ _ _ _)
    have ext3 : ∀ l : List UInt8, (rkey l).extract 3 15 = row8 ((l.take 15).drop 3) := fun l => by unfold rkey; rw [rk_extract _ _ _ _ _ _ (by decide)]; simp [List.drop_take]
    have ext15 : ∀ l : List UInt8, l.length = 25 → (rkey l).extract 15 25 = row8 (l.drop 15) := fun l hl => by unfold rkey; rw [rk_extract _ _ _ _ _ _ (by decide), List.take_of_length_le (by simp; omega)]; simp
    have a3 : W.cut? q 3 12 = some (row8 ((p.val.take 15).drop 3)) := by have := cut_sub (cut_heap hp0 (sz := 25) (rkey_sz pp)) (i := 3) (m := 12) (by decide); rwa [Nat.zero_add, ext3] at this
    have a4 : W.cut? q 15 10 = some (row8 (p.val.drop 15)) := by have := cut_sub (cut_heap hp0 (sz := 25) (rkey_sz pp)) (i := 15) (m := 10) (by decide); rwa [Nat.zero_add, ext15 _ pp] at this
    have b3 : W.cut? (q + 1) 3 12 = some (row8 ((k.val.take 15).drop 3)) := by have := cut_sub (cut_heap hk0 (sz := 25) (rkey_sz pk)) (i := 3) (m := 12) (by decide); rwa [Nat.zero_add, ext3] at this
    have b4 : W.cut? (q + 1) 15 10 = some (row8 (k.val.drop 15)) := by have := cut_sub (cut_heap hk0 (sz := 25) (rkey_sz pk)) (i := 15) (m := 10) (by decide); rwa [Nat.zero_add, ext15 _ pk] at this
    simp only [← hq]
    clear hW hp0 hk0 ext3 ext15
    have n1 : ((p.val.take 15).drop 3).length = 12 := by simp [pp]
    have n2 : ((k.val.take 15).drop 3).length = 12 := by simp [pk]
    have n3 : (p.val.drop 15).length = 10 := by simp [pp]
    have n4 : (k.val.drop 15).length = 10 := by simp [pk]
    have x0 := byte_eqB (byt p.val 0) (byt k.val 0)
    have x1 := byte_eqB (byt p.val 1) (byt k.val 1)
    have x2 := byte_eqB (byt p.val 2) (byt k.val 2)
    generalize ((byt p.val 0).toNat : Int) = u0 at *
    generalize ((byt p.val 1).toNat : Int) = u1 at *
    generalize ((byt p.val 2).toNat : Int) = u2 at *
    generalize ((byt k.val 0).toNat : Int) = v0 at *
    generalize ((byt k.val 1).toNat : Int) = v1 at *
    generalize ((byt k.val 2).toNat : Int) = v2 at *
    generalize (p.val.take 15).drop 3 = u3 at *
    generalize (k.val.take 15).drop 3 = v3 at *
    generalize p.val.drop 15 = u4 at *
    generalize k.val.drop 15 = v4 at *
    rw [← x0, ← x1, ← x2] at HH
    clear x0 x1 x2 pp pk
    have HB := Lib.hid hbl
    clear hbl hq
    rcases (show d = 0 ∨ d = 1 ∨ d = 2 ∨ d = 3 ∨ d = 4 ∨ d = 5 by omega) with rfl | rfl | rfl | rfl | rfl | rfl
    · skip
      go_wp2_with fail
      go_ret
      exact ⟨congrArg Ending.returned (congrArg Value.bool (by rw [HH.out]; simp)), HB.out⟩
    · skip
      cases e0 : (u0 == v0)
      · skip
        go_wp2_with fail
        go_ret
        exact ⟨congrArg Ending.returned (congrArg Value.bool (by rw [HH.out]; simp [e0])), HB.out⟩
      · skip
        go_wp2_with fail
        go_ret
        exact ⟨congrArg Ending.returned (congrArg Value.bool (by rw [HH.out]; simp [e0])), HB.out⟩
    · skip
      cases e0 : (u0 == v0)
      · skip
        go_wp2_with fail
        go_ret
        exact ⟨congrArg Ending.returned (congrArg Value.bool (by rw [HH.out]; simp [e0])), HB.out⟩
      · skip
        cases e1 : (u1 == v1)
        · skip
          go_wp2_with fail
          go_ret
          exact ⟨congrArg Ending.returned (congrArg Value.bool (by rw [HH.out]; simp [e0, e1])), HB.out⟩
        · skip
          go_wp2_with fail
          go_ret
          exact ⟨congrArg Ending.returned (congrArg Value.bool (by rw [HH.out]; simp [e0, e1])), HB.out⟩
    · skip
      cases e0 : (u0 == v0)
      · skip
        go_wp2_with fail
        go_ret
        exact ⟨congrArg Ending.returned (congrArg Value.bool (by rw [HH.out]; simp [e0])), HB.out⟩
      · skip
        cases e1 : (u1 == v1)
        · skip
          go_wp2_with fail
          go_ret
          exact ⟨congrArg Ending.returned (congrArg Value.bool (by rw [HH.out]; simp [e0, e1])), HB.out⟩
        · skip
          cases e2 : (u2 == v2)
          · skip
            go_wp2_with fail
            go_ret
            exact ⟨congrArg Ending.returned (congrArg Value.bool (by rw [HH.out]; simp [e0, e1, e2])), HB.out⟩
          · skip
            go_wp2_with fail
            go_ret
            exact ⟨congrArg Ending.returned (congrArg Value.bool (by rw [HH.out]; simp [e0, e1, e2])), HB.out⟩
    · skip
      cases e0 : (u0 == v0)
      · skip
        go_wp2_with fail
        go_ret
        exact ⟨congrArg Ending.returned (congrArg Value.bool (by rw [HH.out]; simp [e0])), HB.out⟩
      · skip
        cases e1 : (u1 == v1)
        · skip
          go_wp2_with fail
          go_ret
          exact ⟨congrArg Ending.returned (congrArg Value.bool (by rw [HH.out]; simp [e0, e1])), HB.out⟩
        · skip
          cases e2 : (u2 == v2)
          · skip
            go_wp2_with fail
            go_ret
            exact ⟨congrArg Ending.returned (congrArg Value.bool (by rw [HH.out]; simp [e0, e1, e2])), HB.out⟩
          · skip
            cases e3 : (u3 == v3)
            · skip
              go_wp2_with fail
              go_ret
              exact ⟨congrArg Ending.returned (congrArg Value.bool (by rw [HH.out]; simp [e0, e1, e2, e3])), HB.out⟩
            · skip
              go_wp2_with fail
              go_ret
              exact ⟨congrArg Ending.returned (congrArg Value.bool (by rw [HH.out]; simp [e0, e1, e2, e3])), HB.out⟩
    · skip
      cases e0 : (u0 == v0)
      · skip
        go_wp2_with fail
        go_ret
        exact ⟨congrArg Ending.returned (congrArg Value.bool (by rw [HH.out]; simp [e0])), HB.out⟩
      · skip
        cases e1 : (u1 == v1)
        · skip
          go_wp2_with fail
          go_ret
          exact ⟨congrArg Ending.returned (congrArg Value.bool (by rw [HH.out]; simp [e0, e1])), HB.out⟩
        · skip
          cases e2 : (u2 == v2)
          · skip
            go_wp2_with fail
            go_ret
            exact ⟨congrArg Ending.returned (congrArg Value.bool (by rw [HH.out]; simp [e0, e1, e2])), HB.out⟩
          · skip
            cases e3 : (u3 == v3)
            · skip
              go_wp2_with fail
              go_ret
              exact ⟨congrArg Ending.returned (congrArg Value.bool (by rw [HH.out]; simp [e0, e1, e2, e3])), HB.out⟩
            · skip
              cases e4 : (u4 == v4)
              · skip
                go_wp2_with fail
                go_ret
                exact ⟨congrArg Ending.returned (congrArg Value.bool (by rw [HH.out]; simp [e0, e1, e2, e3, e4])), HB.out⟩
              · skip
                go_wp2_with fail
                go_ret
                exact ⟨congrArg Ending.returned (congrArg Value.bool (by rw [HH.out]; simp [e0, e1, e2, e3, e4])), HB.out⟩
  · have hf : hasB p d k = false := by unfold hasB prefR; rw [decide_eq_false hd]; rfl
    rw [hf]
    clear hf
    rcases (show d < 0 ∨ 5 < d by omega) with h | h
    all_goals
      unfold Gives
      go_enter Tryz.func48, Tryz.ntmps48
      go_wp2_with fail
      all_goals first | (go_ret; exact ⟨rfl, (by repeat (first | exact below_of_grow _ _ | exact Below.refl _ _ | exact below_more _ _ _ _ | (simp only [← Array.append_assoc]; first | exact below_more _ _ _ _ | exact below_same _ _ _ | exact Below.refl _ _) | exact below_same _ _ _ | (refine Below.alloc ?_ (by first | (simp; done) | (simp; omega)) _) | (refine Below.grow ?_ (by first | (simp; done) | (simp; omega)) _ _) | refine Below.drew ?_ | refine Below.drewN ?_ _ | (refine Below.putF ?_ (by first | (simp; done) | omega | (simp; omega)) _) | (refine Below.setCell ?_ (by first | (simp; done) | (simp; omega)) _)))⟩) | (exfalso; omega)
end Go.Proofs.YtemnojlcgllcjaaGreatDoor

/- Layer 14: what is wrong with a write by itself. -/
import Derived.Test.YtjdccgmoldmlmaaDoorKey1
import Derived.Test.YtjdccgmoldmlmaaDoorRecC
import Derived.Handy
namespace Go.Proofs.YtjdccgmoldmlmaaDoor
set_option maxRecDepth 100000
open Go.RowKit

@[go_sem] theorem agg_wrt : Tryd.prog.aggSize 46 = some 35 := by kernel_rfl
@[go_sem ↓ high] theorem ld_wrt (a : Addr) : loadVar 46 a = rowLoad 46 a := rfl
@[go_sem ↓ high] theorem st_wrt (a : Addr) (v : Value) : storeVar 46 a v = rowStore 46 a v := rfl
theorem wrtA_at (x : Wr) (i : Nat) (hi : i < 9) : (wrtA x)[26 + i]? = (recA x.r)[i]? := by
  unfold wrtA recA
  rw [List.getElem?_toArray, List.getElem?_toArray, List.getElem?_append_right (by simp [keyL_len]; omega), keyL_len]
  rw [show 26 + i - 25 = i + 1 by omega, List.getElem?_cons_succ]
@[go_sem] theorem wrtA_26 (x : Wr) : (wrtA x)[26]? = some (.int .u8 x.r.kind.toNat) := wrtA_at x 0 (by decide)
@[go_sem, simp] theorem wrtA_26E (x : Wr) (h : 26 < (wrtA x).size) : (wrtA x)[26]'h = .int .u8 x.r.kind.toNat := by
  have := wrtA_26 x
  rw [Array.getElem?_eq_getElem h] at this
  exact Option.some.inj this
@[go_sem] theorem wrtA_33 (x : Wr) : (wrtA x)[33]? = some (.int .u64 x.r.at_.toNat) := wrtA_at x 7 (by decide)
@[go_sem, simp] theorem wrtA_33E (x : Wr) (h : 33 < (wrtA x).size) : (wrtA x)[33]'h = .int .u64 x.r.at_.toNat := by
  have := wrtA_33 x
  rw [Array.getElem?_eq_getElem h] at this
  exact Option.some.inj this
theorem wrtA_k (x : Wr) (i : Nat) (hi : i < 25) : (wrtA x)[i]? = some (.int .u8 (byt x.k.val i).toNat) := by
  unfold wrtA
  rw [List.getElem?_toArray, List.getElem?_append_left (by simp [keyL_len]; omega)]
  have := row8_get x.k.val i (by rw [K25.len]; exact hi)
  rw [← keyL_row, List.getElem?_toArray] at this
  exact this
@[go_sem] theorem wrtA_0 (x : Wr) : (wrtA x)[0]? = some (.int .u8 (byt x.k.val 0).toNat) := wrtA_k x 0 (by decide)
@[go_sem, simp] theorem wrtA_0E (x : Wr) (h : 0 < (wrtA x).size) : (wrtA x)[0]'h = .int .u8 (byt x.k.val 0).toNat := by
  have := wrtA_0 x
  rw [Array.getElem?_eq_getElem h] at this
  exact Option.some.inj this
@[go_sem] theorem wrtA_2 (x : Wr) : (wrtA x)[2]? = some (.int .u8 (byt x.k.val 2).toNat) := wrtA_k x 2 (by decide)
@[go_sem, simp] theorem wrtA_2E (x : Wr) (h : 2 < (wrtA x).size) : (wrtA x)[2]'h = .int .u8 (byt x.k.val 2).toNat := by
  have := wrtA_2 x
  rw [Array.getElem?_eq_getElem h] at this
  exact Option.some.inj this
/-- what is wrong with a write by itself -/
def rightE (x : Wr) : Int :=
  if keyRight x.k.val = true then
    (if x.dead = true then (if x.r = Rec.zero then 0 else 3)
    else if recE x.r = 0 then (if x.r.kind.toNat = (byt x.k.val 0).toNat then 0 else 16) else recE x.r)
  else 3
set_option maxHeartbeats 8000000 in
theorem right_gives (x : Wr) (w : World) : Gives Tryd.prog 19 #[.agg (wrtA x)] w (.int .i64 (rightE x)) := by
  have hkr := keyRight_gives x.k.val x.k.property
  have HC := Lib.hid (check_gives x.r)
  by_cases hk : keyRight x.k.val = true
  · rw [hk] at hkr
    have HK := Lib.hid hkr
    clear hkr
    cases hd : x.dead with
    | true =>
      by_cases hz : x.r = Rec.zero
      · have he : rightE x = 0 := by unfold rightE; rw [if_pos hk, if_pos hd, if_pos hz]
        have hdz : decide (x.r = Rec.zero) = true := decide_eq_true hz
        rw [he]
        clear he hz hk HC
        unfold Gives
        go_enter Tryd.func19, Tryd.ntmps19
        go_wp2_with fail
        refine Gives.use (HK.out _) ?_
        intro xs d
        go_wp2_with fail
        go_ret
        exact ⟨rfl, (by repeat (first | exact below_of_grow _ _ | exact Below.refl _ _ | exact below_more _ _ _ _ | (simp only [← Array.append_assoc]; first | exact below_more _ _ _ _ | exact below_same _ _ _ | exact Below.refl _ _) | exact below_same _ _ _ | (refine Below.alloc ?_ (by first | (simp; done) | (simp; omega)) _) | (refine Below.grow ?_ (by first | (simp; done) | (simp; omega)) _ _) | refine Below.drew ?_ | refine Below.drewN ?_ _ | (refine Below.putF ?_ (by first | (simp; done) | omega | (simp; omega)) _) | (refine Below.setCell ?_ (by first | (simp; done) | (simp; omega)) _)))⟩
      · have he : rightE x = 3 := by unfold rightE; rw [if_pos hk, if_pos hd, if_neg hz]
        have hdz : decide (x.r = Rec.zero) = false := decide_eq_false hz
        rw [he]
        clear he hz hk HC
        unfold Gives
        go_enter Tryd.func19, Tryd.ntmps19
        go_wp2_with fail
        refine Gives.use (HK.out _) ?_
        intro xs d
        go_wp2_with fail
        go_ret
        exact ⟨rfl, (by repeat (first | exact below_of_grow _ _ | exact Below.refl _ _ | exact below_more _ _ _ _ | (simp only [← Array.append_assoc]; first | exact below_more _ _ _ _ | exact below_same _ _ _ | exact Below.refl _ _) | exact below_same _ _ _ | (refine Below.alloc ?_ (by first | (simp; done) | (simp; omega)) _) | (refine Below.grow ?_ (by first | (simp; done) | (simp; omega)) _ _) | refine Below.drew ?_ | refine Below.drewN ?_ _ | (refine Below.putF ?_ (by first | (simp; done) | omega | (simp; omega)) _) | (refine Below.setCell ?_ (by first | (simp; done) | (simp; omega)) _)))⟩
    | false =>
      by_cases hr : recE x.r = 0
      · rw [hr] at HC
        by_cases he2 : x.r.kind.toNat = (byt x.k.val 0).toNat
        · have he : rightE x = 0 := by unfold rightE; rw [if_pos hk, if_neg (by rw [hd]; decide), if_pos hr, if_pos he2]
          have hq : ((x.r.kind.toNat : Int) != (byt x.k.val 0).toNat) = false := by simp [he2]
          rw [he]
          clear he hr hk he2
          unfold Gives
          go_enter Tryd.func19, Tryd.ntmps19
          go_wp2_with fail
          refine Gives.use (HK.out _) ?_
          intro xs d
          go_wp2_with fail
          refine Gives.use (HC.out _) ?_
          intro xs1 d1
          go_wp2_with fail
          go_ret
          exact ⟨rfl, (by repeat (first | exact below_of_grow _ _ | exact Below.refl _ _ | exact below_more _ _ _ _ | (simp only [← Array.append_assoc]; first | exact below_more _ _ _ _ | exact below_same _ _ _ | exact Below.refl _ _) | exact below_same _ _ _ | (refine Below.alloc ?_ (by first | (simp; done) | (simp; omega)) _) | (refine Below.grow ?_ (by first | (simp; done) | (simp; omega)) _ _) | refine Below.drew ?_ | refine Below.drewN ?_ _ | (refine Below.putF ?_ (by first | (simp; done) | omega | (simp; omega)) _) | (refine Below.setCell ?_ (by first | (simp; done) | (simp; omega)) _)))⟩
        · have he : rightE x = 16 := by unfold rightE; rw [if_pos hk, if_neg (by rw [hd]; decide), if_pos hr, if_neg he2]
          have hq : ((x.r.kind.toNat : Int) != (byt x.k.val 0).toNat) = true := by simp; omega
          rw [he]
          clear he hr hk he2
          unfold Gives
          go_enter Tryd.func19, Tryd.ntmps19
          go_wp2_with fail
          refine Gives.use (HK.out _) ?_
          intro xs d
          go_wp2_with fail
          refine Gives.use (HC.out _) ?_
          intro xs1 d1
          go_wp2_with fail
          go_ret
          exact ⟨rfl, (by repeat (first | exact below_of_grow _ _ | exact Below.refl _ _ | exact below_more _ _ _ _ | (simp only [← Array.append_assoc]; first | exact below_more _ _ _ _ | exact below_same _ _ _ | exact Below.refl _ _) | exact below_same _ _ _ | (refine Below.alloc ?_ (by first | (simp; done) | (simp; omega)) _) | (refine Below.grow ?_ (by first | (simp; done) | (simp; omega)) _ _) | refine Below.drew ?_ | refine Below.drewN ?_ _ | (refine Below.putF ?_ (by first | (simp; done) | omega | (simp; omega)) _) | (refine Below.setCell ?_ (by first | (simp; done) | (simp; omega)) _)))⟩
      · have he : rightE x = recE x.r := by unfold rightE; rw [if_pos hk, if_neg (by rw [hd]; decide), if_neg hr]
        rw [he]
        have hq : (recE x.r != 0) = true := by simp [hr]
        clear he hr hk
        generalize recE x.r = q at *
        unfold Gives
        go_enter Tryd.func19, Tryd.ntmps19
        go_wp2_with fail
        refine Gives.use (HK.out _) ?_
        intro xs d
        go_wp2_with fail
        refine Gives.use (HC.out _) ?_
        intro xs1 d1
        go_wp2_with fail
        go_ret
        exact ⟨rfl, (by repeat (first | exact below_of_grow _ _ | exact Below.refl _ _ | exact below_more _ _ _ _ | (simp only [← Array.append_assoc]; first | exact below_more _ _ _ _ | exact below_same _ _ _ | exact Below.refl _ _) | exact below_same _ _ _ | (refine Below.alloc ?_ (by first | (simp; done) | (simp; omega)) _) | (refine Below.grow ?_ (by first | (simp; done) | (simp; omega)) _ _) | refine Below.drew ?_ | refine Below.drewN ?_ _ | (refine Below.putF ?_ (by first | (simp; done) | omega | (simp; omega)) _) | (refine Below.setCell ?_ (by first | (simp; done) | (simp; omega)) _)))⟩
  · have he : rightE x = 3 := by unfold rightE; rw [if_neg hk]
    rw [he]
    rw [Bool.not_eq_true] at hk
    rw [hk] at hkr
    have HK := Lib.hid hkr
    clear hkr hk he HC
    unfold Gives
    go_enter Tryd.func19, Tryd.ntmps19
    go_wp2_with fail
    refine Gives.use (HK.out _) ?_
    intro xs d
    go_wp2_with fail
    go_ret
    exact ⟨rfl, (by repeat (first | exact below_of_grow _ _ | exact Below.refl _ _ | exact below_more _ _ _ _ | (simp only [← Array.append_assoc]; first | exact below_more _ _ _ _ | exact below_same _ _ _ | exact Below.refl _ _) | exact below_same _ _ _ | (refine Below.alloc ?_ (by first | (simp; done) | (simp; omega)) _) | (refine Below.grow ?_ (by first | (simp; done) | (simp; omega)) _ _) | refine Below.drew ?_ | refine Below.drewN ?_ _ | (refine Below.putF ?_ (by first | (simp; done) | omega | (simp; omega)) _) | (refine Below.setCell ?_ (by first | (simp; done) | (simp; omega)) _)))⟩
end Go.Proofs.YtjdccgmoldmlmaaDoor

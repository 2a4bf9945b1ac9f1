/- Layer 6: what a kind uses; the key of parts; is a key right? -/
import Derived.Test.YtjdccgmoldmlmaaDoorTag5
import Derived.Test.YtjdccgmoldmlmaaDoorSpl
namespace Go.Proofs.YtjdccgmoldmlmaaDoor
set_option maxRecDepth 100000
open Go.RowKit

theorem used_gives (k : Int) (w : World) : Gives Tryd.prog 40 #[.int .i64 k] w (.agg #[.int .i64 (usedAt k), .bool (usedName k), .bool (usedTag k)]) := by
  by_cases h : k = 2 ∨ k = 3 ∨ k = 4 ∨ k = 5 ∨ k = 6
  · rcases h with rfl | rfl | rfl | rfl | rfl
    all_goals
      unfold Gives
      go_enter Tryd.func40, Tryd.ntmps40
      go_wp2_with fail
    · exact bodyPost_ret (v := .agg #[.int .i64 16, .bool false, .bool false]) (by simp [results, Tryd.results40, go_sem]) rfl ⟨rfl, (by repeat (first | exact below_of_grow _ _ | exact Below.refl _ _ | exact below_more _ _ _ _ | (simp only [← Array.append_assoc]; first | exact below_more _ _ _ _ | exact below_same _ _ _ | exact Below.refl _ _) | exact below_same _ _ _ | (refine Below.alloc ?_ (by first | (simp; done) | (simp; omega)) _) | (refine Below.grow ?_ (by first | (simp; done) | (simp; omega)) _ _) | refine Below.drew ?_ | refine Below.drewN ?_ _ | (refine Below.putF ?_ (by first | (simp; done) | omega | (simp; omega)) _) | (refine Below.setCell ?_ (by first | (simp; done) | (simp; omega)) _)))⟩
    · exact bodyPost_ret (v := .agg #[.int .i64 0, .bool false, .bool true]) (by simp [results, Tryd.results40, go_sem]) rfl ⟨rfl, (by repeat (first | exact below_of_grow _ _ | exact Below.refl _ _ | exact below_more _ _ _ _ | (simp only [← Array.append_assoc]; first | exact below_more _ _ _ _ | exact below_same _ _ _ | exact Below.refl _ _) | exact below_same _ _ _ | (refine Below.alloc ?_ (by first | (simp; done) | (simp; omega)) _) | (refine Below.grow ?_ (by first | (simp; done) | (simp; omega)) _ _) | refine Below.drew ?_ | refine Below.drewN ?_ _ | (refine Below.putF ?_ (by first | (simp; done) | omega | (simp; omega)) _) | (refine Below.setCell ?_ (by first | (simp; done) | (simp; omega)) _)))⟩
    · exact bodyPost_ret (v := .agg #[.int .i64 4, .bool false, .bool false]) (by simp [results, Tryd.results40, go_sem]) rfl ⟨rfl, (by repeat (first | exact below_of_grow _ _ | exact Below.refl _ _ | exact below_more _ _ _ _ | (simp only [← Array.append_assoc]; first | exact below_more _ _ _ _ | exact below_same _ _ _ | exact Below.refl _ _) | exact below_same _ _ _ | (refine Below.alloc ?_ (by first | (simp; done) | (simp; omega)) _) | (refine Below.grow ?_ (by first | (simp; done) | (simp; omega)) _ _) | refine Below.drew ?_ | refine Below.drewN ?_ _ | (refine Below.putF ?_ (by first | (simp; done) | omega | (simp; omega)) _) | (refine Below.setCell ?_ (by first | (simp; done) | (simp; omega)) _)))⟩
    · exact bodyPost_ret (v := .agg #[.int .i64 4, .bool true, .bool false]) (by simp [results, Tryd.results40, go_sem]) rfl ⟨rfl, (by repeat (first | exact below_of_grow _ _ | exact Below.refl _ _ | exact below_more _ _ _ _ | (simp only [← Array.append_assoc]; first | exact below_more _ _ _ _ | exact below_same _ _ _ | exact Below.refl _ _) | exact below_same _ _ _ | (refine Below.alloc ?_ (by first | (simp; done) | (simp; omega)) _) | (refine Below.grow ?_ (by first | (simp; done) | (simp; omega)) _ _) | refine Below.drew ?_ | refine Below.drewN ?_ _ | (refine Below.putF ?_ (by first | (simp; done) | omega | (simp; omega)) _) | (refine Below.setCell ?_ (by first | (simp; done) | (simp; omega)) _)))⟩
    · exact bodyPost_ret (v := .agg #[.int .i64 4, .bool true, .bool true]) (by simp [results, Tryd.results40, go_sem]) rfl ⟨rfl, (by repeat (first | exact below_of_grow _ _ | exact Below.refl _ _ | exact below_more _ _ _ _ | (simp only [← Array.append_assoc]; first | exact below_more _ _ _ _ | exact below_same _ _ _ | exact Below.refl _ _) | exact below_same _ _ _ | (refine Below.alloc ?_ (by first | (simp; done) | (simp; omega)) _) | (refine Below.grow ?_ (by first | (simp; done) | (simp; omega)) _ _) | refine Below.drew ?_ | refine Below.drewN ?_ _ | (refine Below.putF ?_ (by first | (simp; done) | omega | (simp; omega)) _) | (refine Below.setCell ?_ (by first | (simp; done) | (simp; omega)) _)))⟩
  · have e : usedAt k = 0 ∧ usedName k = false ∧ usedTag k = false := by
      unfold usedAt usedName usedTag
      refine ⟨?_, by simp; omega, by simp; omega⟩
      rw [if_neg (by omega), if_neg (by omega)]
    rw [e.1, e.2.1, e.2.2]
    have h2 : (k == 2) = false := by simp; omega
    have h3 : (k == 3) = false := by simp; omega
    have h4 : (k == 4) = false := by simp; omega
    have h5 : (k == 5) = false := by simp; omega
    have h6 : (k == 6) = false := by simp; omega
    clear e h
    unfold Gives
    go_enter Tryd.func40, Tryd.ntmps40
    go_wp2_with fail
    exact bodyPost_ret (v := .agg #[.int .i64 0, .bool false, .bool false]) (by simp [results, Tryd.results40, go_sem]) rfl ⟨rfl, (by repeat (first | exact below_of_grow _ _ | exact Below.refl _ _ | exact below_more _ _ _ _ | (simp only [← Array.append_assoc]; first | exact below_more _ _ _ _ | exact below_same _ _ _ | exact Below.refl _ _) | exact below_same _ _ _ | (refine Below.alloc ?_ (by first | (simp; done) | (simp; omega)) _) | (refine Below.grow ?_ (by first | (simp; done) | (simp; omega)) _ _) | refine Below.drew ?_ | refine Below.drewN ?_ _ | (refine Below.putF ?_ (by first | (simp; done) | omega | (simp; omega)) _) | (refine Below.setCell ?_ (by first | (simp; done) | (simp; omega)) _)))⟩
end Go.Proofs.YtjdccgmoldmlmaaDoor
namespace Go.Proofs.YtjdccgmoldmlmaaDoor
set_option maxRecDepth 100000
open Go.RowKit

@[go_sem] theorem lit25b (a b : UInt8) : (#[.int .u8 (a.toNat : Int), .int .u8 (b.toNat : Int), .int .u8 0, .int .u8 0, .int .u8 0, .int .u8 0, .int .u8 0, .int .u8 0, .int .u8 0, .int .u8 0, .int .u8 0, .int .u8 0, .int .u8 0, .int .u8 0, .int .u8 0, .int .u8 0, .int .u8 0, .int .u8 0, .int .u8 0, .int .u8 0, .int .u8 0, .int .u8 0, .int .u8 0, .int .u8 0, .int .u8 0] : Array Value) = row8 (((zeros 25).set 0 a).set 1 b) := rfl
@[go_sem] theorem row8_splice1 (l : List UInt8) (i : Nat) (b : UInt8) (h : i < l.length) : spliceA (row8 l) i #[.int .u8 (b.toNat : Int)] = row8 (l.set i b) := by
  rw [splice_one (by simpa using h), row8_set]
theorem wrap_byteOf (x : Int) : IntKind.u8.wrap x = ((byteOf x).toNat : Int) := by
  unfold byteOf
  have h1 : 0 ≤ x % 256 := by omega
  have h2 : x % 256 < 256 := by omega
  have h3 : IntKind.u8.wrap x = x % 256 := by
    unfold IntKind.wrap
    simp [IntKind.signed, IntKind.bits]
  rw [h3, UInt8.toNat_ofNat']
  omega
def keySteps (k p a : Int) (n t : List UInt8) (ua : Int) (un ut : Bool) : List UInt8 :=
  let b0 := ((zeros 25).set 0 (byteOf k)).set 1 (byteOf p)
  let b1 := if 0 < ua then b0.set 2 (byteOf a) else b0
  let b2 := if un = true then spl b1 3 n else b1
  if ut = true then spl b2 15 t else b2
theorem keySteps_eq (k p a : Int) (n t : List UInt8) (hn : n.length = 12) (ht : t.length = 10) : keySteps k p a n t (usedAt k) (usedName k) (usedTag k) = keyMade k p a n t := by
  unfold keySteps keyMade
  generalize usedName k = un
  generalize usedTag k = ut
  generalize usedAt k = ua
  match n, hn with
  | [a0, b, c, d, e, f, g, h, i, j, l, m], _ =>
    match t, ht with
    | [z0, z1, z2, z3, z4, z5, z6, z7, z8, z9], _ =>
      by_cases hu : 0 < ua
      · cases un <;> cases ut <;> simp only [hu] <;> rfl
      · cases un <;> cases ut <;> simp only [hu] <;> rfl
set_option maxRecDepth 100000 in
set_option maxHeartbeats 2000000 in
theorem keyOf_gives (k p a : Int) (n t : List UInt8) (hn : n.length = 12) (ht : t.length = 10) (w : World) :
    Gives Tryd.prog 35 #[.int .i64 k, .int .i64 p, .int .i64 a, .agg (row8 n), .agg (row8 t)] w (.tuple #[.agg (row8 (keyOf k p a n t)), .int .i64 (keyErr k p a n t)]) := by
  have hu := used_gives k
  have hnr := nameRight_gives n hn
  have htr := tagRight_gives t ht
  have hst := keySteps_eq k p a n t hn ht
  have hkw := wrap_byteOf k
  have hpw := wrap_byteOf p
  have haw := wrap_byteOf a
  have hko : keyOf k p a n t = if keyErr k p a n t = 0 then keySteps k p a n t (usedAt k) (usedName k) (usedTag k) else zeros 25 := by rw [hst]; rfl
  have he : ∀ e, keyErr k p a n t = e ↔ (if k < 1 ∨ 6 < k then 16
  else if p < 0 ∨ 4 ≤ p ∨ (0 < usedAt k ∧ (a < 0 ∨ usedAt k ≤ a)) then 5
  else if usedName k = true ∧ nameRight n = false then 15
  else if usedTag k = true ∧ (tagRight t = false ∨ t = zeros 10) then 14
  else 0) = e := by intro e; unfold keyErr; exact Iff.rfl
  generalize keyOf k p a n t = ko at *
  generalize keyErr k p a n t = er at *
  generalize usedAt k = ua at *
  generalize usedName k = un at *
  generalize usedTag k = ut at *
  generalize nameRight n = nr at *
  generalize tagRight t = tr at *
  have HU := Lib.hid hu
  have HNR := Lib.hid hnr
  have HTR := Lib.hid htr
  have HE := Lib.hid he
  have HKO := Lib.hid hko
  clear hu hnr htr he hst hko
  unfold Gives
  go_enter Tryd.func35, Tryd.ntmps35
  go_wp2_with (first | (go_at_call 40; refine Gives.use (HU.out _) ?_; intro xs0 d0) | (go_at_call 41; refine Gives.use (HNR.out _) ?_; intro xs1 d1) | (go_at_call 42; refine Gives.use (HTR.out _) ?_; intro xs2 d2))
  all_goals clear HU HNR HTR
  all_goals first
    | (refine bodyPost_ret (v := .tuple #[.agg (row8 (zeros 25)), .int .i64 16]) (results_two Tryd.results35 (ResIs.row rfl agg_key ?_) ?_) rfl ⟨?_, ?_⟩
       rotate_left
       · simp [ResIs]; done
       · have e1 : er = 16 := by
           refine (HE.out _).2 ?_
           clear HE HKO hkw hpw haw
           (repeat' split) <;> first | rfl | (exfalso; simp_all; done) | (exfalso; simp_all; omega)
         rw [HKO.out, e1]; rfl
       · exact (by repeat (first | exact below_of_grow _ _ | exact Below.refl _ _ | exact below_more _ _ _ _ | (simp only [← Array.append_assoc]; first | exact below_more _ _ _ _ | exact below_same _ _ _ | exact Below.refl _ _) | exact below_same _ _ _ | (refine Below.alloc ?_ (by first | (simp; done) | (simp; omega)) _) | (refine Below.grow ?_ (by first | (simp; done) | (simp; omega)) _ _) | refine Below.drew ?_ | refine Below.drewN ?_ _ | (refine Below.putF ?_ (by first | (simp; done) | omega | (simp; omega)) _) | (refine Below.setCell ?_ (by first | (simp; done) | (simp; omega)) _)))
       · simp [go_sem]; done)
    | (refine bodyPost_ret (v := .tuple #[.agg (row8 (zeros 25)), .int .i64 5]) (results_two Tryd.results35 (ResIs.row rfl agg_key ?_) ?_) rfl ⟨?_, ?_⟩
       rotate_left
       · simp [ResIs]; done
       · have e1 : er = 5 := by
           refine (HE.out _).2 ?_
           clear HE HKO hkw hpw haw
           (repeat' split) <;> first | rfl | (exfalso; simp_all; done) | (exfalso; simp_all; omega)
         rw [HKO.out, e1]; rfl
       · exact (by repeat (first | exact below_of_grow _ _ | exact Below.refl _ _ | exact below_more _ _ _ _ | (simp only [← Array.append_assoc]; first | exact below_more _ _ _ _ | exact below_same _ _ _ | exact Below.refl _ _) | exact below_same _ _ _ | (refine Below.alloc ?_ (by first | (simp; done) | (simp; omega)) _) | (refine Below.grow ?_ (by first | (simp; done) | (simp; omega)) _ _) | refine Below.drew ?_ | refine Below.drewN ?_ _ | (refine Below.putF ?_ (by first | (simp; done) | omega | (simp; omega)) _) | (refine Below.setCell ?_ (by first | (simp; done) | (simp; omega)) _)))
       · simp [go_sem]; done)
    | (refine bodyPost_ret (v := .tuple #[.agg (row8 (zeros 25)), .int .i64 15]) (results_two Tryd.results35 (ResIs.row rfl agg_key ?_) ?_) rfl ⟨?_, ?_⟩
       rotate_left
       · simp [ResIs]; done
       · have e1 : er = 15 := by
           refine (HE.out _).2 ?_
           clear HE HKO hkw hpw haw
           (repeat' split) <;> first | rfl | (exfalso; simp_all; done) | (exfalso; simp_all; omega)
         rw [HKO.out, e1]; rfl
       · exact (by repeat (first | exact below_of_grow _ _ | exact Below.refl _ _ | exact below_more _ _ _ _ | (simp only [← Array.append_assoc]; first | exact below_more _ _ _ _ | exact below_same _ _ _ | exact Below.refl _ _) | exact below_same _ _ _ | (refine Below.alloc ?_ (by first | (simp; done) | (simp; omega)) _) | (refine Below.grow ?_ (by first | (simp; done) | (simp; omega)) _ _) | refine Below.drew ?_ | refine Below.drewN ?_ _ | (refine Below.putF ?_ (by first | (simp; done) | omega | (simp; omega)) _) | (refine Below.setCell ?_ (by first | (simp; done) | (simp; omega)) _)))
       · simp [go_sem]; done)
    | (refine bodyPost_ret (v := .tuple #[.agg (row8 (zeros 25)), .int .i64 14]) (results_two Tryd.results35 (ResIs.row rfl agg_key ?_) ?_) rfl ⟨?_, ?_⟩
       rotate_left
       · simp [ResIs]; done
       · have e1 : er = 14 := by
           refine (HE.out _).2 ?_
           clear HE HKO hkw hpw haw
           (repeat' split) <;> first | rfl | (exfalso; simp_all; done) | (exfalso; simp_all; omega)
         rw [HKO.out, e1]; rfl
       · exact (by repeat (first | exact below_of_grow _ _ | exact Below.refl _ _ | exact below_more _ _ _ _ | (simp only [← Array.append_assoc]; first | exact below_more _ _ _ _ | exact below_same _ _ _ | exact Below.refl _ _) | exact below_same _ _ _ | (refine Below.alloc ?_ (by first | (simp; done) | (simp; omega)) _) | (refine Below.grow ?_ (by first | (simp; done) | (simp; omega)) _ _) | refine Below.drew ?_ | refine Below.drewN ?_ _ | (refine Below.putF ?_ (by first | (simp; done) | omega | (simp; omega)) _) | (refine Below.setCell ?_ (by first | (simp; done) | (simp; omega)) _)))
       · simp [go_sem]; done)
    | (refine bodyPost_ret (v := .tuple #[.agg (row8 (keySteps k p a n t ua un ut)), .int .i64 0]) (results_two Tryd.results35 (ResIs.row rfl agg_key ?_) ?_) rfl ⟨?_, ?_⟩
       rotate_left
       · simp [ResIs]; done
       · have e1 : er = 0 := by
           refine (HE.out _).2 ?_
           clear HE HKO hkw hpw haw
           (repeat' split) <;> first | rfl | (exfalso; simp_all; done) | (exfalso; simp_all; omega)
         rw [HKO.out, e1]; rfl
       · exact (by repeat (first | exact below_of_grow _ _ | exact Below.refl _ _ | exact below_more _ _ _ _ | (simp only [← Array.append_assoc]; first | exact below_more _ _ _ _ | exact below_same _ _ _ | exact Below.refl _ _) | exact below_same _ _ _ | (refine Below.alloc ?_ (by first | (simp; done) | (simp; omega)) _) | (refine Below.grow ?_ (by first | (simp; done) | (simp; omega)) _ _) | refine Below.drew ?_ | refine Below.drewN ?_ _ | (refine Below.putF ?_ (by first | (simp; done) | omega | (simp; omega)) _) | (refine Below.setCell ?_ (by first | (simp; done) | (simp; omega)) _)))
       · first
           | (simp [go_sem, keySteps, *]; done)
           | (have hu0 : ¬ (0 < ua) := by omega
              simp [go_sem, keySteps, hu0, *]; done))
theorem keyMade_len (k p a : Int) (n t : List UInt8) (hn : n.length = 12) (ht : t.length = 10) : (keyMade k p a n t).length = 25 := by
  unfold keyMade
  simp only [List.length_append, List.length_cons, List.length_nil]
  split <;> split <;> simp [hn, ht]
theorem keyOf_len (k p a : Int) (n t : List UInt8) (hn : n.length = 12) (ht : t.length = 10) : (keyOf k p a n t).length = 25 := by
  unfold keyOf
  split
  · exact keyMade_len k p a n t hn ht
  · simp
end Go.Proofs.YtjdccgmoldmlmaaDoor
namespace Go.Proofs.YtjdccgmoldmlmaaDoor
set_option maxRecDepth 100000
open Go.RowKit

set_option maxRecDepth 100000 in
set_option maxHeartbeats 2000000 in
theorem keyRight_gives (k : List UInt8) (hk : k.length = 25) (w : World) : Gives Tryd.prog 30 #[.agg (row8 k)] w (.bool (keyRight k)) := by
  have hn : ((k.take 15).drop 3).length = 12 := by simp; omega
  have ht : (k.drop 15).length = 10 := by simp; omega
  have ho := keyOf_gives (byt k 0).toNat (byt k 1).toNat (byt k 2).toNat _ _ hn ht
  have hl := keyOf_len (byt k 0).toNat (byt k 1).toNat (byt k 2).toNat _ _ hn ht
  have e3 : kName k = (k.take 15).drop 3 := by unfold kName; rw [List.drop_take]
  unfold keyRight
  rw [e3]
  unfold kKind kProj kAt kTag
  generalize hko : keyOf ((byt k 0).toNat : Int) ((byt k 1).toNat : Int) ((byt k 2).toNat : Int) ((k.take 15).drop 3) (k.drop 15) = ko at ho hl ⊢
  generalize keyErr ((byt k 0).toNat : Int) ((byt k 1).toNat : Int) ((byt k 2).toNat : Int) ((k.take 15).drop 3) (k.drop 15) = er at ho ⊢
  have HO := Lib.hid ho
  clear ho hko
  have b0 : ((byt k 0).toNat : Int) < 256 := by have := (byt k 0).toNat_lt; omega
  have b1 : ((byt k 1).toNat : Int) < 256 := by have := (byt k 1).toNat_lt; omega
  have b2 : ((byt k 2).toNat : Int) < 256 := by have := (byt k 2).toNat_lt; omega
  unfold Gives
  go_enter Tryd.func30, Tryd.ntmps30
  go_wp2_with (go_at_call 35; refine Gives.use (HO.out _) ?_; intro xs d)
  all_goals
    go_ret
    refine ⟨?_, ?_⟩
    rotate_left
    · exact (by repeat (first | exact below_of_grow _ _ | exact Below.refl _ _ | exact below_more _ _ _ _ | (simp only [← Array.append_assoc]; first | exact below_more _ _ _ _ | exact below_same _ _ _ | exact Below.refl _ _) | exact below_same _ _ _ | (refine Below.alloc ?_ (by first | (simp; done) | (simp; omega)) _) | (refine Below.grow ?_ (by first | (simp; done) | (simp; omega)) _ _) | refine Below.drew ?_ | refine Below.drewN ?_ _ | (refine Below.putF ?_ (by first | (simp; done) | omega | (simp; omega)) _) | (refine Below.setCell ?_ (by first | (simp; done) | (simp; omega)) _)))
    · exact congrArg Ending.returned (congrArg Value.bool (by first | (simp [*]; done) | (rw [Bool.eq_iff_iff]; simp [*]; done) | (rw [Bool.eq_iff_iff]; simp [*]; omega) | (rw [Bool.eq_iff_iff]; simp; omega)))
end Go.Proofs.YtjdccgmoldmlmaaDoor

/- Layer 6: the key of parts. -/
import Derived.Test.YtbflpnkodpeggaaGreatDoorKey1
import Derived.Test.YtbflpnkodpeggaaGreatDoorSpl
namespace Go.Proofs.YtbflpnkodpeggaaGreatDoor
set_option maxRecDepth 100000
open Go.RowKit

@[go_sem] theorem lit25b (a b : UInt8) : (#[.int .u8 (a.toNat : Int), .int .u8 (b.toNat : Int), .int .u8 0, .int .u8 0, .int .u8 0, .int .u8 0, .int .u8 0, .int .u8 0, .int .u8 0, .int .u8 0, .int .u8 0, .int .u8 0, .int .u8 0, .int .u8 0, .int .u8 0, .int .u8 0, .int .u8 0, .int .u8 0, .int .u8 0, .int .u8 0, .int .u8 0, .int .u8 0, .int .u8 0, .int .u8 0, .int .u8 0] : Array Value) = row8 (((zeros 25).set 0 a).set 1 b) := rfl
@[go_sem] theorem row8_splice1 (l : List UInt8) (i : Nat) (b : UInt8) (h : i < l.length) : spliceA (row8 l) i #[.int .u8 (b.toNat : Int)] = row8 (l.set i b) := by
  rw [splice_one (by simpa using h), row8_set]
theorem wrap_byteOf (x : Int) : IntKind.u8.wrap x = ((byteOf x).toNat : Int) := by
  unfold byteOf
  have h1 : 0 ≤ x % 256 := by omega
  have h2 : x % 256 < 256 := by omega
  have h3 : IntKind.u8.wrap x = x % 256 := by
    unfold IntKind.wrap
    simp [IntKind.signed, IntKind.bits]
  rw [h3, UInt8.toNat_ofNat']
  omega
def keySteps (k p a : Int) (n t : List UInt8) (ua : Int) (un ut : Bool) : List UInt8 :=
  let b0 := ((zeros 25).set 0 (byteOf k)).set 1 (byteOf p)
  let b1 := if 0 < ua then b0.set 2 (byteOf a) else b0
  let b2 := if un = true then spl b1 3 n else b1
  if ut = true then spl b2 15 t else b2
theorem keySteps_eq (k p a : Int) (n t : List UInt8) (hn : n.length = 12) (ht : t.length = 10) : keySteps k p a n t (usedAt k) (usedName k) (usedTag k) = keyMade k p a n t := by
  unfold keySteps keyMade
  generalize usedName k = un
  generalize usedTag k = ut
  generalize usedAt k = ua
  match n, hn with
  | [a0, b, c, d, e, f, g, h, i, j, l, m], _ =>
    match t, ht with
    | [z0, z1, z2, z3, z4, z5, z6, z7, z8, z9], _ =>
      by_cases hu : 0 < ua
      · cases un <;> cases ut <;> simp only [hu] <;> rfl
      · cases un <;> cases ut <;> simp only [hu] <;> rfl
set_option maxRecDepth 100000 in
set_option maxHeartbeats 2000000 in
theorem keyOf_gives (k p a : Int) (n t : List UInt8) (hn : n.length = 12) (ht : t.length = 10) (w : World) :
    Gives Tryz.prog 18 #[.int .i64 k, .int .i64 p, .int .i64 a, .agg (row8 n), .agg (row8 t)] w (.tuple #[.agg (row8 (keyOf k p a n t)), .int .i64 (keyErr k p a n t)]) := by
  have hu := used_gives k
  have hnr := nameRight_gives n hn
  have htr := tagRight_gives t ht
  have hst := keySteps_eq k p a n t hn ht
  have hkw := wrap_byteOf k
  have hpw := wrap_byteOf p
  have haw := wrap_byteOf a
  have hko : keyOf k p a n t = if keyErr k p a n t = 0 then keySteps k p a n t (usedAt k) (usedName k) (usedTag k) else zeros 25 := by rw [hst]; rfl
  have he : ∀ e, keyErr k p a n t = e ↔ (if k < 1 ∨ 6 < k then 16
  else if p < 0 ∨ 4 ≤ p ∨ (0 < usedAt k ∧ (a < 0 ∨ usedAt k ≤ a)) then 5
  else if usedName k = true ∧ nameRight n = false then 15
  else if usedTag k = true ∧ (tagRight t = false ∨ t = zeros 10) then 14
  else 0) = e := by intro e; unfold keyErr; exact Iff.rfl
  generalize keyOf k p a n t = ko at *
  generalize keyErr k p a n t = er at *
  generalize usedAt k = ua at *
  generalize usedName k = un at *
  generalize usedTag k = ut at *
  generalize nameRight n = nr at *
  generalize tagRight t = tr at *
  have HU := Lib.hid hu
  have HNR := Lib.hid hnr
  have HTR := Lib.hid htr
  have HE := Lib.hid he
  have HKO := Lib.hid hko
  clear hu hnr htr he hst hko
  unfold Gives
  go_enter Tryz.func18, Tryz.ntmps18
  go_wp2_with (first | (go_at_call 24; refine Gives.use (HU.out _) ?_; intro xs0 d0) | (go_at_call 25; refine Gives.use (HNR.out _) ?_; intro xs1 d1) | (go_at_call 26; refine Gives.use (HTR.out _) ?_; intro xs2 d2))
  all_goals clear HU HNR HTR
  all_goals first
    | (refine bodyPost_ret (v := .tuple #[.agg (row8 (zeros 25)), .int .i64 16]) (results_two Tryz.results18 (ResIs.row rfl agg_key ?_) ?_) rfl ⟨?_, ?_⟩
       rotate_left
       · simp [ResIs]; done
       · have e1 : er = 16 := by
           refine (HE.out _).2 ?_
           clear HE HKO hkw hpw haw
           (repeat' split) <;> first | rfl | (exfalso; simp_all; done) | (exfalso; simp_all; omega)
         rw [HKO.out, e1]; rfl
       · exact (by repeat (first | exact below_of_grow _ _ | exact Below.refl _ _ | exact below_more _ _ _ _ | (simp only [← Array.append_assoc]; first | exact below_more _ _ _ _ | exact below_same _ _ _ | exact Below.refl _ _) | exact below_same _ _ _ | (refine Below.alloc ?_ (by first | (simp; done) | (simp; omega)) _) | (refine Below.grow ?_ (by first | (simp; done) | (simp; omega)) _ _) | refine Below.drew ?_ | refine Below.drewN ?_ _ | (refine Below.putF ?_ (by first | (simp; done) | omega | (simp; omega)) _) | (refine Below.setCell ?_ (by first | (simp; done) | (simp; omega)) _)))
       · simp [go_sem]; done)
    | (refine bodyPost_ret (v := .tuple #[.agg (row8 (zeros 25)), .int .i64 5]) (results_two Tryz.results18 (ResIs.row rfl agg_key ?_) ?_) rfl ⟨?_, ?_⟩
       rotate_left
       · simp [ResIs]; done
       · have e1 : er = 5 := by
           refine (HE.out _).2 ?_
           clear HE HKO hkw hpw haw
           (repeat' split) <;> first | rfl | (exfalso; simp_all; done) | (exfalso; simp_all; omega)
         rw [HKO.out, e1]; rfl
       · exact (by repeat (first | exact below_of_grow _ _ | exact Below.refl _ _ | exact below_more _ _ _ _ | (simp only [← Array.append_assoc]; first | exact below_more _ _ _ _ | exact below_same _ _ _ | exact Below.refl _ _) | exact below_same _ _ _ | (refine Below.alloc ?_ (by first | (simp; done) | (simp; omega)) _) | (refine Below.grow ?_ (by first | (simp; done) | (simp; omega)) _ _) | refine Below.drew ?_ | refine Below.drewN ?_ _ | (refine Below.putF ?_ (by first | (simp; done) | omega | (simp; omega)) _) | (refine Below.setCell ?_ (by first | (simp; done) | (simp; omega)) _)))
       · simp [go_sem]; done)
    | (refine bodyPost_ret (v := .tuple #[.agg (row8 (zeros 25)), .int .i64 15]) (results_two Tryz.results18 (ResIs.row rfl agg_key ?_) ?_) rfl ⟨?_, ?_⟩
       rotate_left
       · simp [ResIs]; done
       · have e1 : er = 15 := by
           refine (HE.out _).2 ?_
           clear HE HKO hkw hpw haw
           (repeat' split) <;> first | rfl | (exfalso; simp_all; done) | (exfalso; simp_all; omega)
         rw [HKO.out, e1]; rfl
       · exact (by repeat (first | exact below_of_grow _ _ | exact Below.refl _ _ | exact below_more _ _ _ _ | (simp only [← Array.append_assoc]; first | exact below_more _ _ _ _ | exact below_same _ _ _ | exact Below.refl _ _) | exact below_same _ _ _ | (refine Below.alloc ?_ (by first | (simp; done) | (simp; omega)) _) | (refine Below.grow ?_ (by first | (simp; done) | (simp; omega)) _ _) | refine Below.drew ?_ | refine Below.drewN ?_ _ | (refine Below.putF ?_ (by first | (simp; done) | omega | (simp; omega)) _) | (refine Below.setCell ?_ (by first | (simp; done) | (simp; omega)) _)))
       · simp [go_sem]; done)
    | (refine bodyPost_ret (v := .tuple #[.agg (row8 (zeros 25)), .int .i64 14]) (results_two Tryz.results18 (ResIs.row rfl agg_key ?_) ?_) rfl ⟨?_, ?_⟩
       rotate_left
       · simp [ResIs]; done
       · have e1 : er = 14 := by
           refine (HE.out _).2 ?_
           clear HE HKO hkw hpw haw
           (repeat' split) <;> first | rfl | (exfalso; simp_all; done) | (exfalso; simp_all; omega)
         rw [HKO.out, e1]; rfl
       · exact (by repeat (first | exact below_of_grow _ _ | exact Below.refl _ _ | exact below_more _ _ _ _ | (simp only [← Array.append_assoc]; first | exact below_more _ _ _ _ | exact below_same _ _ _ | exact Below.refl _ _) | exact below_same _ _ _ | (refine Below.alloc ?_ (by first | (simp; done) | (simp; omega)) _) | (refine Below.grow ?_ (by first | (simp; done) | (simp; omega)) _ _) | refine Below.drew ?_ | refine Below.drewN ?_ _ | (refine Below.putF ?_ (by first | (simp; done) | omega | (simp; omega)) _) | (refine Below.setCell ?_ (by first | (simp; done) | (simp; omega)) _)))
       · simp [go_sem]; done)
    | (refine bodyPost_ret (v := .tuple #[.agg (row8 (keySteps k p a n t ua un ut)), .int .i64 0]) (results_two Tryz.results18 (ResIs.row rfl agg_key ?_) ?_) rfl ⟨?_, ?_⟩
       rotate_left
       · simp [ResIs]; done
       · have e1 : er = 0 := by
           refine (HE.out _).2 ?_
           clear HE HKO hkw hpw haw
           (repeat' split) <;> first | rfl | (exfalso; simp_all; done) | (exfalso; simp_all; omega)
         rw [HKO.out, e1]; rfl
       · exact (by repeat (first | exact below_of_grow _ _ | exact Below.refl _ _ | exact below_more _ _ _ _ | (simp only [← Array.append_assoc]; first | exact below_more _ _ _ _ | exact below_same _ _ _ | exact Below.refl _ _) | exact below_same _ _ _ | (refine Below.alloc ?_ (by first | (simp; done) | (simp; omega)) _) | (refine Below.grow ?_ (by first | (simp; done) | (simp; omega)) _ _) | refine Below.drew ?_ | refine Below.drewN ?_ _ | (refine Below.putF ?_ (by first | (simp; done) | omega | (simp; omega)) _) | (refine Below.setCell ?_ (by first | (simp; done) | (simp; omega)) _)))
       · first
           | (simp [go_sem, keySteps, *]; done)
           | (have hu0 : ¬ (0 < ua) := by omega
              simp [go_sem, keySteps, hu0, *]; done))
theorem keyMade_len (k p a : Int) (n t : List UInt8) (hn : n.length = 12) (ht : t.length = 10) : (keyMade k p a n t).length = 25 := by
  unfold keyMade
  simp only [List.length_append, List.length_cons, List.length_nil]
  split <;> split <;> simp [hn, ht]
theorem keyOf_len (k p a : Int) (n t : List UInt8) (hn : n.length = 12) (ht : t.length = 10) : (keyOf k p a n t).length = 25 := by
  unfold keyOf
  split
  · exact keyMade_len k p a n t hn ht
  · simp
end Go.Proofs.YtbflpnkodpeggaaGreatDoor

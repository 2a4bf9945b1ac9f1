/- Layer 6: is a key right? -/
import Derived.Test.YtbflpnkodpeggaaGreatDoorKey2
namespace Go.Proofs.YtbflpnkodpeggaaGreatDoor
set_option maxRecDepth 100000
open Go.RowKit

set_option maxRecDepth 100000 in
set_option maxHeartbeats 2000000 in
theorem keyRight_gives (k : List UInt8) (hk : k.length = 25) (w : World) : Gives Tryz.prog 12 #[.agg (row8 k)] w (.bool (keyRight k)) := by
  have hn : ((k.take 15).drop 3).length = 12 := by simp; omega
  have ht : (k.drop 15).length = 10 := by simp; omega
  have ho := keyOf_gives (byt k 0).toNat (byt k 1).toNat (byt k 2).toNat _ _ hn ht
  have hl := keyOf_len (byt k 0).toNat (byt k 1).toNat (byt k 2).toNat _ _ hn ht
  have e3 : kName k = (k.take 15).drop 3 := by unfold kName; rw [List.drop_take]
  unfold keyRight
  rw [e3]
  unfold kKind kProj kAt kTag
  generalize hko : keyOf ((byt k 0).toNat : Int) ((byt k 1).toNat : Int) ((byt k 2).toNat : Int) ((k.take 15).drop 3) (k.drop 15) = ko at ho hl ⊢
  generalize keyErr ((byt k 0).toNat : Int) ((byt k 1).toNat : Int) ((byt k 2).toNat : Int) ((k.take 15).drop 3) (k.drop 15) = er at ho ⊢
  have HO := Lib.hid ho
  clear ho hko
  have b0 : ((byt k 0).toNat : Int) < 256 := by have := (byt k 0).toNat_lt; omega
  have b1 : ((byt k 1).toNat : Int) < 256 := by have := (byt k 1).toNat_lt; omega
  have b2 : ((byt k 2).toNat : Int) < 256 := by have := (byt k 2).toNat_lt; omega
  unfold Gives
  go_enter Tryz.func12, Tryz.ntmps12
  go_wp2_with (go_at_call 18; refine Gives.use (HO.out _) ?_; intro xs d)
  all_goals
    go_ret
    refine ⟨?_, ?_⟩
    rotate_left
    · exact (by repeat (first | exact below_of_grow _ _ | exact Below.refl _ _ | exact below_more _ _ _ _ | (simp only [← Array.append_assoc]; first | exact below_more _ _ _ _ | exact below_same _ _ _ | exact Below.refl _ _) | exact below_same _ _ _ | (refine Below.alloc ?_ (by first | (simp; done) | (simp; omega)) _) | (refine Below.grow ?_ (by first | (simp; done) | (simp; omega)) _ _) | refine Below.drew ?_ | refine Below.drewN ?_ _ | (refine Below.putF ?_ (by first | (simp; done) | omega | (simp; omega)) _) | (refine Below.setCell ?_ (by first | (simp; done) | (simp; omega)) _)))
    · exact congrArg Ending.returned (congrArg Value.bool (by first | (simp [*]; done) | (rw [Bool.eq_iff_iff]; simp [*]; done) | (rw [Bool.eq_iff_iff]; simp [*]; omega) | (rw [Bool.eq_iff_iff]; simp; omega)))
end Go.Proofs.YtbflpnkodpeggaaGreatDoor

/- Layer 6: the key of a project (no name, no tag is asked). -/
import Derived.Test.YtlgjkplainjmdaaDoorCopy
namespace Go.Proofs.YtlgjkplainjmdaaDoor
set_option maxRecDepth 100000
open Go.RowKit

@[go_sem] theorem setKP (b : UInt8) : ((row8 (zeros 25)).setIfInBounds 0 (.int .u8 1)).setIfInBounds 1 (.int .u8 (b.toNat : Int)) = row8 (1 :: b :: zeros 23) := by
  rw [show (Value.int .u8 1) = .int .u8 ((1 : UInt8).toNat : Int) from rfl, row8_set, row8_set]
  rfl
theorem wrap_byteOf' (x : Int) : IntKind.u8.wrap x = ((byteOf x).toNat : Int) := by
  unfold byteOf
  have h1 : 0 ≤ x % 256 := by omega
  have h2 : x % 256 < 256 := by omega
  have h3 : IntKind.u8.wrap x = x % 256 := by
    unfold IntKind.wrap
    simp [IntKind.signed, IntKind.bits]
  rw [h3, UInt8.toNat_ofNat']
  omega
theorem used1_gives (w : World) : Gives Tryd.prog 14 #[.int .i64 1] w (.agg #[.int .i64 0, .bool false, .bool false]) := by
  unfold Gives
  go_enter Tryd.func14, Tryd.ntmps14
  go_wp2_with fail
  exact bodyPost_ret (v := .agg #[.int .i64 0, .bool false, .bool false]) (by simp [results, Tryd.results14, go_sem]) rfl ⟨rfl, (by repeat (first | exact below_of_grow _ _ | exact Below.refl _ _ | exact below_more _ _ _ _ | (simp only [← Array.append_assoc]; first | exact below_more _ _ _ _ | exact below_same _ _ _ | exact Below.refl _ _) | exact below_same _ _ _ | (refine Below.alloc ?_ (by first | (simp; done) | (simp; omega)) _) | (refine Below.grow ?_ (by first | (simp; done) | (simp; omega)) _ _) | refine Below.drew ?_ | refine Below.drewN ?_ _ | (refine Below.putF ?_ (by first | (simp; done) | omega | (simp; omega)) _) | (refine Below.setCell ?_ (by first | (simp; done) | (simp; omega)) _)))⟩
def projL (p : Int) : List UInt8 := 1 :: byteOf p :: zeros 23
theorem projL_len (p : Int) : (projL p).length = 25 := rfl
set_option maxHeartbeats 2000000 in
theorem keyP_gives (p : Int) (h0 : 0 ≤ p) (h4 : p < 4) (w : World) :
    Gives Tryd.prog 8 #[.int .i64 1, .int .i64 p, .int .i64 0, .agg (row8 (zeros 12)), .agg (row8 (zeros 10))] w (.tuple #[.agg (row8 (projL p)), .int .i64 0]) := by
  have hu := used1_gives
  have hpw := wrap_byteOf' p
  have h1w : IntKind.u8.wrap 1 = ((1 : UInt8).toNat : Int) := by decide
  have hn0 : ¬ p < 0 := by omega
  have hn4 : ¬ 4 ≤ p := by omega
  have HU := Lib.hid hu
  clear hu
  unfold Gives
  go_enter Tryd.func8, Tryd.ntmps8
  go_wp2_with fail
  refine Gives.use (HU.out _) ?_
  intro xs0 d0
  go_wp2_with fail
  exact bodyPost_ret (v := .tuple #[.agg (row8 (projL p)), .int .i64 0]) (results_two Tryd.results8 (ResIs.row rfl agg_key (by simp [go_sem, projL])) (by simp [ResIs])) rfl ⟨rfl, (by repeat (first | exact below_of_grow _ _ | exact Below.refl _ _ | exact below_more _ _ _ _ | (simp only [← Array.append_assoc]; first | exact below_more _ _ _ _ | exact below_same _ _ _ | exact Below.refl _ _) | exact below_same _ _ _ | (refine Below.alloc ?_ (by first | (simp; done) | (simp; omega)) _) | (refine Below.grow ?_ (by first | (simp; done) | (simp; omega)) _ _) | refine Below.drew ?_ | refine Below.drewN ?_ _ | (refine Below.putF ?_ (by first | (simp; done) | omega | (simp; omega)) _) | (refine Below.setCell ?_ (by first | (simp; done) | (simp; omega)) _)))⟩
end Go.Proofs.YtlgjkplainjmdaaDoor

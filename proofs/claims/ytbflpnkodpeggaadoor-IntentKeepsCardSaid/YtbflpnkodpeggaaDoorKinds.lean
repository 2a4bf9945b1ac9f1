/- The types of layers 4 to 6 as whole rows of bytes. -/
import Derived.Test.YtbflpnkodpeggaaDoorFlat
namespace Go.Proofs.YtbflpnkodpeggaaDoor
open Go.RowKit

@[go_sem] theorem agg_name : Tryd.prog.aggSize 24 = some 12 := by kernel_rfl
@[go_sem ↓ high] theorem ld_name (a : Addr) : loadVar 24 a = rowLoad 24 a := rfl
@[go_sem ↓ high] theorem st_name (a : Addr) (v : Value) : storeVar 24 a v = rowStore 24 a v := rfl

theorem flat_name : FlatType Tryd.prog 24 (byteKinds 12) := ⟨by kernel_rfl, by kernel_rfl, agg_name⟩
@[go_sem ↓ high] theorem eq_name (a b : List UInt8) (ha : a.length = 12) (hb : b.length = 12) (w : World) :
    (Op.equalIn 10000 24 (.agg (row8 a)) (.agg (row8 b))).run Tryd.prog w = .ok (a == b) w :=
  row8_eq (by rw [ha]; exact flat_name) (by rw [ha, hb]) w
@[go_sem] theorem agg_tag : Tryd.prog.aggSize 28 = some 10 := by kernel_rfl
@[go_sem ↓ high] theorem ld_tag (a : Addr) : loadVar 28 a = rowLoad 28 a := rfl
@[go_sem ↓ high] theorem st_tag (a : Addr) (v : Value) : storeVar 28 a v = rowStore 28 a v := rfl
theorem flat_tag : FlatType Tryd.prog 28 (byteKinds 10) := ⟨by kernel_rfl, by kernel_rfl, agg_tag⟩
@[go_sem ↓ high] theorem eq_tag (a b : List UInt8) (ha : a.length = 10) (hb : b.length = 10) (w : World) :
    (Op.equalIn 10000 28 (.agg (row8 a)) (.agg (row8 b))).run Tryd.prog w = .ok (a == b) w :=
  row8_eq (by rw [ha]; exact flat_tag) (by rw [ha, hb]) w

@[go_sem] theorem agg_key : Tryd.prog.aggSize 30 = some 25 := by kernel_rfl
@[go_sem ↓ high] theorem ld_key (a : Addr) : loadVar 30 a = rowLoad 30 a := rfl
@[go_sem ↓ high] theorem st_key (a : Addr) (v : Value) : storeVar 30 a v = rowStore 30 a v := rfl
theorem flat_key : FlatType Tryd.prog 30 (byteKinds 25) := ⟨by kernel_rfl, by kernel_rfl, agg_key⟩
@[go_sem ↓ high] theorem eq_key (a b : List UInt8) (ha : a.length = 25) (hb : b.length = 25) (w : World) :
    (Op.equalIn 10000 30 (.agg (row8 a)) (.agg (row8 b))).run Tryd.prog w = .ok (a == b) w :=
  row8_eq (by rw [ha]; exact flat_key) (by rw [ha, hb]) w
end Go.Proofs.YtbflpnkodpeggaaDoor

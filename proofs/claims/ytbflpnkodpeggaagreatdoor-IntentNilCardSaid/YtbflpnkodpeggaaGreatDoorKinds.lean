/- The types of layers 4 to 6 as whole rows of bytes. -/
import Derived.Test.YtbflpnkodpeggaaGreatDoorFlat
namespace Go.Proofs.YtbflpnkodpeggaaGreatDoor
open Go.RowKit

@[go_sem] theorem agg_name : Tryz.prog.aggSize 23 = some 12 := by kernel_rfl
@[go_sem ↓ high] theorem ld_name (a : Addr) : loadVar 23 a = rowLoad 23 a := rfl
@[go_sem ↓ high] theorem st_name (a : Addr) (v : Value) : storeVar 23 a v = rowStore 23 a v := rfl

theorem flat_name : FlatType Tryz.prog 23 (byteKinds 12) := ⟨by kernel_rfl, by kernel_rfl, agg_name⟩
@[go_sem ↓ high] theorem eq_name (a b : List UInt8) (ha : a.length = 12) (hb : b.length = 12) (w : World) :
    (Op.equalIn 10000 23 (.agg (row8 a)) (.agg (row8 b))).run Tryz.prog w = .ok (a == b) w :=
  row8_eq (by rw [ha]; exact flat_name) (by rw [ha, hb]) w
@[go_sem] theorem agg_tag : Tryz.prog.aggSize 27 = some 10 := by kernel_rfl
@[go_sem ↓ high] theorem ld_tag (a : Addr) : loadVar 27 a = rowLoad 27 a := rfl
@[go_sem ↓ high] theorem st_tag (a : Addr) (v : Value) : storeVar 27 a v = rowStore 27 a v := rfl
theorem flat_tag : FlatType Tryz.prog 27 (byteKinds 10) := ⟨by kernel_rfl, by kernel_rfl, agg_tag⟩
@[go_sem ↓ high] theorem eq_tag (a b : List UInt8) (ha : a.length = 10) (hb : b.length = 10) (w : World) :
    (Op.equalIn 10000 27 (.agg (row8 a)) (.agg (row8 b))).run Tryz.prog w = .ok (a == b) w :=
  row8_eq (by rw [ha]; exact flat_tag) (by rw [ha, hb]) w

@[go_sem] theorem agg_b10 : Tryz.prog.aggSize 81 = some 10 := by kernel_rfl
@[go_sem ↓ high] theorem ld_b10 (a : Addr) : loadVar 81 a = rowLoad 81 a := rfl
@[go_sem ↓ high] theorem st_b10 (a : Addr) (v : Value) : storeVar 81 a v = rowStore 81 a v := rfl
@[go_sem] theorem agg_b25 : Tryz.prog.aggSize 60 = some 25 := by kernel_rfl
@[go_sem ↓ high] theorem ld_b25 (a : Addr) : loadVar 60 a = rowLoad 60 a := rfl
@[go_sem ↓ high] theorem st_b25 (a : Addr) (v : Value) : storeVar 60 a v = rowStore 60 a v := rfl
@[go_sem] theorem agg_key : Tryz.prog.aggSize 29 = some 25 := by kernel_rfl
@[go_sem ↓ high] theorem ld_key (a : Addr) : loadVar 29 a = rowLoad 29 a := rfl
@[go_sem ↓ high] theorem st_key (a : Addr) (v : Value) : storeVar 29 a v = rowStore 29 a v := rfl
theorem flat_key : FlatType Tryz.prog 29 (byteKinds 25) := ⟨by kernel_rfl, by kernel_rfl, agg_key⟩
@[go_sem ↓ high] theorem eq_key (a b : List UInt8) (ha : a.length = 25) (hb : b.length = 25) (w : World) :
    (Op.equalIn 10000 29 (.agg (row8 a)) (.agg (row8 b))).run Tryz.prog w = .ok (a == b) w :=
  row8_eq (by rw [ha]; exact flat_key) (by rw [ha, hb]) w
end Go.Proofs.YtbflpnkodpeggaaGreatDoor

/- The types of layers 4 to 6 as whole rows of bytes. -/
import Derived.Test.YtjdccgmoldmlmaaDoorFlat
namespace Go.Proofs.YtjdccgmoldmlmaaDoor
open Go.RowKit

@[go_sem] theorem agg_name : Tryd.prog.aggSize 32 = some 12 := by kernel_rfl
@[go_sem ↓ high] theorem ld_name (a : Addr) : loadVar 32 a = rowLoad 32 a := rfl
@[go_sem ↓ high] theorem st_name (a : Addr) (v : Value) : storeVar 32 a v = rowStore 32 a v := rfl

theorem flat_name : FlatType Tryd.prog 32 (byteKinds 12) := ⟨by kernel_rfl, by kernel_rfl, agg_name⟩
@[go_sem ↓ high] theorem eq_name (a b : List UInt8) (ha : a.length = 12) (hb : b.length = 12) (w : World) :
    (Op.equalIn 10000 32 (.agg (row8 a)) (.agg (row8 b))).run Tryd.prog w = .ok (a == b) w :=
  row8_eq (by rw [ha]; exact flat_name) (by rw [ha, hb]) w
@[go_sem] theorem agg_tag : Tryd.prog.aggSize 36 = some 10 := by kernel_rfl
@[go_sem ↓ high] theorem ld_tag (a : Addr) : loadVar 36 a = rowLoad 36 a := rfl
@[go_sem ↓ high] theorem st_tag (a : Addr) (v : Value) : storeVar 36 a v = rowStore 36 a v := rfl
theorem flat_tag : FlatType Tryd.prog 36 (byteKinds 10) := ⟨by kernel_rfl, by kernel_rfl, agg_tag⟩
@[go_sem ↓ high] theorem eq_tag (a b : List UInt8) (ha : a.length = 10) (hb : b.length = 10) (w : World) :
    (Op.equalIn 10000 36 (.agg (row8 a)) (.agg (row8 b))).run Tryd.prog w = .ok (a == b) w :=
  row8_eq (by rw [ha]; exact flat_tag) (by rw [ha, hb]) w

@[go_sem] theorem agg_b10 : Tryd.prog.aggSize 95 = some 10 := by kernel_rfl
@[go_sem ↓ high] theorem ld_b10 (a : Addr) : loadVar 95 a = rowLoad 95 a := rfl
@[go_sem ↓ high] theorem st_b10 (a : Addr) (v : Value) : storeVar 95 a v = rowStore 95 a v := rfl
@[go_sem] theorem agg_b25 : Tryd.prog.aggSize 78 = some 25 := by kernel_rfl
@[go_sem ↓ high] theorem ld_b25 (a : Addr) : loadVar 78 a = rowLoad 78 a := rfl
@[go_sem ↓ high] theorem st_b25 (a : Addr) (v : Value) : storeVar 78 a v = rowStore 78 a v := rfl
@[go_sem] theorem agg_key : Tryd.prog.aggSize 38 = some 25 := by kernel_rfl
@[go_sem ↓ high] theorem ld_key (a : Addr) : loadVar 38 a = rowLoad 38 a := rfl
@[go_sem ↓ high] theorem st_key (a : Addr) (v : Value) : storeVar 38 a v = rowStore 38 a v := rfl
theorem flat_key : FlatType Tryd.prog 38 (byteKinds 25) := ⟨by kernel_rfl, by kernel_rfl, agg_key⟩
@[go_sem ↓ high] theorem eq_key (a b : List UInt8) (ha : a.length = 25) (hb : b.length = 25) (w : World) :
    (Op.equalIn 10000 38 (.agg (row8 a)) (.agg (row8 b))).run Tryd.prog w = .ok (a == b) w :=
  row8_eq (by rw [ha]; exact flat_key) (by rw [ha, hb]) w
end Go.Proofs.YtjdccgmoldmlmaaDoor

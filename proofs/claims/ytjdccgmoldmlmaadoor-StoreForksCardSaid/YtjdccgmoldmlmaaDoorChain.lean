/- Layer 12: a chain's versions, how they lie in memory. -/
import Derived.Test.YtjdccgmoldmlmaaDoorSlice
import Derived.Test.YtjdccgmoldmlmaaDoorEnt
namespace Go.Proofs.YtjdccgmoldmlmaaDoor
set_option maxRecDepth 100000
open Go.RowKit

/-- a version -/
structure Ver where
  at_ : UInt64
  dead : Bool
  r : Rec
instance : DecidableEq Ver := fun a b =>
  if h : a.at_ = b.at_ ∧ a.dead = b.dead ∧ a.r = b.r then .isTrue (by obtain ⟨h0, h1, h2⟩ := h; cases a; cases b; simp only at *; subst h0 h1 h2; rfl)
  else .isFalse (by rintro rfl; exact h ⟨rfl, rfl, rfl⟩)
def Ver.zero : Ver := ⟨0, false, Rec.zero⟩
def verL (v : Ver) : List Value := .int .u64 v.at_.toNat :: .bool v.dead :: recL v.r
def verA (v : Ver) : Array Value := (verL v).toArray
@[go_sem, simp] theorem verA_size (v : Ver) : (verA v).size = 11 := id rfl
@[go_sem] theorem one_verA (v : Ver) : allOne (verA v) = true := allOne_list (by intro x hx; rcases List.mem_cons.1 hx with rfl | hx; rfl; rcases List.mem_cons.1 hx with rfl | hx; rfl; exact one_recL _ x hx)
@[go_sem] theorem verA_0 (v : Ver) : (verA v)[0]? = some (.int .u64 v.at_.toNat) := id rfl
@[go_sem] theorem verA_1 (v : Ver) : (verA v)[1]? = some (.bool v.dead) := id rfl
@[go_sem, simp] theorem verA_0E (v : Ver) (h : 0 < (verA v).size) : (verA v)[0]'h = .int .u64 v.at_.toNat := id rfl
@[go_sem, simp] theorem verA_1E (v : Ver) (h : 1 < (verA v).size) : (verA v)[1]'h = .bool v.dead := id rfl
@[go_sem] theorem verA_rec (v : Ver) : (verA v).extract 2 11 = recA v.r := ext_list (recL v.r) [.int .u64 v.at_.toNat, .bool v.dead] 2 rfl
@[go_sem] theorem verA_all (v : Ver) : (verA v).extract 0 11 = verA v := by apply Array.extract_eq_self_of_le; simp
@[go_sem] theorem agg_ver : Tryd.prog.aggSize 66 = some 11 := by kernel_rfl
@[go_sem ↓ high] theorem ld_ver (a : Addr) : loadVar 66 a = rowLoad 66 a := rfl
@[go_sem ↓ high] theorem st_ver (a : Addr) (v : Value) : storeVar 66 a v = rowStore 66 a v := rfl
@[go_sem] theorem agg_rec : Tryd.prog.aggSize 44 = some 9 := by kernel_rfl
@[go_sem ↓ high] theorem ld_rec (a : Addr) : loadVar 44 a = rowLoad 44 a := rfl
@[go_sem ↓ high] theorem st_rec (a : Addr) (v : Value) : storeVar 44 a v = rowStore 44 a v := rfl
@[go_sem] theorem zero_rec : (#[.int .u8 0, .int .u8 0, .int .u8 0, .int .u8 0, .int .u8 0, .bool false, .int .u32 0, .int .u64 0, .string { data := #[] }] : Array Value) = recA Rec.zero := id rfl
theorem flat_rec : FlatType Tryd.prog 44 recKs := ⟨by kernel_rfl, by kernel_rfl, agg_rec⟩
@[go_sem ↓ high] theorem eq_rec (a b : Rec) (w : World) : (Op.equalIn 10000 44 (.agg (recA a)) (.agg (recA b))).run Tryd.prog w = .ok (decide (a = b)) w :=
  eq_of_flat flat_rec rec_fit (fun _ _ => rec_inj) a b w
/-- a chain at block c: its slice, its versions -/
def ChainAt (w : World) (B c : Nat) (sv : Value) (vs : List Ver) : Prop :=
  w.heap[c]? = some (.cells #[sv] 61) ∧ OwnA w B 11 66 sv (vs.map verA)
end Go.Proofs.YtjdccgmoldmlmaaDoor

/- Keys in memory and as keys of maps. -/
import Derived.Test.YtjdccgmoldmlmaaDoorEnt
import Derived.Test.YtjdccgmoldmlmaaDoorMaps
namespace Go.Proofs.YtjdccgmoldmlmaaDoor
open Go.RowKit

@[go_sem ↓ high] theorem eq_key' (a b : K25) (w : World) : (Op.equalIn 10000 38 (.agg (row8 a.val)) (.agg (row8 b.val))).run Tryd.prog w = .ok (decide (a = b)) w :=
  eq_of_flat (f := keyL) (g := keyLs) flat_key key_fit (fun _ _ => key_inj) a b w
theorem laidOutP : laidOutB Tryd.prog = true := by kernel_rfl
theorem keyEnc : KeyEnc Tryd.prog 38 (fun k : K25 => .agg (row8 k.val)) (fun _ => True) where
  law := (keyEnc_row8 (n := 25) laidOutP (of_decide_eq_true (by kernel_rfl)) (by kernel_rfl) (by kernel_rfl) (by kernel_rfl) agg_key (by kernel_rfl)).law
  reads k _ := (keyEnc_row8 (n := 25) laidOutP (of_decide_eq_true (by kernel_rfl)) (by kernel_rfl) (by kernel_rfl) (by kernel_rfl) agg_key (by kernel_rfl)).reads k.val k.len
  inj a b _ _ h := by simp only [Value.agg.injEq] at h; exact Subtype.ext (row8_inj.1 h)
end Go.Proofs.YtjdccgmoldmlmaaDoor

/- Keys in memory and as keys of maps. -/
import Derived.Test.YtbflpnkodpeggaaEnt
import Derived.Test.YtbflpnkodpeggaaMaps
namespace Go.Proofs.Ytbflpnkodpeggaa
open Go.RowKit

@[go_sem ↓ high] theorem eq_key' (a b : K25) (w : World) : (Op.equalIn 10000 38 (.agg (row8 a.val)) (.agg (row8 b.val))).run Try.prog w = .ok (decide (a = b)) w :=
  eq_of_flat (f := keyL) (g := keyLs) flat_key key_fit (fun _ _ => key_inj) a b w
theorem laidOutP : laidOutB Try.prog = true := by kernel_rfl
theorem keyEnc : KeyEnc Try.prog 38 (fun k : K25 => .agg (row8 k.val)) (fun _ => True) where
  law := (keyEnc_row8 (n := 25) laidOutP (of_decide_eq_true (by kernel_rfl)) (by kernel_rfl) (by kernel_rfl) (by kernel_rfl) agg_key (by kernel_rfl)).law
  reads k _ := (keyEnc_row8 (n := 25) laidOutP (of_decide_eq_true (by kernel_rfl)) (by kernel_rfl) (by kernel_rfl) (by kernel_rfl) agg_key (by kernel_rfl)).reads k.val k.len
  inj a b _ _ h := by simp only [Value.agg.injEq] at h; exact Subtype.ext (row8_inj.1 h)
end Go.Proofs.Ytbflpnkodpeggaa

/- Layer 24's law: the chapter's example. -/
import Derived.Test.YtbflpnkodpeggaaThreeM
import Derived.Test.YtbflpnkodpeggaaBuild
namespace Go.Proofs.Ytbflpnkodpeggaa
set_option maxRecDepth 100000
open Go.RowKit

def rA : Rec := ⟨6, 1, 0, 0, 0, false, 1, 0, ⟨[97], by decide⟩⟩
def rB : Rec := ⟨6, 1, 0, 0, 0, false, 1, 0, ⟨[98], by decide⟩⟩
def cB : Cell := ⟨true, rB⟩
@[go_sem] theorem lit_rA : (#[.int .u8 6, .int .u8 1, .int .u8 0, .int .u8 0, .int .u8 0, .bool false, .int .u32 1, .int .u64 0, .string { data := #[97] }] : Array Value) = recA rA := id rfl
theorem knownM_1 : threeC Cell.zero ⟨true, rA⟩ cB 1 = (⟨true, rA⟩, 3, 0) := by decide
theorem knownM_2 : threeC Cell.zero ⟨true, rA⟩ cB 0 = (Cell.zero, 3, 11) := by decide
@[go_sem] theorem set_cA : (cellA ⟨true, rA⟩).setIfInBounds 9 (.string { data := #[98] }) = cellA cB := id rfl
set_option maxHeartbeats 1000000 in
theorem known24_gives (w : World) : Gives Try.prog 10 #[] w (.bool true) := by
  have h1 := threeM_gives Cell.zero ⟨true, rA⟩ cB 1
  have h2 := threeM_gives Cell.zero ⟨true, rA⟩ cB 0
  rw [knownM_1] at h1
  rw [knownM_2] at h2
  have H1 := Lib.hid h1
  have H2 := Lib.hid h2
  clear h1 h2
  unfold Gives
  go_enter Try.func10, Try.ntmps10
  go_wp2_with fail
  refine Gives.use (H1.out _) ?_
  intro xs d
  go_wp2_with fail
  refine Gives.use (H2.out _) ?_
  intro ys e
  go_wp2_with fail
  go_ret
  exact ⟨rfl, (by repeat (first | exact below_of_grow _ _ | exact Below.refl _ _ | exact below_more _ _ _ _ | (simp only [← Array.append_assoc]; first | exact below_more _ _ _ _ | exact below_same _ _ _ | exact Below.refl _ _) | exact below_same _ _ _ | (refine Below.alloc ?_ (by first | (simp; done) | (simp; omega)) _) | (refine Below.grow ?_ (by first | (simp; done) | (simp; omega)) _ _) | refine Below.drew ?_ | refine Below.drewN ?_ _ | (refine Below.putF ?_ (by first | (simp; done) | omega | (simp; omega)) _) | (refine Below.setCell ?_ (by first | (simp; done) | (simp; omega)) _)))⟩
end Go.Proofs.Ytbflpnkodpeggaa

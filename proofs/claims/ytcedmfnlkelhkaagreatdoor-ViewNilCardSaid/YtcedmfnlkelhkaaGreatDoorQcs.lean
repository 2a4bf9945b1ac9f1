/- Layer 19's law: the chapter's example, in plain Lean. -/
import Derived.Test.YtcedmfnlkelhkaaGreatDoorQcg
import Derived.Test.YtcedmfnlkelhkaaGreatDoorQap
namespace Go.Proofs.YtcedmfnlkelhkaaGreatDoor
open Go.RowKit

def n19 : List UInt8 := 97 :: zeros 11
theorem n19_len : n19.length = 12 ∧ (zeros 10).length = 10 := ⟨rfl, rfl⟩
def keyS (b : UInt8) : List UInt8 := 5 :: 0 :: b :: (n19 ++ zeros 10)
def kS (b : UInt8) : K25 := ⟨keyS b, rfl⟩
def tx1 : Txt := ⟨[111, 110, 101], by simp [maxLen]⟩
def tx2 : Txt := ⟨[116, 119, 111], by simp [maxLen]⟩
def tx3 : Txt := ⟨[116, 104, 114, 101, 101], by simp [maxLen]⟩
def srcR (v : UInt32) (l : Txt) : Rec := { Rec.zero with kind := 5, rev := v, text := l }
def y1 : Wr := ⟨keyK 4 0 0, false, recB 0⟩
def y2 : Wr := ⟨kS 0, false, srcR 1 tx1⟩
def y3 : Wr := ⟨keyK 4 0 1, false, recB 0⟩
def y4 : Wr := ⟨kS 0, false, srcR 2 tx2⟩
def y5 : Wr := ⟨kS 1, false, srcR 3 tx3⟩
def g1 : K25 → List Ver := applyL 1 f0 [y1]
def g2 : K25 → List Ver := applyL 2 g1 [y2]
def g3 : K25 → List Ver := applyL 3 g2 [y3]
def g4 : K25 → List Ver := applyL 4 g3 [y4]
def g5 : K25 → List Ver := applyL 5 g4 [y5]
theorem pubK1 : pubE f0 0 [y1] = 0 := by decide +kernel
theorem pubK2 : pubE g1 1 [y2] = 0 := by decide +kernel
theorem pubK3 : pubE g2 2 [y3] = 0 := by decide +kernel
theorem pubK4 : pubE g3 3 [y4] = 0 := by decide +kernel
theorem pubK5 : pubE g4 3 [y5] = 0 := by decide +kernel
theorem moreK1 : moreI f0 [y1] = 1 := by decide +kernel
theorem moreK2 : moreI g1 [y2] = 1 := by decide +kernel
theorem moreK3 : moreI g2 [y3] = 1 := by decide +kernel
theorem moreK4 : moreI g3 [y4] = 0 := by decide +kernel
theorem moreK5 : moreI g4 [y5] = 1 := by decide +kernel
def linksK : List Lnk := [(1, nowT), (0, 3)]
theorem chainK4 : chainV g4 4 0 1 257 [] (1, nowT) = linksK := by decide +kernel
theorem chainK5 : chainV g5 5 0 1 257 [] (1, nowT) = linksK := by decide +kernel
theorem thereK4 : (atV (g4 (keyK 4 0 1)) 4).2 = true := by decide +kernel
theorem thereK5 : (atV (g5 (keyK 4 0 1)) 5).2 = true := by decide +kernel
theorem seenK4 : seenV g4 4 0 1 5 n19 (zeros 10) n19_len linksK = some (0, srcR 1 tx1) := by decide +kernel
theorem seenK5 : seenV g5 5 0 1 5 n19 (zeros 10) n19_len linksK = some (1, srcR 3 tx3) := by decide +kernel
end Go.Proofs.YtcedmfnlkelhkaaGreatDoor

/- Pieces laid over rows of bytes. -/
import Derived.Test.YtjdccgmoldmlmaaDoorKinds
namespace Go.Proofs.YtjdccgmoldmlmaaDoor
open Go.RowKit

def spl (a : List UInt8) (o : Nat) (b : List UInt8) : List UInt8 := (a.take o ++ b ++ a.drop (o + b.length)).take a.length
@[go_sem] theorem splice_row8 (a b : List UInt8) (o : Nat) (h : o + b.length ≤ a.length) : spliceA (row8 a) o (row8 b) = row8 (spl a o b) := by
  unfold spliceA
  rw [row8_extract, row8_extract, row8_size, row8_size]
  apply Array.ext'
  unfold spl
  rw [List.take_of_length_le (l := a.take o ++ b ++ a.drop (o + b.length)) (by simp; omega)]
  simp [row8]
@[go_sem] theorem spl_len (a b : List UInt8) (o : Nat) : (spl a o b).length = a.length := by simp [spl]; omega
end Go.Proofs.YtjdccgmoldmlmaaDoor

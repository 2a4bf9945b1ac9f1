/- Strings told by a list of bytes. -/
import Derived.Test.YtjdccgmoldmlmaaDoorRow
namespace Go.Proofs.YtjdccgmoldmlmaaDoor
open Go.RowKit

def bs (l : List UInt8) : ByteArray := ⟨l.toArray⟩
theorem bs_inj {a b : List UInt8} : bs a = bs b ↔ a = b := ⟨fun h => by
  have := congrArg (fun x : ByteArray => x.data.toList) h
  simpa [bs] using this, fun h => by rw [h]⟩
theorem bs_of (s : ByteArray) : s = bs s.data.toList := by
  obtain ⟨⟨l⟩⟩ := s
  rfl
@[go_sem] theorem bs_toList (l : List UInt8) : (bs l).toList = l := by rw [ByteArray.toList_eq]; rfl
theorem bs_size (s : List UInt8) : (bs s).size = s.length := by simp [bs, ByteArray.size]
theorem bs_cut (s : List UInt8) (n : Nat) : (bs s).extract 0 n = bs (s.take n) := by
  apply ByteArray.ext
  simp [bs, ByteArray.data_extract]
theorem bs_part (s : List UInt8) (a b : Nat) : (bs s).extract a b = bs ((s.take b).drop a) := by
  apply ByteArray.ext
  simp [bs, ByteArray.data_extract, List.extract_eq_take_drop]
  rw [List.drop_take]
theorem bytes_append (a b : List UInt8) : ByteArray.mk a.toArray ++ ByteArray.mk b.toArray = ByteArray.mk (a ++ b).toArray := by
  apply ByteArray.ext; simp
/-- the byte at place i -/
def byt (l : List UInt8) (i : Nat) : UInt8 := l.getD i 0
theorem byt_get {l : List UInt8} {i : Nat} (h : i < l.length) : l[i]'h = byt l i := by
  unfold byt; rw [List.getD_eq_getElem?_getD, List.getElem?_eq_getElem h]; rfl
@[go_sem] theorem bs_get (l : List UInt8) (i : Nat) (h : i < (bs l).size) : (bs l)[i]'h = byt l i := by
  unfold byt
  have h2 : i < l.length := by rw [bs_size] at h; exact h
  rw [List.getD_eq_getElem?_getD, List.getElem?_eq_getElem h2]
  rfl
theorem bs_append (a b : List UInt8) : bs a ++ bs b = bs (a ++ b) := bytes_append a b
end Go.Proofs.YtjdccgmoldmlmaaDoor

/- The cells of plain fields that are read. -/
import Derived.Test.YtjdccgmoldmlmaaDoorReadS
namespace Go.Proofs.YtjdccgmoldmlmaaDoor
set_option maxRecDepth 100000
open Go.RowKit

theorem FitsAll.u8 {cs : List Value} (h : FitsAll [CK.i .u8] cs) : ∃ b : UInt8, cs = [.int .u8 b.toNat] := by
  obtain ⟨z, rfl, hz⟩ := h.int
  have hb : 0 ≤ z ∧ z < 256 := by
    simp [Lit.wf, IntKind.min, IntKind.max, IntKind.signed, IntKind.bits] at hz
    omega
  refine ⟨UInt8.ofNat z.toNat, ?_⟩
  rw [UInt8.toNat_ofNat']
  congr 2
  omega
theorem FitsAll.u32 {cs : List Value} (h : FitsAll [CK.i .u32] cs) : ∃ b : UInt32, cs = [.int .u32 b.toNat] := by
  obtain ⟨z, rfl, hz⟩ := h.int
  have hb : 0 ≤ z ∧ z < 4294967296 := by
    simp [Lit.wf, IntKind.min, IntKind.max, IntKind.signed, IntKind.bits] at hz
    omega
  refine ⟨UInt32.ofNat z.toNat, ?_⟩
  rw [UInt32.toNat_ofNat']
  congr 2
  omega
theorem FitsAll.u64 {cs : List Value} (h : FitsAll [CK.i .u64] cs) : ∃ b : UInt64, cs = [.int .u64 b.toNat] := by
  obtain ⟨z, rfl, hz⟩ := h.int
  have hb : 0 ≤ z ∧ z < 18446744073709551616 := by
    simp [Lit.wf, IntKind.min, IntKind.max, IntKind.signed, IntKind.bits] at hz
    omega
  refine ⟨UInt64.ofNat z.toNat, ?_⟩
  rw [UInt64.toNat_ofNat']
  congr 2
  omega
theorem FitsAll.str {cs : List Value} (h : FitsAll [CK.s] cs) : ∃ t : Txt, cs = [.string (bs t.val)] := by
  match cs, h with
  | [_], ⟨⟨s, h, hl⟩, _⟩ =>
    refine ⟨⟨s.data.toList, by simpa using hl⟩, ?_⟩
    rw [h]
    rfl
def recCs : List CK := [CK.i .u8] ++ ([CK.i .u8] ++ ([CK.i .u8] ++ ([CK.i .u8] ++ ([CK.i .u8] ++ ([CK.b] ++ ([CK.i .u32] ++ ([CK.i .u64] ++ [CK.s])))))))
theorem FitsAll.rec {cs : List Value} (h : FitsAll recCs cs) : ∃ r : Rec, cs = recL r := by
  obtain ⟨x0, y0, rfl, h0, h⟩ := FitsAll.split h
  obtain ⟨x1, y1, rfl, h1, h⟩ := FitsAll.split h
  obtain ⟨x2, y2, rfl, h2, h⟩ := FitsAll.split h
  obtain ⟨x3, y3, rfl, h3, h⟩ := FitsAll.split h
  obtain ⟨x4, y4, rfl, h4, h⟩ := FitsAll.split h
  obtain ⟨x5, y5, rfl, h5, h⟩ := FitsAll.split h
  obtain ⟨x6, y6, rfl, h6, h⟩ := FitsAll.split h
  obtain ⟨x7, x8, rfl, h7, h8⟩ := FitsAll.split h
  obtain ⟨b0, rfl⟩ := h0.u8
  obtain ⟨b1, rfl⟩ := h1.u8
  obtain ⟨b2, rfl⟩ := h2.u8
  obtain ⟨b3, rfl⟩ := h3.u8
  obtain ⟨b4, rfl⟩ := h4.u8
  obtain ⟨b5, rfl⟩ := h5.bool
  obtain ⟨b6, rfl⟩ := h6.u32
  obtain ⟨b7, rfl⟩ := h7.u64
  obtain ⟨b8, rfl⟩ := h8.str
  exact ⟨⟨b0, b1, b2, b3, b4, b5, b6, b7, b8⟩, rfl⟩
end Go.Proofs.YtjdccgmoldmlmaaDoor

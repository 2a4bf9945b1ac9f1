/- Records and cells: how they lie in memory, and the walks of the functions of layer 24 over three cells. -/
import Derived.Test.YteefknjaandjhaaGrow
namespace Go.Proofs.Yteefknjaandjhaa
open Go.RowKit

structure R10 where
  kind : Int
  state : Int
  user : Int
  parent : Int
  mask : Int
  gone : Bool
  rev : Int
  at_ : Int
  text : ByteArray

instance : DecidableEq R10 := fun a b =>
  if h : a.kind = b.kind ∧ a.state = b.state ∧ a.user = b.user ∧ a.parent = b.parent ∧ a.mask = b.mask ∧ a.gone = b.gone ∧ a.rev = b.rev ∧ a.at_ = b.at_ ∧ a.text = b.text then
    .isTrue (by obtain ⟨h0, h1, h2, h3, h4, h5, h6, h7, h8⟩ := h; cases a; cases b; simp only at *; subst h0 h1 h2 h3 h4 h5 h6 h7 h8; rfl)
  else .isFalse (by rintro rfl; exact h ⟨rfl, rfl, rfl, rfl, rfl, rfl, rfl, rfl, rfl⟩)

structure C24 where
  is_ : Bool
  r : R10

instance : DecidableEq C24 := fun a b =>
  if h : a.is_ = b.is_ ∧ a.r = b.r then .isTrue (by obtain ⟨h0, h1⟩ := h; cases a; cases b; simp only at *; subst h0 h1; rfl)
  else .isFalse (by rintro rfl; exact h ⟨rfl, rfl⟩)

@[go_sem] def R10.zero : R10 := ⟨0, 0, 0, 0, 0, false, 0, 0, ⟨#[]⟩⟩
@[go_sem] def C24.zero : C24 := ⟨false, R10.zero⟩
/-- the cells of a record of the program, of the document -/
@[go_sem] def R10.v (r : R10) : Value := .agg #[.int .u8 r.kind, .int .u8 r.state, .int .u8 r.user, .int .u8 r.parent, .int .u8 r.mask, .bool r.gone, .int .u32 r.rev, .int .u64 r.at_, .string r.text]
@[go_sem] def R10.d (r : R10) : Value := .agg #[.int .i64 r.kind, .int .i64 r.state, .int .i64 r.user, .int .i64 r.parent, .int .i64 r.mask, .bool r.gone, .int .u64 r.rev, .int .u64 r.at_, .string r.text]
@[go_sem] def C24.v (c : C24) : Value := .agg #[.bool c.is_, .int .u8 c.r.kind, .int .u8 c.r.state, .int .u8 c.r.user, .int .u8 c.r.parent, .int .u8 c.r.mask, .bool c.r.gone, .int .u32 c.r.rev, .int .u64 c.r.at_, .string c.r.text]
@[go_sem] def C24.d (c : C24) : Value := .agg #[.bool c.is_, .int .i64 c.r.kind, .int .i64 c.r.state, .int .i64 c.r.user, .int .i64 c.r.parent, .int .i64 c.r.mask, .bool c.r.gone, .int .u64 c.r.rev, .int .u64 c.r.at_, .string c.r.text]

/-- a record's numbers fit their kinds -/
structure R10.ok (r : R10) : Prop where
  k : 0 ≤ r.kind ∧ r.kind < 256
  s : 0 ≤ r.state ∧ r.state < 256
  u : 0 ≤ r.user ∧ r.user < 256
  p : 0 ≤ r.parent ∧ r.parent < 256
  m : 0 ≤ r.mask ∧ r.mask < 256
  rv : 0 ≤ r.rev ∧ r.rev < 4294967296

theorem bytes_same {a b : ByteArray} : (a.toList = b.toList) = (a = b) := by
  refine propext ⟨fun h => ?_, fun h => h ▸ rfl⟩
  rw [ByteArray.toList_eq, ByteArray.toList_eq] at h
  obtain ⟨x⟩ := a
  obtain ⟨y⟩ := b
  exact congrArg ByteArray.mk (Array.toList_inj.1 h)

theorem cell_dec (a b : C24) : decide (a = b) = (decide (a.is_ = b.is_) && (decide (a.r.kind = b.r.kind) && (decide (a.r.state = b.r.state) && (decide (a.r.user = b.r.user) && (decide (a.r.parent = b.r.parent) && (decide (a.r.mask = b.r.mask) && (decide (a.r.gone = b.r.gone) && (decide (a.r.rev = b.r.rev) && (decide (a.r.at_ = b.r.at_) && decide (a.r.text = b.r.text)))))))))) := by
  obtain ⟨a0, a1, a2, a3, a4, a5, a6, a7, a8, a9⟩ := a
  obtain ⟨b0, b1, b2, b3, b4, b5, b6, b7, b8, b9⟩ := b
  simp only [C24.mk.injEq, R10.mk.injEq, Bool.decide_and]

theorem eqCell (a b : C24) (w : World) : (binOp .eql 27 (.agg #[.bool a.is_, .int .u8 a.r.kind, .int .u8 a.r.state, .int .u8 a.r.user, .int .u8 a.r.parent, .int .u8 a.r.mask, .bool a.r.gone, .int .u32 a.r.rev, .int .u64 a.r.at_, .string a.r.text]) (.agg #[.bool b.is_, .int .u8 b.r.kind, .int .u8 b.r.state, .int .u8 b.r.user, .int .u8 b.r.parent, .int .u8 b.r.mask, .bool b.r.gone, .int .u32 b.r.rev, .int .u64 b.r.at_, .string b.r.text])).run Try.prog w = .ok (.bool (decide (a = b))) w := by
  rw [cell_dec]
  simp [go_sem, bytes_same]
  repeat' split
  all_goals simp [*]

theorem eqCellD (a b : C24) (w : World) : (binOp .eql 35 (.agg #[.bool a.is_, .int .i64 a.r.kind, .int .i64 a.r.state, .int .i64 a.r.user, .int .i64 a.r.parent, .int .i64 a.r.mask, .bool a.r.gone, .int .u64 a.r.rev, .int .u64 a.r.at_, .string a.r.text]) (.agg #[.bool b.is_, .int .i64 b.r.kind, .int .i64 b.r.state, .int .i64 b.r.user, .int .i64 b.r.parent, .int .i64 b.r.mask, .bool b.r.gone, .int .u64 b.r.rev, .int .u64 b.r.at_, .string b.r.text])).run Try.prog w = .ok (.bool (decide (a = b))) w := by
  rw [cell_dec]
  simp [go_sem, bytes_same]
  repeat' split
  all_goals simp [*]

theorem neCellD (a b : C24) (w : World) : (binOp .neq 35 (.agg #[.bool a.is_, .int .i64 a.r.kind, .int .i64 a.r.state, .int .i64 a.r.user, .int .i64 a.r.parent, .int .i64 a.r.mask, .bool a.r.gone, .int .u64 a.r.rev, .int .u64 a.r.at_, .string a.r.text]) (.agg #[.bool b.is_, .int .i64 b.r.kind, .int .i64 b.r.state, .int .i64 b.r.user, .int .i64 b.r.parent, .int .i64 b.r.mask, .bool b.r.gone, .int .u64 b.r.rev, .int .u64 b.r.at_, .string b.r.text])).run Try.prog w = .ok (.bool (!decide (a = b))) w := by
  rw [cell_dec]
  simp [go_sem, bytes_same]
  repeat' split
  all_goals simp [*]

end Go.Proofs.Yteefknjaandjhaa

/- A record as the document has it. -/
import Derived.Test.YtbflpnkodpeggaaEntOps
namespace Go.Proofs.Ytbflpnkodpeggaa
set_option maxRecDepth 100000
open Go.RowKit

@[go_sem] theorem agg_recD : Try.prog.aggSize 62 = some 9 := by kernel_rfl
@[go_sem ↓ high] theorem ld_recD (a : Addr) : loadVar 62 a = rowLoad 62 a := rfl
@[go_sem ↓ high] theorem st_recD (a : Addr) (v : Value) : storeVar 62 a v = rowStore 62 a v := rfl
@[go_sem] theorem recA_0 (r : Rec) : (recA r)[0]? = some (.int .u8 r.kind.toNat) := id rfl
@[go_sem] theorem recA_1 (r : Rec) : (recA r)[1]? = some (.int .u8 r.state.toNat) := id rfl
@[go_sem] theorem recA_2 (r : Rec) : (recA r)[2]? = some (.int .u8 r.user.toNat) := id rfl
@[go_sem] theorem recA_3 (r : Rec) : (recA r)[3]? = some (.int .u8 r.parent.toNat) := id rfl
@[go_sem] theorem recA_4 (r : Rec) : (recA r)[4]? = some (.int .u8 r.mask.toNat) := id rfl
@[go_sem] theorem recA_5 (r : Rec) : (recA r)[5]? = some (.bool r.gone) := id rfl
@[go_sem] theorem recA_6 (r : Rec) : (recA r)[6]? = some (.int .u32 r.rev.toNat) := id rfl
@[go_sem] theorem recA_7 (r : Rec) : (recA r)[7]? = some (.int .u64 r.at_.toNat) := id rfl
@[go_sem] theorem recA_8 (r : Rec) : (recA r)[8]? = some (.string (bs r.text.val)) := id rfl
@[go_sem, simp] theorem recA_0E (r : Rec) (h : 0 < (recA r).size) : (recA r)[0]'h = .int .u8 r.kind.toNat := id rfl
@[go_sem, simp] theorem recA_1E (r : Rec) (h : 1 < (recA r).size) : (recA r)[1]'h = .int .u8 r.state.toNat := id rfl
@[go_sem, simp] theorem recA_2E (r : Rec) (h : 2 < (recA r).size) : (recA r)[2]'h = .int .u8 r.user.toNat := id rfl
@[go_sem, simp] theorem recA_3E (r : Rec) (h : 3 < (recA r).size) : (recA r)[3]'h = .int .u8 r.parent.toNat := id rfl
@[go_sem, simp] theorem recA_4E (r : Rec) (h : 4 < (recA r).size) : (recA r)[4]'h = .int .u8 r.mask.toNat := id rfl
@[go_sem, simp] theorem recA_5E (r : Rec) (h : 5 < (recA r).size) : (recA r)[5]'h = .bool r.gone := id rfl
@[go_sem, simp] theorem recA_6E (r : Rec) (h : 6 < (recA r).size) : (recA r)[6]'h = .int .u32 r.rev.toNat := id rfl
@[go_sem, simp] theorem recA_7E (r : Rec) (h : 7 < (recA r).size) : (recA r)[7]'h = .int .u64 r.at_.toNat := id rfl
@[go_sem, simp] theorem recA_8E (r : Rec) (h : 8 < (recA r).size) : (recA r)[8]'h = .string (bs r.text.val) := id rfl
theorem wrap_u32 (b : UInt32) : IntKind.u64.wrap (b.toNat : Int) = b.toNat := by
  have h := b.toNat_lt
  simp [IntKind.wrap, IntKind.bits, IntKind.signed]
  omega
theorem lit_recD (r : Rec) : (#[.int .i64 r.kind.toNat, .int .i64 r.state.toNat, .int .i64 r.user.toNat, .int .i64 r.parent.toNat, .int .i64 r.mask.toNat, .bool r.gone, .int .u64 r.rev.toNat, .int .u64 r.at_.toNat, .string (bs r.text.val)] : Array Value) = recD r := rfl
set_option maxHeartbeats 4000000 in
theorem recOf_gives (r : Rec) (w : World) : Gives Try.prog 24 #[.agg (recA r)] w (.agg (recD r)) := by
  have h0 := wrap64_byte r.kind
  have h1 := wrap64_byte r.state
  have h2 := wrap64_byte r.user
  have h3 := wrap64_byte r.parent
  have h4 := wrap64_byte r.mask
  have h6 := wrap_u32 r.rev
  unfold Gives
  go_enter Try.func24, Try.ntmps24
  go_wp2_with fail
  exact bodyPost_ret (v := .agg (recD r)) (results_one Try.results24 (ResIs.row (cs := recD r) rfl agg_recD (cut_heap ((heap_al _ _ _).trans (if_pos (by simp))) (by simp)))) rfl ⟨rfl, (by repeat (first | exact below_of_grow _ _ | exact Below.refl _ _ | exact below_more _ _ _ _ | (simp only [← Array.append_assoc]; first | exact below_more _ _ _ _ | exact below_same _ _ _ | exact Below.refl _ _) | exact below_same _ _ _ | (refine Below.alloc ?_ (by first | (simp; done) | (simp; omega)) _) | (refine Below.grow ?_ (by first | (simp; done) | (simp; omega)) _ _) | refine Below.drew ?_ | refine Below.drewN ?_ _ | (refine Below.putF ?_ (by first | (simp; done) | omega | (simp; omega)) _) | (refine Below.setCell ?_ (by first | (simp; done) | (simp; omega)) _)))⟩
end Go.Proofs.Ytbflpnkodpeggaa

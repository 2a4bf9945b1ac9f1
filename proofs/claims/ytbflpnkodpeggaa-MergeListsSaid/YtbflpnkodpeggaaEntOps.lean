/- What the operations do with keys, records, cells, entries and writes. -/
import Derived.Test.YtbflpnkodpeggaaKeyOps
import Derived.Test.YtbflpnkodpeggaaLawKey
namespace Go.Proofs.Ytbflpnkodpeggaa
open Go.RowKit

@[go_sem] theorem agg_rec : Try.prog.aggSize 41 = some 9 := by kernel_rfl
@[go_sem ↓ high] theorem ld_rec (a : Addr) : loadVar 41 a = rowLoad 41 a := rfl
@[go_sem ↓ high] theorem st_rec (a : Addr) (v : Value) : storeVar 41 a v = rowStore 41 a v := rfl
@[go_sem] theorem agg_ent : Try.prog.aggSize 43 = some 34 := by kernel_rfl
@[go_sem ↓ high] theorem ld_ent (a : Addr) : loadVar 43 a = rowLoad 43 a := rfl
@[go_sem ↓ high] theorem st_ent (a : Addr) (v : Value) : storeVar 43 a v = rowStore 43 a v := rfl
@[go_sem] theorem agg_wrt : Try.prog.aggSize 67 = some 35 := by kernel_rfl
@[go_sem ↓ high] theorem ld_wrt (a : Addr) : loadVar 67 a = rowLoad 67 a := rfl
@[go_sem ↓ high] theorem st_wrt (a : Addr) (v : Value) : storeVar 67 a v = rowStore 67 a v := rfl
theorem flat_ent : FlatType Try.prog 43 (byteKinds 25 ++ recKs) := ⟨by kernel_rfl, by kernel_rfl, agg_ent⟩
theorem flat_rec : FlatType Try.prog 41 recKs := ⟨by kernel_rfl, by kernel_rfl, agg_rec⟩
@[go_sem] theorem agg_cell : Try.prog.aggSize 45 = some 10 := by kernel_rfl
@[go_sem ↓ high] theorem ld_cell (a : Addr) : loadVar 45 a = rowLoad 45 a := rfl
@[go_sem ↓ high] theorem st_cell (a : Addr) (v : Value) : storeVar 45 a v = rowStore 45 a v := rfl
theorem flat_cell : FlatType Try.prog 45 (.bool :: recKs) := ⟨by kernel_rfl, by kernel_rfl, agg_cell⟩
@[go_sem ↓ high] theorem eq_cell (a b : Cell) (w : World) : (Op.equalIn 10000 45 (.agg (cellA a)) (.agg (cellA b))).run Try.prog w = .ok (decide (a = b)) w :=
  eq_of_flat (f := fun c : Cell => .bool c.is_ :: recL c.r) (g := fun c => .bool c.is_ :: recLs c.r) flat_cell (fun c => .cons (show fits .bool _ _ from rfl) (rec_fit _)) (fun a b h => by
    simp only [List.cons.injEq, Lit.bool.injEq] at h
    cases a; cases b; simp only at h; rw [h.1, rec_inj h.2]) a b w
@[go_sem] theorem agg_entD : Try.prog.aggSize 81 = some 34 := by kernel_rfl
@[go_sem ↓ high] theorem ld_entD (a : Addr) : loadVar 81 a = rowLoad 81 a := rfl
@[go_sem ↓ high] theorem st_entD (a : Addr) (v : Value) : storeVar 81 a v = rowStore 81 a v := rfl
theorem flat_entD : FlatType Try.prog 81 (keyDKs ++ recDKs) := ⟨by kernel_rfl, by kernel_rfl, agg_entD⟩
@[go_sem ↓ high] theorem eq_entD (a b : Ent) (w : World) : (Op.equalIn 10000 81 (.agg (entD a)) (.agg (entD b))).run Try.prog w = .ok (decide (a = b)) w :=
  eq_of_flat (f := fun e : Ent => keyDL e.k ++ recDL e.r) (g := fun e => keyDLs e.k ++ recDLs e.r) flat_entD (fun e => (keyD_fit _).append (recD_fit _)) (fun a b h => by
    have hl : (keyDLs a.k).length = (keyDLs b.k).length := by rw [(keyD_fit a.k).l, (keyD_fit b.k).l]
    obtain ⟨h1, h2⟩ := List.append_inj h hl
    have e1 := keyD_inj h1
    have e2 := recD_inj h2
    cases a; cases b; simp only at e1 e2; subst e1 e2; rfl) a b w
theorem row_ent : RowType Try.prog 22 43 34 72 := ⟨Try.underlying22, by kernel_rfl, by decide, by decide⟩
theorem rkey_list (k : K25) : rkey k.val = (keyDL k).toArray := rfl
end Go.Proofs.Ytbflpnkodpeggaa

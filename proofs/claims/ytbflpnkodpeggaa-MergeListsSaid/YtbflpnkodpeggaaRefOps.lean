/- What the operations do with the document's keys, cells, entries and writes. -/
import Derived.Test.YtbflpnkodpeggaaRecOf
import Derived.Test.YtbflpnkodpeggaaBuild
import Derived.Test.YtbflpnkodpeggaaOfsM
namespace Go.Proofs.Ytbflpnkodpeggaa
set_option maxRecDepth 100000
open Go.RowKit

@[go_sem, simp] theorem rkeyS (k : K25) : (rkey k.val).size = 25 := by rw [rkey_list]; simp [keyDL_len]
@[go_sem] theorem one_rkey (k : K25) : allOne (rkey k.val) = true := by rw [rkey_list]; exact allOne_list (one_keyDL k)
@[go_sem] theorem rkey_all (k : K25) : (rkey k.val).extract 0 25 = rkey k.val := by apply Array.extract_eq_self_of_le; simp
theorem flat_rkey : FlatType Try.prog 60 keyDKs := ⟨by kernel_rfl, by kernel_rfl, agg_rkey⟩
@[go_sem ↓ high] theorem eq_rkey (a b : K25) (w : World) : (Op.equalIn 10000 60 (.agg (rkey a.val)) (.agg (rkey b.val))).run Try.prog w = .ok (decide (a = b)) w :=
  eq_of_flat (f := keyDL) (g := keyDLs) flat_rkey keyD_fit (fun _ _ => keyD_inj) a b w
@[go_sem] theorem agg_cellD : Try.prog.aggSize 85 = some 10 := by kernel_rfl
@[go_sem ↓ high] theorem ld_cellD (a : Addr) : loadVar 85 a = rowLoad 85 a := rfl
@[go_sem ↓ high] theorem st_cellD (a : Addr) (v : Value) : storeVar 85 a v = rowStore 85 a v := rfl
theorem flat_cellD : FlatType Try.prog 85 (.bool :: recDKs) := ⟨by kernel_rfl, by kernel_rfl, agg_cellD⟩
@[go_sem ↓ high] theorem eq_cellD (a b : Cell) (w : World) : (Op.equalIn 10000 85 (.agg (cellD a)) (.agg (cellD b))).run Try.prog w = .ok (decide (a = b)) w :=
  eq_of_flat (f := fun c : Cell => .bool c.is_ :: recDL c.r) (g := fun c => .bool c.is_ :: recDLs c.r) flat_cellD (fun c => .cons (show fits .bool _ _ from rfl) (recD_fit _)) (fun a b h => by
    simp only [List.cons.injEq, Lit.bool.injEq] at h
    cases a; cases b; simp only at h; rw [h.1, recD_inj h.2]) a b w
@[go_sem] theorem agg_wrtD : Try.prog.aggSize 64 = some 35 := by kernel_rfl
@[go_sem ↓ high] theorem ld_wrtD (a : Addr) : loadVar 64 a = rowLoad 64 a := rfl
@[go_sem ↓ high] theorem st_wrtD (a : Addr) (v : Value) : storeVar 64 a v = rowStore 64 a v := rfl
theorem flat_wrtD : FlatType Try.prog 64 (keyDKs ++ (.bool :: recDKs)) := ⟨by kernel_rfl, by kernel_rfl, agg_wrtD⟩
@[go_sem ↓ high] theorem eq_wrtD (a b : Wr) (w : World) : (Op.equalIn 10000 64 (.agg (wrtD a)) (.agg (wrtD b))).run Try.prog w = .ok (decide (a = b)) w :=
  eq_of_flat (f := fun x : Wr => keyDL x.k ++ .bool x.dead :: recDL x.r) (g := fun x => keyDLs x.k ++ .bool x.dead :: recDLs x.r) flat_wrtD (fun x => (keyD_fit _).append (.cons (show fits .bool _ _ from rfl) (recD_fit _))) (fun a b h => by
    have hl : (keyDLs a.k).length = (keyDLs b.k).length := by rw [(keyD_fit a.k).l, (keyD_fit b.k).l]
    obtain ⟨h1, h2⟩ := List.append_inj h hl
    have e1 := keyD_inj h1
    simp only [List.cons.injEq, Lit.bool.injEq] at h2
    have e2 := recD_inj h2.2
    have e3 := h2.1
    cases a; cases b; simp only at e1 e2 e3; subst e1 e2 e3; rfl) a b w
theorem flat_wrt : FlatType Try.prog 67 (byteKinds 25 ++ (.bool :: recKs)) := ⟨by kernel_rfl, by kernel_rfl, agg_wrt⟩
@[go_sem ↓ high] theorem eq_wrt (a b : Wr) (w : World) : (Op.equalIn 10000 67 (.agg (wrtA a)) (.agg (wrtA b))).run Try.prog w = .ok (decide (a = b)) w :=
  eq_of_flat (f := fun x : Wr => keyL x.k ++ .bool x.dead :: recL x.r) (g := fun x => keyLs x.k ++ .bool x.dead :: recLs x.r) flat_wrt (fun x => (key_fit _).append (.cons (show fits .bool _ _ from rfl) (rec_fit _))) (fun a b h => by
    have hl : (keyLs a.k).length = (keyLs b.k).length := by rw [(key_fit a.k).l, (key_fit b.k).l]
    obtain ⟨h1, h2⟩ := List.append_inj h hl
    have e1 := key_inj h1
    simp only [List.cons.injEq, Lit.bool.injEq] at h2
    have e2 := rec_inj h2.2
    have e3 := h2.1
    cases a; cases b; simp only at e1 e2 e3; subst e1 e2 e3; rfl) a b w
@[go_sem] theorem entD_key (e : Ent) : (entD e).extract 0 25 = rkey e.k.val := by rw [rkey_list]; exact ext_front _ _ 25 (keyDL_len _)
@[go_sem] theorem entD_rec (e : Ent) : (entD e).extract 25 34 = recD e.r := ext_list _ _ 25 (keyDL_len _)
@[go_sem] theorem entD_all (e : Ent) : (entD e).extract 0 34 = entD e := by apply Array.extract_eq_self_of_le; simp
@[go_sem] theorem recD_all (r : Rec) : (recD r).extract 0 9 = recD r := by apply Array.extract_eq_self_of_le; simp
@[go_sem] theorem cellD_all (c : Cell) : (cellD c).extract 0 10 = cellD c := by apply Array.extract_eq_self_of_le; simp
@[go_sem] theorem cellD_rec (c : Cell) : (cellD c).extract 1 10 = recD c.r := ext_list (recDL c.r) [.bool c.is_] 1 rfl
@[go_sem] theorem cellD_0 (c : Cell) : (cellD c)[0]? = some (.bool c.is_) := id rfl
@[go_sem, simp] theorem cellD_0E (c : Cell) (h : 0 < (cellD c).size) : (cellD c)[0]'h = .bool c.is_ := id rfl
@[go_sem] theorem wrtD_all (x : Wr) : (wrtD x).extract 0 35 = wrtD x := by apply Array.extract_eq_self_of_le; simp
@[go_sem] theorem wrtD_key (x : Wr) : (wrtD x).extract 0 25 = rkey x.k.val := by rw [rkey_list]; exact ext_front _ _ 25 (keyDL_len _)
@[go_sem] theorem wrtD_rec (x : Wr) : (wrtD x).extract 26 35 = recD x.r := by
  have := ext_list (recDL x.r) (keyDL x.k ++ [.bool x.dead]) 26 (by simp [keyDL_len])
  rw [List.append_assoc] at this; exact this
@[go_sem] theorem wrtD_25 (x : Wr) : (wrtD x)[25]? = some (.bool x.dead) := by
  unfold wrtD
  rw [List.getElem?_toArray, List.getElem?_append_right (by simp [keyDL_len])]; simp [keyDL_len]
@[go_sem, simp] theorem wrtD_25E (x : Wr) (h : 25 < (wrtD x).size) : (wrtD x)[25]'h = .bool x.dead := by
  have := wrtD_25 x
  rw [Array.getElem?_eq_getElem h] at this
  exact Option.some.inj this
@[go_sem] theorem zero_cellD : (#[.bool false, .int .i64 0, .int .i64 0, .int .i64 0, .int .i64 0, .int .i64 0, .bool false, .int .u64 0, .int .u64 0, .string { data := #[] }] : Array Value) = cellD Cell.zero := id rfl
theorem row_wrtD : RowType Try.prog 54 64 35 136 := ⟨Try.underlying54, by kernel_rfl, by decide, by decide⟩
theorem row_keyD : RowType Try.prog 55 60 25 48 := ⟨Try.underlying55, by kernel_rfl, by decide, by decide⟩
end Go.Proofs.Ytbflpnkodpeggaa

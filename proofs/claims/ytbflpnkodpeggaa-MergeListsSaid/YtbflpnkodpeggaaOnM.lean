/- slices.Clone of writes; merge.On: writes on a branch. -/
import Derived.Test.YtbflpnkodpeggaaCut14
import Derived.Test.YtbflpnkodpeggaaOwnSet
namespace Go.Proofs.Ytbflpnkodpeggaa
set_option maxRecDepth 100000
open Go.RowKit

def onW (b : UInt8) (x : Wr) : Wr := ⟨⟨x.k.val.set 2 b, by rw [List.length_set]; exact x.k.property⟩, x.dead, x.r⟩
theorem wrtA_set2 (x : Wr) (b : UInt8) : (wrtA x).setIfInBounds 2 (.int .u8 (b.toNat : Int)) = wrtA (onW b x) := by
  unfold wrtA
  rw [List.setIfInBounds_toArray]
  congr 1
  rw [List.set_append_left _ _ (by simp [keyL_len])]
  congr 1
  simp only [keyL, onW, List.map_set]
theorem u8_wrap (z : Int) : ∃ b : UInt8, IntKind.u8.wrap z = (b.toNat : Int) := by
  refine ⟨UInt8.ofNat (z % 256).toNat, ?_⟩
  rw [UInt8.toNat_ofNat']
  have : IntKind.u8.wrap z = z % 256 := by simp [IntKind.wrap, IntKind.bits, IntKind.signed]
  rw [this]
  omega
theorem all_wrtA (l : List Wr) : ∀ x ∈ l.map wrtA, allOne x = true := by
  intro x hx
  obtain ⟨y, _, rfl⟩ := List.mem_map.1 hx
  exact one_wrtA y
@[go_sem ↓ high] theorem nil_eq (w : World) : (binOp .eql 25 (.slice none 0 0) (.slice none 0 0)).run Try.prog w = .ok (.bool true) w := by kernel_rfl
@[go_sem ↓ high] theorem nil_ne (w : World) (a : Addr) (n c : Nat) : (binOp .eql 25 (.slice (some a) n c) (.slice none 0 0)).run Try.prog w = .ok (.bool false) w := by kernel_rfl
set_option maxHeartbeats 4000000 in
theorem clone_calls (l : List Wr) (v : Value) (w : World) (hl : l.length ≤ 1000) (B0 : Nat) (ho : OwnA w B0 35 67 v (l.map wrtA)) :
    Calls Try.prog 28 #[v] w fun e w' => ∃ v', e = .returned v' ∧ Below w.heap.size w w' ∧ OwnA w' w.heap.size 35 67 v' (l.map wrtA) := by
  have hsl := ho.sl
  have HS := Lib.hid hsl
  clear hsl
  rcases ho.2.2 with ⟨rfl, hn⟩ | ⟨g, cap, cur, rfl, _⟩
  · have hl0 : l = [] := List.eq_nil_of_length_eq_zero (by simpa using hn)
    subst hl0
    clear ho HS
    go_enter Try.func28, Try.ntmps28
    go_wp2_with fail
    go_ret
    exact ⟨_, rfl, Below.refl _ _, OwnA.nil _ _ _ _⟩
  · clear ho
    rw [List.length_map] at *
    go_enter Try.func28, Try.ntmps28
    go_wp2_with (at_builtin; refine wpList_append (B := w.heap.size) (xs := []) (ys := l.map wrtA) row_wrt' rfl (.tmp 5) (.tmp 6) rfl rfl ?_ rfl ⟨_, HS.out.alloc _ (Nat.le_refl _)⟩ (all_wrtA l) ?_ ?_ ?_)
    case refine_1 => exact own_empty (_root_.Go.heap_alloc_new w _) (Nat.le_refl _)
    case refine_2 => simp; omega
    case refine_3 => simp
    intro v1 w1 ho1 hg1 _
    have hb1 : Below w.heap.size w w1 := ⟨hg1.os, hg1.tape, hg1.output, by have := hg1.size; simp at this; omega, fun q hq => (hg1.block q (by simp; omega) (by simp [Value.ownBlock, Act.eval]; omega)).trans (heap_alloc_old (w := w) _ hq)⟩
    have HO1 := Lib.hid (show OwnA w1 w.heap.size 35 67 v1 (l.map wrtA) by simpa using ho1)
    have HB1 := Lib.hid hb1
    clear ho1 hg1 hb1
    go_wp2_with fail
    go_ret
    exact ⟨_, rfl, HB1.out, HO1.out⟩
theorem on_succ (b : UInt8) (l : List Wr) (i : Nat) (h : i < l.length) : (((l.take i).map (onW b) ++ l.drop i).map wrtA).set i ((wrtA l[i]).setIfInBounds 2 (.int .u8 (b.toNat : Int))) = ((l.take (i + 1)).map (onW b) ++ l.drop (i + 1)).map wrtA := by
  rw [wrtA_set2]
  apply List.ext_getElem?
  intro j
  rw [List.getElem?_set]
  simp only [List.getElem?_map, List.getElem?_append, List.length_map, List.length_take, List.getElem?_take, List.getElem?_drop]
  by_cases hij : i = j
  · subst hij
    rw [if_pos rfl, if_pos (by simp; omega), if_pos (by omega), if_pos (by omega), List.getElem?_eq_getElem h]
    rfl
  · rw [if_neg hij]
    by_cases hj : j < i
    · rw [if_pos (by omega), if_pos hj, if_pos (by omega), if_pos (by omega)]
    · rw [if_neg (by omega), if_neg (by omega)]
      congr 2
      omega
set_option maxHeartbeats 8000000 in
theorem on_calls (br : Int) (b : UInt8) (hb : IntKind.u8.wrap br = (b.toNat : Int)) (l : List Wr) (v : Value) (w : World) (hl : l.length ≤ 1000) (B0 : Nat) (ho : OwnA w B0 35 67 v (l.map wrtA)) :
    Calls Try.prog 17 #[.int .i64 br, v] w fun e w' => ∃ v', e = .returned v' ∧ Below w.heap.size w w' ∧ OwnA w' w.heap.size 35 67 v' ((l.map (onW b)).map wrtA) := by
  have hcl := clone_calls l v w hl B0 ho
  have HCL := Lib.hid hcl
  clear hcl ho
  go_enter Try.func17, Try.ntmps17
  go_wp2_with fail
  refine HCL.out.mono ?_
  clear HCL
  rintro e w1 ⟨v1, rfl, hb1, ho1⟩
  obtain ⟨a1, cap1, rfl, hcm1, hcl1⟩ := ho1.form
  rw [List.length_map] at *
  have hs1 := hb1.size
  have HO1 := Lib.hid ho1
  have HB1 := Lib.hid hb1
  unfold maxLen at hcm1
  clear ho1 hb1
  go_wp2_with fail
  go_loopw [11] (fun s11 wr => ∃ i : Nat, i ≤ l.length ∧ s11 = .int .i64 i ∧ Hid (Below w.heap.size w wr) ∧ Hid (OwnA wr w.heap.size 35 67 (.slice a1 l.length cap1) (((l.take i).map (onW b) ++ l.drop i).map wrtA))) (fun s11 _ => l.length - (intOf s11).toNat)
  case atStart => exact ⟨0, Nat.zero_le _, rfl, HB1, Lib.hid (by simpa using HO1.out)⟩
  case round =>
    obtain ⟨i, hi, rfl, HB, HO⟩ := hrel
    by_cases hli : i < l.length
    · have hliI : (i : Int) < l.length := by omega
      have hxs : (((l.take i).map (onW b) ++ l.drop i).map wrtA)[i]? = some (wrtA l[i]) := by
        rw [List.getElem?_map, List.getElem?_append_right (by simp; omega)]
        rw [List.getElem?_drop, List.length_map, List.length_take, show i + (i - min i l.length) = i by omega, List.getElem?_eq_getElem hli]
        rfl
      obtain ⟨g, rfl⟩ : ∃ g, a1 = some ⟨g, 0, none⟩ := by
        rcases HO.out.2.2 with ⟨h1, h2⟩ | ⟨g, c, cur, h1, _⟩
        · simp only [Value.slice.injEq] at h1; omega
        · simp only [Value.slice.injEq] at h1; exact ⟨g, h1.1⟩
      obtain ⟨-, cur, hBg, hhg, -, -, hcs, hcx⟩ := HO.out.cells
      have hcell := hcx i _ hxs 2 (by decide)
      have hx2 : ∃ u, (wrtA l[i])[2]? = some u := ⟨_, Array.getElem?_eq_getElem (by simp)⟩
      obtain ⟨u, hu⟩ := hx2
      rw [hu] at hcell
      have hcw : wr.cell? ⟨g, i * 35 + 2, none⟩ = some u := by simp [World.cell?, hhg, hcell]
      have hfz : wr.frozen? ⟨g, i * 35 + 2, none⟩ = false := by simp [World.frozen?, hhg]
      have hset := HO.out.setCell (v := .int .u8 (b.toNat : Int)) hxs (show 2 < 35 by decide)
      rw [on_succ b l i hli] at hset
      have HSET := Lib.hid hset
      have HBg := Lib.hid hBg
      clear hxs hcs hcx hcell hhg hset hu HO
      go_wp2_with fail
      go_roundw
      case rel => exact ⟨i + 1, by omega, by go_num, Lib.hid (HB.out.setCell HBg.out _), HSET⟩
      case measure => simp [intOf]; omega
    · have hie : i = l.length := by omega
      subst hie
      have hgn : ¬ (l.length : Int) < l.length := by omega
      have ho := HO.out
      rw [List.take_length, List.drop_length, List.append_nil] at ho
      have HO2 := Lib.hid ho
      clear ho HO
      go_wp2_with fail
      go_ret
      exact ⟨_, rfl, HB.out, by simpa using HO2.out⟩
end Go.Proofs.Ytbflpnkodpeggaa

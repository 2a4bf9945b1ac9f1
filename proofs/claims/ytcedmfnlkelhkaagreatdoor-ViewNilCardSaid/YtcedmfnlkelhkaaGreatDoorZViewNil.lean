/- Layer 19's law ViewNil, for every input: without a reader, or of a store that has nothing, there is no view, and a view that is nil tells nothing; the Go function returns true, and each argument reads behind the call as it read before. Condition: the tables that the row lists (tied to the program's text by the card); the proof does not use what they hold. -/
import Derived.Test.YtcedmfnlkelhkaaGreatDoorQck
import Derived.Test.YtcedmfnlkelhkaaGreatDoorShelf
import Derived.Test.YtcedmfnlkelhkaaGreatDoorShelfG
import Derived.Shelf.SlSortCmp.NoneTotal
import Derived.Handy
import Derived.Test.YtcedmfnlkelhkaaGreatDoorQcq
import Derived.Test.YtcedmfnlkelhkaaGreatDoorQcj
import Derived.Test.YtcedmfnlkelhkaaGreatDoorQbb
import Derived.Deep.CutBlock
import Derived.Deep.Cut
import Derived.Test.YtcedmfnlkelhkaaGreatDoorQai
import Derived.Test.YtcedmfnlkelhkaaGreatDoorCards
import Derived.Test.YtcedmfnlkelhkaaGreatDoorTie
import Derived.ProofKit
import Derived.LaidMore
import Derived.Lay
import Derived.OpenShut
import Derived.ShutString
namespace Go.Proofs.YtcedmfnlkelhkaaGreatDoor
set_option maxRecDepth 100000
open Go.RowKit Go.Shelf
attribute [local go_sem] Oper.semAt_some

theorem nlinks_gives (w : World) : Gives Tryz.prog 28 #[.pointer none] w (.slice none 0 0) := by
 unfold Gives
 go_enter Tryz.func28, Tryz.ntmps28
 go_wp2_with fail
 go_ret
 exact ⟨rfl, blw⟩
theorem nopen_gives (w : World) : Gives Tryz.prog 29 #[.pointer none] w (.bool false) := by
 unfold Gives
 go_enter Tryz.func29, Tryz.ntmps29
 go_wp2_with fail
 go_ret
 exact ⟨rfl, blw⟩
set_option maxHeartbeats 8000000 in
theorem nseen1_stops (n : Nat) (hn : 4 ≤ n) (bx n₀ : Nat) (w : World) (hbx : bx + 3 < w.heap.size) (c0 : w.cell? ⟨bx, 0, none⟩ = some (.pointer none)) :
  SeqStopsB Fence.wide n Tryz.prog 90 #[.pointer (some ⟨bx, 0, none⟩), .pointer (some ⟨bx + 1, 0, none⟩), .pointer (some ⟨bx + 2, 0, none⟩), .pointer (some ⟨bx + 3, 0, none⟩)] encS (KeepX n₀ bx)
   (fun ys => ys = []) (fun pre => pre <+: []) 0 w := by
 intro l J Jx W hW hJ hJx hY h0
 have k0 : W.cell? ⟨bx, 0, none⟩ = some (.pointer none) := (hW.cell (p := ⟨bx, 0, none⟩) (by simp; omega)).trans c0
 have hbW : bx < W.heap.size := by have := hW.size; omega
 have HJ := Lib.hid hJ
 clear c0 hY hJ hJx hW
 refine callsIn_of_wp Tryz.func90 rfl trivial ?_ rfl
 simp only [Tryz.ntmps90, List.size_toArray, List.length_cons, List.length_nil, Nat.reduceAdd, Nat.reduceSub, Array.replicate_succ, Array.replicate_zero, List.push_toArray, List.append_toArray, List.nil_append, List.cons_append]
 gi_wp2_with fail
 refine ⟨trivial, fun _ => by omega, ?_⟩
 refine Gives.useIn (nlinks_gives W) ?_
 intro xs d
 have hJ1 := Lib.hid (HJ.out [] W (W.grow xs d) none h0 (grown_belowV blw) (fun r e => by cases e))
 clear h0
 gi_wp2
 gi_loopw [15] (fun s15 wr => s15 = .int .i64 0 ∧ Hid (J [] wr)) (fun _ _ => 0)
 case atStart => exact ⟨rfl, hJ1⟩
 case round =>
  obtain ⟨rfl, HJr⟩ := hrel
  gi_wp2
  go_end0
  first
   | exact ⟨⟨_, rfl⟩, .inl ⟨_, rfl, HJr.out⟩⟩
   | exact ⟨⟨_, rfl⟩, .inl HJr.out⟩
theorem nsource_gives (nm : List UInt8) (hn : nm.length = 12) (w : World) : Gives Tryz.prog 23 #[.pointer none, .agg (row8 nm)] w (.tuple #[.agg (recA Rec.zero), .int .i64 0, .bool false]) :=
 source_core none [] 0 nm hn w fun N W1 _ _ hz c0 _ _ _ => nseen1_stops 8 (by decide) (N + 4) N W1 hz c0
theorem ntrans_gives (nm tg : List UInt8) (hn : nm.length = 12) (ht : tg.length = 10) (w : World) : Gives Tryz.prog 26 #[.pointer none, .agg (row8 nm), .agg (row8 tg)] w (.tuple #[.agg (recA Rec.zero), .int .i64 0, .bool false]) :=
 trans_core none [] 0 nm tg hn ht w fun N W1 _ _ hz c0 _ _ _ => nseen1_stops 8 (by decide) (N + 1 + 4) N W1 hz c0
theorem nstate_gives (nm tg : List UInt8) (hn : nm.length = 12) (ht : tg.length = 10) (w : World) : Gives Tryz.prog 27 #[.pointer none, .agg (row8 nm), .agg (row8 tg)] w (.tuple #[.int .i64 0, .agg (recA Rec.zero), .bool false]) := by
 have HSO := Lib.hid (nsource_gives nm hn)
 have hnl : (row8 nm).size = 12 := by simp [hn]
 have htl : (row8 tg).size = 10 := by simp [ht]
 unfold Gives
 go_enter Tryz.func27, Tryz.ntmps27
 go_wp2_with fail
 refine Gives.use (HSO.out _) ?_
 intro xs d
 go_wp2_with fail
 exact bodyPost_ret (v := .tuple #[.int .i64 0, .agg (recA Rec.zero), .bool false]) (results_three Tryz.results27 (by simp [ResIs]) (ResIs.row rfl agg_rec (by simp [go_sem])) (by simp [ResIs])) rfl ⟨rfl, blw⟩
/-- no names in order -/
theorem nordered_gives (w : World) : Gives Tryz.prog 89 #[.slice none 0 0] w (.slice none 0 0) := by
 have hmf : ∀ (fn : Fn) (first cap : Array Value) (w : World), (Instr.makeFunc fn first cap).run Tryz.prog w = .ok (.func fn first cap) w := fun _ _ _ _ => rfl
 have HS := Lib.hid (fun W => AnyF.slices_SortFunc_none Tryz.sortNm none 0 (.func (.func 125) #[] #[]) W)
 unfold Gives
 go_enter Tryz.func89, Tryz.ntmps89
 go_wp2_with fail
 refine (HS.out _).mono ?_
 rintro e w1 ⟨rfl, rfl⟩
 go_wp2_with fail
 go_ret
 exact ⟨rfl, blw⟩
theorem nsort_gives (w : World) : Gives Tryz.prog 58 #[.slice none 0 0] w (.slice none 0 0) := by
 have HO := Lib.hid nordered_gives
 unfold Gives
 go_enter Tryz.func58, Tryz.ntmps58
 go_wp2_with fail
 go_loopw [3, 8] (fun s3 s wr => s3 = .slice none 0 0 ∧ s = .int .i64 0 ∧ ∃ xs d, wr = w.grow xs d) (fun _ _ _ => 0)
 case atStart => exact ⟨rfl, rfl, #[], _, World.grow_nil.symm⟩
 case round =>
  obtain ⟨rfl, rfl, xs, d, rfl⟩ := hrel
  go_wp2_with fail
  refine Gives.use (HO.out _) ?_
  intro ys e
  go_wp2_with fail
  go_ret
  exact ⟨rfl, blw⟩
@[go_sem ↓ high] theorem run_makeMapN (w : World) : (Instr.makeMap 99 none).run Tryz.prog w = .ok (.map (some w.heap.size)) (w.alloc (.map #[] 0)) := by kernel_rfl
set_option maxHeartbeats 4000000 in
theorem nnames_gives (ms : Int) (w : World) : Gives Tryz.prog 22 #[.pointer none, .int .i64 ms] w (.tuple #[.slice none 0 0, .bool false]) := by
 have HL := Lib.hid nlinks_gives
 have HS := Lib.hid nsort_gives
 have hm : min (max ms 0) 0 = (0 : Int) := by omega
 unfold Gives
 go_enter Tryz.func22, Tryz.ntmps22
 go_wp2_with fail
 refine Gives.use (HL.out _) ?_
 intro xs d
 go_wp2_with fail
 go_loopw [7, 17] (fun s7 s wr => s7 = .slice none 0 0 ∧ s = .int .i64 0 ∧ ∃ xs d, wr = (w.alloc (.map #[] 0)).grow xs d) (fun _ _ _ => 0)
 case atStart => exact ⟨rfl, rfl, _, _, rfl⟩
 case round =>
  obtain ⟨rfl, rfl, xs, d, rfl⟩ := hrel
  go_wp2_with fail
  refine Gives.use (HS.out _) ?_
  intro ys e
  go_wp2_with fail
  exact bodyPost_ret (v := .tuple #[.slice none 0 0, .bool false]) (by simp [results, Tryz.results22, go_sem]) rfl ⟨rfl, blw⟩
end Go.Proofs.YtcedmfnlkelhkaaGreatDoor
namespace Go.Proofs.YtcedmfnlkelhkaaGreatDoor
set_option maxRecDepth 100000
open Go.RowKit

@[go_sem ↓ high] theorem bSn1_eq (f : Nat × Operand → Nat × Value) (p : Nat × Operand) : Instr.build 96 (Array.map f #[p]) = bld1 96 (f p) := by simp [bld1]
@[go_sem] theorem bSn1_run (p : Option Addr) (w : World) : (bld1 96 (0, .pointer p)).run Tryz.prog w = .ok (.agg #[.pointer p, .int .u64 0]) w := by
 unfold bld1
 kernel_rfl
@[go_sem ↓ high] theorem bKy1D_eq (f : Nat × Operand → Nat × Value) (p : Nat × Operand) : Instr.build 114 (Array.map f #[p]) = bld1 114 (f p) := by simp [bld1]
@[go_sem] theorem bKy1D_run (w : World) : (bld1 114 (0, .int .i64 1)).run Tryz.prog w = .ok (.agg (rkey (keyK 1 0 0).val)) w := by
 unfold bld1
 kernel_rfl
theorem viewOf_nil (pj br : Int) (w : World) : Gives Tryz.prog 19 #[.nilIface, .int .i64 pj, .int .i64 br] w (.tuple #[.pointer none, .int .i64 1]) := by
 unfold Gives
 go_enter Tryz.func19, Tryz.ntmps19
 go_wp2_with fail
 exact bodyPost_ret (v := .tuple #[.pointer none, .int .i64 1]) (by simp [results, Tryz.results19, go_sem]) rfl ⟨rfl, blw⟩
def outE (pj br : Int) : Int := if pj < 0 ∨ 4 ≤ pj ∨ br < 0 ∨ 4 ≤ br then 5 else 7
theorem viewOf_empty {B : Nat} {w : World} {s : Nat} (hS : StoreAt w B s (emptyG B)) (pj br : Int) : Calls Tryz.prog 19 #[.iface 96 (.agg #[.pointer (some ⟨s, 0, none⟩), .int .u64 0]), .int .i64 pj, .int .i64 br] w fun e w' => e = .returned (.tuple #[.pointer none, .int .i64 (outE pj br)]) ∧ Below w.heap.size w w' := by
 by_cases hr : pj < 0 ∨ 4 ≤ pj ∨ br < 0 ∨ 4 ≤ br
 ·rw [show outE pj br = 5 by unfold outE; rw [if_pos hr]]
  exact Dn.viewOf_range s 0 pj br hr w
 ·rw [show outE pj br = 7 by unfold outE; rw [if_neg hr]]
  have hp : pj.toNat < 4 ∧ (pj.toNat : Int) = pj := by omega
  have hb : br.toNat < 4 ∧ (br.toNat : Int) = br := by omega
  have ep : (UInt8.ofNat pj.toNat).toNat = pj.toNat := by rw [UInt8.toNat_ofNat']; omega
  have eb : (UInt8.ofNat br.toNat).toNat = br.toNat := by rw [UInt8.toNat_ofNat']; omega
  have := Dn.viewOf_none hS (fun k => Nat.zero_le _) 0 (UInt8.ofNat pj.toNat) (UInt8.ofNat br.toNat) (by omega) (by omega) rfl
  rw [ep, eb, hp.2, hb.2] at this
  exact this
set_option maxHeartbeats 20000000 in
theorem viewNil_walk (pj br ms : Int) (nm tg : List UInt8) (hn : nm.length = 12) (ht : tg.length = 10) (w : World) :
  Gives Tryz.prog 6 #[.int .i64 pj, .int .i64 br, .agg (row8 nm), .agg (row8 tg), .int .i64 ms] w (.bool true) := by
 have HO := Lib.hid (viewOf_nil pj br)
 have hnl : (row8 nm).size = 12 := by simp [hn]
 have htl : (row8 tg).size = 10 := by simp [ht]
 have HS1 := Lib.hid (nsource_gives nm hn)
 have HS2 := Lib.hid (ntrans_gives nm tg hn ht)
 have HS3 := Lib.hid (nstate_gives nm tg hn ht)
 have HNM := Lib.hid (nnames_gives ms)
 have HNL := Lib.hid nlinks_gives
 have HNO := Lib.hid nopen_gives
 have HKN := Lib.hid known19_gives
 have hkr : keyRight (keyK 1 0 0).val = true := by decide
 have hrr := fun V => refRight_gives (keyK 1 0 0).val (keyK 1 0 0).property V
 rw [hkr] at hrr
 have HRR := Lib.hid hrr
 clear hkr hrr hn ht
 unfold Gives
 go_enter Tryz.func6, Tryz.ntmps6
 go_wp2_with fail
 refine Gives.use (HO.out _) ?_
 intro xs d
 go_upto_region 2 with fail
 refine wp_name ?_
 intro W0 hW0
 obtain ⟨n, hn⟩ : ∃ n, n = w.heap.size := ⟨_, rfl⟩
 have hb0 : Below w.heap.size w W0 := by rw [hW0]; exact blw
 have g0 : W0.heap[n]? = some (.cells (row8 nm) 56) := by
  rw [hW0, hn]
  refine (World.grow_heap _ _ _ (by simp; omega)).trans ?_
  rw [heap_al, if_neg (by simp), heap_al, if_pos rfl]
 have g1 : W0.heap[n + 1]? = some (.cells (row8 tg) 60) := by
  rw [hW0, hn]
  refine (World.grow_heap _ _ _ (by simp)).trans ?_
  rw [heap_al, if_pos (by simp)]
 simp only [← hn]
 have H0 := Lib.hid (And.intro hb0 (And.intro g0 g1))
 clear hW0 hb0 g0 g1 hn HO
 go_wp2_with fail
 refine (storeNew_calls _).mono ?_
 rintro e w1 ⟨rfl, hb1, hS⟩
 have HV := Lib.hid (viewOf_empty hS pj br)
 have HB1 := Lib.hid hb1
 clear hS hb1
 go_wp2_with fail
 refine HV.out.mono ?_
 rintro e w2 ⟨rfl, hb2⟩
 go_upto_region 3 with fail
 refine wp_name ?_
 intro X hX
 have hbX : Below W0.heap.size W0 X := by rw [hX]; exact HB1.out.trans (hb2.mono HB1.out.size)
 have k0 : X.cut? n 0 12 = some (row8 nm) := cut_heap ((hbX.block _ (Array.getElem?_eq_some_iff.1 H0.out.2.1).1).trans H0.out.2.1) hnl
 have k1 : X.cut? (n + 1) 0 10 = some (row8 tg) := cut_heap ((hbX.block _ (Array.getElem?_eq_some_iff.1 H0.out.2.2).1).trans H0.out.2.2) htl
 have l0 : n < X.heap.size := by have := (Array.getElem?_eq_some_iff.1 H0.out.2.1).1; have := hbX.size; omega
 have l1 : n + 1 < X.heap.size := by have := (Array.getElem?_eq_some_iff.1 H0.out.2.2).1; have := hbX.size; omega
 have HX := Lib.hid (H0.out.1.trans (hbX.mono H0.out.1.size))
 obtain ⟨er, her⟩ : ∃ er, er = outE pj br := ⟨_, rfl⟩
 rw [← her]
 obtain ⟨ob, hob⟩ : ∃ ob : Bool, ob = decide (pj < 0 ∨ 4 ≤ pj ∨ br < 0 ∨ 4 ≤ br) := ⟨_, rfl⟩
 have HE := Lib.hid hob
 have HER := Lib.hid (show er = if ob = true then 5 else 7 by rw [her, hob]; unfold outE; simp only [decide_eq_true_eq])
 clear hX hbX hb2 her hob HV HB1 H0
 go_upto_region 4 with fail
 go_cut [57] (fun s57 wx => s57 = .bool ob ∧ wx = X)
 case first =>
  have he := HE.out
  clear HE HER HS1 HS2 HS3 HNM HNL HNO HKN HRR k0 k1 l0 l1 HX
  by_cases h1 : pj < 0
  ·have e1 : (pj < 0) = True := eq_true h1
   rw [decide_eq_true (.inl h1)] at he
   subst he
   clear h1
   go_wp2_with fail
   go_meet
   exact ⟨rfl, rfl⟩
  ·have e1 : (pj < 0) = False := eq_false h1
   by_cases h2 : 3 < pj
   ·have e2 : (3 < pj) = True := eq_true h2
    rw [decide_eq_true (.inr (.inl (by omega)))] at he
    subst he
    clear h1 h2
    go_wp2_with fail
    go_meet
    exact ⟨rfl, rfl⟩
   ·have e2 : (3 < pj) = False := eq_false h2
    by_cases h3 : br < 0
    ·have e3 : (br < 0) = True := eq_true h3
     rw [decide_eq_true (.inr (.inr (.inl h3)))] at he
     subst he
     clear h1 h2 h3
     go_wp2_with fail
     go_meet
     exact ⟨rfl, rfl⟩
    ·have e3 : (br < 0) = False := eq_false h3
     by_cases h4 : 3 < br
     ·have e4 : (3 < br) = True := eq_true h4
      rw [decide_eq_true (.inr (.inr (.inr (by omega))))] at he
      subst he
      clear h1 h2 h3 h4
      go_wp2_with fail
      go_meet
      exact ⟨rfl, rfl⟩
     ·have e4 : (3 < br) = False := eq_false h4
      rw [decide_eq_false (by omega)] at he
      subst he
      clear h1 h2 h3 h4
      go_wp2_with fail
      go_meet
      exact ⟨rfl, rfl⟩
 case rest =>
  obtain ⟨rfl, rfl⟩ := hcut
  generalize wc = X at *
  clear HE
  go_upto_if 57 with fail
  go_cut [15] (fun s15 wx => s15 = .int .i64 er ∧ wx = X)
  case first =>
   have he := HER.out
   clear HER HS1 HS2 HS3 HNM HNL HNO HKN HRR k0 k1 l0 l1 HX
   cases ob with
   | true =>
    rw [if_pos rfl] at he
    subst he
    go_wp2_with fail
    go_meet
    exact ⟨rfl, rfl⟩
   | false =>
    rw [if_neg (by decide)] at he
    subst he
    go_wp2_with fail
    go_meet
    exact ⟨rfl, rfl⟩
  case rest =>
  obtain ⟨rfl, rfl⟩ := hcut
  generalize wc = X at *
  clear HER
  go_wp2_with fail
  refine Gives.use (HS1.out _) ?_
  intro xs1 d1
  go_upto_region 8 with fail
  refine wp_name ?_
  intro Y1 hY1
  obtain ⟨b1, hb1⟩ : ∃ b, b = X.heap.size + xs1.size := ⟨_, rfl⟩
  have hbY1 : Below X.heap.size X Y1 := by rw [hY1]; exact blw
  have z1 : Y1.heap[b1]? = some (.cells (recA Rec.zero) 101) := by rw [hY1, hb1]; exact (heap_al _ _ _).trans (if_pos (by simp))
  simp only [← hb1]
  have k0 := (cut_of_heap (hbY1.block _ l0) _ _).trans k0
  have k1 := (cut_of_heap (hbY1.block _ l1) _ _).trans k1
  have l0 : n < Y1.heap.size := by have := hbY1.size; omega
  have l1 : n + 1 < Y1.heap.size := by have := hbY1.size; omega
  have HX := Lib.hid (HX.out.trans (hbY1.mono HX.out.size))
  clear hY1 hb1 hbY1
  go_wp2_with fail
  refine Gives.use (HS2.out _) ?_
  intro xs2 d2
  go_upto_region 9 with fail
  refine wp_name ?_
  intro Y2 hY2
  obtain ⟨b2, hb2⟩ : ∃ b, b = Y1.heap.size + xs2.size := ⟨_, rfl⟩
  have hbY2 : Below Y1.heap.size Y1 Y2 := by rw [hY2]; exact blw
  have z2 : Y2.heap[b2]? = some (.cells (recA Rec.zero) 101) := by rw [hY2, hb2]; exact (heap_al _ _ _).trans (if_pos (by simp))
  simp only [← hb2]
  have k0 := (cut_of_heap (hbY2.block _ l0) _ _).trans k0
  have k1 := (cut_of_heap (hbY2.block _ l1) _ _).trans k1
  have l0 : n < Y2.heap.size := by have := hbY2.size; omega
  have l1 : n + 1 < Y2.heap.size := by have := hbY2.size; omega
  have HX := Lib.hid (HX.out.trans (hbY2.mono HX.out.size))
  have z1 := (hbY2.block _ (Array.getElem?_eq_some_iff.1 z1).1).trans z1
  clear hY2 hb2 hbY2
  go_wp2_with fail
  refine Gives.use (HS3.out _) ?_
  intro xs3 d3
  go_upto_region 10 with fail
  refine wp_name ?_
  intro Y3 hY3
  obtain ⟨b3, hb3⟩ : ∃ b, b = Y2.heap.size + xs3.size := ⟨_, rfl⟩
  have hbY3 : Below Y2.heap.size Y2 Y3 := by rw [hY3]; exact blw
  have z3 : Y3.heap[b3]? = some (.cells (recA Rec.zero) 101) := by rw [hY3, hb3]; exact (heap_al _ _ _).trans (if_pos (by simp))
  simp only [← hb3]
  have k0 := (cut_of_heap (hbY3.block _ l0) _ _).trans k0
  have k1 := (cut_of_heap (hbY3.block _ l1) _ _).trans k1
  have l0 : n < Y3.heap.size := by have := hbY3.size; omega
  have l1 : n + 1 < Y3.heap.size := by have := hbY3.size; omega
  have HX := Lib.hid (HX.out.trans (hbY3.mono HX.out.size))
  have z1 := (hbY3.block _ (Array.getElem?_eq_some_iff.1 z1).1).trans z1
  have z2 := (hbY3.block _ (Array.getElem?_eq_some_iff.1 z2).1).trans z2
  clear hY3 hb3 hbY3
  go_wp2_with fail
  refine Gives.use (HNM.out _) ?_
  intro xs4 d4
  go_upto_region 12 with fail
  refine wp_name ?_
  intro Y4 hY4
  obtain ⟨b4, hb4⟩ : ∃ b, b = Y3.heap.size + xs4.size := ⟨_, rfl⟩
  have hbY4 : Below Y3.heap.size Y3 Y4 := by rw [hY4]; exact blw
  have z4 : Y4.heap[b4]? = some (.cells (recA Rec.zero) 101) := by rw [hY4, hb4]; exact (heap_al _ _ _).trans (if_pos (by simp))
  simp only [← hb4]
  have z1 := (hbY4.block _ (Array.getElem?_eq_some_iff.1 z1).1).trans z1
  have z2 := (hbY4.block _ (Array.getElem?_eq_some_iff.1 z2).1).trans z2
  have z3 := (hbY4.block _ (Array.getElem?_eq_some_iff.1 z3).1).trans z3
  have HX := Lib.hid (HX.out.trans (hbY4.mono HX.out.size))
  have q1 : Y4.cut? b1 0 9 = some (recA Rec.zero) := cut_heap z1 (by simp)
  have q2 : Y4.cut? b2 0 9 = some (recA Rec.zero) := cut_heap z2 (by simp)
  have q3 : Y4.cut? b3 0 9 = some (recA Rec.zero) := cut_heap z3 (by simp)
  have q4 : Y4.cut? b4 0 9 = some (recA Rec.zero) := cut_heap z4 (by simp)
  have m1 := (Array.getElem?_eq_some_iff.1 z1).1
  have m2 := (Array.getElem?_eq_some_iff.1 z2).1
  have m3 := (Array.getElem?_eq_some_iff.1 z3).1
  have m4 := (Array.getElem?_eq_some_iff.1 z4).1
  clear hY4 hb4 hbY4 z1 z2 z3 z4 k0 k1 l0 l1 HS1 HS2 HS3 HNM
  go_wp2_with fail
  refine Gives.use (HKN.out _) ?_
  intro ys1 e1
  go_wp2_with fail
  refine Gives.use (HNL.out _) ?_
  intro ys2 e2
  go_wp2_with fail
  refine Gives.use (HNO.out _) ?_
  intro ys3 e3
  go_wp2_with fail
  refine Gives.use (HRR.out _) ?_
  intro ys4 e4
  go_wp2_with fail
  go_ret
  exact ⟨congrArg Ending.returned (by simp), HX.out.trans (Below.mono (show Below Y4.heap.size Y4 _ from blw) HX.out.size)⟩
end Go.Proofs.YtcedmfnlkelhkaaGreatDoor
namespace Go.Proofs.YtcedmfnlkelhkaaGreatDoor
set_option maxRecDepth 100000
open Go.RowKit Go.ChangeShapes Go.WideShapes

theorem arr_reads {P : Program} {w : World} {t : TypeId} {v : Value} {n : Nat} {el : TypeId} (h : Reads P w t v) (ht : P.underlying t = some (.array n el)) : ∃ cs, v = .agg cs := by
 obtain ⟨⟨base, hv⟩, _⟩ := h
 unfold Value.okWide at hv
 rw [ht] at hv
 obtain ⟨cs, h, _⟩ := hv
 exact ⟨cs, h⟩
theorem name_reads {w : World} {v : Value} (h : Reads Tryz.prog w 56 v) : ∃ n : List UInt8, n.length = 12 ∧ v = .agg (row8 n) := by
 have hf := h.flat 5 (ks := List.replicate 12 (CK.i .u8)) (by kernel_rfl)
 obtain ⟨cs, rfl⟩ := arr_reads h Tryz.underlying56
 obtain ⟨k, hl, hk⟩ := FitsAll.bytes hf
 exact ⟨k, hl, congrArg Value.agg (Array.ext' hk)⟩
theorem tag_reads {w : World} {v : Value} (h : Reads Tryz.prog w 60 v) : ∃ n : List UInt8, n.length = 10 ∧ v = .agg (row8 n) := by
 have hf := h.flat 6 (ks := List.replicate 10 (CK.i .u8)) (by kernel_rfl)
 obtain ⟨cs, rfl⟩ := h.agg Tryz.underlying60
 obtain ⟨k, hl, hk⟩ := FitsAll.bytes hf
 exact ⟨k, hl, congrArg Value.agg (Array.ext' hk)⟩
theorem viewNil_law (w : World) (v0 v1 v2 v3 v4 : Value) (h0 : Reads Tryz.prog w 3 v0) (h1 : Reads Tryz.prog w 3 v1) (h2 : Reads Tryz.prog w 56 v2) (h3 : Reads Tryz.prog w 60 v3) (h4 : Reads Tryz.prog w 3 v4) :
  Gives Tryz.prog 6 #[v0, v1, v2, v3, v4] w (.bool true) := by
 obtain ⟨a, rfl, _⟩ := h0.int Tryz.underlying3
 obtain ⟨b, rfl, _⟩ := h1.int Tryz.underlying3
 obtain ⟨n, hn, rfl⟩ := name_reads h2
 obtain ⟨t, ht, rfl⟩ := tag_reads h3
 obtain ⟨m, rfl, _⟩ := h4.int Tryz.underlying3
 exact viewNil_walk a b m n t hn ht w

namespace viewNil
open Go.ChangeShapes Go.WideShapes Go.ChangeAt Go.RowKit
open Go.ChangeMaps (open_string shut_string)
theorem own : ownKnob Tryz.prog.godebug = none := by kernel_rfl
theorem laidOut : laidOutB Tryz.prog = true := by kernel_rfl
/-- a world in which the listed variables hold what the row says -/
noncomputable def laidW (os : Os) : World := World.laidAll Tryz.prog os Rows.viewNilRow.laid
set_option maxRecDepth 100000 in
theorem door_met (os : Os) (args : Array Value) : laidMetH Tryz.prog Rows.viewNilRow.laid ((laidW os).forCall (fun _ _ => 0) ⟨#[], args, []⟩).memory := by
 rw [MakeChecks.laidMetH_plain _ _ _ (by kernel_rfl)]
 exact laidMet_laidAll args (by kernel_rfl) (by kernel_rfl)
set_option maxRecDepth 100000 in
theorem lifted (os : Os) (started : os.Started) (H : Type) (enc : TypeId × Value → H) :
  ReturnsInHanded {} Tryz.checked os 6 .any (fun w args => (Rows.viewNilSpec.pre enc Tryz.prog Tryz.f6 Rows.viewNilRow.domain false w args ∧ laidMetH Tryz.prog Rows.viewNilRow.laid w) ∧ sizedMet enc Tryz.prog Tryz.f6 (OpenSpec.ofChange Rows.viewNilSpec) false w args) (Rows.viewNilSpec.post enc Tryz.prog Tryz.f6 false true false false) := by
 refine returnsInHanded_of_change_and (C := Tryz.checked) (X := fun w _ => laidMetH Tryz.prog Rows.viewNilRow.laid w) (fun _ _ _ hh h => h.of_heap hh) own started (by kernel_rfl) Tryz.func6
  (ChangeSpec.witness_shaped (enc := enc) (C := Tryz.checked) (os := os) (X := fun w _ => laidMetH Tryz.prog Rows.viewNilRow.laid w) false (laidW os) #[.int .i64 0, .int .i64 0, .agg #[.int .u8 0, .int .u8 0, .int .u8 0, .int .u8 0, .int .u8 0, .int .u8 0, .int .u8 0, .int .u8 0, .int .u8 0, .int .u8 0, .int .u8 0, .int .u8 0], .agg #[.int .u8 0, .int .u8 0, .int .u8 0, .int .u8 0, .int .u8 0, .int .u8 0, .int .u8 0, .int .u8 0, .int .u8 0, .int .u8 0], .int .i64 0] 8 (World.laidAll_os _ _ _) (World.shaped_of_ZipB (by kernel_rfl) (by kernel_rfl)) (by kernel_rfl) (by kernel_rfl) (by kernel_rfl) (door_met os _)) ?_
 intro W base args ds gs before hval0 hW _ _ _ _
 have hval : ∀ (j : Nat) t v, Tryz.f6.params[j]? = some t → args[j]? = some v → Value.okWide Tryz.prog W .any base t v := hval0
 have hW' := hW
 obtain ⟨p, q, hA0, hV, rfl, hfz, hnd⟩ := hW
 have hA : DataW.TrodAll enc Tryz.prog W 0 (fun _ => true) true Tryz.f6.params.toList args.toList ds p := hA0
 rw [Tryz.params6] at hA hval
 obtain ⟨v0, vs0, d0, ds0, p0, q0, hargs, rfl, rfl, h0, r0⟩ := trodAll_cons hA
 obtain ⟨v1, vs1, d1, ds1, p1, q1, rfl, rfl, rfl, h1, r1⟩ := trodAll_cons r0
 obtain ⟨v2, vs2, d2, ds2, p2, q2, rfl, rfl, rfl, h2, r2⟩ := trodAll_cons r1
 obtain ⟨v3, vs3, d3, ds3, p3, q3, rfl, rfl, rfl, h3, r3⟩ := trodAll_cons r2
 obtain ⟨v4, vs4, d4, ds4, p4, q4, rfl, rfl, rfl, h4, r4⟩ := trodAll_cons r3
 obtain ⟨rfl, rfl, rfl⟩ := trodAll_nil r4
 obtain rfl : args = #[v0, v1, v2, v3, v4] := by cases args; simp_all
 obtain ⟨rfl, rfl⟩ := trodVars_none hV
 have lt0 : ∀ x ∈ p0, x.block < W.heap.size := by obtain ⟨m, hm⟩ := h0; exact DataW.trod_lt m _ _ _ hm
 have lt1 : ∀ x ∈ p1, x.block < W.heap.size := by obtain ⟨m, hm⟩ := h1; exact DataW.trod_lt m _ _ _ hm
 have lt2 : ∀ x ∈ p2, x.block < W.heap.size := by obtain ⟨m, hm⟩ := h2; exact DataW.trod_lt m _ _ _ hm
 have lt3 : ∀ x ∈ p3, x.block < W.heap.size := by obtain ⟨m, hm⟩ := h3; exact DataW.trod_lt m _ _ _ hm
 have lt4 : ∀ x ∈ p4, x.block < W.heap.size := by obtain ⟨m, hm⟩ := h4; exact DataW.trod_lt m _ _ _ hm
 clear hA0 hval0
 refine Calls.mono (viewNil_law W v0 v1 v2 v3 v4 ⟨⟨_, hval 0 3 v0 rfl rfl⟩, H, enc, _, _, h0⟩ ⟨⟨_, hval 1 3 v1 rfl rfl⟩, H, enc, _, _, h1⟩ ⟨⟨_, hval 2 56 v2 rfl rfl⟩, H, enc, _, _, h2⟩ ⟨⟨_, hval 3 60 v3 rfl rfl⟩, H, enc, _, _, h3⟩ ⟨⟨_, hval 4 3 v4 rfl rfl⟩, H, enc, _, _, h4⟩) fun e W' ⟨he, bel⟩ => ?_
 subst he
 exact ⟨_, rfl, _, _, _, [], _, [], hW', trodAll_mk1 (shut_bool Tryz.underlying4 _), (trodAll_cons_mk (Below.trod laidOut (by kernel_rfl) (of_decide_eq_true (by kernel_rfl)) h0 bel lt0) (trodAll_cons_mk (Below.trod laidOut (by kernel_rfl) (of_decide_eq_true (by kernel_rfl)) h1 bel lt1) (trodAll_cons_mk (Below.trod laidOut (by kernel_rfl) (of_decide_eq_true (by kernel_rfl)) h2 bel lt2) (trodAll_cons_mk (Below.trod laidOut (by kernel_rfl) (of_decide_eq_true (by kernel_rfl)) h3 bel lt3) (trodAll_cons_mk (Below.trod laidOut (by kernel_rfl) (of_decide_eq_true (by kernel_rfl)) h4 bel lt4) trodAll_mk0))))), rfl, bel.frame _, fun h => by cases h⟩
theorem fact0 : (Rows.viewNilRow.inPlace == Program.inPlace Tryz.pinned.checked.prog 6) = true := by kernel_rfl
theorem fact1 : (Rows.viewNilRow.unfollowed == Program.unfollowed Tryz.pinned.checked.prog 6) = true := by kernel_rfl
theorem fact2 : (Rows.viewNilRow.recurses == Program.recurses Tryz.pinned.checked.prog 6) = true := by kernel_rfl
theorem fact3 : (Rows.viewNilRow.named == Program.varsNamed Tryz.pinned.checked.prog 6) = true := by kernel_rfl
theorem closed : joinedFacts Tryz.pinned.checked.prog 6 Tryz.f6 Rows.viewNilSpec Rows.viewNilRow = true := by
 unfold joinedFacts
 rw [fact0, fact1, fact2, fact3]
 refine Eq.trans (b := true) ?_ rfl
 kernel_rfl
theorem said : Rows.ViewNilSaid :=
 OpenClaim.holds_of_wide 6 Tryz.f6 rfl rfl rfl rfl rfl rfl rfl ⟨rfl, rfl, rfl, rfl, rfl⟩ rfl rfl rfl rfl rfl (by kernel_rfl) Tryz.func6 closed
  (of_decide_eq_true (by kernel_rfl)) (by unfold Func.isWrapper; first | (rw [if_pos (by decide +kernel)]; kernel_rfl) | (rw [if_neg (by decide +kernel)]; exact ⟨rfl, rfl⟩))
  (fun os started H enc _ => lifted os started H enc)
/-- no parameter wants a stand-in; the program's own looks are off -/
theorem plain (f : FuncId) (fn : Func) (hf : Tryz.pinned.checked.prog.funcNamed "vulgate/vulgatelaw19.ViewNil" = some f) (hfn : Tryz.pinned.checked.prog.funcs[f]? = some fn) :
  false = Tryz.pinned.checked.prog.looks [] ∧ ∀ (j : Nat) t, fn.params[j]? = some t → Tryz.pinned.checked.prog.wantsStandIn t = false := by
 obtain rfl : f = 6 := Option.some.inj ((show Tryz.prog.funcNamed "vulgate/vulgatelaw19.ViewNil" = some 6 by kernel_rfl).symm.trans hf) |>.symm
 obtain rfl : fn = Tryz.f6 := (Option.some.inj (Tryz.func6.symm.trans hfn)).symm
 refine ⟨by kernel_rfl, fun j t ht => ?_⟩
 rw [Tryz.params6] at ht
 have hm : t ∈ [3, 3, 56, 60, 3] := by simpa using Array.mem_of_getElem? ht
 have hall : ([3, 3, 56, 60, 3].all fun u => !Tryz.prog.wantsStandIn u) = true := by kernel_rfl
 exact (show Tryz.prog.wantsStandIn t = false by simpa using List.all_eq_true.1 hall t hm)
theorem proved : Rows.ViewNilCardSaid :=
 Claim7.holds_tied_plain_at .later [] _ _ _ _ said (fun _ h => by cases h) (by kernel_rfl) (fun _ h => by cases h) viewNil_row_tie rfl ⟨rfl, rfl⟩ (by kernel_rfl) rfl plain (by kernel_rfl)
#print axioms proved
end viewNil
end Go.Proofs.YtcedmfnlkelhkaaGreatDoor

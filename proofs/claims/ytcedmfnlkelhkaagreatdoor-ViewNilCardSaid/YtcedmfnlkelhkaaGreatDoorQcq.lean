/- Layer 19's law: the chapter's example, the walk. -/
import Derived.Test.YtcedmfnlkelhkaaGreatDoorQck
import Derived.Test.YtcedmfnlkelhkaaGreatDoorQci
import Derived.Test.YtcedmfnlkelhkaaGreatDoorQcl
import Derived.Test.YtcedmfnlkelhkaaGreatDoorQcs
import Derived.Test.YtcedmfnlkelhkaaGreatDoorQcp
import Derived.BigRegion
import Derived.Handy
namespace Go.Proofs.YtcedmfnlkelhkaaGreatDoor
set_option maxRecDepth 100000
open Go.RowKit

@[go_sem] theorem bKeyS_run (b : UInt8) (w : World) : (bld3 132 (0, .int .u8 5) (2, .int .u8 (b.toNat : Int)) (3, .agg (row8 n19))).run Tryz.prog w = .ok (.agg (row8 (kS b).val)) w := by
 unfold bld3
 refine build_of (zero := .agg (row8 (zeros 25))) (places := #[(0, 1), (1, 1), (2, 1), (3, 12), (15, 10)]) (by intro w; exact (Tryz.zeroValue132 w).trans rfl) Tryz.underlying132 (by intro w; kernel_rfl) ?_
 kernel_rfl
set_option maxHeartbeats 2000000 in
theorem at19_gives (b : UInt8) (nb : Nat) (w : World) (hc : w.cut? nb 0 12 = some (row8 n19)) (hl : nb < w.heap.size) :
  Gives Tryz.prog 55 #[.int .u8 (b.toNat : Int), .pointer (some ⟨nb, 0, none⟩)] w (.agg (row8 (kS b).val)) := by
 have hkl := (kS b).len
 unfold Gives
 go_enter Tryz.func55, Tryz.ntmps55
 go_wp2_with fail
 exact bodyPost_ret (v := .agg (row8 (kS b).val)) (results_one Tryz.results55 (ResIs.row rfl agg_key (by simp [go_sem, hkl]))) rfl ⟨rfl, blw⟩
/-- the example's store, its boxes -/
structure K19At (w : World) (B s sb nb n : Nat) (G : SG) (f : K25 → List Ver) (live : Int) (last : UInt64) : Prop where
 store : StoreAt w B s G
 fine : Fine n G
 vs : versG G = f
 live : G.live = live
 last : G.last = last
 box : w.heap[sb]? = some (.cells #[.pointer (some ⟨s, 0, none⟩)] 89)
 name : w.heap[nb]? = some (.cells (row8 n19) 56)
 out : sb ∉ G.blocks s ∧ nb ∉ G.blocks s
section
variable {w w' : World} {B s sb nb n : Nat} {G : SG} {f : K25 → List Ver} {live : Int} {last : UInt64}
theorem K19At.up (h : K19At w B s sb nb n G f live last) (hb : Below w.heap.size w w') : K19At w' B s sb nb n G f live last :=
 ⟨h.store.keep hb, h.fine, h.vs, h.live, h.last, (hb.block _ (Array.getElem?_eq_some_iff.1 h.box).1).trans h.box, (hb.block _ (Array.getElem?_eq_some_iff.1 h.name).1).trans h.name, h.out⟩
theorem Evo.outK {G' : SG} (he : Evo s w G w' G') {b : Nat} (hb : b < w.heap.size) (hn : b ∉ G.blocks s) : w'.heap[b]? = w.heap[b]? ∧ b ∉ G'.blocks s :=
 ⟨he.1.same b hb hn, fun hm => by
  rcases he.2 b hm with h | h
  ·exact hn h
  ·omega⟩
set_option maxHeartbeats 8000000 in
theorem put19_calls (h : K19At w B s sb nb n G f live last) (hn : n ≤ 800) (k : K25) (r : Rec) (he : pubE f live [⟨k, false, r⟩] = 0) :
  Calls Tryz.prog 56 #[.agg (row8 k.val), .agg (recA r), .pointer (some ⟨sb, 0, none⟩)] w fun e w' => (∃ v, e = .returned v) ∧ ∃ G', K19At w' B s sb nb (n + 1) G' (applyL (last + 1) f [⟨k, false, r⟩]) (live + moreI f [⟨k, false, r⟩]) (last + 1) ∧ Evo s w G w' G' := by
 have hkl := k.len
 have hsl : sb < w.heap.size := (Array.getElem?_eq_some_iff.1 h.box).1
 have hnl : nb < w.heap.size := (Array.getElem?_eq_some_iff.1 h.name).1
 have c0 : w.cell? ⟨sb, 0, none⟩ = some (.pointer (some ⟨s, 0, none⟩)) := (cells_is h.box 0).1.trans rfl
 have hls := h.store.cells.2.2.2.2.2
 have HH := Lib.hid h
 have HE := Lib.hid he
 clear h he
 go_enter Tryz.func56, Tryz.ntmps56
 go_wp2_with fail
 have hb : Below w.heap.size w (((w.alloc (.cells (row8 k.val) 132)).alloc (.cells (recA r) 101)).alloc (.cells (wrtA ⟨k, false, r⟩) 134)) := blw
 refine (pub_all (n := n) (by omega) (HH.out.store.keep hb) HH.out.fine _ [⟨k, false, r⟩] ((sl_one (Nat.le_refl _) (by decide) (cut_heap ((heap_al _ _ _).trans (if_pos (by simp))) (wrtA_size _))).more (by simp)) (fun b o n c e hn hm => by
  have := HH.out.store.lt b hm
  simp only [Value.slice.injEq, Option.some.injEq, Addr.mk.injEq] at e
  have e1 := e.1.1
  try simp at e1
  omega)).mono ?_
 rintro e w2 ⟨rfl, G', g1, g2, g3, g4⟩
 have hev : Evo s w G w2 G' := (Evo.grow G hb).trans g2
 have h0 : pubE (versG G) G.live [⟨k, false, r⟩] = 0 := by rw [HH.out.vs, HH.out.live]; exact HE.out
 obtain ⟨-, -, q3, q4, q5⟩ := g4.yes h0
 have o1 := hev.outK hsl HH.out.out.1
 have o2 := hev.outK hnl HH.out.out.2
 have HF := Lib.hid (And.intro (show K19At w2 B s sb nb (n + 1) G' (applyL (last + 1) f [⟨k, false, r⟩]) (live + moreI f [⟨k, false, r⟩]) (last + 1) from
  ⟨g1, g3, by rw [q5, HH.out.last, HH.out.vs], by rw [q4, HH.out.live, HH.out.vs], by rw [q3, HH.out.last], o1.1.trans HH.out.box, o2.1.trans HH.out.name, ⟨o1.2, o2.2⟩⟩) hev)
 clear g1 g2 g3 g4 hev h0 q3 q4 q5 o1 o2 hb HH HE
 go_wp2_with fail
 exact bodyPost_end (v := .tuple #[]) (by simp [results, Tryz.results56, go_sem]) rfl ⟨⟨_, rfl⟩, G', HF.out.1, HF.out.2⟩
theorem VAt.evo {vb : Nat} {t : UInt64} {p : UInt8} {lv : Value} {P : List Lnk} {r : Rec} {G' : SG} (h : VAt w vb s t p lv P r) (hv : vb ∉ G.blocks s) (hl : Off (G.blocks s) lv) (he : Evo s w G w' G') : VAt w' vb s t p lv P r :=
 ⟨(he.1.same vb h.lt hv).trans h.cells, (h.sl.evo (s := s) hl he).1⟩
end
end Go.Proofs.YtcedmfnlkelhkaaGreatDoor
namespace Go.Proofs.YtcedmfnlkelhkaaGreatDoor
set_option maxRecDepth 100000
open Go.RowKit

@[go_sem ↓ high] theorem bName_eq (f : Nat × Operand → Nat × Value) (p : Nat × Operand) : Instr.build 56 (Array.map f #[p]) = bld1 56 (f p) := by simp [bld1]
@[go_sem] theorem bName_run (w : World) : (bld1 56 (0, .int .u8 97)).run Tryz.prog w = .ok (.agg (row8 n19)) w := by
 unfold bld1
 kernel_rfl
@[go_sem] theorem bKey4_run (w : World) : (bld1 132 (0, .int .u8 4)).run Tryz.prog w = .ok (.agg (row8 (keyK 4 0 0).val)) w := by
 unfold bld1
 kernel_rfl
@[go_sem ↓ high] theorem bKey2_eq (f : Nat × Operand → Nat × Value) (p q : Nat × Operand) : Instr.build 132 (Array.map f #[p, q]) = bld2 132 (f p) (f q) := by simp [bld2]
@[go_sem] theorem bKey42_run (w : World) : (bld2 132 (0, .int .u8 4) (2, .int .u8 1)).run Tryz.prog w = .ok (.agg (row8 (keyK 4 0 1).val)) w := by
 unfold bld2
 kernel_rfl
@[go_sem] theorem bRec4_run (w : World) : (bld1 101 (0, .int .u8 4)).run Tryz.prog w = .ok (.agg (recA (recB 0))) w := by
 unfold bld1
 kernel_rfl
@[go_sem ↓ high] theorem bRec3_eq (f : Nat × Operand → Nat × Value) (p q r : Nat × Operand) : Instr.build 101 (Array.map f #[p, q, r]) = bld3 101 (f p) (f q) (f r) := by simp [bld3]
@[go_sem] theorem bRecS1_run (w : World) : (bld3 101 (0, .int .u8 5) (6, .int .u32 1) (8, .string { data := #[111, 110, 101] })).run Tryz.prog w = .ok (.agg (recA (srcR 1 tx1))) w := by
 unfold bld3
 kernel_rfl
@[go_sem] theorem bRecS2_run (w : World) : (bld3 101 (0, .int .u8 5) (6, .int .u32 2) (8, .string { data := #[116, 119, 111] })).run Tryz.prog w = .ok (.agg (recA (srcR 2 tx2))) w := by
 unfold bld3
 kernel_rfl
@[go_sem] theorem bRecS3_run (w : World) : (bld3 101 (0, .int .u8 5) (6, .int .u32 3) (8, .string { data := #[116, 104, 114, 101, 101] })).run Tryz.prog w = .ok (.agg (recA (srcR 3 tx3))) w := by
 unfold bld3
 kernel_rfl
theorem K19At.as {w : World} {B s sb nb n : Nat} {G : SG} {f f' : K25 → List Ver} {live live' : Int} {last last' : UInt64} (h : K19At w B s sb nb n G f live last) (e1 : f = f') (e2 : live = live') (e3 : last = last') : K19At w B s sb nb n G f' live' last' := by
 subst e1 e2 e3
 exact h
set_option maxHeartbeats 20000000 in
theorem known19_gives (w : World) : Gives Tryz.prog 21 #[] w (.bool true) := by
 have hmf : ∀ (fn : Fn) (first cap : Array Value) (w : World), (Instr.makeFunc fn first cap).run Tryz.prog w = .ok (.func fn first cap) w := fun _ _ _ _ => rfl
 have hnl : n19.length = 12 := rfl
 unfold Gives
 go_enter Tryz.func21, Tryz.ntmps21
 go_wp2_with fail
 refine (storeNew_calls w).mono ?_
 rintro e w1 ⟨rfl, hb1, hS1⟩
 obtain ⟨s, hs⟩ : ∃ s, s = w.heap.size + 1 := ⟨_, rfl⟩
 rw [← hs] at hS1
 go_upto_region 5 with fail
 refine wp_name ?_
 intro W hW
 obtain ⟨N, hN⟩ : ∃ N, N = w1.heap.size := ⟨_, rfl⟩
 have hbW : Below w1.heap.size w1 W := by rw [hW]; exact blw
 simp only [← hN, ← hs]
 have hx0 : W.heap[N]? = some (.cells #[.pointer (some ⟨s, 0, none⟩)] 89) := by rw [hW, hN, hs, heap_al, if_neg (by simp), heap_al, if_pos rfl]
 have hx1 : W.heap[N + 1]? = some (.cells (row8 n19) 56) := by rw [hW, hN, heap_al, if_pos (by simp)]
 have hK0 : K19At W w.heap.size s N (N + 1) 0 (emptyG w.heap.size) f0 0 0 := ⟨hS1.keep hbW, ⟨⟨fun _ => Nat.le_refl _, fun _ => Nat.le_refl _⟩, Nat.le_refl _, Int.le_refl _, Int.le_refl _⟩, rfl, rfl, rfl, hx0, hx1, fun hm => by have := hS1.lt _ hm; omega, fun hm => by have := hS1.lt _ hm; omega⟩
 have hbw : Below w.heap.size w W := hb1.trans (hbW.mono hb1.size)
 have HB0 := Lib.hid hbw
 have hP1 := put19_calls hK0 (by omega) (keyK 4 0 0) (recB 0) pubK1
 have HS0 := Lib.hid hK0.store
 have HP1 := Lib.hid hP1
 clear hW hN hs hbW hx0 hx1 hK0 hbw hP1 hb1 hS1
 go_wp2_with fail
 refine HP1.out.mono ?_
 rintro e W1 ⟨⟨v1, rfl⟩, G1, hK1, hE1⟩
 have hK1 : K19At W1 w.heap.size s N (N + 1) 1 G1 g1 1 1 := hK1.as rfl (by show (0 : Int) + moreI f0 [y1] = 1; rw [moreK1]; rfl) rfl
 have HB1 := Lib.hid (HB0.out.trans (hE1.below HS0.out))
 have HA0 := Lib.hid (fun (V : World) (hb : Below W1.heap.size W1 V) => at19_gives 0 (N + 1) V (cut_heap (hK1.up hb).name rfl) (Array.getElem?_eq_some_iff.1 (hK1.up hb).name).1)
 have HP2 := Lib.hid (fun (V : World) (hb : Below W1.heap.size W1 V) => put19_calls (hK1.up hb) (by omega) (kS 0) (srcR 1 tx1) pubK2)
 have HS1 := Lib.hid hK1.store
 clear hK1 hE1 HP1 HS0 HB0
 go_wp2_with fail
 refine Gives.use (HA0.out _ (Below.refl _ _)) ?_
 intro xs1 d1
 go_wp2_with fail
 refine (HP2.out _ blw).mono ?_
 rintro e W2 ⟨⟨v2, rfl⟩, G2, hK2, hE2⟩
 have hK2 : K19At W2 w.heap.size s N (N + 1) 2 G2 g2 2 2 := hK2.as rfl (by show (1 : Int) + moreI g1 [y2] = 2; rw [moreK2]; rfl) rfl
 have HB2 := Lib.hid ((HB1.out.trans ((below_of_grow xs1 d1).mono HB1.out.size)).trans (hE2.below (HS1.out.keep (below_of_grow xs1 d1))))
 have HP3 := Lib.hid (fun (V : World) (hb : Below W2.heap.size W2 V) => put19_calls (hK2.up hb) (by omega) (keyK 4 0 1) (recB 0) pubK3)
 have HS2 := Lib.hid hK2.store
 clear hK2 hE2 HP2 HS1 HB1 HA0
 go_wp2_with fail
 refine (HP3.out _ (Below.refl _ _)).mono ?_
 rintro e W3 ⟨⟨v3, rfl⟩, G3, hK3, hE3⟩
 have hK3 : K19At W3 w.heap.size s N (N + 1) 3 G3 g3 3 3 := hK3.as rfl (by show (2 : Int) + moreI g2 [y3] = 3; rw [moreK3]; rfl) rfl
 have HB3 := Lib.hid (HB2.out.trans (hE3.below HS2.out))
 have HA3 := Lib.hid (fun (V : World) (hb : Below W3.heap.size W3 V) => at19_gives 0 (N + 1) V (cut_heap (hK3.up hb).name rfl) (Array.getElem?_eq_some_iff.1 (hK3.up hb).name).1)
 have HP4 := Lib.hid (fun (V : World) (hb : Below W3.heap.size W3 V) => put19_calls (hK3.up hb) (by omega) (kS 0) (srcR 2 tx2) pubK4)
 have HS3 := Lib.hid hK3.store
 clear hK3 hE3 HP3 HS2 HB2
 go_wp2_with fail
 refine Gives.use (HA3.out _ (Below.refl _ _)) ?_
 intro xs3 d3
 go_wp2_with fail
 refine (HP4.out _ blw).mono ?_
 rintro e W4 ⟨⟨v4, rfl⟩, G4, hK4, hE4⟩
 have hK4 : K19At W4 w.heap.size s N (N + 1) 4 G4 g4 3 4 := hK4.as rfl (by show (3 : Int) + moreI g3 [y4] = 3; rw [moreK4]; rfl) rfl
 have HB4 := Lib.hid ((HB3.out.trans ((below_of_grow xs3 d3).mono HB3.out.size)).trans (hE4.below (HS3.out.keep (below_of_grow xs3 d3))))
 have hsh4 : Short G4 100000 := fun k => Nat.le_trans (hK4.fine.inv.short k) (by decide)
 have hv4 : ∀ V, Below W4.heap.size W4 V → Calls Tryz.prog 19 #[.iface 96 (.agg #[.pointer (some ⟨s, 0, none⟩), .int .u64 4]), .int .i64 0, .int .i64 1] V fun e w' => Below V.heap.size V w' ∧ ∃ vb lv, e = .returned (.tuple #[.pointer (some ⟨vb, 0, none⟩), .int .i64 0]) ∧ V.heap.size ≤ vb ∧ FromN V.heap.size lv ∧
   VAt w' vb s 4 0 lv linksK (atV (g4 (keyK 4 0 1)) 4).1 := by
  intro V hb
  have hv := Dn.viewOf_some (hK4.up hb).store hsh4 4 0 1 (by decide) (by decide) (by rw [hK4.vs]; exact thereK4)
  rw [hK4.vs, chainK4] at hv
  exact hv
 have c4 : W4.cell? ⟨N, 0, none⟩ = some (.pointer (some ⟨s, 0, none⟩)) := (cells_is hK4.box 0).1.trans rfl
 have hNl4 : N < W4.heap.size := (Array.getElem?_eq_some_iff.1 hK4.box).1
 have HV4 := Lib.hid hv4
 have HK4 := Lib.hid hK4
 have HSH4 := Lib.hid hsh4
 clear hK4 hE4 HP4 HS3 HB3 HA3 hv4 hsh4
 go_wp2_with fail
 refine (HV4.out _ blw).mono ?_
 rintro e W5 ⟨hb5, vb, lv, rfl, hvb, hlv, hva⟩
 have hK5 := HK4.out.up hb5
 have hso5 : ∀ V, Below W5.heap.size W5 V → Gives Tryz.prog 23 #[.pointer (some ⟨vb, 0, none⟩), .agg (row8 n19)] V (.tuple #[.agg (recA (srcR 1 tx1)), .int .i64 0, .bool true]) := by
  intro V hb
  have hv := source_gives (hK5.up hb).store HSH4.out (hva.up hb) (by decide) (.inr ⟨nowT, [(0, 3)], rfl⟩) n19 rfl
  rw [HK4.out.vs, seenK4] at hv
  exact hv
 have hvb4 : W4.heap.size ≤ vb := by first | exact hvb | (simp at hvb; omega)
 have hlv4 : FromN W4.heap.size lv := by first | exact hlv | exact hlv.mono (by simp)
 have cn5 : W5.cut? (N + 1) 0 12 = some (row8 n19) := cut_heap hK5.name rfl
 have hN5 : N + 1 < W5.heap.size := (Array.getElem?_eq_some_iff.1 hK5.name).1
 have HSO5 := Lib.hid hso5
 have HB5 := Lib.hid (And.intro hK5 (And.intro hva (And.intro hvb4 (And.intro hlv4 (HB4.out.trans (hb5.mono (by first | exact HB4.out.size | (have := HB4.out.size; simp; omega))))))))
 clear hK5 hva hvb hlv hvb4 hlv4 hb5 hso5 HV4 c4 hNl4 HB4
 go_wp2_with fail
 refine Gives.use (HSO5.out _ blw) ?_
 intro xs5 d5
 go_upto_region 13 with fail
 refine wp_name ?_
 intro W6 hW6
 obtain ⟨rb, hrb⟩ : ∃ rb, rb = W5.heap.size + xs5.size := ⟨_, rfl⟩
 have hb6 : Below W5.heap.size W5 W6 := by rw [hW6]; exact blw
 have hr6 : W6.heap[rb]? = some (.cells (recA (srcR 1 tx1)) 101) := by rw [hW6, hrb]; exact (heap_al _ _ _).trans (if_pos (by simp))
 simp only [← hrb]
 have hrb5 : W5.heap.size ≤ rb := by omega
 have hK6 := HB5.out.1.up hb6
 have HA6 := Lib.hid (fun (V : World) (hb : Below W6.heap.size W6 V) => at19_gives 1 (N + 1) V (cut_heap (hK6.up hb).name rfl) (Array.getElem?_eq_some_iff.1 (hK6.up hb).name).1)
 have HP5 := Lib.hid (fun (V : World) (hb : Below W6.heap.size W6 V) => put19_calls (hK6.up hb) (by omega) (kS 1) (srcR 3 tx3) pubK5)
 have HB6 := Lib.hid (And.intro (HB5.out.2.1.up hb6) (And.intro hr6 (And.intro hrb5 (And.intro hK6.store (HB5.out.2.2.2.2.trans (hb6.mono HB5.out.2.2.2.2.size))))))
 clear hW6 hb6 hr6 hrb hrb5 hK6 HSO5 cn5 hN5
 go_wp2_with fail
 refine Gives.use (HA6.out _ (Below.refl _ _)) ?_
 intro xs6 d6
 go_wp2_with fail
 refine (HP5.out _ blw).mono ?_
 rintro e W7 ⟨⟨v7, rfl⟩, G5, hK7, hE7⟩
 have hK7 : K19At W7 w.heap.size s N (N + 1) 5 G5 g5 4 5 := hK7.as rfl (by show (3 : Int) + moreI g4 [y5] = 4; rw [moreK5]; rfl) rfl
 have hbg : Below W6.heap.size W6 (W6.grow xs6 d6) := below_of_grow _ _
 have hlt4 : ∀ b ∈ G4.blocks s, b < W4.heap.size := fun b hb => HK4.out.store.lt b hb
 have hrl6 : rb < W6.heap.size := (Array.getElem?_eq_some_iff.1 HB6.out.2.1).1
 have hw45 : W4.heap.size ≤ W5.heap.size := by
  have h1 := HB5.out.2.2.1
  have h2 := HB5.out.2.1.lt
  omega
 have hva7 := (HB6.out.1.up hbg).evo (fun hm => by have := hlt4 vb hm; have := HB5.out.2.2.1; omega) (HB5.out.2.2.2.1.off hlt4) hE7
 have hr7 := ((hE7.outK (b := rb) (by simp; omega) (fun hm => by have := hlt4 rb hm; have := HB6.out.2.2.1; omega)).1.trans (hbg.block rb hrl6)).trans HB6.out.2.1
 have hb7 : Below w.heap.size w W7 := (HB6.out.2.2.2.2.trans (hbg.mono HB6.out.2.2.2.2.size)).trans (hE7.below (HB6.out.2.2.2.1.keep hbg))
 have hsh5 : Short G5 100000 := fun k => Nat.le_trans (hK7.fine.inv.short k) (by decide)
 have hv7 : ∀ V, Below W7.heap.size W7 V → Calls Tryz.prog 19 #[.iface 96 (.agg #[.pointer (some ⟨s, 0, none⟩), .int .u64 5]), .int .i64 0, .int .i64 1] V fun e w' => Below V.heap.size V w' ∧ ∃ vb lv, e = .returned (.tuple #[.pointer (some ⟨vb, 0, none⟩), .int .i64 0]) ∧ V.heap.size ≤ vb ∧ FromN V.heap.size lv ∧
   VAt w' vb s 5 0 lv linksK (atV (g5 (keyK 4 0 1)) 5).1 := by
  intro V hb
  have hv := Dn.viewOf_some (hK7.up hb).store hsh5 5 0 1 (by decide) (by decide) (by rw [hK7.vs]; exact thereK5)
  rw [hK7.vs, chainK5] at hv
  exact hv
 have c7 : W7.cell? ⟨N, 0, none⟩ = some (.pointer (some ⟨s, 0, none⟩)) := (cells_is hK7.box 0).1.trans rfl
 have hNl7 : N < W7.heap.size := (Array.getElem?_eq_some_iff.1 hK7.box).1
 have HV7 := Lib.hid hv7
 have HK7 := Lib.hid (And.intro hK7 (And.intro hva7 (And.intro hr7 hb7)))
 have HSH5 := Lib.hid hsh5
 clear hK7 hE7 hbg hlt4 hrl6 hw45 hva7 hr7 hb7 hsh5 hv7 HP5 HA6 HB6 HB5 HK4 HSH4
 go_wp2_with fail
 refine (HV7.out _ blw).mono ?_
 rintro e W8 ⟨hb8, vb2, lv2, rfl, -, -, hva2⟩
 have hb78 : Below W7.heap.size W7 W8 := by first | exact hb8 | exact (show Below W7.heap.size W7 _ from blw).trans (hb8.mono (by simp))
 have hK8 := HK7.out.1.up hb78
 have hso8 : ∀ V, Below W8.heap.size W8 V → Gives Tryz.prog 23 #[.pointer (some ⟨vb2, 0, none⟩), .agg (row8 n19)] V (.tuple #[.agg (recA (srcR 3 tx3)), .int .i64 1, .bool true]) := by
  intro V hb
  have hv := source_gives (hK8.up hb).store HSH5.out (hva2.up hb) (by decide) (.inr ⟨nowT, [(0, 3)], rfl⟩) n19 rfl
  rw [HK7.out.1.vs, seenK5] at hv
  exact hv
 have hlk8 := fun (V : World) (hb : Below W8.heap.size W8 V) => vlinks_calls ((HK7.out.2.1.up hb78).up hb) (by decide)
 have cn8 : W8.cut? (N + 1) 0 12 = some (row8 n19) := cut_heap hK8.name rfl
 have hN8 : N + 1 < W8.heap.size := (Array.getElem?_eq_some_iff.1 hK8.name).1
 have hrl7 : rb < W7.heap.size := (Array.getElem?_eq_some_iff.1 HK7.out.2.2.1).1
 have hr8 := (hb78.block rb hrl7).trans HK7.out.2.2.1
 have k8 : W8.cell? ⟨rb, 8, none⟩ = some (.string { data := #[111, 110, 101] }) := (cells_is hr8 8).1.trans rfl
 have hrl8 : rb < W8.heap.size := (Array.getElem?_eq_some_iff.1 hr8).1
 have HSO8 := Lib.hid hso8
 have HLK8 := Lib.hid hlk8
 have HB8 := Lib.hid (HK7.out.2.2.2.trans (hb78.mono HK7.out.2.2.2.size))
 clear hb8 hb78 hva2 hK8 hso8 hlk8 hrl7 hr8 HK7 HV7 HSH5 c7 hNl7
 go_wp2_with fail
 refine Gives.use (HSO8.out _ blw) ?_
 intro xs8 d8
 go_upto_region 18 with fail
 refine wp_name ?_
 intro W9 hW9
 obtain ⟨rb2, hrb2⟩ : ∃ rb2, rb2 = W8.heap.size + xs8.size := ⟨_, rfl⟩
 have hb9 : Below W8.heap.size W8 W9 := by rw [hW9]; exact blw
 have hr9 : W9.heap[rb2]? = some (.cells (recA (srcR 3 tx3)) 101) := by rw [hW9, hrb2]; exact (heap_al _ _ _).trans (if_pos (by simp))
 simp only [← hrb2]
 have k9 : W9.cell? ⟨rb, 8, none⟩ = some (.string { data := #[111, 110, 101] }) := (hb9.cell (p := ⟨rb, 8, none⟩) hrl8).trans k8
 have k9b : W9.cell? ⟨rb2, 8, none⟩ = some (.string { data := #[116, 104, 114, 101, 101] }) := (cells_is hr9 8).1.trans rfl
 have HLK9 := Lib.hid (HLK8.out W9 hb9)
 have HB9 := Lib.hid (HB8.out.trans (hb9.mono HB8.out.size))
 clear hW9 hb9 hr9 hrb2 k8 hrl8 HLK8 HSO8 HB8 cn8 hN8
 go_wp2_with fail
 refine HLK9.out.mono ?_
 rintro e W10 ⟨v10, rfl, hb10, ho10⟩
 obtain ⟨a10, c10, rfl, _, _⟩ := ho10.form
 have HBF := Lib.hid (HB9.out.trans (hb10.mono HB9.out.size))
 have hl2 : ((linksK.map lnkA).length : Int) = 2 := rfl
 clear ho10 hb10
 simp only [show (linksK.map lnkA).length = 2 from rfl]
 go_wp2_with fail
 go_ret
 exact ⟨rfl, HBF.out⟩
end Go.Proofs.YtcedmfnlkelhkaaGreatDoor

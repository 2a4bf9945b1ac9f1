/- Layer 14's law StoreForks, for every input: a branch's record without a time gets, when it is published, the time at which it is, and any other keeps its own. The Go function returns true, and each argument reads behind the call as it read before. Condition: the tables that the row lists (tied to the program's text by the card); the proof does not use what they hold. -/
import Derived.Test.YtjdccgmoldmlmaaDoorForkB
import Derived.Test.YtjdccgmoldmlmaaDoorReadA
import Derived.Test.YtjdccgmoldmlmaaDoorCards
import Derived.Test.YtjdccgmoldmlmaaDoorTie
import Derived.ProofKit
import Derived.LaidMore
import Derived.Lay
import Derived.OpenShut
import Derived.ShutString
import Derived.Deep.CutBlock
namespace Go.Proofs.YtjdccgmoldmlmaaDoor
set_option maxRecDepth 100000
open Go.RowKit

theorem byte4 (p : Int) : ∃ b : UInt8, (IntKind.u64.wrap p).tmod 4 % 256 = (b.toNat : Int) ∧ b.toNat < 4 := by
  have h0 : 0 ≤ IntKind.u64.wrap p := by
    unfold IntKind.wrap; simp [IntKind.signed, IntKind.bits]; omega
  have h1 : 0 ≤ (IntKind.u64.wrap p).tmod 4 ∧ (IntKind.u64.wrap p).tmod 4 < 4 := by
    rw [Int.tmod_eq_emod_of_nonneg h0]; omega
  refine ⟨UInt8.ofNat ((IntKind.u64.wrap p).tmod 4).toNat, ?_, ?_⟩
  · rw [UInt8.toNat_ofNat']; omega
  · rw [UInt8.toNat_ofNat']; omega
@[go_sem ↓ high] theorem bKey3_eq (f : Nat × Operand → Nat × Value) (p q r : Nat × Operand) : Instr.build 38 (Array.map f #[p, q, r]) = bld3 38 (f p) (f q) (f r) := by simp [bld3]
@[go_sem] theorem bKey3_run (a b : UInt8) (w : World) : (bld3 38 (0, .int .u8 4) (1, .int .u8 a.toNat) (2, .int .u8 b.toNat)).run Tryd.prog w = .ok (.agg (row8 (keyK 4 a b).val)) w := by
  unfold bld3
  refine build_of (zero := .agg (row8 (zeros 25))) (places := #[(0, 1), (1, 1), (2, 1), (3, 12), (15, 10)]) (by intro w; exact (Tryd.zeroValue38 w).trans rfl) Tryd.underlying38 (by intro w; kernel_rfl) ?_
  rfl
/-- the write of the statement -/
def wrF (a b : UInt8) (t : UInt64) : Wr := ⟨keyK 4 a b, false, recB t⟩
theorem keyF_right : ∀ a b : UInt8, a.toNat < 4 → b.toNat < 4 → keyRight (keyK 4 a b).val = true := by
  have h : ∀ a < 4, ∀ b < 4, keyRight (keyK 4 (UInt8.ofNat a) (UInt8.ofNat b)).val = true := by decide +kernel
  intro a b ha hb
  have := h a.toNat ha b.toNat hb
  rwa [UInt8.ofNat_toNat, UInt8.ofNat_toNat] at this
theorem recF (t : UInt64) : recE (recB t) = 0 := by
  unfold recE bareR withinB recB kindR
  simp [Rec.zero, Txt.nil]
theorem checkF (a b : UInt8) (t : UInt64) (ha : a.toNat < 4) (hb : b.toNat < 4) : checkE [wrF a b t] = 0 := by
  have hr : rightE (wrF a b t) = 0 := by
    unfold rightE wrF
    simp only
    rw [if_pos (keyF_right a b ha hb), if_neg (by decide), if_pos (recF t)]
    rw [if_pos]
    rfl
  unfold checkE chkL
  simp [hr, chkL]
theorem pub_fork {w : World} {B s : Nat} {G : SG} (h : StoreAt w B s G) (hf : Fine 12 G) (pb ab : UInt8) (t : UInt64) (hp : pb.toNat < 4) (ha : ab.toNat < 4)
    (lb : Nat) (hc : w.cut? lb 0 35 = some (wrtA (wrF pb ab t))) (hlb : lb < w.heap.size) (hout : lb ∉ G.blocks s) :
    Calls Tryd.prog 5 #[.pointer (some ⟨s, 0, none⟩), .slice (some ⟨lb, 0, none⟩) 1 1] w fun e w' =>
      ∃ (was : UInt64) (er : Int) (r : Rec) (is_ : Bool), e = .returned (.tuple #[.int .u64 was.toNat, .int .i64 er]) ∧
        (∃ G', StoreAt w' B s G' ∧ Evo s w G w' G' ∧ Short G' 100000 ∧ atV (versG G' (keyK 4 pb ab)) was = (r, is_)) ∧
        ((er = 0 ∧ is_ = true ∧ r.at_ = if t = 0 ∧ ab ≠ 0 then was else t) ∨ (er = 6 ∧ was = 0)) := by
  have hlv : -1000000 ≤ G.live ∧ G.live ≤ 1000000 := by have := hf.low; have := hf.high; omega
  have hlst := hf.last
  have hck := checkF pb ab t hp ha
  by_cases he : pubE (versG G) G.live [wrF pb ab t] = 0
  · have hl1 : (G.last + 1).toNat = G.last.toNat + 1 := by rw [UInt64.toNat_add]; simp; omega
    refine (pub_one (G.last + 1) hl1 h (hf.inv.more (by omega)) (by omega) hlv _ he lb hc hlb hout).mono ?_
    rintro e w' ⟨rfl, G', g1, g2, g3, g4, g5⟩
    have hv : versG G' (keyK 4 pb ab) = versG G (keyK 4 pb ab) ++ [verOf (G.last + 1) (wrF pb ab t)] := by
      rw [g5]
      exact applyL_one (G.last + 1) [wrF pb ab t] (versG G) (by simp) (wrF pb ab t) List.mem_cons_self
    have hat : atV (versG G' (keyK 4 pb ab)) (G.last + 1) = (fixR (G.last + 1) (wrF pb ab t), true) := by
      rw [hv, atV_last _ _ _ (show (verOf (G.last + 1) (wrF pb ab t)).at_ ≤ G.last + 1 from UInt64.le_iff_toNat_le.2 (Nat.le_refl _))]
      rfl
    refine ⟨_, _, _, _, rfl, ⟨G', g1, g2, fun k => ?_, hat⟩, .inl ⟨rfl, rfl, ?_⟩⟩
    · have := (hf.inv.apply hl1 (l := [wrF pb ab t]) (by simp)).short k
      rw [g5]; omega
    · unfold fixR
      have e1 : (wrF pb ab t).r.kind = 4 := rfl
      have e2 : (wrF pb ab t).r.at_ = t := rfl
      have e3 : byt (wrF pb ab t).k.val 2 = ab := rfl
      rw [e1, e2, e3]
      by_cases hh : t = 0 ∧ ab ≠ 0
      · rw [if_pos ⟨rfl, hh.1, hh.2⟩, if_pos hh]
      · rw [if_neg (fun h3 => hh h3.2), if_neg hh]; rfl
  · have he6 : pubE (versG G) G.live [wrF pb ab t] = 6 := by
      unfold pubE at he ⊢
      rw [if_pos hck] at he ⊢
      split at he
      · rename_i hh; rw [if_pos hh]
      · exact absurd rfl he
    have hs : Short G 100000 := fun k => Nat.le_trans (hf.inv.short k) (by omega)
    have hno := publish_no h hs hlv (.slice (some ⟨lb, 0, none⟩) 1 1) [wrF pb ab t] ((sl_one (Nat.le_refl _) (by decide) hc).more (by omega)) he
    rw [he6] at hno
    refine hno.mono ?_
    rintro e w' ⟨rfl, hb⟩
    exact ⟨0, 6, _, _, rfl, ⟨G, h.keep hb, Evo.grow G hb, hs, rfl⟩, .inr ⟨rfl, rfl⟩⟩
theorem out_own {w : World} {B s sz : Nat} {G : SG} {e : TypeId} {v : Value} {xs : List (Array Value)} {W : World} (h : OwnA W w.heap.size sz e v xs) (hS : StoreAt w B s G) : OutS s G v := by
  intro b o n c he _ hm
  have := hS.lt b hm
  have h2 := (h.lt b (by rw [he]; rfl)).1
  omega
set_option maxHeartbeats 20000000 in
theorem forks_walk (av : Value) (xs : List (Array Value)) (w : World) (hx : SlA w w.heap.size 28 av xs) (hw : ∀ x ∈ xs, ∃ (lv : Value) (l : List Wr), x[27]? = some lv ∧ SlA w w.heap.size 35 lv (l.map wrtA)) (p a : Int) (t : UInt64) :
    Gives Tryd.prog 3 #[av, .int .i64 p, .int .i64 a, .int .u64 t.toNat] w (.bool true) := by
  obtain ⟨aa, cap, rfl, hcap, hmx⟩ := hx.form
  have HXS := Lib.hid hx
  have HWS := Lib.hid hw
  clear hx hw
  unfold Gives
  go_enter Tryd.func3, Tryd.ntmps3
  go_wp2_with fail
  refine (storeNew_calls w).mono ?_
  rintro e w1 ⟨rfl, hb1, hS1⟩
  have hf1 : Fine 0 (emptyG w.heap.size) := ⟨⟨fun _ => Nat.le_refl _, fun _ => Nat.le_refl _⟩, Nat.le_refl _, Int.le_refl _, Int.le_refl _⟩
  have hE : ∃ G, StoreAt w1 w.heap.size (w.heap.size + 1) G ∧ Fine 0 G := ⟨_, hS1, hf1⟩
  have HE := Lib.hid hE
  have HB1 := Lib.hid hb1
  clear hb1 hS1 hf1 hE
  generalize w.heap.size + 1 = s at *
  go_upto_block 0 with fail
  go_cut [10] (fun _ wx => Hid (Below w.heap.size w wx ∧ ∃ G, StoreAt wx w.heap.size s G ∧ Fine 12 G))
  case first =>
    go_wp2_with fail
    go_loopw [10] (fun s10 wr => ∃ i : Nat, i ≤ xs.length ∧ i ≤ 12 ∧ s10 = .int .i64 i ∧ Hid (Below w.heap.size w wr ∧ ∃ G, StoreAt wr w.heap.size s G ∧ Fine i G)) (fun s10 _ => 12 - (intOf s10).toNat)
    case atStart => exact ⟨0, Nat.zero_le _, Nat.zero_le _, rfl, Lib.hid ⟨HB1.out, HE.out⟩⟩
    case round =>
      obtain ⟨i, hi, hi12, rfl, HR⟩ := hrel
      obtain ⟨hbr, G, hS, hF⟩ := HR.out
      clear HR
      by_cases hli : i < xs.length
      · have hliI : (i : Int) < xs.length := by omega
        by_cases h12 : i < 12
        · have h12I : (i : Int) < 12 := by omega
          obtain ⟨_, a3, cap3, he, _, _, hc⟩ := HXS.out.below hbr
          simp only [Value.slice.injEq, true_and] at he
          obtain ⟨rfl, rfl⟩ := he
          obtain ⟨g, q, rfl, hlb, hcut⟩ := hc (by omega)
          have hcutk := hcut i xs[i] (by simp [hli])
          obtain ⟨lv, l, hlv, hsl⟩ := HWS.out xs[i] (List.getElem_mem hli)
          have hsz := hbr.size
          have hgr : g < wr.heap.size := by omega
          have hcell : wr.cell? ⟨g, q + i * 28 + 27, none⟩ = some lv := ((cut_spec hcutk).2 27 (by decide)).trans hlv
          have HCUT := Lib.hid (cut_calls l lv wr ((hsl.below hbr).more hsz))
          have hlen := xs.length
          have HG := Lib.hid (And.intro hbr (And.intro hS hF))
          clear hcut hc hcutk hlv hsl hbr hS hF hlen hsz
          go_wp2_with fail
          refine HCUT.out.mono ?_
          rintro e W2 ⟨lv2, rfl, hb2, ho2⟩
          have hS2 := HG.out.2.1.keep hb2
          have hPUB := pub_any (n := i) (by omega) hS2 HG.out.2.2 lv2 (cutW l) ho2.sl (out_own ho2 HG.out.2.1)
          have HPUB := Lib.hid hPUB
          have HB2 := Lib.hid (And.intro (HG.out.1.trans (hb2.mono HG.out.1.size)) hS2)
          clear hPUB hb2 ho2 hS2 HCUT hcell
          go_wp2_with fail
          refine HPUB.out.mono ?_
          rintro e W3 ⟨⟨r1, r2, rfl⟩, G3, hS3, hE3, hF3⟩
          have HF := Lib.hid (And.intro (HB2.out.1.trans (hE3.below HB2.out.2)) (And.intro hS3 hF3))
          clear hS3 hE3 hF3 HPUB
          go_wp2_with fail
          go_roundw
          case rel => exact ⟨i + 1, by omega, by omega, by go_num, Lib.hid ⟨HF.out.1, G3, HF.out.2.1, HF.out.2.2⟩⟩
          case measure => simp [intOf]; omega
        · have h20e : i = 12 := by omega
          have h12I : ¬ (i : Int) < 12 := by omega
          have HG := Lib.hid (And.intro hbr (And.intro hS hF))
          clear hbr hS hF
          subst h20e
          go_wp2_with fail
          go_meet
          exact Lib.hid ⟨HG.out.1, G, HG.out.2.1, HG.out.2.2⟩
      · have hgn : ¬ (i : Int) < xs.length := by omega
        have HG := Lib.hid (And.intro hbr (And.intro hS hF))
        clear hbr hS hF
        go_wp2_with fail
        go_meet
        exact Lib.hid ⟨HG.out.1, G, HG.out.2.1, ⟨HG.out.2.2.inv.more hi12, Nat.le_trans HG.out.2.2.last hi12, by have := HG.out.2.2.low; omega, by have := HG.out.2.2.high; omega⟩⟩
  case rest =>
    obtain ⟨hbc, G, hS, hF⟩ := hcut.out
    clear hcut HE HXS HWS HB1
    have HG := Lib.hid (And.intro hbc (And.intro hS hF))
    clear hbc hS hF
    obtain ⟨pb, hpb, hp4⟩ := byte4 p
    obtain ⟨ab, hab, ha4⟩ := byte4 a
    go_upto_region 7 with fail
    refine wp_name ?_
    intro W2 hW2
    have hb2 : Below wc.heap.size wc W2 := by rw [hW2]; exact (Below.refl _ _).alloc (Nat.le_refl _) _
    have hk2 : W2.cut? wc.heap.size 0 25 = some (row8 (keyK 4 pb ab).val) := by rw [hW2]; exact cut_heap ((heap_al _ _ _).trans (if_pos rfl)) (by simp)
    have hkl : wc.heap.size < W2.heap.size := by rw [hW2]; simp
    have hS2 := HG.out.2.1.keep hb2
    have hkb : wc.heap.size ∉ G.blocks s := fun hm => by have := HG.out.2.1.lt _ hm; omega
    have HP := Lib.hid (fun (W : World) (hb : Below W2.heap.size W2 W) (lb : Nat) (hc : W.cut? lb 0 35 = some (wrtA ⟨keyK 4 pb ab, false, recB t⟩)) (hlb : lb < W.heap.size) (hge : W2.heap.size ≤ lb) =>
      pub_fork (hS2.keep hb) HG.out.2.2 pb ab t hp4 ha4 lb hc hlb (fun hm => by have := hS2.lt lb hm; omega))
    have H2 := Lib.hid (And.intro (HG.out.1.trans (hb2.mono HG.out.1.size)) (And.intro hS2 (And.intro hk2 hkb)))
    clear hW2 hb2 hS2 hkb HG hpb hab
    generalize wc.heap.size = kb at *
    go_wp2_with fail
    refine (HP.out _ (by repeat (first | exact below_of_grow _ _ | exact Below.refl _ _ | exact below_more _ _ _ _ | (simp only [← Array.append_assoc]; first | exact below_more _ _ _ _ | exact below_same _ _ _ | exact Below.refl _ _) | exact below_same _ _ _ | (refine Below.alloc ?_ (by first | (simp; done) | (simp; omega)) _) | (refine Below.grow ?_ (by first | (simp; done) | (simp; omega)) _ _) | refine Below.drew ?_ | refine Below.drewN ?_ _ | (refine Below.putF ?_ (by first | (simp; done) | omega | (simp; omega)) _) | (refine Below.setCell ?_ (by first | (simp; done) | (simp; omega)) _))) _ ?_ ?_ ?_).mono ?_
    · exact cut_heap ((heap_al _ _ _).trans (if_pos (by simp))) (wrtA_size _)
    · simp
    · simp
    rintro e W3 ⟨was, er, r, is_, rfl, ⟨G', g1, g2, g3, g4⟩, hres⟩
    have hk3 : W3.cut? kb 0 25 = some (row8 (keyK 4 pb ab).val) := by
      rw [cut_of_heap (g2.1.same _ (by simp; omega) H2.out.2.2.2), cut_alloc_past _ _ _ _ hkl]
      exact H2.out.2.2.1
    have lk3 : kb < W3.heap.size := by have := g2.1.size; simp at this; omega
    have hb3 : Below w.heap.size w W3 := (H2.out.1.trans ((show Below W2.heap.size W2 _ from (Below.refl _ W2).alloc (Nat.le_refl _) _).mono H2.out.1.size)).trans (g2.below (H2.out.2.1.keep ((Below.refl _ W2).alloc (Nat.le_refl _) _)))
    have hrd := fun (W : World) (hb : Below W3.heap.size W3 W) => sread_gives (g1.keep hb) g3 (keyK 4 pb ab) was
    rw [g4] at hrd
    have HRD := Lib.hid hrd
    have H3 := Lib.hid (And.intro hb3 hb3.size)
    have HRES := Lib.hid hres
    have ls3 := g1.cells.2.2.2.2.2
    clear hrd hb3 hres g1 g2 g3 g4 H2 HP hk2 hkl
    go_wp2_with fail
    refine Gives.use (HRD.out _ (by repeat (first | exact below_of_grow _ _ | exact Below.refl _ _ | exact below_more _ _ _ _ | (simp only [← Array.append_assoc]; first | exact below_more _ _ _ _ | exact below_same _ _ _ | exact Below.refl _ _) | exact below_same _ _ _ | (refine Below.alloc ?_ (by first | (simp; done) | (simp; omega)) _) | (refine Below.grow ?_ (by first | (simp; done) | (simp; omega)) _ _) | refine Below.drew ?_ | refine Below.drewN ?_ _ | (refine Below.putF ?_ (by first | (simp; done) | omega | (simp; omega)) _) | (refine Below.setCell ?_ (by first | (simp; done) | (simp; omega)) _)))) ?_
    intro xs4 d4
    go_upto_region 9 with fail
    refine wp_name ?_
    intro W4 hW4
    obtain ⟨rb, hrb⟩ : ∃ rb, rb = W3.heap.size + xs4.size := ⟨_, rfl⟩
    have hb4 : Below W3.heap.size W3 W4 := by rw [hW4]; exact (by repeat (first | exact below_of_grow _ _ | exact Below.refl _ _ | exact below_more _ _ _ _ | (simp only [← Array.append_assoc]; first | exact below_more _ _ _ _ | exact below_same _ _ _ | exact Below.refl _ _) | exact below_same _ _ _ | (refine Below.alloc ?_ (by first | (simp; done) | (simp; omega)) _) | (refine Below.grow ?_ (by first | (simp; done) | (simp; omega)) _ _) | refine Below.drew ?_ | refine Below.drewN ?_ _ | (refine Below.putF ?_ (by first | (simp; done) | omega | (simp; omega)) _) | (refine Below.setCell ?_ (by first | (simp; done) | (simp; omega)) _)))
    have hr4 : W4.heap[rb]? = some (.cells (recA r) 44) := by rw [hW4, hrb]; exact (heap_al _ _ _).trans (if_pos (by simp))
    have c7 : W4.cell? ⟨rb, 7, none⟩ = some (.int .u64 r.at_.toNat) := ((cells_is hr4 7).1).trans (recA_7 r)
    have lr4 := lt_of_heap hr4
    have lk4 : kb < W4.heap.size := Nat.lt_of_lt_of_le lk3 hb4.size
    have ck4 : W4.cell? ⟨kb, 2, none⟩ = some (.int .u8 ab.toNat) := (hb4.cell (p := ⟨kb, 2, none⟩) lk3).trans (((cut_spec hk3).2 2 (by decide)).trans (row8_get _ 2 (by simp)))
    rw [← hrb]
    have H4 := Lib.hid (And.intro (H3.out.1.trans (hb4.mono H3.out.2)) (Nat.le_trans H3.out.2 hb4.size))
    clear hW4 hrb hb4 hr4 H3 hk3 lk3 ls3 HRD
    have HKN := Lib.hid known14_gives
    have hcase : (er = 0 ∧ is_ = true ∧ ((((t.toNat : Int) == 0) = true ∧ 0 < (ab.toNat : Int) ∧ r.at_.toNat = was.toNat) ∨ (((t.toNat : Int) == 0) = true ∧ ¬ 0 < (ab.toNat : Int) ∧ r.at_.toNat = t.toNat) ∨ (((t.toNat : Int) == 0) = false ∧ r.at_.toNat = t.toNat))) ∨ (er = 6 ∧ was.toNat = 0) := by
      rcases HRES.out with ⟨e1, e2, e3⟩ | ⟨e1, e2⟩
      · refine .inl ⟨e1, e2, ?_⟩
        by_cases h0 : t = 0
        · have h0' : ((t.toNat : Int) == 0) = true := by rw [h0]; rfl
          by_cases ha0 : ab = 0
          · refine .inr (.inl ⟨h0', by rw [ha0]; decide, ?_⟩)
            rw [e3, if_neg (fun h => h.2 ha0)]
          · refine .inl ⟨h0', ?_, ?_⟩
            · have : ab.toNat ≠ 0 := fun h => ha0 (UInt8.toNat_inj.1 h)
              omega
            · rw [e3, if_pos ⟨h0, ha0⟩]
        · refine .inr (.inr ⟨?_, ?_⟩)
          · rw [beq_eq_false_iff_ne]
            intro h
            exact h0 (UInt64.toNat_inj.1 (by have : (0 : UInt64).toNat = 0 := rfl; omega))
          · rw [e3, if_neg (fun h => h0 h.1)]
      · exact .inr ⟨e1, by rw [e2]; rfl⟩
    clear HRES
    generalize r.at_.toNat = ra at *
    generalize was.toNat = wn at *
    generalize t.toNat = tn at *
    rcases hcase with ⟨rfl, rfl, ⟨h1, h2, rfl⟩ | ⟨h1, h2, rfl⟩ | ⟨h1, rfl⟩⟩ | ⟨rfl, rfl⟩
    all_goals
      go_wp2_with fail
      all_goals refine Gives.use (HKN.out _) ?_
      all_goals intro xs5 d5
      all_goals go_wp2_with fail
      all_goals go_ret
      all_goals exact ⟨rfl, H4.out.1.trans ((show Below W4.heap.size W4 _ from (by repeat (first | exact below_of_grow _ _ | exact Below.refl _ _ | exact below_more _ _ _ _ | (simp only [← Array.append_assoc]; first | exact below_more _ _ _ _ | exact below_same _ _ _ | exact Below.refl _ _) | exact below_same _ _ _ | (refine Below.alloc ?_ (by first | (simp; done) | (simp; omega)) _) | (refine Below.grow ?_ (by first | (simp; done) | (simp; omega)) _ _) | refine Below.drew ?_ | refine Below.drewN ?_ _ | (refine Below.putF ?_ (by first | (simp; done) | omega | (simp; omega)) _) | (refine Below.setCell ?_ (by first | (simp; done) | (simp; omega)) _)))).mono H4.out.2)⟩
theorem u64_read {w : World} {v : Value} (h : Reads Tryd.prog w 23 v) : ∃ t : UInt64, v = .int .u64 t.toNat := by
  obtain ⟨n, rfl, _⟩ := h.int Tryd.underlying23
  obtain ⟨t, ht⟩ := FitsAll.u64 (h.flat 1 (ks := [CK.i .u64]) (by kernel_rfl))
  simp [Value.cells] at ht
  exact ⟨t, by rw [ht]⟩
theorem storeForks_law (w : World) (v0 v1 v2 v3 : Value) (h0 : Reads Tryd.prog w 22 v0) (h1 : Reads Tryd.prog w 3 v1) (h2 : Reads Tryd.prog w 3 v2) (h3 : Reads Tryd.prog w 23 v3) :
    Gives Tryd.prog 3 #[v0, v1, v2, v3] w (.bool true) := by
  obtain ⟨xs, hx, hw⟩ := acts14_read h0
  obtain ⟨p, rfl, _⟩ := h1.int Tryd.underlying3
  obtain ⟨a, rfl, _⟩ := h2.int Tryd.underlying3
  obtain ⟨t, rfl⟩ := u64_read h3
  exact forks_walk v0 xs w hx hw p a t

namespace storeForks
open Go.ChangeShapes Go.WideShapes Go.ChangeAt Go.RowKit
open Go.ChangeMaps (open_string shut_string)
theorem own : ownKnob Tryd.prog.godebug = none := by kernel_rfl
theorem laidOut : laidOutB Tryd.prog = true := by kernel_rfl
/-- a world in which the listed variables hold what the row says -/
noncomputable def laidW (os : Os) : World := World.laidAll Tryd.prog os Rows.storeForksRow.laid
set_option maxRecDepth 100000 in
theorem door_met (os : Os) (args : Array Value) : laidMetH Tryd.prog Rows.storeForksRow.laid ((laidW os).forCall (fun _ _ => 0) ⟨#[], args, []⟩).memory := by
  rw [MakeChecks.laidMetH_plain _ _ _ (by kernel_rfl)]
  exact laidMet_laidAll args (by kernel_rfl) (by kernel_rfl)
set_option maxRecDepth 100000 in
theorem lifted (os : Os) (started : os.Started) (H : Type) (enc : TypeId × Value → H) :
    ReturnsInHanded {} Tryd.checked os 3 .any (fun w args => (Rows.storeForksSpec.pre enc Tryd.prog Tryd.f3 Rows.storeForksRow.domain false w args ∧ laidMetH Tryd.prog Rows.storeForksRow.laid w) ∧ sizedMet enc Tryd.prog Tryd.f3 (OpenSpec.ofChange Rows.storeForksSpec) false w args) (Rows.storeForksSpec.post enc Tryd.prog Tryd.f3 false true false false) := by
  refine returnsInHanded_of_change_and (C := Tryd.checked) (X := fun w _ => laidMetH Tryd.prog Rows.storeForksRow.laid w) (fun _ _ _ hh h => h.of_heap hh) own started (by kernel_rfl) Tryd.func3
    (ChangeSpec.witness_shaped (enc := enc) (C := Tryd.checked) (os := os) (X := fun w _ => laidMetH Tryd.prog Rows.storeForksRow.laid w) false (laidW os) #[.slice none 0 0, .int .i64 0, .int .i64 0, .int .u64 0] 8 (World.laidAll_os _ _ _) (World.shaped_of_ZipB (by kernel_rfl) (by kernel_rfl)) (by kernel_rfl) (by kernel_rfl) (by kernel_rfl) (door_met os _)) ?_
  intro W base args ds gs before hval0 hW _ _ _ _
  have hval : ∀ (j : Nat) t v, Tryd.f3.params[j]? = some t → args[j]? = some v → Value.okWide Tryd.prog W .any base t v := hval0
  have hW' := hW
  obtain ⟨p, q, hA0, hV, rfl, hfz, hnd⟩ := hW
  have hA : DataW.TrodAll enc Tryd.prog W 0 (fun _ => true) true Tryd.f3.params.toList args.toList ds p := hA0
  rw [Tryd.params3] at hA hval
  obtain ⟨v0, vs0, d0, ds0, p0, q0, hargs, rfl, rfl, h0, r0⟩ := trodAll_cons hA
  obtain ⟨v1, vs1, d1, ds1, p1, q1, rfl, rfl, rfl, h1, r1⟩ := trodAll_cons r0
  obtain ⟨v2, vs2, d2, ds2, p2, q2, rfl, rfl, rfl, h2, r2⟩ := trodAll_cons r1
  obtain ⟨v3, vs3, d3, ds3, p3, q3, rfl, rfl, rfl, h3, r3⟩ := trodAll_cons r2
  obtain ⟨rfl, rfl, rfl⟩ := trodAll_nil r3
  obtain rfl : args = #[v0, v1, v2, v3] := by cases args; simp_all
  obtain ⟨rfl, rfl⟩ := trodVars_none hV
  have lt0 : ∀ x ∈ p0, x.block < W.heap.size := by obtain ⟨m, hm⟩ := h0; exact DataW.trod_lt m _ _ _ hm
  have lt1 : ∀ x ∈ p1, x.block < W.heap.size := by obtain ⟨m, hm⟩ := h1; exact DataW.trod_lt m _ _ _ hm
  have lt2 : ∀ x ∈ p2, x.block < W.heap.size := by obtain ⟨m, hm⟩ := h2; exact DataW.trod_lt m _ _ _ hm
  have lt3 : ∀ x ∈ p3, x.block < W.heap.size := by obtain ⟨m, hm⟩ := h3; exact DataW.trod_lt m _ _ _ hm
  clear hA0 hval0
  refine Calls.mono (storeForks_law W v0 v1 v2 v3 ⟨⟨_, hval 0 22 v0 rfl rfl⟩, H, enc, _, _, h0⟩ ⟨⟨_, hval 1 3 v1 rfl rfl⟩, H, enc, _, _, h1⟩ ⟨⟨_, hval 2 3 v2 rfl rfl⟩, H, enc, _, _, h2⟩ ⟨⟨_, hval 3 23 v3 rfl rfl⟩, H, enc, _, _, h3⟩) fun e W' ⟨he, bel⟩ => ?_
  subst he
  exact ⟨_, rfl, _, _, _, [], _, [], hW', trodAll_mk1 (shut_bool Tryd.underlying4 _), (trodAll_cons_mk (Below.trod laidOut (by kernel_rfl) (of_decide_eq_true (by kernel_rfl)) h0 bel lt0) (trodAll_cons_mk (Below.trod laidOut (by kernel_rfl) (of_decide_eq_true (by kernel_rfl)) h1 bel lt1) (trodAll_cons_mk (Below.trod laidOut (by kernel_rfl) (of_decide_eq_true (by kernel_rfl)) h2 bel lt2) (trodAll_cons_mk (Below.trod laidOut (by kernel_rfl) (of_decide_eq_true (by kernel_rfl)) h3 bel lt3) trodAll_mk0)))), rfl, bel.frame _, fun h => by cases h⟩
theorem said : Rows.StoreForksSaid :=
  OpenClaim.holds_of_wide 3 Tryd.f3 rfl rfl rfl rfl rfl rfl rfl ⟨rfl, rfl, rfl, rfl, rfl⟩ rfl rfl rfl rfl rfl (by kernel_rfl) Tryd.func3 (by kernel_rfl)
    (of_decide_eq_true (by kernel_rfl)) (by unfold Func.isWrapper; first | (rw [if_pos (by decide +kernel)]; kernel_rfl) | (rw [if_neg (by decide +kernel)]; exact ⟨rfl, rfl⟩))
    (fun os started H enc _ => lifted os started H enc)
/-- no parameter wants a stand-in; the program's own looks are off -/
theorem plain (f : FuncId) (fn : Func) (hf : Tryd.pinned.checked.prog.funcNamed "vulgate/vulgatelaw14.StoreForks" = some f) (hfn : Tryd.pinned.checked.prog.funcs[f]? = some fn) :
    false = Tryd.pinned.checked.prog.looks [] ∧ ∀ (j : Nat) t, fn.params[j]? = some t → Tryd.pinned.checked.prog.wantsStandIn t = false := by
  obtain rfl : f = 3 := Option.some.inj ((show Tryd.prog.funcNamed "vulgate/vulgatelaw14.StoreForks" = some 3 by kernel_rfl).symm.trans hf) |>.symm
  obtain rfl : fn = Tryd.f3 := (Option.some.inj (Tryd.func3.symm.trans hfn)).symm
  refine ⟨by kernel_rfl, fun j t ht => ?_⟩
  rw [Tryd.params3] at ht
  have hm : t ∈ [22, 3, 3, 23] := by simpa using Array.mem_of_getElem? ht
  have hall : ([22, 3, 3, 23].all fun u => !Tryd.prog.wantsStandIn u) = true := by kernel_rfl
  exact (show Tryd.prog.wantsStandIn t = false by simpa using List.all_eq_true.1 hall t hm)
theorem proved : Rows.StoreForksCardSaid :=
  Claim7.holds_tied_plain_at .later [] _ _ _ _ said (fun _ h => by cases h) (by kernel_rfl) (fun _ h => by cases h) storeForks_row_tie rfl ⟨rfl, rfl⟩ (by kernel_rfl) rfl plain (by kernel_rfl)
#print axioms proved
end storeForks
end Go.Proofs.YtjdccgmoldmlmaaDoor

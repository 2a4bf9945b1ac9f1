/- Layer 14's law StoreStays, for every input: what is seen of a key at a time, and of a prefix's keys, stays whatever is published later; the Go function returns true, and each argument reads behind the call as it read before. Condition: the tables that the row lists (tied to the program's text by the card); the proof does not use what they hold. -/
import Derived.Test.YtfgpcflegodlmaaGreatDoorQap
import Derived.BigRegion
import Derived.Handy
import Derived.Test.YtfgpcflegodlmaaGreatDoorCards
import Derived.Test.YtfgpcflegodlmaaGreatDoorTie
import Derived.ProofKit
import Derived.LaidMore
import Derived.Lay
import Derived.OpenShut
import Derived.ShutString
namespace Go.Proofs.YtfgpcflegodlmaaGreatDoor
set_option maxRecDepth 100000
open Go.RowKit

set_option maxHeartbeats 40000000 in
theorem stays_walk (av mv : Value) (xs ys : List (Array Value)) (w : World) (hx : SlA w w.heap.size 28 av xs) (hw : ∀ x ∈ xs, ∃ (lv : Value) (l : List Wr), x[27]? = some lv ∧ SlA w w.heap.size 35 lv (l.map wrtA))
    (hy : SlA w w.heap.size 28 mv ys) (hv : ∀ x ∈ ys, ∃ (lv : Value) (l : List Wr), x[27]? = some lv ∧ SlA w w.heap.size 35 lv (l.map wrtA)) (k p : K25) (dp : Int) :
    Gives Tryz.prog 6 #[av, mv, .agg (row8 k.val), .agg (prefA p dp)] w (.bool true) := by
  obtain ⟨aa, cap, rfl, hcap, hmx⟩ := hx.form
  obtain ⟨ma, mcap, rfl, hmcap, hmmx⟩ := hy.form
  have HXS := Lib.hid hx
  have HWS := Lib.hid hw
  have HYS := Lib.hid hy
  have HVS := Lib.hid hv
  have HKN := Lib.hid known14_gives
  clear hx hw hy hv
  unfold Gives
  go_enter Tryz.func6, Tryz.ntmps6
  go_upto_region 1 with fail
  refine wp_name ?_
  intro W0 hW0
  obtain ⟨kb, hkb⟩ : ∃ kb, kb = w.heap.size := ⟨_, rfl⟩
  have hb0 : Below w.heap.size w W0 := by rw [hW0]; exact ((Below.refl _ w).alloc (Nat.le_refl _) _).alloc (by simp) _
  have hk0 : W0.heap[kb]? = some (.cells (row8 k.val) 44) := by rw [hW0, hkb, heap_al, if_neg (by simp), heap_al, if_pos rfl]
  have hp0 : W0.heap[kb + 1]? = some (.cells (prefA p dp) 52) := by rw [hW0, hkb, heap_al, if_pos (by simp)]
  rw [← hkb]
  have hz0 : W0.heap.size = kb + 2 := by rw [hW0, hkb]; simp
  have H0 := Lib.hid (And.intro hb0 (And.intro hk0 (And.intro hp0 (And.intro hz0 hkb))))
  clear hW0 hkb hb0 hk0 hp0 hz0
  go_wp2_with fail
  refine (storeNew_calls W0).mono ?_
  rintro e w1 ⟨rfl, hb1, hS1⟩
  have hf1 : Fine3 0 (emptyG W0.heap.size) := ⟨⟨⟨fun _ => Nat.le_refl _, fun _ => Nat.le_refl _⟩, Nat.le_refl _, Int.le_refl _, Int.le_refl _⟩, Nat.le_refl _⟩
  have hE : ∃ G, StoreAt w1 W0.heap.size (W0.heap.size + 1) G ∧ Fine3 0 G := ⟨_, hS1, hf1⟩
  have HE := Lib.hid hE
  have HB1 := Lib.hid hb1
  clear hb1 hS1 hf1 hE
  generalize W0.heap.size + 1 = s at *
  go_upto_block 0 with fail
  go_cut [10] (fun _ wx => Hid (Below W0.heap.size W0 wx ∧ ∃ G, StoreAt wx W0.heap.size s G ∧ Fine3 12 G))
  case first =>
    go_wp2_with fail
    go_loopw [10] (fun s10 wr => ∃ i : Nat, i ≤ xs.length ∧ i ≤ 12 ∧ s10 = .int .i64 i ∧ Hid (Below W0.heap.size W0 wr ∧ ∃ G, StoreAt wr W0.heap.size s G ∧ Fine3 i G)) (fun s10 _ => 12 - (intOf s10).toNat)
    case atStart => exact ⟨0, Nat.zero_le _, Nat.zero_le _, rfl, Lib.hid ⟨HB1.out, HE.out⟩⟩
    case round =>
      obtain ⟨i, hi, hi12, rfl, HR⟩ := hrel
      obtain ⟨hbr, G, hS, hF⟩ := HR.out
      clear HR
      by_cases hli : i < xs.length
      · have hliI : (i : Int) < xs.length := by omega
        by_cases h12 : i < 12
        · have h12I : (i : Int) < 12 := by omega
          have hbw : Below w.heap.size w wr := H0.out.1.trans (hbr.mono H0.out.1.size)
          obtain ⟨_, a3, cap3, he, _, _, hc⟩ := HXS.out.below hbw
          simp only [Value.slice.injEq, true_and] at he
          obtain ⟨rfl, rfl⟩ := he
          obtain ⟨g, q, rfl, hlb, hcut⟩ := hc (by omega)
          have hcutk := hcut i xs[i] (by simp [hli])
          obtain ⟨lv, l, hlv, hsl⟩ := HWS.out xs[i] (List.getElem_mem hli)
          have hsz := hbw.size
          have hgr : g < wr.heap.size := by omega
          have hcell : wr.cell? ⟨g, q + i * 28 + 27, none⟩ = some lv := ((cut_spec hcutk).2 27 (by decide)).trans hlv
          have HCUT := Lib.hid (cut_calls l lv wr ((hsl.below hbw).more hsz))
          have HG := Lib.hid (And.intro hbr (And.intro hS hF))
          clear hcut hc hcutk hlv hsl hbr hS hF hbw hsz
          go_wp2_with fail
          refine HCUT.out.mono ?_
          rintro e W2 ⟨lv2, rfl, hb2, ho2⟩
          have hS2 := HG.out.2.1.keep hb2
          have HPUB := Lib.hid (pub_any3 (n := i) (by omega) hS2 HG.out.2.2 lv2 (cutW l) ho2.sl (out_own ho2 HG.out.2.1))
          have HB2 := Lib.hid (And.intro (HG.out.1.trans (hb2.mono HG.out.1.size)) hS2)
          clear hb2 ho2 hS2 HCUT hcell
          go_wp2_with fail
          refine HPUB.out.mono ?_
          rintro e W3 ⟨⟨r1, r2, rfl⟩, G3, hS3, hE3, hF3, -, -⟩
          have HF := Lib.hid (And.intro (HB2.out.1.trans (hE3.below HB2.out.2)) (And.intro hS3 hF3))
          clear hS3 hE3 hF3 HPUB
          go_wp2_with fail
          go_roundw
          case rel => exact ⟨i + 1, by omega, by omega, by go_num, Lib.hid ⟨HF.out.1, G3, HF.out.2.1, HF.out.2.2⟩⟩
          case measure => simp [intOf]; omega
        · have h20e : i = 12 := by omega
          have h12I : ¬ (i : Int) < 12 := by omega
          have HG := Lib.hid (And.intro hbr (And.intro hS hF))
          clear hbr hS hF
          subst h20e
          go_wp2_with fail
          go_meet
          exact Lib.hid ⟨HG.out.1, G, HG.out.2.1, HG.out.2.2⟩
      · have hgn : ¬ (i : Int) < xs.length := by omega
        have HG := Lib.hid (And.intro hbr (And.intro hS hF))
        clear hbr hS hF
        go_wp2_with fail
        go_meet
        exact Lib.hid ⟨HG.out.1, G, HG.out.2.1, ⟨⟨HG.out.2.2.fine.inv.more hi12, Nat.le_trans HG.out.2.2.fine.last hi12, by have := HG.out.2.2.fine.low; omega, by have := HG.out.2.2.fine.high; omega⟩, by have := HG.out.2.2.lvs; omega⟩⟩
  case rest =>
    obtain ⟨hbc, G, hS, hF⟩ := hcut.out
    clear hcut HE HXS HWS HB1
    have hLA := slast_gives hS
    have hsl := hS.cells.2.2.2.2.2
    have HG := Lib.hid (And.intro hbc (And.intro hS hF))
    have HLA := Lib.hid hLA
    clear hbc hS hF hLA
    obtain ⟨t, ht⟩ : ∃ t, t = G.last := ⟨_, rfl⟩
    rw [← ht] at HLA
    have HT := Lib.hid ht
    clear ht
    go_wp2_with fail
    refine Gives.use HLA.out ?_
    intro xs0 d0
    go_upto_region 7 with fail
    refine wp_name ?_
    intro W1 hW1
    have hb1 : Below wc.heap.size wc W1 := by rw [hW1]; exact (by repeat (first | exact below_of_grow _ _ | exact Below.refl _ _ | exact below_more _ _ _ _ | (simp only [← Array.append_assoc]; first | exact below_more _ _ _ _ | exact below_same _ _ _ | exact Below.refl _ _) | exact below_same _ _ _ | (refine Below.alloc ?_ (by first | (simp; done) | (simp; omega)) _) | (refine Below.grow ?_ (by first | (simp; done) | (simp; omega)) _ _) | refine Below.drew ?_ | refine Below.drewN ?_ _ | (refine Below.putF ?_ (by first | (simp; done) | omega | (simp; omega)) _) | (refine Below.setCell ?_ (by first | (simp; done) | (simp; omega)) _)))
    have hbb : Below W0.heap.size W0 W1 := HG.out.1.trans (hb1.mono HG.out.1.size)
    have hk1 : W1.cut? kb 0 25 = some (row8 k.val) := cut_heap ((hbb.block kb (by have := H0.out.2.2.2.1; omega)).trans H0.out.2.1) (by simp)
    have hlk1 : kb + 1 < W1.heap.size := by have := hbb.size; have := H0.out.2.2.2.1; omega
    have hS1 := HG.out.2.1.keep hb1
    have hsh := HG.out.2.2.short (by decide)
    have hrd := fun (W : World) (hb : Below W1.heap.size W1 W) => sread_gives (hS1.keep hb) hsh k t
    obtain ⟨rq, hrq⟩ : ∃ rq, rq = atV (versG G k) t := ⟨_, rfl⟩
    rw [← hrq] at hrd
    obtain ⟨r, is_⟩ := rq
    have HRD := Lib.hid hrd
    have H1 := Lib.hid (And.intro hbb (And.intro hS1 hrq))
    clear hrd hW1 hb1 hbb hS1 hrq hsh HLA
    go_wp2_with fail
    refine Gives.use (HRD.out _ (by repeat (first | exact below_of_grow _ _ | exact Below.refl _ _ | exact below_more _ _ _ _ | (simp only [← Array.append_assoc]; first | exact below_more _ _ _ _ | exact below_same _ _ _ | exact Below.refl _ _) | exact below_same _ _ _ | (refine Below.alloc ?_ (by first | (simp; done) | (simp; omega)) _) | (refine Below.grow ?_ (by first | (simp; done) | (simp; omega)) _ _) | refine Below.drew ?_ | refine Below.drewN ?_ _ | (refine Below.putF ?_ (by first | (simp; done) | omega | (simp; omega)) _) | (refine Below.setCell ?_ (by first | (simp; done) | (simp; omega)) _)))) ?_
    intro xs1 d1
    go_upto_region 8 with fail
    refine wp_name ?_
    intro W2 hW2
    have hb2 : Below W1.heap.size W1 W2 := by rw [hW2]; exact (by repeat (first | exact below_of_grow _ _ | exact Below.refl _ _ | exact below_more _ _ _ _ | (simp only [← Array.append_assoc]; first | exact below_more _ _ _ _ | exact below_same _ _ _ | exact Below.refl _ _) | exact below_same _ _ _ | (refine Below.alloc ?_ (by first | (simp; done) | (simp; omega)) _) | (refine Below.grow ?_ (by first | (simp; done) | (simp; omega)) _ _) | refine Below.drew ?_ | refine Below.drewN ?_ _ | (refine Below.putF ?_ (by first | (simp; done) | omega | (simp; omega)) _) | (refine Below.setCell ?_ (by first | (simp; done) | (simp; omega)) _)))
    obtain ⟨rb, hrb⟩ : ∃ rb, rb = W1.heap.size + xs1.size := ⟨_, rfl⟩
    have hr2 : W2.heap[rb]? = some (.cells (recA r) 55) := by rw [hW2, hrb]; exact (heap_al _ _ _).trans (if_pos (by simp))
    rw [← hrb]
    have hrb1 : W1.heap.size ≤ rb := by rw [hrb]; omega
    have hbb2 : Below W0.heap.size W0 W2 := H1.out.1.trans (hb2.mono H1.out.1.size)
    have hp2 : W2.cut? (kb + 1) 0 26 = some (prefA p dp) := cut_heap ((hbb2.block (kb + 1) (by have := H0.out.2.2.2.1; omega)).trans H0.out.2.2.1) (by simp)
    have hlp2 : kb + 1 < W2.heap.size := Nat.lt_of_lt_of_le hlk1 hb2.size
    have hS2 := H1.out.2.1.keep hb2
    have hrn : rb ∉ G.blocks s := fun hm => by have := H1.out.2.1.lt _ hm; omega
    have HSC := Lib.hid (scan_calls p dp (W := W2) hS2 (HG.out.2.2.short (by decide)) (by have := HG.out.2.2.lvs; omega) t 50)
    have H2 := Lib.hid (And.intro hbb2 (And.intro hS2 (And.intro hr2 hrn)))
    clear hW2 hb2 hrb hr2 hbb2 hS2 hrn hrb1 HRD hk1 hlk1
    go_wp2_with fail
    refine HSC.out.mono ?_
    rintro e W3 ⟨ev, rfl, ho3, hb3⟩
    obtain ⟨es, hes⟩ : ∃ es, es = (scanE G t (prefL p dp G.R)).take (50 : Int).toNat := ⟨_, rfl⟩
    rw [← hes] at ho3
    obtain ⟨ea, ec, rfl, hec, hem⟩ := ho3.form
    rw [List.length_map] at *
    have hr3 := (hb3.block rb (lt_of_heap H2.out.2.2.1)).trans H2.out.2.2.1
    have hS3 := H2.out.2.1.keep hb3
    have hout : OutS s G (.slice ea es.length ec) := out_own ho3 H2.out.2.1
    have H3 := Lib.hid (And.intro (H2.out.1.trans (hb3.mono H2.out.1.size)) (And.intro hS3 (And.intro hr3 (And.intro H2.out.2.2.2 (And.intro ho3.sl (And.intro hout hes))))))
    clear ho3 hb3 hr3 hS3 hout hes HSC hp2 hlp2 hsl
    have hmI : (es.length : Int) ≤ maxLen := by omega
    unfold maxLen at hmI
    clear hem
    go_wp2_with fail
    go_loopw [16] (fun s16 wr => ∃ i : Nat, i ≤ ys.length ∧ i ≤ 12 ∧ s16 = .int .i64 i ∧ Hid (Below W0.heap.size W0 wr ∧ ∃ G', StoreAt wr W0.heap.size s G' ∧ Fine3 (12 + i) G' ∧ t.toNat ≤ G'.last.toNat ∧ (∀ j, atV (versG G' j) t = atV (versG G j) t) ∧ wr.heap[rb]? = some (.cells (recA r) 55) ∧ rb ∉ G'.blocks s ∧ SlA wr wr.heap.size 34 (.slice ea es.length ec) (es.map entA) ∧ OutS s G' (.slice ea es.length ec))) (fun s16 _ => 12 - (intOf s16).toNat)
    case atStart => exact ⟨0, Nat.zero_le _, Nat.zero_le _, rfl, Lib.hid ⟨H3.out.1, G, H3.out.2.1, HG.out.2.2, by rw [HT.out]; exact Nat.le_refl _, fun _ => rfl, H3.out.2.2.1, H3.out.2.2.2.1, H3.out.2.2.2.2.1, H3.out.2.2.2.2.2.1⟩⟩
    case round =>
      obtain ⟨i, hi, hi12, rfl, HR⟩ := hrel
      by_cases hli : i < ys.length
      · have hliI : (i : Int) < ys.length := by omega
        by_cases h12 : i < 12
        · have h12I : (i : Int) < 12 := by omega
          obtain ⟨hbr, G1, hS, hF, hl1, hv1, hr1, hn1, hsl1, hou1⟩ := HR.out
          clear HR
          have hbw : Below w.heap.size w wr := H0.out.1.trans (hbr.mono H0.out.1.size)
          obtain ⟨_, a3, cap3, he, _, _, hc⟩ := HYS.out.below hbw
          simp only [Value.slice.injEq, true_and] at he
          obtain ⟨rfl, rfl⟩ := he
          obtain ⟨g, q, rfl, hlb, hcut⟩ := hc (by omega)
          have hcutk := hcut i ys[i] (by simp [hli])
          obtain ⟨lv, l, hlv, hsl⟩ := HVS.out ys[i] (List.getElem_mem hli)
          have hsz := hbw.size
          have hgr : g < wr.heap.size := by omega
          have hcell : wr.cell? ⟨g, q + i * 28 + 27, none⟩ = some lv := ((cut_spec hcutk).2 27 (by decide)).trans hlv
          have HCUT := Lib.hid (cut_calls l lv wr ((hsl.below hbw).more hsz))
          have HGR := Lib.hid (And.intro hbr (And.intro hS (And.intro hF (And.intro hl1 (And.intro hv1 (And.intro hr1 (And.intro hn1 (And.intro hsl1 hou1))))))))
          clear hcut hc hcutk hlv hsl hbr hS hF hl1 hv1 hr1 hn1 hsl1 hou1 hbw hsz
          go_wp2_with fail
          refine HCUT.out.mono ?_
          rintro e W4 ⟨lv2, rfl, hb4, ho4⟩
          have hS4 := HGR.out.2.1.keep hb4
          have HPUB := Lib.hid (pub_any3 (n := 12 + i) (by omega) hS4 HGR.out.2.2.1 lv2 (cutW l) ho4.sl (out_own ho4 HGR.out.2.1))
          have hr4 := (hb4.block rb (lt_of_heap HGR.out.2.2.2.2.2.1)).trans HGR.out.2.2.2.2.2.1
          have hsl4 := (HGR.out.2.2.2.2.2.2.2.1.below hb4).more hb4.size
          have H4 := Lib.hid (And.intro (HGR.out.1.trans (hb4.mono HGR.out.1.size)) (And.intro hS4 (And.intro hr4 hsl4)))
          clear hb4 ho4 hS4 hr4 hsl4 HCUT hcell
          go_wp2_with fail
          refine HPUB.out.mono ?_
          rintro e W5 ⟨⟨r1, r2, rfl⟩, G5, hS5, hE5, hF5, hl5, hv5⟩
          have hbb5 : Below W0.heap.size W0 W5 := H4.out.1.trans (hE5.below H4.out.2.1)
          have hr5 := hE5.out (lt_of_heap H4.out.2.2.1) HGR.out.2.2.2.2.2.2.1
          have hsl5 := SlA.evo H4.out.2.2.2 HGR.out.2.2.2.2.2.2.2.2 hE5
          have hat5 : ∀ j, atV (versG G5 j) t = atV (versG G j) t := fun j => (hv5 j t HGR.out.2.2.2.1).trans (HGR.out.2.2.2.2.1 j)
          have hk5 : W5.cut? kb 0 25 = some (row8 k.val) := cut_heap ((hbb5.block kb (by have := H0.out.2.2.2.1; omega)).trans H0.out.2.1) (by simp)
          have hlk5 : kb < W5.heap.size := by have := hbb5.size; have := H0.out.2.2.2.1; omega
          have hrd := fun (W : World) (hb : Below W5.heap.size W5 W) => sread_gives (hS5.keep hb) (hF5.short (by omega)) k t
          rw [hat5, ← H1.out.2.2] at hrd
          have HRD := Lib.hid hrd
          have H5 := Lib.hid (And.intro hbb5 (And.intro hS5 (And.intro hF5 (And.intro (show t.toNat ≤ G5.last.toNat from Nat.le_trans HGR.out.2.2.2.1 hl5) (And.intro hat5 (And.intro (hr5.1.trans H4.out.2.2.1) (And.intro hr5.2 hsl5)))))))
          clear hbb5 hS5 hE5 hF5 hl5 hv5 hr5 hsl5 hat5 hrd HPUB HGR H4
          go_wp2_with fail
          refine Gives.use (HRD.out _ (by repeat (first | exact below_of_grow _ _ | exact Below.refl _ _ | exact below_more _ _ _ _ | (simp only [← Array.append_assoc]; first | exact below_more _ _ _ _ | exact below_same _ _ _ | exact Below.refl _ _) | exact below_same _ _ _ | (refine Below.alloc ?_ (by first | (simp; done) | (simp; omega)) _) | (refine Below.grow ?_ (by first | (simp; done) | (simp; omega)) _ _) | refine Below.drew ?_ | refine Below.drewN ?_ _ | (refine Below.putF ?_ (by first | (simp; done) | omega | (simp; omega)) _) | (refine Below.setCell ?_ (by first | (simp; done) | (simp; omega)) _)))) ?_
          intro xs6 d6
          go_upto_region 14 with fail
          refine wp_name ?_
          intro W6 hW6
          have hb6 : Below W5.heap.size W5 W6 := by rw [hW6]; exact (by repeat (first | exact below_of_grow _ _ | exact Below.refl _ _ | exact below_more _ _ _ _ | (simp only [← Array.append_assoc]; first | exact below_more _ _ _ _ | exact below_same _ _ _ | exact Below.refl _ _) | exact below_same _ _ _ | (refine Below.alloc ?_ (by first | (simp; done) | (simp; omega)) _) | (refine Below.grow ?_ (by first | (simp; done) | (simp; omega)) _ _) | refine Below.drew ?_ | refine Below.drewN ?_ _ | (refine Below.putF ?_ (by first | (simp; done) | omega | (simp; omega)) _) | (refine Below.setCell ?_ (by first | (simp; done) | (simp; omega)) _)))
          obtain ⟨xb, hxb⟩ : ∃ xb, xb = W5.heap.size + xs6.size := ⟨_, rfl⟩
          have hx6 : W6.heap[xb]? = some (.cells (recA r) 55) := by rw [hW6, hxb]; exact (heap_al _ _ _).trans (if_pos (by simp))
          rw [← hxb]
          have hbb6 : Below W0.heap.size W0 W6 := H5.out.1.trans (hb6.mono H5.out.1.size)
          have hp6 : W6.cut? (kb + 1) 0 26 = some (prefA p dp) := cut_heap ((hbb6.block (kb + 1) (by have := H0.out.2.2.2.1; omega)).trans H0.out.2.2.1) (by simp)
          have hlp6 : kb + 1 < W6.heap.size := by have := hbb6.size; have := H0.out.2.2.2.1; omega
          have hS6 := H5.out.2.1.keep hb6
          have hr6 := (hb6.block rb (lt_of_heap H5.out.2.2.2.2.2.1)).trans H5.out.2.2.2.2.2.1
          have hsc := scan_calls p dp (W := W6) hS6 (H5.out.2.2.1.short (by omega)) (by have := H5.out.2.2.1.lvs; omega) t 50
          rw [scan_stays HG.out.2.1 hS6 p dp t H5.out.2.2.2.2.1, ← H3.out.2.2.2.2.2.2] at hsc
          have HSC := Lib.hid hsc
          have H6 := Lib.hid (And.intro hbb6 (And.intro hS6 (And.intro hr6 (And.intro hx6 ((H5.out.2.2.2.2.2.2.2.1.below hb6).more hb6.size)))))
          clear hW6 hb6 hxb hx6 hbb6 hS6 hr6 hsc HRD hk5 hlk5
          go_wp2_with fail
          refine HSC.out.mono ?_
          rintro e W7 ⟨nv, rfl, ho7, hb7⟩
          obtain ⟨na, nc, rfl, -, -⟩ := ho7.form
          rw [List.length_map] at *
          have hr7 := (hb7.block rb (lt_of_heap H6.out.2.2.1)).trans H6.out.2.2.1
          have hx7 := (hb7.block xb (lt_of_heap H6.out.2.2.2.1)).trans H6.out.2.2.2.1
          have cr7 : W7.cut? rb 0 9 = some (recA r) := cut_heap hr7 (by simp)
          have cx7 : W7.cut? xb 0 9 = some (recA r) := cut_heap hx7 (by simp)
          have lr7 := lt_of_heap hr7
          have lx7 := lt_of_heap hx7
          have hsl7 := (H6.out.2.2.2.2.below hb7).more hb7.size
          have H7 := Lib.hid (And.intro (H6.out.1.trans (hb7.mono H6.out.1.size)) (And.intro (H6.out.2.1.keep hb7) (And.intro hr7 (And.intro hsl7 ho7.sl))))
          clear hb7 hr7 hx7 hsl7 ho7 HSC hp6 hlp6
          go_wp2_with fail
          go_loopw [21] (fun s21 wq => ∃ j : Nat, j ≤ es.length ∧ s21 = .int .i64 j ∧ ∃ xs d, wq = W7.grow xs d) (fun s21 _ => es.length - (intOf s21).toNat)
          case atStart => exact ⟨0, Nat.zero_le _, rfl, #[], W7.drawn, World.grow_nil.symm⟩
          case round =>
            obtain ⟨j, hj, rfl, xs9, d9, rfl⟩ := hrel
            by_cases hlj : j < es.length
            · have hljI : (j : Int) < es.length := by omega
              obtain ⟨_, a5, c5, he, _, _, hcA⟩ := H7.out.2.2.2.1
              simp only [Value.slice.injEq, List.length_map, true_and] at he
              obtain ⟨rfl, rfl⟩ := he
              obtain ⟨g5, q5, rfl, hlb5, hcut5⟩ := hcA (by simp; omega)
              have hcut5 := hcut5 j (entA es[j]) (by simp [hlj])
              obtain ⟨_, a6, c6, he, _, _, hcB⟩ := H7.out.2.2.2.2
              simp only [Value.slice.injEq, List.length_map, true_and] at he
              obtain ⟨rfl, rfl⟩ := he
              obtain ⟨g6, q6, rfl, hlb6, hcut6⟩ := hcB (by simp; omega)
              have hcut6 := hcut6 j (entA es[j]) (by simp [hlj])
              generalize es[j] = e5 at *
              clear hcA hcB
              go_wp2_with fail
              apply wp_region_specs (by rfl) [.val _, .val _, .val _, .val _, .val _, .val _, .val _, .val _, .val _] 9 (by rfl) [110, 111, 112, 113, 114, 115, 116, 117, 118] [] [] (by rfl) (by rfl) (by decide) (by decide +kernel) (fun _ _ _ _ _ h => h)
              case hF => intro x; simp only [over, List.foldl_cons, List.foldl_nil, List.setIfInBounds_toArray, List.set_cons_succ, List.set_cons_zero]; exact rfl
              case hops =>
                refine ⟨?o0, ?o1, ?o2, ?o3, ?o4, ?o5, ?o6, ?o7, ?o8, trivial⟩
                case o0 =>
                  intro x w1 hH K hK
                  obtain ⟨xs, d, rfl⟩ := grow_of_below hH.below
                  clear hH
                  try simp only [World.grow_drew] at hK ⊢
                  try simp only [World.grow_grow] at hK ⊢
                  go_simp
                  go_wp2_with fail
                  exact ⟨_, rfl, rfl, (by repeat (first | exact below_of_grow _ _ | exact Below.refl _ _ | exact below_more _ _ _ _ | (simp only [← Array.append_assoc]; first | exact below_more _ _ _ _ | exact below_same _ _ _ | exact Below.refl _ _) | exact below_same _ _ _ | (refine Below.alloc ?_ (by first | (simp; done) | (simp; omega)) _) | (refine Below.grow ?_ (by first | (simp; done) | (simp; omega)) _ _) | refine Below.drew ?_ | refine Below.drewN ?_ _ | (refine Below.putF ?_ (by first | (simp; done) | omega | (simp; omega)) _) | (refine Below.setCell ?_ (by first | (simp; done) | (simp; omega)) _))), fun h => by cases h⟩
                case o1 =>
                  intro x w1 hH K hK
                  obtain ⟨xs, d, rfl⟩ := grow_of_below hH.below
                  clear hH
                  try simp only [World.grow_drew] at hK ⊢
                  try simp only [World.grow_grow] at hK ⊢
                  go_simp
                  go_wp2_with fail
                  exact ⟨_, rfl, rfl, (by repeat (first | exact below_of_grow _ _ | exact Below.refl _ _ | exact below_more _ _ _ _ | (simp only [← Array.append_assoc]; first | exact below_more _ _ _ _ | exact below_same _ _ _ | exact Below.refl _ _) | exact below_same _ _ _ | (refine Below.alloc ?_ (by first | (simp; done) | (simp; omega)) _) | (refine Below.grow ?_ (by first | (simp; done) | (simp; omega)) _ _) | refine Below.drew ?_ | refine Below.drewN ?_ _ | (refine Below.putF ?_ (by first | (simp; done) | omega | (simp; omega)) _) | (refine Below.setCell ?_ (by first | (simp; done) | (simp; omega)) _))), fun h => by cases h⟩
                case o2 =>
                  intro x w1 hH K hK
                  have e110 : x 110 = _ := hH.holds 0 (by decide) (by decide +kernel) 110 rfl
                  have e111 : x 111 = _ := hH.holds 1 (by decide) (by decide +kernel) 111 rfl
                  obtain ⟨xs, d, rfl⟩ := grow_of_below hH.below
                  clear hH
                  try simp only [World.grow_drew] at hK ⊢
                  try simp only [World.grow_grow] at hK ⊢
                  simp only [e110, e111] at hK ⊢
                  clear e110 e111
                  go_simp
                  go_wp2_with fail
                  exact ⟨_, rfl, rfl, (by repeat (first | exact below_of_grow _ _ | exact Below.refl _ _ | exact below_more _ _ _ _ | (simp only [← Array.append_assoc]; first | exact below_more _ _ _ _ | exact below_same _ _ _ | exact Below.refl _ _) | exact below_same _ _ _ | (refine Below.alloc ?_ (by first | (simp; done) | (simp; omega)) _) | (refine Below.grow ?_ (by first | (simp; done) | (simp; omega)) _ _) | refine Below.drew ?_ | refine Below.drewN ?_ _ | (refine Below.putF ?_ (by first | (simp; done) | omega | (simp; omega)) _) | (refine Below.setCell ?_ (by first | (simp; done) | (simp; omega)) _))), fun h => by cases h⟩
                case o3 =>
                  intro x w1 hH K hK
                  have e112 : x 112 = _ := hH.holds 2 (by decide) (by decide +kernel) 112 rfl
                  obtain ⟨xs, d, rfl⟩ := grow_of_below hH.below
                  clear hH
                  try simp only [World.grow_drew] at hK ⊢
                  try simp only [World.grow_grow] at hK ⊢
                  simp only [e112] at hK ⊢
                  clear e112
                  go_simp
                  go_wp2_with fail
                  exact ⟨_, rfl, rfl, (by repeat (first | exact below_of_grow _ _ | exact Below.refl _ _ | exact below_more _ _ _ _ | (simp only [← Array.append_assoc]; first | exact below_more _ _ _ _ | exact below_same _ _ _ | exact Below.refl _ _) | exact below_same _ _ _ | (refine Below.alloc ?_ (by first | (simp; done) | (simp; omega)) _) | (refine Below.grow ?_ (by first | (simp; done) | (simp; omega)) _ _) | refine Below.drew ?_ | refine Below.drewN ?_ _ | (refine Below.putF ?_ (by first | (simp; done) | omega | (simp; omega)) _) | (refine Below.setCell ?_ (by first | (simp; done) | (simp; omega)) _))), fun h => by cases h⟩
                case o4 =>
                  intro x w1 hH K hK
                  obtain ⟨xs, d, rfl⟩ := grow_of_below hH.below
                  clear hH
                  try simp only [World.grow_drew] at hK ⊢
                  try simp only [World.grow_grow] at hK ⊢
                  go_simp
                  go_wp2_with fail
                  exact ⟨_, rfl, rfl, (by repeat (first | exact below_of_grow _ _ | exact Below.refl _ _ | exact below_more _ _ _ _ | (simp only [← Array.append_assoc]; first | exact below_more _ _ _ _ | exact below_same _ _ _ | exact Below.refl _ _) | exact below_same _ _ _ | (refine Below.alloc ?_ (by first | (simp; done) | (simp; omega)) _) | (refine Below.grow ?_ (by first | (simp; done) | (simp; omega)) _ _) | refine Below.drew ?_ | refine Below.drewN ?_ _ | (refine Below.putF ?_ (by first | (simp; done) | omega | (simp; omega)) _) | (refine Below.setCell ?_ (by first | (simp; done) | (simp; omega)) _))), fun h => by cases h⟩
                case o5 =>
                  intro x w1 hH K hK
                  obtain ⟨xs, d, rfl⟩ := grow_of_below hH.below
                  clear hH
                  try simp only [World.grow_drew] at hK ⊢
                  try simp only [World.grow_grow] at hK ⊢
                  go_simp
                  go_wp2_with fail
                  exact ⟨_, rfl, rfl, (by repeat (first | exact below_of_grow _ _ | exact Below.refl _ _ | exact below_more _ _ _ _ | (simp only [← Array.append_assoc]; first | exact below_more _ _ _ _ | exact below_same _ _ _ | exact Below.refl _ _) | exact below_same _ _ _ | (refine Below.alloc ?_ (by first | (simp; done) | (simp; omega)) _) | (refine Below.grow ?_ (by first | (simp; done) | (simp; omega)) _ _) | refine Below.drew ?_ | refine Below.drewN ?_ _ | (refine Below.putF ?_ (by first | (simp; done) | omega | (simp; omega)) _) | (refine Below.setCell ?_ (by first | (simp; done) | (simp; omega)) _))), fun h => by cases h⟩
                case o6 =>
                  intro x w1 hH K hK
                  have e114 : x 114 = _ := hH.holds 4 (by decide) (by decide +kernel) 114 rfl
                  have e115 : x 115 = _ := hH.holds 5 (by decide) (by decide +kernel) 115 rfl
                  obtain ⟨xs, d, rfl⟩ := grow_of_below hH.below
                  clear hH
                  try simp only [World.grow_drew] at hK ⊢
                  try simp only [World.grow_grow] at hK ⊢
                  simp only [e114, e115] at hK ⊢
                  clear e114 e115
                  go_simp
                  go_wp2_with fail
                  exact ⟨_, rfl, rfl, (by repeat (first | exact below_of_grow _ _ | exact Below.refl _ _ | exact below_more _ _ _ _ | (simp only [← Array.append_assoc]; first | exact below_more _ _ _ _ | exact below_same _ _ _ | exact Below.refl _ _) | exact below_same _ _ _ | (refine Below.alloc ?_ (by first | (simp; done) | (simp; omega)) _) | (refine Below.grow ?_ (by first | (simp; done) | (simp; omega)) _ _) | refine Below.drew ?_ | refine Below.drewN ?_ _ | (refine Below.putF ?_ (by first | (simp; done) | omega | (simp; omega)) _) | (refine Below.setCell ?_ (by first | (simp; done) | (simp; omega)) _))), fun h => by cases h⟩
                case o7 =>
                  intro x w1 hH K hK
                  have e116 : x 116 = _ := hH.holds 6 (by decide) (by decide +kernel) 116 rfl
                  obtain ⟨xs, d, rfl⟩ := grow_of_below hH.below
                  clear hH
                  try simp only [World.grow_drew] at hK ⊢
                  try simp only [World.grow_grow] at hK ⊢
                  simp only [e116] at hK ⊢
                  clear e116
                  go_simp
                  go_wp2_with fail
                  exact ⟨_, rfl, rfl, (by repeat (first | exact below_of_grow _ _ | exact Below.refl _ _ | exact below_more _ _ _ _ | (simp only [← Array.append_assoc]; first | exact below_more _ _ _ _ | exact below_same _ _ _ | exact Below.refl _ _) | exact below_same _ _ _ | (refine Below.alloc ?_ (by first | (simp; done) | (simp; omega)) _) | (refine Below.grow ?_ (by first | (simp; done) | (simp; omega)) _ _) | refine Below.drew ?_ | refine Below.drewN ?_ _ | (refine Below.putF ?_ (by first | (simp; done) | omega | (simp; omega)) _) | (refine Below.setCell ?_ (by first | (simp; done) | (simp; omega)) _))), fun h => by cases h⟩
                case o8 =>
                  intro x w1 hH K hK
                  have e113 : x 113 = _ := hH.holds 3 (by decide) (by decide +kernel) 113 rfl
                  have e117 : x 117 = _ := hH.holds 7 (by decide) (by decide +kernel) 117 rfl
                  obtain ⟨xs, d, rfl⟩ := grow_of_below hH.below
                  clear hH
                  try simp only [World.grow_drew] at hK ⊢
                  try simp only [World.grow_grow] at hK ⊢
                  simp only [e113, e117] at hK ⊢
                  clear e113 e117
                  go_simp
                  go_wp2_with fail
                  exact ⟨_, rfl, rfl, (by repeat (first | exact below_of_grow _ _ | exact Below.refl _ _ | exact below_more _ _ _ _ | (simp only [← Array.append_assoc]; first | exact below_more _ _ _ _ | exact below_same _ _ _ | exact Below.refl _ _) | exact below_same _ _ _ | (refine Below.alloc ?_ (by first | (simp; done) | (simp; omega)) _) | (refine Below.grow ?_ (by first | (simp; done) | (simp; omega)) _ _) | refine Below.drew ?_ | refine Below.drewN ?_ _ | (refine Below.putF ?_ (by first | (simp; done) | omega | (simp; omega)) _) | (refine Below.setCell ?_ (by first | (simp; done) | (simp; omega)) _))), fun h => by cases h⟩
              case hend =>
                intro x w1 hH
                have e110 : x 110 = _ := hH.holds 0 (by decide) trivial 110 rfl
                have e111 : x 111 = _ := hH.holds 1 (by decide) trivial 111 rfl
                have e112 : x 112 = _ := hH.holds 2 (by decide) trivial 112 rfl
                have e113 : x 113 = _ := hH.holds 3 (by decide) trivial 113 rfl
                have e114 : x 114 = _ := hH.holds 4 (by decide) trivial 114 rfl
                have e115 : x 115 = _ := hH.holds 5 (by decide) trivial 115 rfl
                have e116 : x 116 = _ := hH.holds 6 (by decide) trivial 116 rfl
                have e117 : x 117 = _ := hH.holds 7 (by decide) trivial 117 rfl
                have e118 : x 118 = _ := hH.holds 8 (by decide) trivial 118 rfl
                obtain ⟨xs, d, rfl⟩ := grow_of_below hH.below
                clear hH
                simp only [e110, e111, e112, e113, e114, e115, e116, e117, e118]; clear e110 e111 e112 e113 e114 e115 e116 e117 e118
                simp only [List.drop_succ_cons, List.drop_nil]
                go_wp2_with fail
                go_roundw
                case rel => exact ⟨j + 1, by omega, by go_num, _, _, rfl⟩
                case measure => simp [intOf]; omega
            · obtain rfl : j = es.length := by omega
              have hljI : ¬ (es.length : Int) < es.length := by omega
              go_wp2_with fail
              go_roundw
              case rel =>
                have hb9 : Below W7.heap.size W7 (W7.grow xs9 d9) := below_of_grow _ _
                have hS5' := H7.out.2.1
                exact ⟨i + 1, by omega, by omega, by go_num, Lib.hid ⟨H7.out.1.trans (hb9.mono H7.out.1.size), G5, hS5'.keep hb9, by have := H5.out.2.2.1; rwa [show 12 + (i + 1) = 12 + i + 1 by omega], H5.out.2.2.2.1, H5.out.2.2.2.2.1, (World.grow_heap _ _ _ (lt_of_heap H7.out.2.2.1)).trans H7.out.2.2.1, H5.out.2.2.2.2.2.2.1, (H7.out.2.2.2.1.below hb9).more hb9.size, H5.out.2.2.2.2.2.2.2.2⟩⟩
              case measure => simp [intOf]; omega
        · have h12e : i = 12 := by omega
          have h12I : ¬ (i : Int) < 12 := by omega
          have hbr := HR.out.1
          subst h12e
          go_wp2_with fail
          refine Gives.use (HKN.out _) ?_
          intro xs5 d5
          go_wp2_with fail
          go_ret
          exact ⟨rfl, (H0.out.1.trans (hbr.mono H0.out.1.size)).trans ((show Below wr.heap.size wr _ from (by repeat (first | exact below_of_grow _ _ | exact Below.refl _ _ | exact below_more _ _ _ _ | (simp only [← Array.append_assoc]; first | exact below_more _ _ _ _ | exact below_same _ _ _ | exact Below.refl _ _) | exact below_same _ _ _ | (refine Below.alloc ?_ (by first | (simp; done) | (simp; omega)) _) | (refine Below.grow ?_ (by first | (simp; done) | (simp; omega)) _ _) | refine Below.drew ?_ | refine Below.drewN ?_ _ | (refine Below.putF ?_ (by first | (simp; done) | omega | (simp; omega)) _) | (refine Below.setCell ?_ (by first | (simp; done) | (simp; omega)) _)))).mono (by have := hbr.size; have := H0.out.1.size; omega))⟩
      · have hgn : ¬ (i : Int) < ys.length := by omega
        have hbr := HR.out.1
        go_wp2_with fail
        refine Gives.use (HKN.out _) ?_
        intro xs5 d5
        go_wp2_with fail
        go_ret
        exact ⟨rfl, (H0.out.1.trans (hbr.mono H0.out.1.size)).trans ((show Below wr.heap.size wr _ from (by repeat (first | exact below_of_grow _ _ | exact Below.refl _ _ | exact below_more _ _ _ _ | (simp only [← Array.append_assoc]; first | exact below_more _ _ _ _ | exact below_same _ _ _ | exact Below.refl _ _) | exact below_same _ _ _ | (refine Below.alloc ?_ (by first | (simp; done) | (simp; omega)) _) | (refine Below.grow ?_ (by first | (simp; done) | (simp; omega)) _ _) | refine Below.drew ?_ | refine Below.drewN ?_ _ | (refine Below.putF ?_ (by first | (simp; done) | omega | (simp; omega)) _) | (refine Below.setCell ?_ (by first | (simp; done) | (simp; omega)) _)))).mono (by have := hbr.size; have := H0.out.1.size; omega))⟩
end Go.Proofs.YtfgpcflegodlmaaGreatDoor
namespace Go.Proofs.YtfgpcflegodlmaaGreatDoor
set_option maxRecDepth 100000
open Go.RowKit

theorem storeStays_law (w : World) (v0 v1 v2 v3 : Value) (h0 : Reads Tryz.prog w 31 v0) (h1 : Reads Tryz.prog w 31 v1) (h2 : Reads Tryz.prog w 44 v2) (h3 : Reads Tryz.prog w 52 v3) :
    Gives Tryz.prog 6 #[v0, v1, v2, v3] w (.bool true) := by
  obtain ⟨xs, hx, hw⟩ := acts14_read h0
  obtain ⟨ys, hy, hv⟩ := acts14_read h1
  obtain ⟨k, rfl⟩ := key_read h2
  obtain ⟨p, dp, rfl⟩ := pref_read h3
  exact stays_walk v0 v1 xs ys w hx hw hy hv k p dp

namespace storeStays
open Go.ChangeShapes Go.WideShapes Go.ChangeAt Go.RowKit
open Go.ChangeMaps (open_string shut_string)
theorem own : ownKnob Tryz.prog.godebug = none := by kernel_rfl
theorem laidOut : laidOutB Tryz.prog = true := by kernel_rfl
/-- a world in which the listed variables hold what the row says -/
noncomputable def laidW (os : Os) : World := World.laidAll Tryz.prog os Rows.storeStaysRow.laid
set_option maxRecDepth 100000 in
theorem door_met (os : Os) (args : Array Value) : laidMetH Tryz.prog Rows.storeStaysRow.laid ((laidW os).forCall (fun _ _ => 0) ⟨#[], args, []⟩).memory := by
  rw [MakeChecks.laidMetH_plain _ _ _ (by kernel_rfl)]
  exact laidMet_laidAll args (by kernel_rfl) (by kernel_rfl)
set_option maxRecDepth 100000 in
theorem lifted (os : Os) (started : os.Started) (H : Type) (enc : TypeId × Value → H) :
    ReturnsInHanded {} Tryz.checked os 6 .any (fun w args => (Rows.storeStaysSpec.pre enc Tryz.prog Tryz.f6 Rows.storeStaysRow.domain false w args ∧ laidMetH Tryz.prog Rows.storeStaysRow.laid w) ∧ sizedMet enc Tryz.prog Tryz.f6 (OpenSpec.ofChange Rows.storeStaysSpec) false w args) (Rows.storeStaysSpec.post enc Tryz.prog Tryz.f6 false true false false) := by
  refine returnsInHanded_of_change_and (C := Tryz.checked) (X := fun w _ => laidMetH Tryz.prog Rows.storeStaysRow.laid w) (fun _ _ _ hh h => h.of_heap hh) own started (by kernel_rfl) Tryz.func6
    (ChangeSpec.witness_shaped (enc := enc) (C := Tryz.checked) (os := os) (X := fun w _ => laidMetH Tryz.prog Rows.storeStaysRow.laid w) false (laidW os) #[.slice none 0 0, .slice none 0 0, .agg #[.int .u8 0, .int .u8 0, .int .u8 0, .int .u8 0, .int .u8 0, .int .u8 0, .int .u8 0, .int .u8 0, .int .u8 0, .int .u8 0, .int .u8 0, .int .u8 0, .int .u8 0, .int .u8 0, .int .u8 0, .int .u8 0, .int .u8 0, .int .u8 0, .int .u8 0, .int .u8 0, .int .u8 0, .int .u8 0, .int .u8 0, .int .u8 0, .int .u8 0], .agg #[.int .u8 0, .int .u8 0, .int .u8 0, .int .u8 0, .int .u8 0, .int .u8 0, .int .u8 0, .int .u8 0, .int .u8 0, .int .u8 0, .int .u8 0, .int .u8 0, .int .u8 0, .int .u8 0, .int .u8 0, .int .u8 0, .int .u8 0, .int .u8 0, .int .u8 0, .int .u8 0, .int .u8 0, .int .u8 0, .int .u8 0, .int .u8 0, .int .u8 0, .int .i64 0]] 8 (World.laidAll_os _ _ _) (World.shaped_of_ZipB (by kernel_rfl) (by kernel_rfl)) (by kernel_rfl) (by kernel_rfl) (by kernel_rfl) (door_met os _)) ?_
  intro W base args ds gs before hval0 hW _ _ _ _
  have hval : ∀ (j : Nat) t v, Tryz.f6.params[j]? = some t → args[j]? = some v → Value.okWide Tryz.prog W .any base t v := hval0
  have hW' := hW
  obtain ⟨p, q, hA0, hV, rfl, hfz, hnd⟩ := hW
  have hA : DataW.TrodAll enc Tryz.prog W 0 (fun _ => true) true Tryz.f6.params.toList args.toList ds p := hA0
  rw [Tryz.params6] at hA hval
  obtain ⟨v0, vs0, d0, ds0, p0, q0, hargs, rfl, rfl, h0, r0⟩ := trodAll_cons hA
  obtain ⟨v1, vs1, d1, ds1, p1, q1, rfl, rfl, rfl, h1, r1⟩ := trodAll_cons r0
  obtain ⟨v2, vs2, d2, ds2, p2, q2, rfl, rfl, rfl, h2, r2⟩ := trodAll_cons r1
  obtain ⟨v3, vs3, d3, ds3, p3, q3, rfl, rfl, rfl, h3, r3⟩ := trodAll_cons r2
  obtain ⟨rfl, rfl, rfl⟩ := trodAll_nil r3
  obtain rfl : args = #[v0, v1, v2, v3] := by cases args; simp_all
  obtain ⟨rfl, rfl⟩ := trodVars_none hV
  have lt0 : ∀ x ∈ p0, x.block < W.heap.size := by obtain ⟨m, hm⟩ := h0; exact DataW.trod_lt m _ _ _ hm
  have lt1 : ∀ x ∈ p1, x.block < W.heap.size := by obtain ⟨m, hm⟩ := h1; exact DataW.trod_lt m _ _ _ hm
  have lt2 : ∀ x ∈ p2, x.block < W.heap.size := by obtain ⟨m, hm⟩ := h2; exact DataW.trod_lt m _ _ _ hm
  have lt3 : ∀ x ∈ p3, x.block < W.heap.size := by obtain ⟨m, hm⟩ := h3; exact DataW.trod_lt m _ _ _ hm
  clear hA0 hval0
  refine Calls.mono (storeStays_law W v0 v1 v2 v3 ⟨⟨_, hval 0 31 v0 rfl rfl⟩, H, enc, _, _, h0⟩ ⟨⟨_, hval 1 31 v1 rfl rfl⟩, H, enc, _, _, h1⟩ ⟨⟨_, hval 2 44 v2 rfl rfl⟩, H, enc, _, _, h2⟩ ⟨⟨_, hval 3 52 v3 rfl rfl⟩, H, enc, _, _, h3⟩) fun e W' ⟨he, bel⟩ => ?_
  subst he
  exact ⟨_, rfl, _, _, _, [], _, [], hW', trodAll_mk1 (shut_bool Tryz.underlying4 _), (trodAll_cons_mk (Below.trod laidOut (by kernel_rfl) (of_decide_eq_true (by kernel_rfl)) h0 bel lt0) (trodAll_cons_mk (Below.trod laidOut (by kernel_rfl) (of_decide_eq_true (by kernel_rfl)) h1 bel lt1) (trodAll_cons_mk (Below.trod laidOut (by kernel_rfl) (of_decide_eq_true (by kernel_rfl)) h2 bel lt2) (trodAll_cons_mk (Below.trod laidOut (by kernel_rfl) (of_decide_eq_true (by kernel_rfl)) h3 bel lt3) trodAll_mk0)))), rfl, bel.frame _, fun h => by cases h⟩
theorem said : Rows.StoreStaysSaid :=
  OpenClaim.holds_of_wide 6 Tryz.f6 rfl rfl rfl rfl rfl rfl rfl ⟨rfl, rfl, rfl, rfl, rfl⟩ rfl rfl rfl rfl rfl (by kernel_rfl) Tryz.func6 (by kernel_rfl)
    (of_decide_eq_true (by kernel_rfl)) (by unfold Func.isWrapper; first | (rw [if_pos (by decide +kernel)]; kernel_rfl) | (rw [if_neg (by decide +kernel)]; exact ⟨rfl, rfl⟩))
    (fun os started H enc _ => lifted os started H enc)
/-- no parameter wants a stand-in; the program's own looks are off -/
theorem plain (f : FuncId) (fn : Func) (hf : Tryz.pinned.checked.prog.funcNamed "vulgate/vulgatelaw14.StoreStays" = some f) (hfn : Tryz.pinned.checked.prog.funcs[f]? = some fn) :
    false = Tryz.pinned.checked.prog.looks [] ∧ ∀ (j : Nat) t, fn.params[j]? = some t → Tryz.pinned.checked.prog.wantsStandIn t = false := by
  obtain rfl : f = 6 := Option.some.inj ((show Tryz.prog.funcNamed "vulgate/vulgatelaw14.StoreStays" = some 6 by kernel_rfl).symm.trans hf) |>.symm
  obtain rfl : fn = Tryz.f6 := (Option.some.inj (Tryz.func6.symm.trans hfn)).symm
  refine ⟨by kernel_rfl, fun j t ht => ?_⟩
  rw [Tryz.params6] at ht
  have hm : t ∈ [31, 31, 44, 52] := by simpa using Array.mem_of_getElem? ht
  have hall : ([31, 31, 44, 52].all fun u => !Tryz.prog.wantsStandIn u) = true := by kernel_rfl
  exact (show Tryz.prog.wantsStandIn t = false by simpa using List.all_eq_true.1 hall t hm)
theorem proved : Rows.StoreStaysCardSaid :=
  Claim7.holds_tied_plain_at .later [] _ _ _ _ said (fun _ h => by cases h) (by kernel_rfl) (fun _ h => by cases h) storeStays_row_tie rfl ⟨rfl, rfl⟩ (by kernel_rfl) rfl plain (by kernel_rfl)
#print axioms proved
end storeStays
end Go.Proofs.YtfgpcflegodlmaaGreatDoor

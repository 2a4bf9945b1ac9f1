/- Layer 14's law StoreWhole, for every input: writes are published all at once, at one time, or nothing is; the Go function returns true, and each argument reads behind the call as it read before. Condition: the tables that the row lists (tied to the program's text by the card); the proof does not use what they hold. -/
import Derived.Test.YtfgpcflegodlmaaGreatDoorQap
import Derived.Test.YtfgpcflegodlmaaGreatDoorQaq
import Derived.BigRegion
import Derived.Handy
import Derived.Test.YtfgpcflegodlmaaGreatDoorCards
import Derived.Test.YtfgpcflegodlmaaGreatDoorTie
import Derived.ProofKit
import Derived.LaidMore
import Derived.Lay
import Derived.OpenShut
import Derived.ShutString
namespace Go.Proofs.YtfgpcflegodlmaaGreatDoor
set_option maxRecDepth 100000
open Go.RowKit

def kZ : K25 := ⟨zeros 25, by simp [zeros]⟩
@[go_sem ↓ high] theorem bPref0_run (w : World) : (Instr.build 52 #[]).run Tryz.prog w = .ok (.agg (prefA kZ 0)) w := by kernel_rfl
theorem cut35 {w : World} {g o : Nat} {x : Wr} (h : w.cut? g o 35 = some (wrtA x)) : w.cut? g o 25 = some (row8 x.k.val) ∧ w.cell? ⟨g, o + 25, none⟩ = some (.bool x.dead) ∧ w.cut? g (o + 26) 9 = some (recA x.r) := by
  have e := wrtA_parts x
  have h0 : (row8 x.k.val).size = 25 := by simp [x.k.property]
  have h1 : (row8 x.k.val ++ #[Value.bool x.dead]).size = 26 := by simp [x.k.property]
  have h2 : (recA x.r).size = 9 := rfl
  refine ⟨?_, ?_, ?_⟩
  · have := cut_sub h (i := 0) (m := 25) (by decide)
    rw [Nat.add_zero, Nat.zero_add] at this
    rw [this, ← e, Array.append_assoc, Array.extract_append, h0, Array.extract_eq_self_of_le (by omega), Array.extract_eq_empty_of_le (by simp), Array.append_empty]
  · rw [(cut_spec h).2 25 (by decide), ← e]
    rw [Array.append_assoc, Array.getElem?_append_right (by omega), h0]
    rfl
  · have := cut_sub h (i := 26) (m := 9) (by decide)
    rw [this, ← e, Array.extract_append, h1, Array.extract_eq_empty_of_le (by omega), Array.empty_append, Array.extract_eq_self_of_le (by omega)]
set_option maxHeartbeats 40000000 in
theorem whole_walk (av lvv : Value) (xs : List (Array Value)) (ls : List Wr) (w : World) (hx : SlA w w.heap.size 28 av xs) (hw : ∀ x ∈ xs, ∃ (lv : Value) (l : List Wr), x[27]? = some lv ∧ SlA w w.heap.size 35 lv (l.map wrtA))
    (hl : SlA w w.heap.size 35 lvv (ls.map wrtA)) :
    Gives Tryz.prog 4 #[av, lvv] w (.bool true) := by
  obtain ⟨aa, cap, rfl, hcap, hmx⟩ := hx.form
  have HXS := Lib.hid hx
  have HWS := Lib.hid hw
  have HLS := Lib.hid hl
  have HKN := Lib.hid known14_gives
  clear hx hw hl
  unfold Gives
  go_enter Tryz.func4, Tryz.ntmps4
  go_wp2_with fail
  refine (storeNew_calls w).mono ?_
  rintro e w1 ⟨rfl, hb1, hS1⟩
  have hf1 : Fine3 0 (emptyG w.heap.size) := ⟨⟨⟨fun _ => Nat.le_refl _, fun _ => Nat.le_refl _⟩, Nat.le_refl _, Int.le_refl _, Int.le_refl _⟩, Nat.le_refl _⟩
  have hE : ∃ G, StoreAt w1 w.heap.size (w.heap.size + 1) G ∧ Fine3 0 G := ⟨_, hS1, hf1⟩
  have HE := Lib.hid hE
  have HB1 := Lib.hid hb1
  clear hb1 hS1 hf1 hE
  generalize w.heap.size + 1 = s at *
  go_upto_block 0 with fail
  go_cut [6] (fun _ wx => Hid (Below w.heap.size w wx ∧ ∃ G, StoreAt wx w.heap.size s G ∧ Fine3 12 G))
  case first =>
    go_wp2_with fail
    go_loopw [6] (fun s6 wr => ∃ i : Nat, i ≤ xs.length ∧ i ≤ 12 ∧ s6 = .int .i64 i ∧ Hid (Below w.heap.size w wr ∧ ∃ G, StoreAt wr w.heap.size s G ∧ Fine3 i G)) (fun s6 _ => 12 - (intOf s6).toNat)
    case atStart => exact ⟨0, Nat.zero_le _, Nat.zero_le _, rfl, Lib.hid ⟨HB1.out, HE.out⟩⟩
    case round =>
      obtain ⟨i, hi, hi12, rfl, HR⟩ := hrel
      obtain ⟨hbr, G, hS, hF⟩ := HR.out
      clear HR
      by_cases hli : i < xs.length
      · have hliI : (i : Int) < xs.length := by omega
        by_cases h12 : i < 12
        · have h12I : (i : Int) < 12 := by omega
          have hbw : Below w.heap.size w wr := hbr
          obtain ⟨_, a3, cap3, he, _, _, hc⟩ := HXS.out.below hbw
          simp only [Value.slice.injEq, true_and] at he
          obtain ⟨rfl, rfl⟩ := he
          obtain ⟨g, q, rfl, hlb, hcut⟩ := hc (by omega)
          have hcutk := hcut i xs[i] (by simp [hli])
          obtain ⟨lv, l, hlv, hsl⟩ := HWS.out xs[i] (List.getElem_mem hli)
          have hsz := hbw.size
          have hgr : g < wr.heap.size := by omega
          have hcell : wr.cell? ⟨g, q + i * 28 + 27, none⟩ = some lv := ((cut_spec hcutk).2 27 (by decide)).trans hlv
          have HCUT := Lib.hid (cut_calls l lv wr ((hsl.below hbw).more hsz))
          have HG := Lib.hid (And.intro hbr (And.intro hS hF))
          clear hcut hc hcutk hlv hsl hbr hS hF hbw hsz
          go_wp2_with fail
          refine HCUT.out.mono ?_
          rintro e W2 ⟨lv2, rfl, hb2, ho2⟩
          have hS2 := HG.out.2.1.keep hb2
          have HPUB := Lib.hid (pub_any3 (n := i) (by omega) hS2 HG.out.2.2 lv2 (cutW l) ho2.sl (out_own ho2 HG.out.2.1))
          have HB2 := Lib.hid (And.intro (HG.out.1.trans (hb2.mono HG.out.1.size)) hS2)
          clear hb2 ho2 hS2 HCUT hcell
          go_wp2_with fail
          refine HPUB.out.mono ?_
          rintro e W3 ⟨⟨r1, r2, rfl⟩, G3, hS3, hE3, hF3, -, -⟩
          have HF := Lib.hid (And.intro (HB2.out.1.trans (hE3.below HB2.out.2)) (And.intro hS3 hF3))
          clear hS3 hE3 hF3 HPUB
          go_wp2_with fail
          go_roundw
          case rel => exact ⟨i + 1, by omega, by omega, by go_num, Lib.hid ⟨HF.out.1, G3, HF.out.2.1, HF.out.2.2⟩⟩
          case measure => simp [intOf]; omega
        · have h20e : i = 12 := by omega
          have h12I : ¬ (i : Int) < 12 := by omega
          have HG := Lib.hid (And.intro hbr (And.intro hS hF))
          clear hbr hS hF
          subst h20e
          go_wp2_with fail
          go_meet
          exact Lib.hid ⟨HG.out.1, G, HG.out.2.1, HG.out.2.2⟩
      · have hgn : ¬ (i : Int) < xs.length := by omega
        have HG := Lib.hid (And.intro hbr (And.intro hS hF))
        clear hbr hS hF
        go_wp2_with fail
        go_meet
        exact Lib.hid ⟨HG.out.1, G, HG.out.2.1, ⟨⟨HG.out.2.2.fine.inv.more hi12, Nat.le_trans HG.out.2.2.fine.last hi12, by have := HG.out.2.2.fine.low; omega, by have := HG.out.2.2.fine.high; omega⟩, by have := HG.out.2.2.lvs; omega⟩⟩
  case rest =>
    obtain ⟨hbc, G, hS, hF⟩ := hcut.out
    clear hcut HE HXS HWS HB1
    have HCUT := Lib.hid (cut_calls ls lvv wc ((HLS.out.below hbc).more hbc.size))
    have HG := Lib.hid (And.intro hbc (And.intro hS hF))
    clear hbc hS hF HLS
    go_wp2_with fail
    refine HCUT.out.mono ?_
    rintro e W1 ⟨lv2, rfl, hb1, ho1⟩
    obtain ⟨L, hL⟩ : ∃ L, L = cutW ls := ⟨_, rfl⟩
    have hL20 : L.length ≤ 20 := by rw [hL]; exact cutW_len ls
    rw [← hL] at ho1
    clear hL HCUT
    have hS1 := HG.out.2.1.keep hb1
    have hF1 := HG.out.2.2
    have hout : OutS s G lv2 := out_own ho1 HG.out.2.1
    have hlvs : (lvs G.R).length ≤ 90000 := by have := hF1.lvs; omega
    have hsh := hF1.short (by decide)
    have hvle : sumV G (lvs G.R) ≤ 20000000 := by have := sumV_le hsh (lvs G.R); have := hF1.lvs; omega
    have hls1 := hS1.cells.2.2.2.2.2
    obtain ⟨N, hN⟩ : ∃ N, N = G.last.toNat := ⟨_, rfl⟩
    obtain ⟨V, hV⟩ : ∃ V, V = sumV G (lvs G.R) := ⟨_, rfl⟩
    obtain ⟨lv0, hlv0⟩ : ∃ lv0, lv0 = G.live := ⟨_, rfl⟩
    have hla := fun (W : World) (hb : Below W1.heap.size W1 W) => slast_gives (hS1.keep hb)
    have hli := fun (W : World) (hb : Below W1.heap.size W1 W) => slive_gives (hS1.keep hb)
    have hve := fun (W : World) (hb : Below W1.heap.size W1 W) => versions_gives kZ 0 (hS1.keep hb) hsh hlvs
    simp only [prefL_all, ← hV, ← hN, ← hlv0] at hla hli hve
    have hN12 : N ≤ 12 := by rw [hN]; exact hF1.fine.last
    have HLA := Lib.hid hla
    have HLI := Lib.hid hli
    have HVE := Lib.hid hve
    rw [← hV] at hvle
    have H1 := Lib.hid (And.intro (HG.out.1.trans (hb1.mono HG.out.1.size)) (And.intro hS1 (And.intro hF1 (And.intro ho1.sl (And.intro hout (And.intro hN (And.intro hV hlv0)))))))
    clear hb1 ho1 hS1 hF1 hout hlvs hsh hN hV hlv0 hla hli hve HG
    obtain ⟨la, lc, rfl, -, -⟩ := H1.out.2.2.2.1.form
    rw [List.length_map] at *
    go_wp2_with fail
    refine Gives.use (HLA.out _ (by repeat (first | exact below_of_grow _ _ | exact Below.refl _ _ | exact below_more _ _ _ _ | (simp only [← Array.append_assoc]; first | exact below_more _ _ _ _ | exact below_same _ _ _ | exact Below.refl _ _) | exact below_same _ _ _ | (refine Below.alloc ?_ (by first | (simp; done) | (simp; omega)) _) | (refine Below.grow ?_ (by first | (simp; done) | (simp; omega)) _ _) | refine Below.drew ?_ | refine Below.drewN ?_ _ | (refine Below.putF ?_ (by first | (simp; done) | omega | (simp; omega)) _) | (refine Below.setCell ?_ (by first | (simp; done) | (simp; omega)) _)))) ?_
    intro xs1 d1
    go_wp2_with fail
    refine Gives.use (HLI.out _ (by repeat (first | exact below_of_grow _ _ | exact Below.refl _ _ | exact below_more _ _ _ _ | (simp only [← Array.append_assoc]; first | exact below_more _ _ _ _ | exact below_same _ _ _ | exact Below.refl _ _) | exact below_same _ _ _ | (refine Below.alloc ?_ (by first | (simp; done) | (simp; omega)) _) | (refine Below.grow ?_ (by first | (simp; done) | (simp; omega)) _ _) | refine Below.drew ?_ | refine Below.drewN ?_ _ | (refine Below.putF ?_ (by first | (simp; done) | omega | (simp; omega)) _) | (refine Below.setCell ?_ (by first | (simp; done) | (simp; omega)) _)))) ?_
    intro xs2 d2
    go_wp2_with fail
    refine Gives.use (HVE.out _ (by repeat (first | exact below_of_grow _ _ | exact Below.refl _ _ | exact below_more _ _ _ _ | (simp only [← Array.append_assoc]; first | exact below_more _ _ _ _ | exact below_same _ _ _ | exact Below.refl _ _) | exact below_same _ _ _ | (refine Below.alloc ?_ (by first | (simp; done) | (simp; omega)) _) | (refine Below.grow ?_ (by first | (simp; done) | (simp; omega)) _ _) | refine Below.drew ?_ | refine Below.drewN ?_ _ | (refine Below.putF ?_ (by first | (simp; done) | omega | (simp; omega)) _) | (refine Below.setCell ?_ (by first | (simp; done) | (simp; omega)) _)))) ?_
    intro xs3 d3
    go_upto_region 8 with fail
    refine wp_name ?_
    intro W2 hW2
    have hb2 : Below W1.heap.size W1 W2 := by rw [hW2]; exact (by repeat (first | exact below_of_grow _ _ | exact Below.refl _ _ | exact below_more _ _ _ _ | (simp only [← Array.append_assoc]; first | exact below_more _ _ _ _ | exact below_same _ _ _ | exact Below.refl _ _) | exact below_same _ _ _ | (refine Below.alloc ?_ (by first | (simp; done) | (simp; omega)) _) | (refine Below.grow ?_ (by first | (simp; done) | (simp; omega)) _ _) | refine Below.drew ?_ | refine Below.drewN ?_ _ | (refine Below.putF ?_ (by first | (simp; done) | omega | (simp; omega)) _) | (refine Below.setCell ?_ (by first | (simp; done) | (simp; omega)) _)))
    have hS2 := H1.out.2.1.keep hb2
    have hsl2 := (H1.out.2.2.2.1.below hb2).more hb2.size
    have hlive : -1000000 ≤ G.live ∧ G.live ≤ 1000000 := by have := H1.out.2.2.1.fine.low; have := H1.out.2.2.1.fine.high; omega
    have hls2 := hS2.cells.2.2.2.2.2
    clear hW2
    by_cases he : pubE (versG G) G.live L = 0
    · have hl1 : (G.last + 1).toNat = G.last.toNat + 1 := by rw [UInt64.toNat_add]; simp; have := H1.out.2.2.2.2.2.1; omega
      have hck : checkE L = 0 := by
        unfold pubE at he
        split at he
        · rename_i hc; exact hc
        · exact he
      have hsp := checkE_spec hck
      have HPUB := Lib.hid (publish_yesL (G.last + 1) hl1 hS2 (H1.out.2.2.1.fine.inv.more (by decide)) (by have := H1.out.2.2.2.2.2.1; omega) hlive _ L hsl2 H1.out.2.2.2.2.1 he)
      have HSP := Lib.hid hsp
      have hL16 : L.length ≤ 16 := hsp.1
      have H2 := Lib.hid (And.intro (H1.out.1.trans (hb2.mono H1.out.1.size)) (And.intro hS2 (And.intro hsl2 hl1)))
      clear hb2 hS2 hsl2 hlive he hl1 hck hsp
      obtain ⟨a1, ha1⟩ : ∃ a1, a1 = G.last + 1 := ⟨_, rfl⟩
      rw [← ha1] at HPUB H2
      have HA := Lib.hid ha1
      clear ha1
      go_wp2_with fail
      refine HPUB.out.mono ?_
      rintro e W3 ⟨rfl, G3, g1, g2, ⟨g3, g4⟩, g5, g6⟩
      have hbb3 : Below w.heap.size w W3 := H2.out.1.trans (g2.below H2.out.2.1)
      have hsl3 := SlA.evo H2.out.2.2.1 H1.out.2.2.2.2.1 g2
      have hinv := H1.out.2.2.1.fine.inv.apply H2.out.2.2.2 (l := L) HSP.out.2.2
      have hsh3 : Short G3 100000 := fun k => by rw [g6]; exact Nat.le_trans (hinv.short k) (by decide)
      have hlv3 : (lvs G3.R).length ≤ 90000 := by
        have := H1.out.2.2.1.lvs
        rw [lvs_eq] at this ⊢
        omega
      have htot := total_apply H2.out.2.1 g1 HSP.out.2.2 g6
      rw [← H1.out.2.2.2.2.2.2.1] at htot
      have hla := fun (W : World) (hb : Below W3.heap.size W3 W) => slast_gives (g1.keep hb)
      have hve := fun (W : World) (hb : Below W3.heap.size W3 W) => versions_gives kZ 0 (g1.keep hb) hsh3 hlv3
      have hrd : ∀ x ∈ L, ∀ W, Below W3.heap.size W3 W → Gives Tryz.prog 19 #[.pointer (some ⟨s, 0, none⟩), .agg (row8 x.k.val), .int .u64 a1.toNat] W (.tuple #[.agg (recA (if x.dead = true then Rec.zero else fixR a1 x)), .bool (!x.dead)]) := by
        intro x hx W hb
        have h1 := sread_gives (g1.keep hb) hsh3 x.k a1
        have h2 : atV (versG G3 x.k) a1 = (if x.dead = true then Rec.zero else fixR a1 x, !x.dead) := by
          rw [g6, applyL_one a1 L _ HSP.out.2.2 x hx, atV_last _ _ _ (show (verOf a1 x).at_ ≤ a1 from UInt64.le_iff_toNat_le.2 (Nat.le_refl _))]
          show (if x.dead = true then _ else _) = _
          cases x.dead <;> rfl
        rw [h2] at h1
        exact h1
      have hnw : ∀ x ∈ L, ∀ W, Below W3.heap.size W3 W → Gives Tryz.prog 20 #[.pointer (some ⟨s, 0, none⟩), .agg (row8 x.k.val)] W (.int .u64 a1.toNat) := by
        intro x hx W hb
        have h1 := snewest_gives (g1.keep hb) hsh3 x.k
        rw [g6, applyL_one a1 L _ HSP.out.2.2 x hx, newest_snoc] at h1
        exact h1
      rw [g3] at hla
      rw [prefL_all, htot] at hve
      have HLA3 := Lib.hid hla
      have HVE3 := Lib.hid hve
      have HRD := Lib.hid hrd
      have HNW := Lib.hid hnw
      have ha1n : a1.toNat = N + 1 := by rw [H2.out.2.2.2, H1.out.2.2.2.2.2.1]
      have H3 := Lib.hid (And.intro hbb3 (And.intro hsl3.1 ha1n))
      have hls3 := g1.cells.2.2.2.2.2
      have hwa : IntKind.u64.wrap ((N : Int) + 1) = (a1.toNat : Int) := by
        rw [ha1n]; unfold IntKind.wrap; simp [IntKind.signed, IntKind.bits]; omega
      have hwv : IntKind.i64.wrap ((V : Int) + L.length) = ((V + L.length : Nat) : Int) := by rw [IntWalk.i64_in _ (by omega)]; omega
      have HWA := Lib.hid (And.intro hwa hwv)
      clear g1 g2 g3 g4 g5 g6 hbb3 hsl3 hinv hsh3 hlv3 htot hla hve hrd hnw ha1n hwa hwv HPUB H2 HLA HLI HVE hvle hls1 hls2
      go_upto_block 2 with fail
      go_cut [12] (fun _ wx => ∃ xs d, wx = W3.grow xs d)
      case first =>
        go_wp2_with fail
        go_loopw [12] (fun s12 wr => ∃ i : Nat, i ≤ L.length ∧ s12 = .int .i64 i ∧ ∃ xs d, wr = W3.grow xs d) (fun s12 _ => L.length - (intOf s12).toNat)
        case atStart => exact ⟨0, Nat.zero_le _, rfl, #[], W3.drawn, World.grow_nil.symm⟩
        case round =>
          obtain ⟨i, hi, rfl, ys, dy, rfl⟩ := hrel
          by_cases hlt : i < L.length
          · have hltI : (i : Int) < L.length := by omega
            obtain ⟨_, a3, c3, he, _, _, hc⟩ := H3.out.2.1
            simp only [Value.slice.injEq, List.length_map, true_and] at he
            obtain ⟨rfl, rfl⟩ := he
            obtain ⟨g, q, rfl, hlb, hcut⟩ := hc (by simp; omega)
            have hcutk := hcut i (wrtA L[i]) (by simp [hlt])
            have hrd := HRD.out L[i] (List.getElem_mem hlt)
            have hnw := HNW.out L[i] (List.getElem_mem hlt)
            generalize L[i] = x at *
            obtain ⟨c25, cd, c9⟩ := cut35 hcutk
            have hcase : (x.dead = true ∧ ∃ rr, (if x.dead = true then Rec.zero else fixR a1 x) = rr) ∨ (x.dead = false ∧ (if x.dead = true then Rec.zero else fixR a1 x) = x.r) ∨ (x.dead = false ∧ ∃ rr, (if x.dead = true then Rec.zero else fixR a1 x) = rr ∧ decide (rr = x.r) = false ∧ rr.kind.toNat = 4) := by
              cases hd : x.dead with
              | true => exact .inl ⟨rfl, _, rfl⟩
              | false =>
                refine .inr ?_
                by_cases hr : fixR a1 x = x.r
                · exact .inl ⟨rfl, hr⟩
                · refine .inr ⟨rfl, _, rfl, decide_eq_false hr, ?_⟩
                  unfold fixR at hr ⊢
                  by_cases h4 : x.r.kind = 4 ∧ x.r.at_ = 0 ∧ byt x.k.val 2 ≠ 0
                  · rw [if_pos h4]; rw [if_neg (by decide)]; show x.r.kind.toNat = 4; rw [h4.1]; rfl
                  · rw [if_neg h4] at hr; exact absurd rfl hr
            have HRD1 := Lib.hid hrd
            have HNW1 := Lib.hid hnw
            clear hcut hc hcutk hrd hnw
            rcases hcase with ⟨hd, rr, hrr⟩ | ⟨hd, hrr⟩ | ⟨hd, rr, hrr, hne, hk4⟩
            all_goals
              rw [hd] at cd
              have hrd := HRD1.out
              rw [hrr, hd] at hrd
              simp only [Bool.not_true, Bool.not_false] at hrd
              have HRD2 := Lib.hid hrd
              clear hrd HRD1 hrr hd
              go_wp2_with fail
              refine Gives.use (HRD2.out _ (by repeat (first | exact below_of_grow _ _ | exact Below.refl _ _ | exact below_more _ _ _ _ | (simp only [← Array.append_assoc]; first | exact below_more _ _ _ _ | exact below_same _ _ _ | exact Below.refl _ _) | exact below_same _ _ _ | (refine Below.alloc ?_ (by first | (simp; done) | (simp; omega)) _) | (refine Below.grow ?_ (by first | (simp; done) | (simp; omega)) _ _) | refine Below.drew ?_ | refine Below.drewN ?_ _ | (refine Below.putF ?_ (by first | (simp; done) | omega | (simp; omega)) _) | (refine Below.setCell ?_ (by first | (simp; done) | (simp; omega)) _)))) ?_
              intro xs5 d5
              go_upto_region 15 with fail
              refine wp_name ?_
              intro W5 hW5
              obtain ⟨rb, hrb⟩ : ∃ rb, rb = W3.heap.size + (ys.size + xs5.size) := ⟨_, rfl⟩
              have hb5 : Below W3.heap.size W3 W5 := by rw [hW5]; exact (by repeat (first | exact below_of_grow _ _ | exact Below.refl _ _ | exact below_more _ _ _ _ | (simp only [← Array.append_assoc]; first | exact below_more _ _ _ _ | exact below_same _ _ _ | exact Below.refl _ _) | exact below_same _ _ _ | (refine Below.alloc ?_ (by first | (simp; done) | (simp; omega)) _) | (refine Below.grow ?_ (by first | (simp; done) | (simp; omega)) _ _) | refine Below.drew ?_ | refine Below.drewN ?_ _ | (refine Below.putF ?_ (by first | (simp; done) | omega | (simp; omega)) _) | (refine Below.setCell ?_ (by first | (simp; done) | (simp; omega)) _)))
              rw [← hrb]
              have g25 := (cut_of_heap (hb5.block g hlb) (q + i * 35) 25).trans c25
              have gd := (hb5.cell (p := ⟨g, q + i * 35 + 25, none⟩) hlb).trans cd
              have g9 := (cut_of_heap (hb5.block g hlb) (q + i * 35 + 26) 9).trans c9
              have lg5 : g < W5.heap.size := Nat.lt_of_lt_of_le hlb hb5.size
              have HNW5 := Lib.hid (fun (W : World) (hb : Below W5.heap.size W5 W) => HNW1.out W (hb5.trans (hb.mono hb5.size)))
              obtain ⟨xs7, d7, h7⟩ := grow_of_below hb5
              have H7 := Lib.hid h7
            · have hr6 : W5.heap[rb]? = some (.cells (recA rr) 55) := by rw [hW5, hrb]; exact (heap_al _ _ _).trans (if_pos (by simp))
              have cr := cut_heap hr6 (show (recA rr).size = 9 from rfl)
              have lr := lt_of_heap hr6
              clear hW5 hr6 hrb hb5 hlb c25 cd c9 h7
              apply wp_region_specs (by rfl) (.val _ :: .val _ :: .val _ :: .val _ :: .val _ :: .val _ :: .val _ :: .val _ :: .val _ :: .val _ :: .val _ :: .val _ :: .val _ :: .val _ :: .val _ :: .val _ :: .val _ :: .val _ :: .val _ :: .val _ :: .val _ :: .val _ :: .val _ :: .val _ :: .val _ :: .val _ :: .val _ :: .val _ :: .val _ :: .val _ :: .val _ :: .val _ :: .val _ :: .val _ :: .val _ :: []) 35 (by rfl) (92 :: 93 :: 94 :: 95 :: 96 :: 97 :: 98 :: 99 :: 100 :: 101 :: 102 :: 103 :: 104 :: 105 :: 106 :: 107 :: 108 :: 109 :: 110 :: 111 :: 112 :: 113 :: 114 :: 115 :: 116 :: 117 :: 118 :: 119 :: 120 :: 121 :: 122 :: 123 :: 124 :: 125 :: 126 :: []) [] [] (by rfl) (by rfl) (by decide) (by decide +kernel) (fun _ _ _ _ _ h => h)
              case hF => intro x; simp only [over, List.foldl_cons, List.foldl_nil, List.setIfInBounds_toArray, List.set_cons_succ, List.set_cons_zero]; exact rfl
              case hops =>
                refine ⟨?o0, ?o1, ?o2, ?o3, ?o4, ?o5, ?o6, ?o7, ?o8, ?o9, ?o10, ?o11, ?o12, ?o13, ?o14, ?o15, ?o16, ?o17, ?o18, ?o19, ?o20, ?o21, ?o22, ?o23, ?o24, ?o25, ?o26, ?o27, ?o28, ?o29, ?o30, ?o31, ?o32, ?o33, ?o34, trivial⟩
                case o0 =>
                  intro x w1 hH K hK
                  obtain ⟨xs, d, rfl⟩ := grow_of_below hH.below
                  clear hH
                  try simp only [World.grow_drew] at hK ⊢
                  try simp only [World.grow_grow] at hK ⊢
                  go_simp
                  go_wp2_with fail
                  exact ⟨_, rfl, rfl, (by first | exact Below.refl _ _ | exact below_same _ _ _ | exact below_more _ _ _ _ | exact below_of_grow _ _), fun h => by cases h⟩
                case o1 =>
                  intro x w1 hH K hK
                  obtain ⟨xs, d, rfl⟩ := grow_of_below hH.below
                  clear hH
                  try simp only [World.grow_drew] at hK ⊢
                  try simp only [World.grow_grow] at hK ⊢
                  go_simp
                  go_wp2_with fail
                  exact ⟨_, rfl, rfl, (by first | exact Below.refl _ _ | exact below_same _ _ _ | exact below_more _ _ _ _ | exact below_of_grow _ _), fun h => by cases h⟩
                case o2 =>
                  intro x w1 hH K hK
                  obtain ⟨xs, d, rfl⟩ := grow_of_below hH.below
                  clear hH
                  try simp only [World.grow_drew] at hK ⊢
                  try simp only [World.grow_grow] at hK ⊢
                  go_simp
                  go_wp2_with fail
                  exact ⟨_, rfl, rfl, (by first | exact Below.refl _ _ | exact below_same _ _ _ | exact below_more _ _ _ _ | exact below_of_grow _ _), fun h => by cases h⟩
                case o3 =>
                  intro x w1 hH K hK
                  have e93 : x 93 = _ := hH.holds 1 (by decide) (by decide +kernel) 93 rfl
                  have e94 : x 94 = _ := hH.holds 2 (by decide) (by decide +kernel) 94 rfl
                  obtain ⟨xs, d, rfl⟩ := grow_of_below hH.below
                  clear hH
                  try simp only [World.grow_drew] at hK ⊢
                  try simp only [World.grow_grow] at hK ⊢
                  simp only [e93, e94] at hK ⊢
                  clear e93 e94
                  go_simp
                  go_wp2_with fail
                  exact ⟨_, rfl, rfl, (by first | exact Below.refl _ _ | exact below_same _ _ _ | exact below_more _ _ _ _ | exact below_of_grow _ _), fun h => by cases h⟩
                case o4 =>
                  intro x w1 hH K hK
                  have e95 : x 95 = _ := hH.holds 3 (by decide) (by decide +kernel) 95 rfl
                  obtain ⟨xs, d, rfl⟩ := grow_of_below hH.below
                  clear hH
                  try simp only [World.grow_drew] at hK ⊢
                  try simp only [World.grow_grow] at hK ⊢
                  simp only [e95] at hK ⊢
                  clear e95
                  go_simp
                  go_wp2_with fail
                  exact ⟨_, rfl, rfl, (by first | exact Below.refl _ _ | exact below_same _ _ _ | exact below_more _ _ _ _ | exact below_of_grow _ _), fun h => by cases h⟩
                case o5 =>
                  intro x w1 hH K hK
                  have e96 : x 96 = _ := hH.holds 4 (by decide) (by decide +kernel) 96 rfl
                  obtain ⟨xs, d, rfl⟩ := grow_of_below hH.below
                  clear hH
                  try simp only [World.grow_drew] at hK ⊢
                  try simp only [World.grow_grow] at hK ⊢
                  simp only [e96] at hK ⊢
                  clear e96
                  go_simp
                  go_wp2_with fail
                  exact ⟨_, rfl, rfl, (by first | exact Below.refl _ _ | exact below_same _ _ _ | exact below_more _ _ _ _ | exact below_of_grow _ _), fun h => by cases h⟩
                case o6 =>
                  intro x w1 hH K hK
                  have e92 : x 92 = _ := hH.holds 0 (by decide) (by decide +kernel) 92 rfl
                  have e97 : x 97 = _ := hH.holds 5 (by decide) (by decide +kernel) 97 rfl
                  obtain ⟨xs, d, rfl⟩ := grow_of_below hH.below
                  clear hH
                  try simp only [World.grow_drew] at hK ⊢
                  try simp only [World.grow_grow] at hK ⊢
                  simp only [e92, e97] at hK ⊢
                  clear e92 e97
                  go_simp
                  go_wp2_with fail
                  exact ⟨_, rfl, rfl, (by first | exact Below.refl _ _ | exact below_same _ _ _ | exact below_more _ _ _ _ | exact below_of_grow _ _), fun h => by cases h⟩
                case o7 =>
                  intro x w1 hH K hK
                  have e98 : x 98 = _ := hH.holds 6 (by decide) (by decide +kernel) 98 rfl
                  obtain ⟨xs, d, rfl⟩ := grow_of_below hH.below
                  clear hH
                  try simp only [World.grow_drew] at hK ⊢
                  try simp only [World.grow_grow] at hK ⊢
                  simp only [e98] at hK ⊢
                  clear e98
                  go_simp
                  go_wp2_with fail
                  exact ⟨_, rfl, rfl, (by first | exact Below.refl _ _ | exact below_same _ _ _ | exact below_more _ _ _ _ | exact below_of_grow _ _), fun h => by cases h⟩
                case o8 =>
                  intro x w1 hH K hK
                  have e99 : x 99 = _ := hH.holds 7 (by decide) (by decide +kernel) 99 rfl
                  obtain ⟨xs, d, rfl⟩ := grow_of_below hH.below
                  clear hH
                  try simp only [World.grow_drew] at hK ⊢
                  try simp only [World.grow_grow] at hK ⊢
                  simp only [e99] at hK ⊢
                  clear e99
                  go_simp
                  go_wp2_with fail
                  exact ⟨_, rfl, rfl, (by first | exact Below.refl _ _ | exact below_same _ _ _ | exact below_more _ _ _ _ | exact below_of_grow _ _), fun h => by cases h⟩
                case o9 =>
                  intro x w1 hH K hK
                  have e99 : x 99 = _ := hH.holds 7 (by decide) (by decide +kernel) 99 rfl
                  obtain ⟨xs, d, rfl⟩ := grow_of_below hH.below
                  clear hH
                  try simp only [World.grow_drew] at hK ⊢
                  try simp only [World.grow_grow] at hK ⊢
                  simp only [e99] at hK ⊢
                  clear e99
                  go_simp
                  go_wp2_with fail
                  exact ⟨_, rfl, rfl, (by first | exact Below.refl _ _ | exact below_same _ _ _ | exact below_more _ _ _ _ | exact below_of_grow _ _), fun h => by cases h⟩
                case o10 =>
                  intro x w1 hH K hK
                  have e99 : x 99 = _ := hH.holds 7 (by decide) (by decide +kernel) 99 rfl
                  obtain ⟨xs, d, rfl⟩ := grow_of_below hH.below
                  clear hH
                  try simp only [World.grow_drew] at hK ⊢
                  try simp only [World.grow_grow] at hK ⊢
                  simp only [e99] at hK ⊢
                  clear e99
                  go_simp
                  go_wp2_with fail
                  exact ⟨_, rfl, rfl, (by first | exact Below.refl _ _ | exact below_same _ _ _ | exact below_more _ _ _ _ | exact below_of_grow _ _), fun h => by cases h⟩
                case o11 =>
                  intro x w1 hH K hK
                  have e99 : x 99 = _ := hH.holds 7 (by decide) (by decide +kernel) 99 rfl
                  have e101 : x 101 = _ := hH.holds 9 (by decide) (by decide +kernel) 101 rfl
                  have e102 : x 102 = _ := hH.holds 10 (by decide) (by decide +kernel) 102 rfl
                  obtain ⟨xs, d, rfl⟩ := grow_of_below hH.below
                  clear hH
                  try simp only [World.grow_drew] at hK ⊢
                  try simp only [World.grow_grow] at hK ⊢
                  simp only [e99, e101, e102] at hK ⊢
                  clear e99 e101 e102
                  go_simp
                  go_wp2_with fail
                  exact ⟨_, rfl, rfl, (by first | exact Below.refl _ _ | exact below_same _ _ _ | exact below_more _ _ _ _ | exact below_of_grow _ _), fun h => by cases h⟩
                case o12 =>
                  intro x w1 hH K hK
                  have e99 : x 99 = _ := hH.holds 7 (by decide) (by decide +kernel) 99 rfl
                  have e103 : x 103 = _ := hH.holds 11 (by decide) (by decide +kernel) 103 rfl
                  obtain ⟨xs, d, rfl⟩ := grow_of_below hH.below
                  clear hH
                  try simp only [World.grow_drew] at hK ⊢
                  try simp only [World.grow_grow] at hK ⊢
                  simp only [e99, e103] at hK ⊢
                  clear e99 e103
                  go_simp
                  go_wp2_with fail
                  exact ⟨_, rfl, rfl, (by first | exact Below.refl _ _ | exact below_same _ _ _ | exact below_more _ _ _ _ | exact below_of_grow _ _), fun h => by cases h⟩
                case o13 =>
                  intro x w1 hH K hK
                  have e99 : x 99 = _ := hH.holds 7 (by decide) (by decide +kernel) 99 rfl
                  have e104 : x 104 = _ := hH.holds 12 (by decide) (by decide +kernel) 104 rfl
                  obtain ⟨xs, d, rfl⟩ := grow_of_below hH.below
                  clear hH
                  try simp only [World.grow_drew] at hK ⊢
                  try simp only [World.grow_grow] at hK ⊢
                  simp only [e99, e104] at hK ⊢
                  clear e99 e104
                  go_simp
                  go_wp2_with fail
                  exact ⟨_, rfl, rfl, (by first | exact Below.refl _ _ | exact below_same _ _ _ | exact below_more _ _ _ _ | exact below_of_grow _ _), fun h => by cases h⟩
                case o14 =>
                  intro x w1 hH K hK
                  have e99 : x 99 = _ := hH.holds 7 (by decide) (by decide +kernel) 99 rfl
                  have e100 : x 100 = _ := hH.holds 8 (by decide) (by decide +kernel) 100 rfl
                  have e105 : x 105 = _ := hH.holds 13 (by decide) (by decide +kernel) 105 rfl
                  obtain ⟨xs, d, rfl⟩ := grow_of_below hH.below
                  clear hH
                  try simp only [World.grow_drew] at hK ⊢
                  try simp only [World.grow_grow] at hK ⊢
                  simp only [e99, e100, e105] at hK ⊢
                  clear e99 e100 e105
                  go_simp
                  go_wp2_with (refine Gives.use (HNW5.out _ (by repeat (first | exact below_of_grow _ _ | exact Below.refl _ _ | exact below_more _ _ _ _ | (simp only [← Array.append_assoc]; first | exact below_more _ _ _ _ | exact below_same _ _ _ | exact Below.refl _ _) | exact below_same _ _ _ | (refine Below.alloc ?_ (by first | (simp; done) | (simp; omega)) _) | (refine Below.grow ?_ (by first | (simp; done) | (simp; omega)) _ _) | refine Below.drew ?_ | refine Below.drewN ?_ _ | (refine Below.putF ?_ (by first | (simp; done) | omega | (simp; omega)) _) | (refine Below.setCell ?_ (by first | (simp; done) | (simp; omega)) _)))) ?_; intro ys e)
                  exact ⟨_, rfl, rfl, (by first | exact below_more _ _ _ _ | exact (by repeat (first | exact below_of_grow _ _ | exact Below.refl _ _ | exact below_more _ _ _ _ | (simp only [← Array.append_assoc]; first | exact below_more _ _ _ _ | exact below_same _ _ _ | exact Below.refl _ _) | exact below_same _ _ _ | (refine Below.alloc ?_ (by first | (simp; done) | (simp; omega)) _) | (refine Below.grow ?_ (by first | (simp; done) | (simp; omega)) _ _) | refine Below.drew ?_ | refine Below.drewN ?_ _ | (refine Below.putF ?_ (by first | (simp; done) | omega | (simp; omega)) _) | (refine Below.setCell ?_ (by first | (simp; done) | (simp; omega)) _)))), fun h => by cases h⟩
                case o15 =>
                  intro x w1 hH K hK
                  have e99 : x 99 = _ := hH.holds 7 (by decide) (by decide +kernel) 99 rfl
                  obtain ⟨xs, d, rfl⟩ := grow_of_below hH.below
                  clear hH
                  try simp only [World.grow_drew] at hK ⊢
                  try simp only [World.grow_grow] at hK ⊢
                  simp only [e99] at hK ⊢
                  clear e99
                  go_simp
                  go_wp2_with fail
                  exact ⟨_, rfl, rfl, (by first | exact Below.refl _ _ | exact below_same _ _ _ | exact below_more _ _ _ _ | exact below_of_grow _ _), fun h => by cases h⟩
                case o16 =>
                  intro x w1 hH K hK
                  have e99 : x 99 = _ := hH.holds 7 (by decide) (by decide +kernel) 99 rfl
                  have e106 : x 106 = _ := hH.holds 14 (by decide) (by decide +kernel) 106 rfl
                  have e107 : x 107 = _ := hH.holds 15 (by decide) (by decide +kernel) 107 rfl
                  obtain ⟨xs, d, rfl⟩ := grow_of_below hH.below
                  clear hH
                  try simp only [World.grow_drew] at hK ⊢
                  try simp only [World.grow_grow] at hK ⊢
                  simp only [e99, e106, e107] at hK ⊢
                  clear e99 e106 e107
                  go_simp
                  go_wp2_with fail
                  exact ⟨_, rfl, rfl, (by first | exact Below.refl _ _ | exact below_same _ _ _ | exact below_more _ _ _ _ | exact below_of_grow _ _), fun h => by cases h⟩
                case o17 =>
                  intro x w1 hH K hK
                  have e99 : x 99 = _ := hH.holds 7 (by decide) (by decide +kernel) 99 rfl
                  have e108 : x 108 = _ := hH.holds 16 (by decide) (by decide +kernel) 108 rfl
                  obtain ⟨xs, d, rfl⟩ := grow_of_below hH.below
                  clear hH
                  try simp only [World.grow_drew] at hK ⊢
                  try simp only [World.grow_grow] at hK ⊢
                  simp only [e99, e108] at hK ⊢
                  clear e99 e108
                  go_simp
                  go_wp2_with fail
                  exact ⟨_, rfl, rfl, (by first | exact Below.refl _ _ | exact below_same _ _ _ | exact below_more _ _ _ _ | exact below_of_grow _ _), fun h => by cases h⟩
                case o18 =>
                  intro x w1 hH K hK
                  have e109 : x 109 = _ := hH.holds 17 (by decide) (by decide +kernel) 109 rfl
                  obtain ⟨xs, d, rfl⟩ := grow_of_below hH.below
                  clear hH
                  try simp only [World.grow_drew] at hK ⊢
                  try simp only [World.grow_grow] at hK ⊢
                  simp only [e109] at hK ⊢
                  clear e109
                  go_simp
                  go_wp2_with fail
                  exact ⟨_, rfl, rfl, (by first | exact Below.refl _ _ | exact below_same _ _ _ | exact below_more _ _ _ _ | exact below_of_grow _ _), fun h => by cases h⟩
                case o19 =>
                  intro x w1 hH K hK
                  have e110 : x 110 = _ := hH.holds 18 (by decide) (by decide +kernel) 110 rfl
                  obtain ⟨xs, d, rfl⟩ := grow_of_below hH.below
                  clear hH
                  try simp only [World.grow_drew] at hK ⊢
                  try simp only [World.grow_grow] at hK ⊢
                  simp only [e110] at hK ⊢
                  clear e110
                  go_simp
                  go_wp2_with fail
                  exact ⟨_, rfl, rfl, (by first | exact Below.refl _ _ | exact below_same _ _ _ | exact below_more _ _ _ _ | exact below_of_grow _ _), fun h => by cases h⟩
                case o20 =>
                  intro x w1 hH K hK
                  have e110 : x 110 = _ := hH.holds 18 (by decide) (by decide +kernel) 110 rfl
                  have e111 : x 111 = _ := hH.holds 19 (by decide) (by decide +kernel) 111 rfl
                  obtain ⟨xs, d, rfl⟩ := grow_of_below hH.below
                  clear hH
                  try simp only [World.grow_drew] at hK ⊢
                  try simp only [World.grow_grow] at hK ⊢
                  simp only [e110, e111] at hK ⊢
                  clear e110 e111
                  go_simp
                  go_wp2_with fail
                  exact ⟨_, rfl, rfl, (by first | exact Below.refl _ _ | exact below_same _ _ _ | exact below_more _ _ _ _ | exact below_of_grow _ _), fun h => by cases h⟩
                case o21 =>
                  intro x w1 hH K hK
                  have e112 : x 112 = _ := hH.holds 20 (by decide) (by decide +kernel) 112 rfl
                  obtain ⟨xs, d, rfl⟩ := grow_of_below hH.below
                  clear hH
                  try simp only [World.grow_drew] at hK ⊢
                  try simp only [World.grow_grow] at hK ⊢
                  simp only [e112] at hK ⊢
                  clear e112
                  go_simp
                  go_wp2_with fail
                  exact ⟨_, rfl, rfl, (by first | exact Below.refl _ _ | exact below_same _ _ _ | exact below_more _ _ _ _ | exact below_of_grow _ _), fun h => by cases h⟩
                case o22 =>
                  intro x w1 hH K hK
                  have e112 : x 112 = _ := hH.holds 20 (by decide) (by decide +kernel) 112 rfl
                  obtain ⟨xs, d, rfl⟩ := grow_of_below hH.below
                  clear hH
                  try simp only [World.grow_drew] at hK ⊢
                  try simp only [World.grow_grow] at hK ⊢
                  simp only [e112] at hK ⊢
                  clear e112
                  go_simp
                  go_wp2_with fail
                  exact ⟨_, rfl, rfl, (by first | exact Below.refl _ _ | exact below_same _ _ _ | exact below_more _ _ _ _ | exact below_of_grow _ _), fun h => by cases h⟩
                case o23 =>
                  intro x w1 hH K hK
                  have e112 : x 112 = _ := hH.holds 20 (by decide) (by decide +kernel) 112 rfl
                  obtain ⟨xs, d, rfl⟩ := grow_of_below hH.below
                  clear hH
                  try simp only [World.grow_drew] at hK ⊢
                  try simp only [World.grow_grow] at hK ⊢
                  simp only [e112] at hK ⊢
                  clear e112
                  go_simp
                  go_wp2_with fail
                  exact ⟨_, rfl, rfl, (by first | exact Below.refl _ _ | exact below_same _ _ _ | exact below_more _ _ _ _ | exact below_of_grow _ _), fun h => by cases h⟩
                case o24 =>
                  intro x w1 hH K hK
                  have e112 : x 112 = _ := hH.holds 20 (by decide) (by decide +kernel) 112 rfl
                  have e114 : x 114 = _ := hH.holds 22 (by decide) (by decide +kernel) 114 rfl
                  have e115 : x 115 = _ := hH.holds 23 (by decide) (by decide +kernel) 115 rfl
                  obtain ⟨xs, d, rfl⟩ := grow_of_below hH.below
                  clear hH
                  try simp only [World.grow_drew] at hK ⊢
                  try simp only [World.grow_grow] at hK ⊢
                  simp only [e112, e114, e115] at hK ⊢
                  clear e112 e114 e115
                  go_simp
                  go_wp2_with fail
                  exact ⟨_, rfl, rfl, (by first | exact Below.refl _ _ | exact below_same _ _ _ | exact below_more _ _ _ _ | exact below_of_grow _ _), fun h => by cases h⟩
                case o25 =>
                  intro x w1 hH K hK
                  have e112 : x 112 = _ := hH.holds 20 (by decide) (by decide +kernel) 112 rfl
                  have e116 : x 116 = _ := hH.holds 24 (by decide) (by decide +kernel) 116 rfl
                  obtain ⟨xs, d, rfl⟩ := grow_of_below hH.below
                  clear hH
                  try simp only [World.grow_drew] at hK ⊢
                  try simp only [World.grow_grow] at hK ⊢
                  simp only [e112, e116] at hK ⊢
                  clear e112 e116
                  go_simp
                  go_wp2_with fail
                  exact ⟨_, rfl, rfl, (by first | exact Below.refl _ _ | exact below_same _ _ _ | exact below_more _ _ _ _ | exact below_of_grow _ _), fun h => by cases h⟩
                case o26 =>
                  intro x w1 hH K hK
                  have e112 : x 112 = _ := hH.holds 20 (by decide) (by decide +kernel) 112 rfl
                  have e117 : x 117 = _ := hH.holds 25 (by decide) (by decide +kernel) 117 rfl
                  obtain ⟨xs, d, rfl⟩ := grow_of_below hH.below
                  clear hH
                  try simp only [World.grow_drew] at hK ⊢
                  try simp only [World.grow_grow] at hK ⊢
                  simp only [e112, e117] at hK ⊢
                  clear e112 e117
                  go_simp
                  go_wp2_with fail
                  exact ⟨_, rfl, rfl, (by first | exact Below.refl _ _ | exact below_same _ _ _ | exact below_more _ _ _ _ | exact below_of_grow _ _), fun h => by cases h⟩
                case o27 =>
                  intro x w1 hH K hK
                  have e112 : x 112 = _ := hH.holds 20 (by decide) (by decide +kernel) 112 rfl
                  have e113 : x 113 = _ := hH.holds 21 (by decide) (by decide +kernel) 113 rfl
                  have e118 : x 118 = _ := hH.holds 26 (by decide) (by decide +kernel) 118 rfl
                  obtain ⟨xs, d, rfl⟩ := grow_of_below hH.below
                  clear hH
                  try simp only [World.grow_drew] at hK ⊢
                  try simp only [World.grow_grow] at hK ⊢
                  simp only [e112, e113, e118] at hK ⊢
                  clear e112 e113 e118
                  go_simp
                  go_wp2_with fail
                  exact ⟨_, rfl, rfl, (by first | exact Below.refl _ _ | exact below_same _ _ _ | exact below_more _ _ _ _ | exact below_of_grow _ _), fun h => by cases h⟩
                case o28 =>
                  intro x w1 hH K hK
                  have e110 : x 110 = _ := hH.holds 18 (by decide) (by decide +kernel) 110 rfl
                  have e112 : x 112 = _ := hH.holds 20 (by decide) (by decide +kernel) 112 rfl
                  have e119 : x 119 = _ := hH.holds 27 (by decide) (by decide +kernel) 119 rfl
                  obtain ⟨xs, d, rfl⟩ := grow_of_below hH.below
                  clear hH
                  try simp only [World.grow_drew] at hK ⊢
                  try simp only [World.grow_grow] at hK ⊢
                  simp only [e110, e112, e119] at hK ⊢
                  clear e110 e112 e119
                  go_simp
                  go_wp2_with fail
                  exact ⟨_, rfl, rfl, (by first | exact Below.refl _ _ | exact below_same _ _ _ | exact below_more _ _ _ _ | exact below_of_grow _ _), fun h => by cases h⟩
                case o29 =>
                  intro x w1 hH K hK
                  have e110 : x 110 = _ := hH.holds 18 (by decide) (by decide +kernel) 110 rfl
                  have e120 : x 120 = _ := hH.holds 28 (by decide) (by decide +kernel) 120 rfl
                  obtain ⟨xs, d, rfl⟩ := grow_of_below hH.below
                  clear hH
                  try simp only [World.grow_drew] at hK ⊢
                  try simp only [World.grow_grow] at hK ⊢
                  simp only [e110, e120] at hK ⊢
                  clear e110 e120
                  go_simp
                  go_wp2_with fail
                  exact ⟨_, rfl, rfl, (by first | exact Below.refl _ _ | exact below_same _ _ _ | exact below_more _ _ _ _ | exact below_of_grow _ _), fun h => by cases h⟩
                case o30 =>
                  intro x w1 hH K hK
                  have e121 : x 121 = _ := hH.holds 29 (by decide) (by decide +kernel) 121 rfl
                  obtain ⟨xs, d, rfl⟩ := grow_of_below hH.below
                  clear hH
                  try simp only [World.grow_drew] at hK ⊢
                  try simp only [World.grow_grow] at hK ⊢
                  simp only [e121] at hK ⊢
                  clear e121
                  go_simp
                  go_wp2_with fail
                  exact ⟨_, rfl, rfl, (by first | exact Below.refl _ _ | exact below_same _ _ _ | exact below_more _ _ _ _ | exact below_of_grow _ _), fun h => by cases h⟩
                case o31 =>
                  intro x w1 hH K hK
                  have e121 : x 121 = _ := hH.holds 29 (by decide) (by decide +kernel) 121 rfl
                  have e122 : x 122 = _ := hH.holds 30 (by decide) (by decide +kernel) 122 rfl
                  obtain ⟨xs, d, rfl⟩ := grow_of_below hH.below
                  clear hH
                  try simp only [World.grow_drew] at hK ⊢
                  try simp only [World.grow_grow] at hK ⊢
                  simp only [e121, e122] at hK ⊢
                  clear e121 e122
                  go_simp
                  go_wp2_with fail
                  exact ⟨_, rfl, rfl, (by first | exact Below.refl _ _ | exact below_same _ _ _ | exact below_more _ _ _ _ | exact below_of_grow _ _), fun h => by cases h⟩
                case o32 =>
                  intro x w1 hH K hK
                  have e121 : x 121 = _ := hH.holds 29 (by decide) (by decide +kernel) 121 rfl
                  have e123 : x 123 = _ := hH.holds 31 (by decide) (by decide +kernel) 123 rfl
                  obtain ⟨xs, d, rfl⟩ := grow_of_below hH.below
                  clear hH
                  try simp only [World.grow_drew] at hK ⊢
                  try simp only [World.grow_grow] at hK ⊢
                  simp only [e121, e123] at hK ⊢
                  clear e121 e123
                  go_simp
                  go_wp2_with fail
                  exact ⟨_, rfl, rfl, (by first | exact Below.refl _ _ | exact below_same _ _ _ | exact below_more _ _ _ _ | exact below_of_grow _ _), fun h => by cases h⟩
                case o33 =>
                  intro x w1 hH K hK
                  have e110 : x 110 = _ := hH.holds 18 (by decide) (by decide +kernel) 110 rfl
                  have e121 : x 121 = _ := hH.holds 29 (by decide) (by decide +kernel) 121 rfl
                  have e124 : x 124 = _ := hH.holds 32 (by decide) (by decide +kernel) 124 rfl
                  obtain ⟨xs, d, rfl⟩ := grow_of_below hH.below
                  clear hH
                  try simp only [World.grow_drew] at hK ⊢
                  try simp only [World.grow_grow] at hK ⊢
                  simp only [e110, e121, e124] at hK ⊢
                  clear e110 e121 e124
                  go_simp
                  go_wp2_with fail
                  exact ⟨_, rfl, rfl, (by first | exact Below.refl _ _ | exact below_same _ _ _ | exact below_more _ _ _ _ | exact below_of_grow _ _), fun h => by cases h⟩
                case o34 =>
                  intro x w1 hH K hK
                  have e110 : x 110 = _ := hH.holds 18 (by decide) (by decide +kernel) 110 rfl
                  have e125 : x 125 = _ := hH.holds 33 (by decide) (by decide +kernel) 125 rfl
                  obtain ⟨xs, d, rfl⟩ := grow_of_below hH.below
                  clear hH
                  try simp only [World.grow_drew] at hK ⊢
                  try simp only [World.grow_grow] at hK ⊢
                  simp only [e110, e125] at hK ⊢
                  clear e110 e125
                  go_simp
                  go_wp2_with fail
                  exact ⟨_, rfl, rfl, (by first | exact Below.refl _ _ | exact below_same _ _ _ | exact below_more _ _ _ _ | exact below_of_grow _ _), fun h => by cases h⟩
              case hend =>
                intro x w1 hH
                have e92 : x 92 = _ := hH.holds 0 (by decide) trivial 92 rfl
                have e93 : x 93 = _ := hH.holds 1 (by decide) trivial 93 rfl
                have e94 : x 94 = _ := hH.holds 2 (by decide) trivial 94 rfl
                have e95 : x 95 = _ := hH.holds 3 (by decide) trivial 95 rfl
                have e96 : x 96 = _ := hH.holds 4 (by decide) trivial 96 rfl
                have e97 : x 97 = _ := hH.holds 5 (by decide) trivial 97 rfl
                have e98 : x 98 = _ := hH.holds 6 (by decide) trivial 98 rfl
                have e99 : x 99 = _ := hH.holds 7 (by decide) trivial 99 rfl
                have e100 : x 100 = _ := hH.holds 8 (by decide) trivial 100 rfl
                have e101 : x 101 = _ := hH.holds 9 (by decide) trivial 101 rfl
                have e102 : x 102 = _ := hH.holds 10 (by decide) trivial 102 rfl
                have e103 : x 103 = _ := hH.holds 11 (by decide) trivial 103 rfl
                have e104 : x 104 = _ := hH.holds 12 (by decide) trivial 104 rfl
                have e105 : x 105 = _ := hH.holds 13 (by decide) trivial 105 rfl
                have e106 : x 106 = _ := hH.holds 14 (by decide) trivial 106 rfl
                have e107 : x 107 = _ := hH.holds 15 (by decide) trivial 107 rfl
                have e108 : x 108 = _ := hH.holds 16 (by decide) trivial 108 rfl
                have e109 : x 109 = _ := hH.holds 17 (by decide) trivial 109 rfl
                have e110 : x 110 = _ := hH.holds 18 (by decide) trivial 110 rfl
                have e111 : x 111 = _ := hH.holds 19 (by decide) trivial 111 rfl
                have e112 : x 112 = _ := hH.holds 20 (by decide) trivial 112 rfl
                have e113 : x 113 = _ := hH.holds 21 (by decide) trivial 113 rfl
                have e114 : x 114 = _ := hH.holds 22 (by decide) trivial 114 rfl
                have e115 : x 115 = _ := hH.holds 23 (by decide) trivial 115 rfl
                have e116 : x 116 = _ := hH.holds 24 (by decide) trivial 116 rfl
                have e117 : x 117 = _ := hH.holds 25 (by decide) trivial 117 rfl
                have e118 : x 118 = _ := hH.holds 26 (by decide) trivial 118 rfl
                have e119 : x 119 = _ := hH.holds 27 (by decide) trivial 119 rfl
                have e120 : x 120 = _ := hH.holds 28 (by decide) trivial 120 rfl
                have e121 : x 121 = _ := hH.holds 29 (by decide) trivial 121 rfl
                have e122 : x 122 = _ := hH.holds 30 (by decide) trivial 122 rfl
                have e123 : x 123 = _ := hH.holds 31 (by decide) trivial 123 rfl
                have e124 : x 124 = _ := hH.holds 32 (by decide) trivial 124 rfl
                have e125 : x 125 = _ := hH.holds 33 (by decide) trivial 125 rfl
                have e126 : x 126 = _ := hH.holds 34 (by decide) trivial 126 rfl
                obtain ⟨xs, d, rfl⟩ := grow_of_below hH.below
                clear hH
                simp only [e92, e93, e94, e95, e96, e97, e98, e99, e100, e101, e102, e103, e104, e105, e106, e107, e108, e109, e110, e111, e112, e113, e114, e115, e116, e117, e118, e119, e120, e121, e122, e123, e124, e125, e126]; clear e92 e93 e94 e95 e96 e97 e98 e99 e100 e101 e102 e103 e104 e105 e106 e107 e108 e109 e110 e111 e112 e113 e114 e115 e116 e117 e118 e119 e120 e121 e122 e123 e124 e125 e126
                simp only [List.drop_succ_cons, List.drop_nil]
                go_wp2_with fail
                go_roundw
                case rel => exact ⟨i + 1, by omega, by go_num, _, _, by rw [H7.out]; exact World.grow_grow _ _ _ _⟩
                case measure => simp [intOf]; omega
            · have hr6 : W5.heap[rb]? = some (.cells (recA x.r) 55) := by rw [hW5, hrb]; exact (heap_al _ _ _).trans (if_pos (by simp))
              have cr := cut_heap hr6 (show (recA x.r).size = 9 from rfl)
              have lr := lt_of_heap hr6
              clear hW5 hr6 hrb hb5 hlb c25 cd c9 h7
              apply wp_region_specs (by rfl) (.val _ :: .val _ :: .val _ :: .val _ :: .val _ :: .val _ :: .val _ :: .val _ :: .val _ :: .val _ :: .val _ :: .val _ :: .val _ :: .val _ :: .val _ :: .val _ :: .val _ :: .val _ :: .val _ :: .val _ :: .val _ :: .val _ :: .val _ :: .val _ :: .val _ :: .val _ :: .val _ :: .val _ :: .val _ :: .val _ :: .val _ :: .val _ :: .val _ :: .val _ :: .val _ :: []) 35 (by rfl) (92 :: 93 :: 94 :: 95 :: 96 :: 97 :: 98 :: 99 :: 100 :: 101 :: 102 :: 103 :: 104 :: 105 :: 106 :: 107 :: 108 :: 109 :: 110 :: 111 :: 112 :: 113 :: 114 :: 115 :: 116 :: 117 :: 118 :: 119 :: 120 :: 121 :: 122 :: 123 :: 124 :: 125 :: 126 :: []) [] [] (by rfl) (by rfl) (by decide) (by decide +kernel) (fun _ _ _ _ _ h => h)
              case hF => intro x; simp only [over, List.foldl_cons, List.foldl_nil, List.setIfInBounds_toArray, List.set_cons_succ, List.set_cons_zero]; exact rfl
              case hops =>
                refine ⟨?o0, ?o1, ?o2, ?o3, ?o4, ?o5, ?o6, ?o7, ?o8, ?o9, ?o10, ?o11, ?o12, ?o13, ?o14, ?o15, ?o16, ?o17, ?o18, ?o19, ?o20, ?o21, ?o22, ?o23, ?o24, ?o25, ?o26, ?o27, ?o28, ?o29, ?o30, ?o31, ?o32, ?o33, ?o34, trivial⟩
                case o0 =>
                  intro x w1 hH K hK
                  obtain ⟨xs, d, rfl⟩ := grow_of_below hH.below
                  clear hH
                  try simp only [World.grow_drew] at hK ⊢
                  try simp only [World.grow_grow] at hK ⊢
                  go_simp
                  go_wp2_with fail
                  exact ⟨_, rfl, rfl, (by first | exact Below.refl _ _ | exact below_same _ _ _ | exact below_more _ _ _ _ | exact below_of_grow _ _), fun h => by cases h⟩
                case o1 =>
                  intro x w1 hH K hK
                  obtain ⟨xs, d, rfl⟩ := grow_of_below hH.below
                  clear hH
                  try simp only [World.grow_drew] at hK ⊢
                  try simp only [World.grow_grow] at hK ⊢
                  go_simp
                  go_wp2_with fail
                  exact ⟨_, rfl, rfl, (by first | exact Below.refl _ _ | exact below_same _ _ _ | exact below_more _ _ _ _ | exact below_of_grow _ _), fun h => by cases h⟩
                case o2 =>
                  intro x w1 hH K hK
                  obtain ⟨xs, d, rfl⟩ := grow_of_below hH.below
                  clear hH
                  try simp only [World.grow_drew] at hK ⊢
                  try simp only [World.grow_grow] at hK ⊢
                  go_simp
                  go_wp2_with fail
                  exact ⟨_, rfl, rfl, (by first | exact Below.refl _ _ | exact below_same _ _ _ | exact below_more _ _ _ _ | exact below_of_grow _ _), fun h => by cases h⟩
                case o3 =>
                  intro x w1 hH K hK
                  have e93 : x 93 = _ := hH.holds 1 (by decide) (by decide +kernel) 93 rfl
                  have e94 : x 94 = _ := hH.holds 2 (by decide) (by decide +kernel) 94 rfl
                  obtain ⟨xs, d, rfl⟩ := grow_of_below hH.below
                  clear hH
                  try simp only [World.grow_drew] at hK ⊢
                  try simp only [World.grow_grow] at hK ⊢
                  simp only [e93, e94] at hK ⊢
                  clear e93 e94
                  go_simp
                  go_wp2_with fail
                  exact ⟨_, rfl, rfl, (by first | exact Below.refl _ _ | exact below_same _ _ _ | exact below_more _ _ _ _ | exact below_of_grow _ _), fun h => by cases h⟩
                case o4 =>
                  intro x w1 hH K hK
                  have e95 : x 95 = _ := hH.holds 3 (by decide) (by decide +kernel) 95 rfl
                  obtain ⟨xs, d, rfl⟩ := grow_of_below hH.below
                  clear hH
                  try simp only [World.grow_drew] at hK ⊢
                  try simp only [World.grow_grow] at hK ⊢
                  simp only [e95] at hK ⊢
                  clear e95
                  go_simp
                  go_wp2_with fail
                  exact ⟨_, rfl, rfl, (by first | exact Below.refl _ _ | exact below_same _ _ _ | exact below_more _ _ _ _ | exact below_of_grow _ _), fun h => by cases h⟩
                case o5 =>
                  intro x w1 hH K hK
                  have e96 : x 96 = _ := hH.holds 4 (by decide) (by decide +kernel) 96 rfl
                  obtain ⟨xs, d, rfl⟩ := grow_of_below hH.below
                  clear hH
                  try simp only [World.grow_drew] at hK ⊢
                  try simp only [World.grow_grow] at hK ⊢
                  simp only [e96] at hK ⊢
                  clear e96
                  go_simp
                  go_wp2_with fail
                  exact ⟨_, rfl, rfl, (by first | exact Below.refl _ _ | exact below_same _ _ _ | exact below_more _ _ _ _ | exact below_of_grow _ _), fun h => by cases h⟩
                case o6 =>
                  intro x w1 hH K hK
                  have e92 : x 92 = _ := hH.holds 0 (by decide) (by decide +kernel) 92 rfl
                  have e97 : x 97 = _ := hH.holds 5 (by decide) (by decide +kernel) 97 rfl
                  obtain ⟨xs, d, rfl⟩ := grow_of_below hH.below
                  clear hH
                  try simp only [World.grow_drew] at hK ⊢
                  try simp only [World.grow_grow] at hK ⊢
                  simp only [e92, e97] at hK ⊢
                  clear e92 e97
                  go_simp
                  go_wp2_with fail
                  exact ⟨_, rfl, rfl, (by first | exact Below.refl _ _ | exact below_same _ _ _ | exact below_more _ _ _ _ | exact below_of_grow _ _), fun h => by cases h⟩
                case o7 =>
                  intro x w1 hH K hK
                  have e98 : x 98 = _ := hH.holds 6 (by decide) (by decide +kernel) 98 rfl
                  obtain ⟨xs, d, rfl⟩ := grow_of_below hH.below
                  clear hH
                  try simp only [World.grow_drew] at hK ⊢
                  try simp only [World.grow_grow] at hK ⊢
                  simp only [e98] at hK ⊢
                  clear e98
                  go_simp
                  go_wp2_with fail
                  exact ⟨_, rfl, rfl, (by first | exact Below.refl _ _ | exact below_same _ _ _ | exact below_more _ _ _ _ | exact below_of_grow _ _), fun h => by cases h⟩
                case o8 =>
                  intro x w1 hH K hK
                  have e99 : x 99 = _ := hH.holds 7 (by decide) (by decide +kernel) 99 rfl
                  obtain ⟨xs, d, rfl⟩ := grow_of_below hH.below
                  clear hH
                  try simp only [World.grow_drew] at hK ⊢
                  try simp only [World.grow_grow] at hK ⊢
                  simp only [e99] at hK ⊢
                  clear e99
                  go_simp
                  go_wp2_with fail
                  exact ⟨_, rfl, rfl, (by first | exact Below.refl _ _ | exact below_same _ _ _ | exact below_more _ _ _ _ | exact below_of_grow _ _), fun h => by cases h⟩
                case o9 =>
                  intro x w1 hH K hK
                  have e99 : x 99 = _ := hH.holds 7 (by decide) (by decide +kernel) 99 rfl
                  obtain ⟨xs, d, rfl⟩ := grow_of_below hH.below
                  clear hH
                  try simp only [World.grow_drew] at hK ⊢
                  try simp only [World.grow_grow] at hK ⊢
                  simp only [e99] at hK ⊢
                  clear e99
                  go_simp
                  go_wp2_with fail
                  exact ⟨_, rfl, rfl, (by first | exact Below.refl _ _ | exact below_same _ _ _ | exact below_more _ _ _ _ | exact below_of_grow _ _), fun h => by cases h⟩
                case o10 =>
                  intro x w1 hH K hK
                  have e99 : x 99 = _ := hH.holds 7 (by decide) (by decide +kernel) 99 rfl
                  obtain ⟨xs, d, rfl⟩ := grow_of_below hH.below
                  clear hH
                  try simp only [World.grow_drew] at hK ⊢
                  try simp only [World.grow_grow] at hK ⊢
                  simp only [e99] at hK ⊢
                  clear e99
                  go_simp
                  go_wp2_with fail
                  exact ⟨_, rfl, rfl, (by first | exact Below.refl _ _ | exact below_same _ _ _ | exact below_more _ _ _ _ | exact below_of_grow _ _), fun h => by cases h⟩
                case o11 =>
                  intro x w1 hH K hK
                  have e99 : x 99 = _ := hH.holds 7 (by decide) (by decide +kernel) 99 rfl
                  have e101 : x 101 = _ := hH.holds 9 (by decide) (by decide +kernel) 101 rfl
                  have e102 : x 102 = _ := hH.holds 10 (by decide) (by decide +kernel) 102 rfl
                  obtain ⟨xs, d, rfl⟩ := grow_of_below hH.below
                  clear hH
                  try simp only [World.grow_drew] at hK ⊢
                  try simp only [World.grow_grow] at hK ⊢
                  simp only [e99, e101, e102] at hK ⊢
                  clear e99 e101 e102
                  go_simp
                  go_wp2_with fail
                  exact ⟨_, rfl, rfl, (by first | exact Below.refl _ _ | exact below_same _ _ _ | exact below_more _ _ _ _ | exact below_of_grow _ _), fun h => by cases h⟩
                case o12 =>
                  intro x w1 hH K hK
                  have e99 : x 99 = _ := hH.holds 7 (by decide) (by decide +kernel) 99 rfl
                  have e103 : x 103 = _ := hH.holds 11 (by decide) (by decide +kernel) 103 rfl
                  obtain ⟨xs, d, rfl⟩ := grow_of_below hH.below
                  clear hH
                  try simp only [World.grow_drew] at hK ⊢
                  try simp only [World.grow_grow] at hK ⊢
                  simp only [e99, e103] at hK ⊢
                  clear e99 e103
                  go_simp
                  go_wp2_with fail
                  exact ⟨_, rfl, rfl, (by first | exact Below.refl _ _ | exact below_same _ _ _ | exact below_more _ _ _ _ | exact below_of_grow _ _), fun h => by cases h⟩
                case o13 =>
                  intro x w1 hH K hK
                  have e99 : x 99 = _ := hH.holds 7 (by decide) (by decide +kernel) 99 rfl
                  have e104 : x 104 = _ := hH.holds 12 (by decide) (by decide +kernel) 104 rfl
                  obtain ⟨xs, d, rfl⟩ := grow_of_below hH.below
                  clear hH
                  try simp only [World.grow_drew] at hK ⊢
                  try simp only [World.grow_grow] at hK ⊢
                  simp only [e99, e104] at hK ⊢
                  clear e99 e104
                  go_simp
                  go_wp2_with fail
                  exact ⟨_, rfl, rfl, (by first | exact Below.refl _ _ | exact below_same _ _ _ | exact below_more _ _ _ _ | exact below_of_grow _ _), fun h => by cases h⟩
                case o14 =>
                  intro x w1 hH K hK
                  have e99 : x 99 = _ := hH.holds 7 (by decide) (by decide +kernel) 99 rfl
                  have e100 : x 100 = _ := hH.holds 8 (by decide) (by decide +kernel) 100 rfl
                  have e105 : x 105 = _ := hH.holds 13 (by decide) (by decide +kernel) 105 rfl
                  obtain ⟨xs, d, rfl⟩ := grow_of_below hH.below
                  clear hH
                  try simp only [World.grow_drew] at hK ⊢
                  try simp only [World.grow_grow] at hK ⊢
                  simp only [e99, e100, e105] at hK ⊢
                  clear e99 e100 e105
                  go_simp
                  go_wp2_with (refine Gives.use (HNW5.out _ (by repeat (first | exact below_of_grow _ _ | exact Below.refl _ _ | exact below_more _ _ _ _ | (simp only [← Array.append_assoc]; first | exact below_more _ _ _ _ | exact below_same _ _ _ | exact Below.refl _ _) | exact below_same _ _ _ | (refine Below.alloc ?_ (by first | (simp; done) | (simp; omega)) _) | (refine Below.grow ?_ (by first | (simp; done) | (simp; omega)) _ _) | refine Below.drew ?_ | refine Below.drewN ?_ _ | (refine Below.putF ?_ (by first | (simp; done) | omega | (simp; omega)) _) | (refine Below.setCell ?_ (by first | (simp; done) | (simp; omega)) _)))) ?_; intro ys e)
                  exact ⟨_, rfl, rfl, (by first | exact below_more _ _ _ _ | exact (by repeat (first | exact below_of_grow _ _ | exact Below.refl _ _ | exact below_more _ _ _ _ | (simp only [← Array.append_assoc]; first | exact below_more _ _ _ _ | exact below_same _ _ _ | exact Below.refl _ _) | exact below_same _ _ _ | (refine Below.alloc ?_ (by first | (simp; done) | (simp; omega)) _) | (refine Below.grow ?_ (by first | (simp; done) | (simp; omega)) _ _) | refine Below.drew ?_ | refine Below.drewN ?_ _ | (refine Below.putF ?_ (by first | (simp; done) | omega | (simp; omega)) _) | (refine Below.setCell ?_ (by first | (simp; done) | (simp; omega)) _)))), fun h => by cases h⟩
                case o15 =>
                  intro x w1 hH K hK
                  have e99 : x 99 = _ := hH.holds 7 (by decide) (by decide +kernel) 99 rfl
                  obtain ⟨xs, d, rfl⟩ := grow_of_below hH.below
                  clear hH
                  try simp only [World.grow_drew] at hK ⊢
                  try simp only [World.grow_grow] at hK ⊢
                  simp only [e99] at hK ⊢
                  clear e99
                  go_simp
                  go_wp2_with fail
                  exact ⟨_, rfl, rfl, (by first | exact Below.refl _ _ | exact below_same _ _ _ | exact below_more _ _ _ _ | exact below_of_grow _ _), fun h => by cases h⟩
                case o16 =>
                  intro x w1 hH K hK
                  have e99 : x 99 = _ := hH.holds 7 (by decide) (by decide +kernel) 99 rfl
                  have e106 : x 106 = _ := hH.holds 14 (by decide) (by decide +kernel) 106 rfl
                  have e107 : x 107 = _ := hH.holds 15 (by decide) (by decide +kernel) 107 rfl
                  obtain ⟨xs, d, rfl⟩ := grow_of_below hH.below
                  clear hH
                  try simp only [World.grow_drew] at hK ⊢
                  try simp only [World.grow_grow] at hK ⊢
                  simp only [e99, e106, e107] at hK ⊢
                  clear e99 e106 e107
                  go_simp
                  go_wp2_with fail
                  exact ⟨_, rfl, rfl, (by first | exact Below.refl _ _ | exact below_same _ _ _ | exact below_more _ _ _ _ | exact below_of_grow _ _), fun h => by cases h⟩
                case o17 =>
                  intro x w1 hH K hK
                  have e99 : x 99 = _ := hH.holds 7 (by decide) (by decide +kernel) 99 rfl
                  have e108 : x 108 = _ := hH.holds 16 (by decide) (by decide +kernel) 108 rfl
                  obtain ⟨xs, d, rfl⟩ := grow_of_below hH.below
                  clear hH
                  try simp only [World.grow_drew] at hK ⊢
                  try simp only [World.grow_grow] at hK ⊢
                  simp only [e99, e108] at hK ⊢
                  clear e99 e108
                  go_simp
                  go_wp2_with fail
                  exact ⟨_, rfl, rfl, (by first | exact Below.refl _ _ | exact below_same _ _ _ | exact below_more _ _ _ _ | exact below_of_grow _ _), fun h => by cases h⟩
                case o18 =>
                  intro x w1 hH K hK
                  have e109 : x 109 = _ := hH.holds 17 (by decide) (by decide +kernel) 109 rfl
                  obtain ⟨xs, d, rfl⟩ := grow_of_below hH.below
                  clear hH
                  try simp only [World.grow_drew] at hK ⊢
                  try simp only [World.grow_grow] at hK ⊢
                  simp only [e109] at hK ⊢
                  clear e109
                  go_simp
                  go_wp2_with fail
                  exact ⟨_, rfl, rfl, (by first | exact Below.refl _ _ | exact below_same _ _ _ | exact below_more _ _ _ _ | exact below_of_grow _ _), fun h => by cases h⟩
                case o19 =>
                  intro x w1 hH K hK
                  have e110 : x 110 = _ := hH.holds 18 (by decide) (by decide +kernel) 110 rfl
                  obtain ⟨xs, d, rfl⟩ := grow_of_below hH.below
                  clear hH
                  try simp only [World.grow_drew] at hK ⊢
                  try simp only [World.grow_grow] at hK ⊢
                  simp only [e110] at hK ⊢
                  clear e110
                  go_simp
                  go_wp2_with fail
                  exact ⟨_, rfl, rfl, (by first | exact Below.refl _ _ | exact below_same _ _ _ | exact below_more _ _ _ _ | exact below_of_grow _ _), fun h => by cases h⟩
                case o20 =>
                  intro x w1 hH K hK
                  have e110 : x 110 = _ := hH.holds 18 (by decide) (by decide +kernel) 110 rfl
                  have e111 : x 111 = _ := hH.holds 19 (by decide) (by decide +kernel) 111 rfl
                  obtain ⟨xs, d, rfl⟩ := grow_of_below hH.below
                  clear hH
                  try simp only [World.grow_drew] at hK ⊢
                  try simp only [World.grow_grow] at hK ⊢
                  simp only [e110, e111] at hK ⊢
                  clear e110 e111
                  go_simp
                  go_wp2_with fail
                  exact ⟨_, rfl, rfl, (by first | exact Below.refl _ _ | exact below_same _ _ _ | exact below_more _ _ _ _ | exact below_of_grow _ _), fun h => by cases h⟩
                case o21 =>
                  intro x w1 hH K hK
                  have e112 : x 112 = _ := hH.holds 20 (by decide) (by decide +kernel) 112 rfl
                  obtain ⟨xs, d, rfl⟩ := grow_of_below hH.below
                  clear hH
                  try simp only [World.grow_drew] at hK ⊢
                  try simp only [World.grow_grow] at hK ⊢
                  simp only [e112] at hK ⊢
                  clear e112
                  go_simp
                  go_wp2_with fail
                  exact ⟨_, rfl, rfl, (by first | exact Below.refl _ _ | exact below_same _ _ _ | exact below_more _ _ _ _ | exact below_of_grow _ _), fun h => by cases h⟩
                case o22 =>
                  intro x w1 hH K hK
                  have e112 : x 112 = _ := hH.holds 20 (by decide) (by decide +kernel) 112 rfl
                  obtain ⟨xs, d, rfl⟩ := grow_of_below hH.below
                  clear hH
                  try simp only [World.grow_drew] at hK ⊢
                  try simp only [World.grow_grow] at hK ⊢
                  simp only [e112] at hK ⊢
                  clear e112
                  go_simp
                  go_wp2_with fail
                  exact ⟨_, rfl, rfl, (by first | exact Below.refl _ _ | exact below_same _ _ _ | exact below_more _ _ _ _ | exact below_of_grow _ _), fun h => by cases h⟩
                case o23 =>
                  intro x w1 hH K hK
                  have e112 : x 112 = _ := hH.holds 20 (by decide) (by decide +kernel) 112 rfl
                  obtain ⟨xs, d, rfl⟩ := grow_of_below hH.below
                  clear hH
                  try simp only [World.grow_drew] at hK ⊢
                  try simp only [World.grow_grow] at hK ⊢
                  simp only [e112] at hK ⊢
                  clear e112
                  go_simp
                  go_wp2_with fail
                  exact ⟨_, rfl, rfl, (by first | exact Below.refl _ _ | exact below_same _ _ _ | exact below_more _ _ _ _ | exact below_of_grow _ _), fun h => by cases h⟩
                case o24 =>
                  intro x w1 hH K hK
                  have e112 : x 112 = _ := hH.holds 20 (by decide) (by decide +kernel) 112 rfl
                  have e114 : x 114 = _ := hH.holds 22 (by decide) (by decide +kernel) 114 rfl
                  have e115 : x 115 = _ := hH.holds 23 (by decide) (by decide +kernel) 115 rfl
                  obtain ⟨xs, d, rfl⟩ := grow_of_below hH.below
                  clear hH
                  try simp only [World.grow_drew] at hK ⊢
                  try simp only [World.grow_grow] at hK ⊢
                  simp only [e112, e114, e115] at hK ⊢
                  clear e112 e114 e115
                  go_simp
                  go_wp2_with fail
                  exact ⟨_, rfl, rfl, (by first | exact Below.refl _ _ | exact below_same _ _ _ | exact below_more _ _ _ _ | exact below_of_grow _ _), fun h => by cases h⟩
                case o25 =>
                  intro x w1 hH K hK
                  have e112 : x 112 = _ := hH.holds 20 (by decide) (by decide +kernel) 112 rfl
                  have e116 : x 116 = _ := hH.holds 24 (by decide) (by decide +kernel) 116 rfl
                  obtain ⟨xs, d, rfl⟩ := grow_of_below hH.below
                  clear hH
                  try simp only [World.grow_drew] at hK ⊢
                  try simp only [World.grow_grow] at hK ⊢
                  simp only [e112, e116] at hK ⊢
                  clear e112 e116
                  go_simp
                  go_wp2_with fail
                  exact ⟨_, rfl, rfl, (by first | exact Below.refl _ _ | exact below_same _ _ _ | exact below_more _ _ _ _ | exact below_of_grow _ _), fun h => by cases h⟩
                case o26 =>
                  intro x w1 hH K hK
                  have e112 : x 112 = _ := hH.holds 20 (by decide) (by decide +kernel) 112 rfl
                  have e117 : x 117 = _ := hH.holds 25 (by decide) (by decide +kernel) 117 rfl
                  obtain ⟨xs, d, rfl⟩ := grow_of_below hH.below
                  clear hH
                  try simp only [World.grow_drew] at hK ⊢
                  try simp only [World.grow_grow] at hK ⊢
                  simp only [e112, e117] at hK ⊢
                  clear e112 e117
                  go_simp
                  go_wp2_with fail
                  exact ⟨_, rfl, rfl, (by first | exact Below.refl _ _ | exact below_same _ _ _ | exact below_more _ _ _ _ | exact below_of_grow _ _), fun h => by cases h⟩
                case o27 =>
                  intro x w1 hH K hK
                  have e112 : x 112 = _ := hH.holds 20 (by decide) (by decide +kernel) 112 rfl
                  have e113 : x 113 = _ := hH.holds 21 (by decide) (by decide +kernel) 113 rfl
                  have e118 : x 118 = _ := hH.holds 26 (by decide) (by decide +kernel) 118 rfl
                  obtain ⟨xs, d, rfl⟩ := grow_of_below hH.below
                  clear hH
                  try simp only [World.grow_drew] at hK ⊢
                  try simp only [World.grow_grow] at hK ⊢
                  simp only [e112, e113, e118] at hK ⊢
                  clear e112 e113 e118
                  go_simp
                  go_wp2_with fail
                  exact ⟨_, rfl, rfl, (by first | exact Below.refl _ _ | exact below_same _ _ _ | exact below_more _ _ _ _ | exact below_of_grow _ _), fun h => by cases h⟩
                case o28 =>
                  intro x w1 hH K hK
                  have e110 : x 110 = _ := hH.holds 18 (by decide) (by decide +kernel) 110 rfl
                  have e112 : x 112 = _ := hH.holds 20 (by decide) (by decide +kernel) 112 rfl
                  have e119 : x 119 = _ := hH.holds 27 (by decide) (by decide +kernel) 119 rfl
                  obtain ⟨xs, d, rfl⟩ := grow_of_below hH.below
                  clear hH
                  try simp only [World.grow_drew] at hK ⊢
                  try simp only [World.grow_grow] at hK ⊢
                  simp only [e110, e112, e119] at hK ⊢
                  clear e110 e112 e119
                  go_simp
                  go_wp2_with fail
                  exact ⟨_, rfl, rfl, (by first | exact Below.refl _ _ | exact below_same _ _ _ | exact below_more _ _ _ _ | exact below_of_grow _ _), fun h => by cases h⟩
                case o29 =>
                  intro x w1 hH K hK
                  have e110 : x 110 = _ := hH.holds 18 (by decide) (by decide +kernel) 110 rfl
                  have e120 : x 120 = _ := hH.holds 28 (by decide) (by decide +kernel) 120 rfl
                  obtain ⟨xs, d, rfl⟩ := grow_of_below hH.below
                  clear hH
                  try simp only [World.grow_drew] at hK ⊢
                  try simp only [World.grow_grow] at hK ⊢
                  simp only [e110, e120] at hK ⊢
                  clear e110 e120
                  go_simp
                  go_wp2_with fail
                  exact ⟨_, rfl, rfl, (by first | exact Below.refl _ _ | exact below_same _ _ _ | exact below_more _ _ _ _ | exact below_of_grow _ _), fun h => by cases h⟩
                case o30 =>
                  intro x w1 hH K hK
                  have e121 : x 121 = _ := hH.holds 29 (by decide) (by decide +kernel) 121 rfl
                  obtain ⟨xs, d, rfl⟩ := grow_of_below hH.below
                  clear hH
                  try simp only [World.grow_drew] at hK ⊢
                  try simp only [World.grow_grow] at hK ⊢
                  simp only [e121] at hK ⊢
                  clear e121
                  go_simp
                  go_wp2_with fail
                  exact ⟨_, rfl, rfl, (by first | exact Below.refl _ _ | exact below_same _ _ _ | exact below_more _ _ _ _ | exact below_of_grow _ _), fun h => by cases h⟩
                case o31 =>
                  intro x w1 hH K hK
                  have e121 : x 121 = _ := hH.holds 29 (by decide) (by decide +kernel) 121 rfl
                  have e122 : x 122 = _ := hH.holds 30 (by decide) (by decide +kernel) 122 rfl
                  obtain ⟨xs, d, rfl⟩ := grow_of_below hH.below
                  clear hH
                  try simp only [World.grow_drew] at hK ⊢
                  try simp only [World.grow_grow] at hK ⊢
                  simp only [e121, e122] at hK ⊢
                  clear e121 e122
                  go_simp
                  go_wp2_with fail
                  exact ⟨_, rfl, rfl, (by first | exact Below.refl _ _ | exact below_same _ _ _ | exact below_more _ _ _ _ | exact below_of_grow _ _), fun h => by cases h⟩
                case o32 =>
                  intro x w1 hH K hK
                  have e121 : x 121 = _ := hH.holds 29 (by decide) (by decide +kernel) 121 rfl
                  have e123 : x 123 = _ := hH.holds 31 (by decide) (by decide +kernel) 123 rfl
                  obtain ⟨xs, d, rfl⟩ := grow_of_below hH.below
                  clear hH
                  try simp only [World.grow_drew] at hK ⊢
                  try simp only [World.grow_grow] at hK ⊢
                  simp only [e121, e123] at hK ⊢
                  clear e121 e123
                  go_simp
                  go_wp2_with fail
                  exact ⟨_, rfl, rfl, (by first | exact Below.refl _ _ | exact below_same _ _ _ | exact below_more _ _ _ _ | exact below_of_grow _ _), fun h => by cases h⟩
                case o33 =>
                  intro x w1 hH K hK
                  have e110 : x 110 = _ := hH.holds 18 (by decide) (by decide +kernel) 110 rfl
                  have e121 : x 121 = _ := hH.holds 29 (by decide) (by decide +kernel) 121 rfl
                  have e124 : x 124 = _ := hH.holds 32 (by decide) (by decide +kernel) 124 rfl
                  obtain ⟨xs, d, rfl⟩ := grow_of_below hH.below
                  clear hH
                  try simp only [World.grow_drew] at hK ⊢
                  try simp only [World.grow_grow] at hK ⊢
                  simp only [e110, e121, e124] at hK ⊢
                  clear e110 e121 e124
                  go_simp
                  go_wp2_with fail
                  exact ⟨_, rfl, rfl, (by first | exact Below.refl _ _ | exact below_same _ _ _ | exact below_more _ _ _ _ | exact below_of_grow _ _), fun h => by cases h⟩
                case o34 =>
                  intro x w1 hH K hK
                  have e110 : x 110 = _ := hH.holds 18 (by decide) (by decide +kernel) 110 rfl
                  have e125 : x 125 = _ := hH.holds 33 (by decide) (by decide +kernel) 125 rfl
                  obtain ⟨xs, d, rfl⟩ := grow_of_below hH.below
                  clear hH
                  try simp only [World.grow_drew] at hK ⊢
                  try simp only [World.grow_grow] at hK ⊢
                  simp only [e110, e125] at hK ⊢
                  clear e110 e125
                  go_simp
                  go_wp2_with fail
                  exact ⟨_, rfl, rfl, (by first | exact Below.refl _ _ | exact below_same _ _ _ | exact below_more _ _ _ _ | exact below_of_grow _ _), fun h => by cases h⟩
              case hend =>
                intro x w1 hH
                have e92 : x 92 = _ := hH.holds 0 (by decide) trivial 92 rfl
                have e93 : x 93 = _ := hH.holds 1 (by decide) trivial 93 rfl
                have e94 : x 94 = _ := hH.holds 2 (by decide) trivial 94 rfl
                have e95 : x 95 = _ := hH.holds 3 (by decide) trivial 95 rfl
                have e96 : x 96 = _ := hH.holds 4 (by decide) trivial 96 rfl
                have e97 : x 97 = _ := hH.holds 5 (by decide) trivial 97 rfl
                have e98 : x 98 = _ := hH.holds 6 (by decide) trivial 98 rfl
                have e99 : x 99 = _ := hH.holds 7 (by decide) trivial 99 rfl
                have e100 : x 100 = _ := hH.holds 8 (by decide) trivial 100 rfl
                have e101 : x 101 = _ := hH.holds 9 (by decide) trivial 101 rfl
                have e102 : x 102 = _ := hH.holds 10 (by decide) trivial 102 rfl
                have e103 : x 103 = _ := hH.holds 11 (by decide) trivial 103 rfl
                have e104 : x 104 = _ := hH.holds 12 (by decide) trivial 104 rfl
                have e105 : x 105 = _ := hH.holds 13 (by decide) trivial 105 rfl
                have e106 : x 106 = _ := hH.holds 14 (by decide) trivial 106 rfl
                have e107 : x 107 = _ := hH.holds 15 (by decide) trivial 107 rfl
                have e108 : x 108 = _ := hH.holds 16 (by decide) trivial 108 rfl
                have e109 : x 109 = _ := hH.holds 17 (by decide) trivial 109 rfl
                have e110 : x 110 = _ := hH.holds 18 (by decide) trivial 110 rfl
                have e111 : x 111 = _ := hH.holds 19 (by decide) trivial 111 rfl
                have e112 : x 112 = _ := hH.holds 20 (by decide) trivial 112 rfl
                have e113 : x 113 = _ := hH.holds 21 (by decide) trivial 113 rfl
                have e114 : x 114 = _ := hH.holds 22 (by decide) trivial 114 rfl
                have e115 : x 115 = _ := hH.holds 23 (by decide) trivial 115 rfl
                have e116 : x 116 = _ := hH.holds 24 (by decide) trivial 116 rfl
                have e117 : x 117 = _ := hH.holds 25 (by decide) trivial 117 rfl
                have e118 : x 118 = _ := hH.holds 26 (by decide) trivial 118 rfl
                have e119 : x 119 = _ := hH.holds 27 (by decide) trivial 119 rfl
                have e120 : x 120 = _ := hH.holds 28 (by decide) trivial 120 rfl
                have e121 : x 121 = _ := hH.holds 29 (by decide) trivial 121 rfl
                have e122 : x 122 = _ := hH.holds 30 (by decide) trivial 122 rfl
                have e123 : x 123 = _ := hH.holds 31 (by decide) trivial 123 rfl
                have e124 : x 124 = _ := hH.holds 32 (by decide) trivial 124 rfl
                have e125 : x 125 = _ := hH.holds 33 (by decide) trivial 125 rfl
                have e126 : x 126 = _ := hH.holds 34 (by decide) trivial 126 rfl
                obtain ⟨xs, d, rfl⟩ := grow_of_below hH.below
                clear hH
                simp only [e92, e93, e94, e95, e96, e97, e98, e99, e100, e101, e102, e103, e104, e105, e106, e107, e108, e109, e110, e111, e112, e113, e114, e115, e116, e117, e118, e119, e120, e121, e122, e123, e124, e125, e126]; clear e92 e93 e94 e95 e96 e97 e98 e99 e100 e101 e102 e103 e104 e105 e106 e107 e108 e109 e110 e111 e112 e113 e114 e115 e116 e117 e118 e119 e120 e121 e122 e123 e124 e125 e126
                simp only [List.drop_succ_cons, List.drop_nil]
                go_wp2_with fail
                go_roundw
                case rel => exact ⟨i + 1, by omega, by go_num, _, _, by rw [H7.out]; exact World.grow_grow _ _ _ _⟩
                case measure => simp [intOf]; omega
            · have hr6 : W5.heap[rb]? = some (.cells (recA rr) 55) := by rw [hW5, hrb]; exact (heap_al _ _ _).trans (if_pos (by simp))
              have cr := cut_heap hr6 (show (recA rr).size = 9 from rfl)
              have lr := lt_of_heap hr6
              have ck : W5.cell? ⟨rb, 0, none⟩ = some (.int .u8 rr.kind.toNat) := (cells_is hr6 0).1
              rw [hk4] at ck
              clear hW5 hr6 hrb hb5 hlb c25 cd c9 h7
              apply wp_region_specs (by rfl) (.val _ :: .val _ :: .val _ :: .val _ :: .val _ :: .val _ :: .val _ :: .val _ :: .val _ :: .val _ :: .val _ :: .val _ :: .val _ :: .val _ :: .val _ :: .val _ :: .val _ :: .val _ :: .val _ :: .val _ :: .val _ :: .val _ :: .val _ :: .val _ :: .val _ :: .val _ :: .val _ :: .val _ :: .val _ :: .val _ :: .val _ :: .val _ :: .val _ :: .val _ :: .val _ :: []) 35 (by rfl) (92 :: 93 :: 94 :: 95 :: 96 :: 97 :: 98 :: 99 :: 100 :: 101 :: 102 :: 103 :: 104 :: 105 :: 106 :: 107 :: 108 :: 109 :: 110 :: 111 :: 112 :: 113 :: 114 :: 115 :: 116 :: 117 :: 118 :: 119 :: 120 :: 121 :: 122 :: 123 :: 124 :: 125 :: 126 :: []) [] [] (by rfl) (by rfl) (by decide) (by decide +kernel) (fun _ _ _ _ _ h => h)
              case hF => intro x; simp only [over, List.foldl_cons, List.foldl_nil, List.setIfInBounds_toArray, List.set_cons_succ, List.set_cons_zero]; exact rfl
              case hops =>
                refine ⟨?o0, ?o1, ?o2, ?o3, ?o4, ?o5, ?o6, ?o7, ?o8, ?o9, ?o10, ?o11, ?o12, ?o13, ?o14, ?o15, ?o16, ?o17, ?o18, ?o19, ?o20, ?o21, ?o22, ?o23, ?o24, ?o25, ?o26, ?o27, ?o28, ?o29, ?o30, ?o31, ?o32, ?o33, ?o34, trivial⟩
                case o0 =>
                  intro x w1 hH K hK
                  obtain ⟨xs, d, rfl⟩ := grow_of_below hH.below
                  clear hH
                  try simp only [World.grow_drew] at hK ⊢
                  try simp only [World.grow_grow] at hK ⊢
                  go_simp
                  go_wp2_with fail
                  exact ⟨_, rfl, rfl, (by first | exact Below.refl _ _ | exact below_same _ _ _ | exact below_more _ _ _ _ | exact below_of_grow _ _), fun h => by cases h⟩
                case o1 =>
                  intro x w1 hH K hK
                  obtain ⟨xs, d, rfl⟩ := grow_of_below hH.below
                  clear hH
                  try simp only [World.grow_drew] at hK ⊢
                  try simp only [World.grow_grow] at hK ⊢
                  go_simp
                  go_wp2_with fail
                  exact ⟨_, rfl, rfl, (by first | exact Below.refl _ _ | exact below_same _ _ _ | exact below_more _ _ _ _ | exact below_of_grow _ _), fun h => by cases h⟩
                case o2 =>
                  intro x w1 hH K hK
                  obtain ⟨xs, d, rfl⟩ := grow_of_below hH.below
                  clear hH
                  try simp only [World.grow_drew] at hK ⊢
                  try simp only [World.grow_grow] at hK ⊢
                  go_simp
                  go_wp2_with fail
                  exact ⟨_, rfl, rfl, (by first | exact Below.refl _ _ | exact below_same _ _ _ | exact below_more _ _ _ _ | exact below_of_grow _ _), fun h => by cases h⟩
                case o3 =>
                  intro x w1 hH K hK
                  have e93 : x 93 = _ := hH.holds 1 (by decide) (by decide +kernel) 93 rfl
                  have e94 : x 94 = _ := hH.holds 2 (by decide) (by decide +kernel) 94 rfl
                  obtain ⟨xs, d, rfl⟩ := grow_of_below hH.below
                  clear hH
                  try simp only [World.grow_drew] at hK ⊢
                  try simp only [World.grow_grow] at hK ⊢
                  simp only [e93, e94] at hK ⊢
                  clear e93 e94
                  go_simp
                  go_wp2_with fail
                  exact ⟨_, rfl, rfl, (by first | exact Below.refl _ _ | exact below_same _ _ _ | exact below_more _ _ _ _ | exact below_of_grow _ _), fun h => by cases h⟩
                case o4 =>
                  intro x w1 hH K hK
                  have e95 : x 95 = _ := hH.holds 3 (by decide) (by decide +kernel) 95 rfl
                  obtain ⟨xs, d, rfl⟩ := grow_of_below hH.below
                  clear hH
                  try simp only [World.grow_drew] at hK ⊢
                  try simp only [World.grow_grow] at hK ⊢
                  simp only [e95] at hK ⊢
                  clear e95
                  go_simp
                  go_wp2_with fail
                  exact ⟨_, rfl, rfl, (by first | exact Below.refl _ _ | exact below_same _ _ _ | exact below_more _ _ _ _ | exact below_of_grow _ _), fun h => by cases h⟩
                case o5 =>
                  intro x w1 hH K hK
                  have e96 : x 96 = _ := hH.holds 4 (by decide) (by decide +kernel) 96 rfl
                  obtain ⟨xs, d, rfl⟩ := grow_of_below hH.below
                  clear hH
                  try simp only [World.grow_drew] at hK ⊢
                  try simp only [World.grow_grow] at hK ⊢
                  simp only [e96] at hK ⊢
                  clear e96
                  go_simp
                  go_wp2_with fail
                  exact ⟨_, rfl, rfl, (by first | exact Below.refl _ _ | exact below_same _ _ _ | exact below_more _ _ _ _ | exact below_of_grow _ _), fun h => by cases h⟩
                case o6 =>
                  intro x w1 hH K hK
                  have e92 : x 92 = _ := hH.holds 0 (by decide) (by decide +kernel) 92 rfl
                  have e97 : x 97 = _ := hH.holds 5 (by decide) (by decide +kernel) 97 rfl
                  obtain ⟨xs, d, rfl⟩ := grow_of_below hH.below
                  clear hH
                  try simp only [World.grow_drew] at hK ⊢
                  try simp only [World.grow_grow] at hK ⊢
                  simp only [e92, e97] at hK ⊢
                  clear e92 e97
                  go_simp
                  go_wp2_with fail
                  exact ⟨_, rfl, rfl, (by first | exact Below.refl _ _ | exact below_same _ _ _ | exact below_more _ _ _ _ | exact below_of_grow _ _), fun h => by cases h⟩
                case o7 =>
                  intro x w1 hH K hK
                  have e98 : x 98 = _ := hH.holds 6 (by decide) (by decide +kernel) 98 rfl
                  obtain ⟨xs, d, rfl⟩ := grow_of_below hH.below
                  clear hH
                  try simp only [World.grow_drew] at hK ⊢
                  try simp only [World.grow_grow] at hK ⊢
                  simp only [e98] at hK ⊢
                  clear e98
                  go_simp
                  go_wp2_with fail
                  exact ⟨_, rfl, rfl, (by first | exact Below.refl _ _ | exact below_same _ _ _ | exact below_more _ _ _ _ | exact below_of_grow _ _), fun h => by cases h⟩
                case o8 =>
                  intro x w1 hH K hK
                  have e99 : x 99 = _ := hH.holds 7 (by decide) (by decide +kernel) 99 rfl
                  obtain ⟨xs, d, rfl⟩ := grow_of_below hH.below
                  clear hH
                  try simp only [World.grow_drew] at hK ⊢
                  try simp only [World.grow_grow] at hK ⊢
                  simp only [e99] at hK ⊢
                  clear e99
                  go_simp
                  go_wp2_with fail
                  exact ⟨_, rfl, rfl, (by first | exact Below.refl _ _ | exact below_same _ _ _ | exact below_more _ _ _ _ | exact below_of_grow _ _), fun h => by cases h⟩
                case o9 =>
                  intro x w1 hH K hK
                  have e99 : x 99 = _ := hH.holds 7 (by decide) (by decide +kernel) 99 rfl
                  obtain ⟨xs, d, rfl⟩ := grow_of_below hH.below
                  clear hH
                  try simp only [World.grow_drew] at hK ⊢
                  try simp only [World.grow_grow] at hK ⊢
                  simp only [e99] at hK ⊢
                  clear e99
                  go_simp
                  go_wp2_with fail
                  exact ⟨_, rfl, rfl, (by first | exact Below.refl _ _ | exact below_same _ _ _ | exact below_more _ _ _ _ | exact below_of_grow _ _), fun h => by cases h⟩
                case o10 =>
                  intro x w1 hH K hK
                  have e99 : x 99 = _ := hH.holds 7 (by decide) (by decide +kernel) 99 rfl
                  obtain ⟨xs, d, rfl⟩ := grow_of_below hH.below
                  clear hH
                  try simp only [World.grow_drew] at hK ⊢
                  try simp only [World.grow_grow] at hK ⊢
                  simp only [e99] at hK ⊢
                  clear e99
                  go_simp
                  go_wp2_with fail
                  exact ⟨_, rfl, rfl, (by first | exact Below.refl _ _ | exact below_same _ _ _ | exact below_more _ _ _ _ | exact below_of_grow _ _), fun h => by cases h⟩
                case o11 =>
                  intro x w1 hH K hK
                  have e99 : x 99 = _ := hH.holds 7 (by decide) (by decide +kernel) 99 rfl
                  have e101 : x 101 = _ := hH.holds 9 (by decide) (by decide +kernel) 101 rfl
                  have e102 : x 102 = _ := hH.holds 10 (by decide) (by decide +kernel) 102 rfl
                  obtain ⟨xs, d, rfl⟩ := grow_of_below hH.below
                  clear hH
                  try simp only [World.grow_drew] at hK ⊢
                  try simp only [World.grow_grow] at hK ⊢
                  simp only [e99, e101, e102] at hK ⊢
                  clear e99 e101 e102
                  go_simp
                  go_wp2_with fail
                  exact ⟨_, rfl, rfl, (by first | exact Below.refl _ _ | exact below_same _ _ _ | exact below_more _ _ _ _ | exact below_of_grow _ _), fun h => by cases h⟩
                case o12 =>
                  intro x w1 hH K hK
                  have e99 : x 99 = _ := hH.holds 7 (by decide) (by decide +kernel) 99 rfl
                  have e103 : x 103 = _ := hH.holds 11 (by decide) (by decide +kernel) 103 rfl
                  obtain ⟨xs, d, rfl⟩ := grow_of_below hH.below
                  clear hH
                  try simp only [World.grow_drew] at hK ⊢
                  try simp only [World.grow_grow] at hK ⊢
                  simp only [e99, e103] at hK ⊢
                  clear e99 e103
                  go_simp
                  go_wp2_with fail
                  exact ⟨_, rfl, rfl, (by first | exact Below.refl _ _ | exact below_same _ _ _ | exact below_more _ _ _ _ | exact below_of_grow _ _), fun h => by cases h⟩
                case o13 =>
                  intro x w1 hH K hK
                  have e99 : x 99 = _ := hH.holds 7 (by decide) (by decide +kernel) 99 rfl
                  have e104 : x 104 = _ := hH.holds 12 (by decide) (by decide +kernel) 104 rfl
                  obtain ⟨xs, d, rfl⟩ := grow_of_below hH.below
                  clear hH
                  try simp only [World.grow_drew] at hK ⊢
                  try simp only [World.grow_grow] at hK ⊢
                  simp only [e99, e104] at hK ⊢
                  clear e99 e104
                  go_simp
                  go_wp2_with fail
                  exact ⟨_, rfl, rfl, (by first | exact Below.refl _ _ | exact below_same _ _ _ | exact below_more _ _ _ _ | exact below_of_grow _ _), fun h => by cases h⟩
                case o14 =>
                  intro x w1 hH K hK
                  have e99 : x 99 = _ := hH.holds 7 (by decide) (by decide +kernel) 99 rfl
                  have e100 : x 100 = _ := hH.holds 8 (by decide) (by decide +kernel) 100 rfl
                  have e105 : x 105 = _ := hH.holds 13 (by decide) (by decide +kernel) 105 rfl
                  obtain ⟨xs, d, rfl⟩ := grow_of_below hH.below
                  clear hH
                  try simp only [World.grow_drew] at hK ⊢
                  try simp only [World.grow_grow] at hK ⊢
                  simp only [e99, e100, e105] at hK ⊢
                  clear e99 e100 e105
                  go_simp
                  go_wp2_with (refine Gives.use (HNW5.out _ (by repeat (first | exact below_of_grow _ _ | exact Below.refl _ _ | exact below_more _ _ _ _ | (simp only [← Array.append_assoc]; first | exact below_more _ _ _ _ | exact below_same _ _ _ | exact Below.refl _ _) | exact below_same _ _ _ | (refine Below.alloc ?_ (by first | (simp; done) | (simp; omega)) _) | (refine Below.grow ?_ (by first | (simp; done) | (simp; omega)) _ _) | refine Below.drew ?_ | refine Below.drewN ?_ _ | (refine Below.putF ?_ (by first | (simp; done) | omega | (simp; omega)) _) | (refine Below.setCell ?_ (by first | (simp; done) | (simp; omega)) _)))) ?_; intro ys e)
                  exact ⟨_, rfl, rfl, (by first | exact below_more _ _ _ _ | exact (by repeat (first | exact below_of_grow _ _ | exact Below.refl _ _ | exact below_more _ _ _ _ | (simp only [← Array.append_assoc]; first | exact below_more _ _ _ _ | exact below_same _ _ _ | exact Below.refl _ _) | exact below_same _ _ _ | (refine Below.alloc ?_ (by first | (simp; done) | (simp; omega)) _) | (refine Below.grow ?_ (by first | (simp; done) | (simp; omega)) _ _) | refine Below.drew ?_ | refine Below.drewN ?_ _ | (refine Below.putF ?_ (by first | (simp; done) | omega | (simp; omega)) _) | (refine Below.setCell ?_ (by first | (simp; done) | (simp; omega)) _)))), fun h => by cases h⟩
                case o15 =>
                  intro x w1 hH K hK
                  have e99 : x 99 = _ := hH.holds 7 (by decide) (by decide +kernel) 99 rfl
                  obtain ⟨xs, d, rfl⟩ := grow_of_below hH.below
                  clear hH
                  try simp only [World.grow_drew] at hK ⊢
                  try simp only [World.grow_grow] at hK ⊢
                  simp only [e99] at hK ⊢
                  clear e99
                  go_simp
                  go_wp2_with fail
                  exact ⟨_, rfl, rfl, (by first | exact Below.refl _ _ | exact below_same _ _ _ | exact below_more _ _ _ _ | exact below_of_grow _ _), fun h => by cases h⟩
                case o16 =>
                  intro x w1 hH K hK
                  have e99 : x 99 = _ := hH.holds 7 (by decide) (by decide +kernel) 99 rfl
                  have e106 : x 106 = _ := hH.holds 14 (by decide) (by decide +kernel) 106 rfl
                  have e107 : x 107 = _ := hH.holds 15 (by decide) (by decide +kernel) 107 rfl
                  obtain ⟨xs, d, rfl⟩ := grow_of_below hH.below
                  clear hH
                  try simp only [World.grow_drew] at hK ⊢
                  try simp only [World.grow_grow] at hK ⊢
                  simp only [e99, e106, e107] at hK ⊢
                  clear e99 e106 e107
                  go_simp
                  go_wp2_with fail
                  exact ⟨_, rfl, rfl, (by first | exact Below.refl _ _ | exact below_same _ _ _ | exact below_more _ _ _ _ | exact below_of_grow _ _), fun h => by cases h⟩
                case o17 =>
                  intro x w1 hH K hK
                  have e99 : x 99 = _ := hH.holds 7 (by decide) (by decide +kernel) 99 rfl
                  have e108 : x 108 = _ := hH.holds 16 (by decide) (by decide +kernel) 108 rfl
                  obtain ⟨xs, d, rfl⟩ := grow_of_below hH.below
                  clear hH
                  try simp only [World.grow_drew] at hK ⊢
                  try simp only [World.grow_grow] at hK ⊢
                  simp only [e99, e108] at hK ⊢
                  clear e99 e108
                  go_simp
                  go_wp2_with fail
                  exact ⟨_, rfl, rfl, (by first | exact Below.refl _ _ | exact below_same _ _ _ | exact below_more _ _ _ _ | exact below_of_grow _ _), fun h => by cases h⟩
                case o18 =>
                  intro x w1 hH K hK
                  have e109 : x 109 = _ := hH.holds 17 (by decide) (by decide +kernel) 109 rfl
                  obtain ⟨xs, d, rfl⟩ := grow_of_below hH.below
                  clear hH
                  try simp only [World.grow_drew] at hK ⊢
                  try simp only [World.grow_grow] at hK ⊢
                  simp only [e109] at hK ⊢
                  clear e109
                  go_simp
                  go_wp2_with fail
                  exact ⟨_, rfl, rfl, (by first | exact Below.refl _ _ | exact below_same _ _ _ | exact below_more _ _ _ _ | exact below_of_grow _ _), fun h => by cases h⟩
                case o19 =>
                  intro x w1 hH K hK
                  have e110 : x 110 = _ := hH.holds 18 (by decide) (by decide +kernel) 110 rfl
                  obtain ⟨xs, d, rfl⟩ := grow_of_below hH.below
                  clear hH
                  try simp only [World.grow_drew] at hK ⊢
                  try simp only [World.grow_grow] at hK ⊢
                  simp only [e110] at hK ⊢
                  clear e110
                  go_simp
                  go_wp2_with fail
                  exact ⟨_, rfl, rfl, (by first | exact Below.refl _ _ | exact below_same _ _ _ | exact below_more _ _ _ _ | exact below_of_grow _ _), fun h => by cases h⟩
                case o20 =>
                  intro x w1 hH K hK
                  have e110 : x 110 = _ := hH.holds 18 (by decide) (by decide +kernel) 110 rfl
                  have e111 : x 111 = _ := hH.holds 19 (by decide) (by decide +kernel) 111 rfl
                  obtain ⟨xs, d, rfl⟩ := grow_of_below hH.below
                  clear hH
                  try simp only [World.grow_drew] at hK ⊢
                  try simp only [World.grow_grow] at hK ⊢
                  simp only [e110, e111] at hK ⊢
                  clear e110 e111
                  go_simp
                  go_wp2_with fail
                  exact ⟨_, rfl, rfl, (by first | exact Below.refl _ _ | exact below_same _ _ _ | exact below_more _ _ _ _ | exact below_of_grow _ _), fun h => by cases h⟩
                case o21 =>
                  intro x w1 hH K hK
                  have e112 : x 112 = _ := hH.holds 20 (by decide) (by decide +kernel) 112 rfl
                  obtain ⟨xs, d, rfl⟩ := grow_of_below hH.below
                  clear hH
                  try simp only [World.grow_drew] at hK ⊢
                  try simp only [World.grow_grow] at hK ⊢
                  simp only [e112] at hK ⊢
                  clear e112
                  go_simp
                  go_wp2_with fail
                  exact ⟨_, rfl, rfl, (by first | exact Below.refl _ _ | exact below_same _ _ _ | exact below_more _ _ _ _ | exact below_of_grow _ _), fun h => by cases h⟩
                case o22 =>
                  intro x w1 hH K hK
                  have e112 : x 112 = _ := hH.holds 20 (by decide) (by decide +kernel) 112 rfl
                  obtain ⟨xs, d, rfl⟩ := grow_of_below hH.below
                  clear hH
                  try simp only [World.grow_drew] at hK ⊢
                  try simp only [World.grow_grow] at hK ⊢
                  simp only [e112] at hK ⊢
                  clear e112
                  go_simp
                  go_wp2_with fail
                  exact ⟨_, rfl, rfl, (by first | exact Below.refl _ _ | exact below_same _ _ _ | exact below_more _ _ _ _ | exact below_of_grow _ _), fun h => by cases h⟩
                case o23 =>
                  intro x w1 hH K hK
                  have e112 : x 112 = _ := hH.holds 20 (by decide) (by decide +kernel) 112 rfl
                  obtain ⟨xs, d, rfl⟩ := grow_of_below hH.below
                  clear hH
                  try simp only [World.grow_drew] at hK ⊢
                  try simp only [World.grow_grow] at hK ⊢
                  simp only [e112] at hK ⊢
                  clear e112
                  go_simp
                  go_wp2_with fail
                  exact ⟨_, rfl, rfl, (by first | exact Below.refl _ _ | exact below_same _ _ _ | exact below_more _ _ _ _ | exact below_of_grow _ _), fun h => by cases h⟩
                case o24 =>
                  intro x w1 hH K hK
                  have e112 : x 112 = _ := hH.holds 20 (by decide) (by decide +kernel) 112 rfl
                  have e114 : x 114 = _ := hH.holds 22 (by decide) (by decide +kernel) 114 rfl
                  have e115 : x 115 = _ := hH.holds 23 (by decide) (by decide +kernel) 115 rfl
                  obtain ⟨xs, d, rfl⟩ := grow_of_below hH.below
                  clear hH
                  try simp only [World.grow_drew] at hK ⊢
                  try simp only [World.grow_grow] at hK ⊢
                  simp only [e112, e114, e115] at hK ⊢
                  clear e112 e114 e115
                  go_simp
                  go_wp2_with fail
                  exact ⟨_, rfl, rfl, (by first | exact Below.refl _ _ | exact below_same _ _ _ | exact below_more _ _ _ _ | exact below_of_grow _ _), fun h => by cases h⟩
                case o25 =>
                  intro x w1 hH K hK
                  have e112 : x 112 = _ := hH.holds 20 (by decide) (by decide +kernel) 112 rfl
                  have e116 : x 116 = _ := hH.holds 24 (by decide) (by decide +kernel) 116 rfl
                  obtain ⟨xs, d, rfl⟩ := grow_of_below hH.below
                  clear hH
                  try simp only [World.grow_drew] at hK ⊢
                  try simp only [World.grow_grow] at hK ⊢
                  simp only [e112, e116] at hK ⊢
                  clear e112 e116
                  go_simp
                  go_wp2_with fail
                  exact ⟨_, rfl, rfl, (by first | exact Below.refl _ _ | exact below_same _ _ _ | exact below_more _ _ _ _ | exact below_of_grow _ _), fun h => by cases h⟩
                case o26 =>
                  intro x w1 hH K hK
                  have e112 : x 112 = _ := hH.holds 20 (by decide) (by decide +kernel) 112 rfl
                  have e117 : x 117 = _ := hH.holds 25 (by decide) (by decide +kernel) 117 rfl
                  obtain ⟨xs, d, rfl⟩ := grow_of_below hH.below
                  clear hH
                  try simp only [World.grow_drew] at hK ⊢
                  try simp only [World.grow_grow] at hK ⊢
                  simp only [e112, e117] at hK ⊢
                  clear e112 e117
                  go_simp
                  go_wp2_with fail
                  exact ⟨_, rfl, rfl, (by first | exact Below.refl _ _ | exact below_same _ _ _ | exact below_more _ _ _ _ | exact below_of_grow _ _), fun h => by cases h⟩
                case o27 =>
                  intro x w1 hH K hK
                  have e112 : x 112 = _ := hH.holds 20 (by decide) (by decide +kernel) 112 rfl
                  have e113 : x 113 = _ := hH.holds 21 (by decide) (by decide +kernel) 113 rfl
                  have e118 : x 118 = _ := hH.holds 26 (by decide) (by decide +kernel) 118 rfl
                  obtain ⟨xs, d, rfl⟩ := grow_of_below hH.below
                  clear hH
                  try simp only [World.grow_drew] at hK ⊢
                  try simp only [World.grow_grow] at hK ⊢
                  simp only [e112, e113, e118] at hK ⊢
                  clear e112 e113 e118
                  go_simp
                  go_wp2_with fail
                  exact ⟨_, rfl, rfl, (by first | exact Below.refl _ _ | exact below_same _ _ _ | exact below_more _ _ _ _ | exact below_of_grow _ _), fun h => by cases h⟩
                case o28 =>
                  intro x w1 hH K hK
                  have e110 : x 110 = _ := hH.holds 18 (by decide) (by decide +kernel) 110 rfl
                  have e112 : x 112 = _ := hH.holds 20 (by decide) (by decide +kernel) 112 rfl
                  have e119 : x 119 = _ := hH.holds 27 (by decide) (by decide +kernel) 119 rfl
                  obtain ⟨xs, d, rfl⟩ := grow_of_below hH.below
                  clear hH
                  try simp only [World.grow_drew] at hK ⊢
                  try simp only [World.grow_grow] at hK ⊢
                  simp only [e110, e112, e119] at hK ⊢
                  clear e110 e112 e119
                  go_simp
                  go_wp2_with fail
                  exact ⟨_, rfl, rfl, (by first | exact Below.refl _ _ | exact below_same _ _ _ | exact below_more _ _ _ _ | exact below_of_grow _ _), fun h => by cases h⟩
                case o29 =>
                  intro x w1 hH K hK
                  have e110 : x 110 = _ := hH.holds 18 (by decide) (by decide +kernel) 110 rfl
                  have e120 : x 120 = _ := hH.holds 28 (by decide) (by decide +kernel) 120 rfl
                  obtain ⟨xs, d, rfl⟩ := grow_of_below hH.below
                  clear hH
                  try simp only [World.grow_drew] at hK ⊢
                  try simp only [World.grow_grow] at hK ⊢
                  simp only [e110, e120] at hK ⊢
                  clear e110 e120
                  go_simp
                  go_wp2_with fail
                  exact ⟨_, rfl, rfl, (by first | exact Below.refl _ _ | exact below_same _ _ _ | exact below_more _ _ _ _ | exact below_of_grow _ _), fun h => by cases h⟩
                case o30 =>
                  intro x w1 hH K hK
                  have e121 : x 121 = _ := hH.holds 29 (by decide) (by decide +kernel) 121 rfl
                  obtain ⟨xs, d, rfl⟩ := grow_of_below hH.below
                  clear hH
                  try simp only [World.grow_drew] at hK ⊢
                  try simp only [World.grow_grow] at hK ⊢
                  simp only [e121] at hK ⊢
                  clear e121
                  go_simp
                  go_wp2_with fail
                  exact ⟨_, rfl, rfl, (by first | exact Below.refl _ _ | exact below_same _ _ _ | exact below_more _ _ _ _ | exact below_of_grow _ _), fun h => by cases h⟩
                case o31 =>
                  intro x w1 hH K hK
                  have e121 : x 121 = _ := hH.holds 29 (by decide) (by decide +kernel) 121 rfl
                  have e122 : x 122 = _ := hH.holds 30 (by decide) (by decide +kernel) 122 rfl
                  obtain ⟨xs, d, rfl⟩ := grow_of_below hH.below
                  clear hH
                  try simp only [World.grow_drew] at hK ⊢
                  try simp only [World.grow_grow] at hK ⊢
                  simp only [e121, e122] at hK ⊢
                  clear e121 e122
                  go_simp
                  go_wp2_with fail
                  exact ⟨_, rfl, rfl, (by first | exact Below.refl _ _ | exact below_same _ _ _ | exact below_more _ _ _ _ | exact below_of_grow _ _), fun h => by cases h⟩
                case o32 =>
                  intro x w1 hH K hK
                  have e121 : x 121 = _ := hH.holds 29 (by decide) (by decide +kernel) 121 rfl
                  have e123 : x 123 = _ := hH.holds 31 (by decide) (by decide +kernel) 123 rfl
                  obtain ⟨xs, d, rfl⟩ := grow_of_below hH.below
                  clear hH
                  try simp only [World.grow_drew] at hK ⊢
                  try simp only [World.grow_grow] at hK ⊢
                  simp only [e121, e123] at hK ⊢
                  clear e121 e123
                  go_simp
                  go_wp2_with fail
                  exact ⟨_, rfl, rfl, (by first | exact Below.refl _ _ | exact below_same _ _ _ | exact below_more _ _ _ _ | exact below_of_grow _ _), fun h => by cases h⟩
                case o33 =>
                  intro x w1 hH K hK
                  have e110 : x 110 = _ := hH.holds 18 (by decide) (by decide +kernel) 110 rfl
                  have e121 : x 121 = _ := hH.holds 29 (by decide) (by decide +kernel) 121 rfl
                  have e124 : x 124 = _ := hH.holds 32 (by decide) (by decide +kernel) 124 rfl
                  obtain ⟨xs, d, rfl⟩ := grow_of_below hH.below
                  clear hH
                  try simp only [World.grow_drew] at hK ⊢
                  try simp only [World.grow_grow] at hK ⊢
                  simp only [e110, e121, e124] at hK ⊢
                  clear e110 e121 e124
                  go_simp
                  go_wp2_with fail
                  exact ⟨_, rfl, rfl, (by first | exact Below.refl _ _ | exact below_same _ _ _ | exact below_more _ _ _ _ | exact below_of_grow _ _), fun h => by cases h⟩
                case o34 =>
                  intro x w1 hH K hK
                  have e110 : x 110 = _ := hH.holds 18 (by decide) (by decide +kernel) 110 rfl
                  have e125 : x 125 = _ := hH.holds 33 (by decide) (by decide +kernel) 125 rfl
                  obtain ⟨xs, d, rfl⟩ := grow_of_below hH.below
                  clear hH
                  try simp only [World.grow_drew] at hK ⊢
                  try simp only [World.grow_grow] at hK ⊢
                  simp only [e110, e125] at hK ⊢
                  clear e110 e125
                  go_simp
                  go_wp2_with fail
                  exact ⟨_, rfl, rfl, (by first | exact Below.refl _ _ | exact below_same _ _ _ | exact below_more _ _ _ _ | exact below_of_grow _ _), fun h => by cases h⟩
              case hend =>
                intro x w1 hH
                have e92 : x 92 = _ := hH.holds 0 (by decide) trivial 92 rfl
                have e93 : x 93 = _ := hH.holds 1 (by decide) trivial 93 rfl
                have e94 : x 94 = _ := hH.holds 2 (by decide) trivial 94 rfl
                have e95 : x 95 = _ := hH.holds 3 (by decide) trivial 95 rfl
                have e96 : x 96 = _ := hH.holds 4 (by decide) trivial 96 rfl
                have e97 : x 97 = _ := hH.holds 5 (by decide) trivial 97 rfl
                have e98 : x 98 = _ := hH.holds 6 (by decide) trivial 98 rfl
                have e99 : x 99 = _ := hH.holds 7 (by decide) trivial 99 rfl
                have e100 : x 100 = _ := hH.holds 8 (by decide) trivial 100 rfl
                have e101 : x 101 = _ := hH.holds 9 (by decide) trivial 101 rfl
                have e102 : x 102 = _ := hH.holds 10 (by decide) trivial 102 rfl
                have e103 : x 103 = _ := hH.holds 11 (by decide) trivial 103 rfl
                have e104 : x 104 = _ := hH.holds 12 (by decide) trivial 104 rfl
                have e105 : x 105 = _ := hH.holds 13 (by decide) trivial 105 rfl
                have e106 : x 106 = _ := hH.holds 14 (by decide) trivial 106 rfl
                have e107 : x 107 = _ := hH.holds 15 (by decide) trivial 107 rfl
                have e108 : x 108 = _ := hH.holds 16 (by decide) trivial 108 rfl
                have e109 : x 109 = _ := hH.holds 17 (by decide) trivial 109 rfl
                have e110 : x 110 = _ := hH.holds 18 (by decide) trivial 110 rfl
                have e111 : x 111 = _ := hH.holds 19 (by decide) trivial 111 rfl
                have e112 : x 112 = _ := hH.holds 20 (by decide) trivial 112 rfl
                have e113 : x 113 = _ := hH.holds 21 (by decide) trivial 113 rfl
                have e114 : x 114 = _ := hH.holds 22 (by decide) trivial 114 rfl
                have e115 : x 115 = _ := hH.holds 23 (by decide) trivial 115 rfl
                have e116 : x 116 = _ := hH.holds 24 (by decide) trivial 116 rfl
                have e117 : x 117 = _ := hH.holds 25 (by decide) trivial 117 rfl
                have e118 : x 118 = _ := hH.holds 26 (by decide) trivial 118 rfl
                have e119 : x 119 = _ := hH.holds 27 (by decide) trivial 119 rfl
                have e120 : x 120 = _ := hH.holds 28 (by decide) trivial 120 rfl
                have e121 : x 121 = _ := hH.holds 29 (by decide) trivial 121 rfl
                have e122 : x 122 = _ := hH.holds 30 (by decide) trivial 122 rfl
                have e123 : x 123 = _ := hH.holds 31 (by decide) trivial 123 rfl
                have e124 : x 124 = _ := hH.holds 32 (by decide) trivial 124 rfl
                have e125 : x 125 = _ := hH.holds 33 (by decide) trivial 125 rfl
                have e126 : x 126 = _ := hH.holds 34 (by decide) trivial 126 rfl
                obtain ⟨xs, d, rfl⟩ := grow_of_below hH.below
                clear hH
                simp only [e92, e93, e94, e95, e96, e97, e98, e99, e100, e101, e102, e103, e104, e105, e106, e107, e108, e109, e110, e111, e112, e113, e114, e115, e116, e117, e118, e119, e120, e121, e122, e123, e124, e125, e126]; clear e92 e93 e94 e95 e96 e97 e98 e99 e100 e101 e102 e103 e104 e105 e106 e107 e108 e109 e110 e111 e112 e113 e114 e115 e116 e117 e118 e119 e120 e121 e122 e123 e124 e125 e126
                simp only [List.drop_succ_cons, List.drop_nil]
                go_wp2_with fail
                go_roundw
                case rel => exact ⟨i + 1, by omega, by go_num, _, _, by rw [H7.out]; exact World.grow_grow _ _ _ _⟩
                case measure => simp [intOf]; omega
          · obtain rfl : i = L.length := by omega
            have hltI : ¬ (L.length : Int) < L.length := by omega
            go_wp2_with fail
            go_meet
            exact ⟨ys, dy, rfl⟩
      case rest =>
        obtain ⟨ys, dy, rfl⟩ := hcut
        obtain ⟨hwa, hwv⟩ := HWA.out
        clear HWA
        go_wp2_with fail
        refine Gives.use (HKN.out _) ?_
        intro xs5 d5
        go_wp2_with fail
        refine Gives.use (HLA3.out _ (by repeat (first | exact below_of_grow _ _ | exact Below.refl _ _ | exact below_more _ _ _ _ | (simp only [← Array.append_assoc]; first | exact below_more _ _ _ _ | exact below_same _ _ _ | exact Below.refl _ _) | exact below_same _ _ _ | (refine Below.alloc ?_ (by first | (simp; done) | (simp; omega)) _) | (refine Below.grow ?_ (by first | (simp; done) | (simp; omega)) _ _) | refine Below.drew ?_ | refine Below.drewN ?_ _ | (refine Below.putF ?_ (by first | (simp; done) | omega | (simp; omega)) _) | (refine Below.setCell ?_ (by first | (simp; done) | (simp; omega)) _)))) ?_
        intro xs6 d6
        go_wp2_with fail
        refine Gives.use (HVE3.out _ (by repeat (first | exact below_of_grow _ _ | exact Below.refl _ _ | exact below_more _ _ _ _ | (simp only [← Array.append_assoc]; first | exact below_more _ _ _ _ | exact below_same _ _ _ | exact Below.refl _ _) | exact below_same _ _ _ | (refine Below.alloc ?_ (by first | (simp; done) | (simp; omega)) _) | (refine Below.grow ?_ (by first | (simp; done) | (simp; omega)) _ _) | refine Below.drew ?_ | refine Below.drewN ?_ _ | (refine Below.putF ?_ (by first | (simp; done) | omega | (simp; omega)) _) | (refine Below.setCell ?_ (by first | (simp; done) | (simp; omega)) _)))) ?_
        intro xs7 d7
        go_wp2_with fail
        go_ret
        exact ⟨rfl, H3.out.1.trans ((show Below W3.heap.size W3 _ from (by repeat (first | exact below_of_grow _ _ | exact Below.refl _ _ | exact below_more _ _ _ _ | (simp only [← Array.append_assoc]; first | exact below_more _ _ _ _ | exact below_same _ _ _ | exact Below.refl _ _) | exact below_same _ _ _ | (refine Below.alloc ?_ (by first | (simp; done) | (simp; omega)) _) | (refine Below.grow ?_ (by first | (simp; done) | (simp; omega)) _ _) | refine Below.drew ?_ | refine Below.drewN ?_ _ | (refine Below.putF ?_ (by first | (simp; done) | omega | (simp; omega)) _) | (refine Below.setCell ?_ (by first | (simp; done) | (simp; omega)) _)))).mono H3.out.1.size)⟩
    · have HPUB := Lib.hid (publish_no hS2 (H1.out.2.2.1.short (by decide)) hlive _ L hsl2 he)
      have hne : (pubE (versG G) G.live L != 0) = true := by simpa using he
      have hne2 : ¬ pubE (versG G) G.live L = 0 := he
      have H2 := Lib.hid (And.intro (H1.out.1.trans (hb2.mono H1.out.1.size)) (And.intro (H1.out.1.size) hb2))
      clear hb2 hS2 hsl2 hlive he
      generalize pubE (versG G) G.live L = e at *
      have HLA2 := Lib.hid (fun (W : World) (hb : Below W2.heap.size W2 W) => HLA.out W (H2.out.2.2.trans (hb.mono H2.out.2.2.size)))
      have HLI2 := Lib.hid (fun (W : World) (hb : Below W2.heap.size W2 W) => HLI.out W (H2.out.2.2.trans (hb.mono H2.out.2.2.size)))
      have HVE2 := Lib.hid (fun (W : World) (hb : Below W2.heap.size W2 W) => HVE.out W (H2.out.2.2.trans (hb.mono H2.out.2.2.size)))
      clear HLA HLI HVE
      go_wp2_with fail
      refine Gives.use HPUB.out ?_
      intro xs4 d4
      go_wp2_with fail
      refine Gives.use (HKN.out _) ?_
      intro xs5 d5
      go_wp2_with fail
      refine Gives.use (HLA2.out _ (by repeat (first | exact below_of_grow _ _ | exact Below.refl _ _ | exact below_more _ _ _ _ | (simp only [← Array.append_assoc]; first | exact below_more _ _ _ _ | exact below_same _ _ _ | exact Below.refl _ _) | exact below_same _ _ _ | (refine Below.alloc ?_ (by first | (simp; done) | (simp; omega)) _) | (refine Below.grow ?_ (by first | (simp; done) | (simp; omega)) _ _) | refine Below.drew ?_ | refine Below.drewN ?_ _ | (refine Below.putF ?_ (by first | (simp; done) | omega | (simp; omega)) _) | (refine Below.setCell ?_ (by first | (simp; done) | (simp; omega)) _)))) ?_
      intro xs6 d6
      go_wp2_with fail
      refine Gives.use (HLI2.out _ (by repeat (first | exact below_of_grow _ _ | exact Below.refl _ _ | exact below_more _ _ _ _ | (simp only [← Array.append_assoc]; first | exact below_more _ _ _ _ | exact below_same _ _ _ | exact Below.refl _ _) | exact below_same _ _ _ | (refine Below.alloc ?_ (by first | (simp; done) | (simp; omega)) _) | (refine Below.grow ?_ (by first | (simp; done) | (simp; omega)) _ _) | refine Below.drew ?_ | refine Below.drewN ?_ _ | (refine Below.putF ?_ (by first | (simp; done) | omega | (simp; omega)) _) | (refine Below.setCell ?_ (by first | (simp; done) | (simp; omega)) _)))) ?_
      intro xs7 d7
      go_wp2_with fail
      refine Gives.use (HVE2.out _ (by repeat (first | exact below_of_grow _ _ | exact Below.refl _ _ | exact below_more _ _ _ _ | (simp only [← Array.append_assoc]; first | exact below_more _ _ _ _ | exact below_same _ _ _ | exact Below.refl _ _) | exact below_same _ _ _ | (refine Below.alloc ?_ (by first | (simp; done) | (simp; omega)) _) | (refine Below.grow ?_ (by first | (simp; done) | (simp; omega)) _ _) | refine Below.drew ?_ | refine Below.drewN ?_ _ | (refine Below.putF ?_ (by first | (simp; done) | omega | (simp; omega)) _) | (refine Below.setCell ?_ (by first | (simp; done) | (simp; omega)) _)))) ?_
      intro xs8 d8
      go_wp2_with fail
      go_ret
      exact ⟨rfl, H2.out.1.trans ((show Below W2.heap.size W2 _ from (by repeat (first | exact below_of_grow _ _ | exact Below.refl _ _ | exact below_more _ _ _ _ | (simp only [← Array.append_assoc]; first | exact below_more _ _ _ _ | exact below_same _ _ _ | exact Below.refl _ _) | exact below_same _ _ _ | (refine Below.alloc ?_ (by first | (simp; done) | (simp; omega)) _) | (refine Below.grow ?_ (by first | (simp; done) | (simp; omega)) _ _) | refine Below.drew ?_ | refine Below.drewN ?_ _ | (refine Below.putF ?_ (by first | (simp; done) | omega | (simp; omega)) _) | (refine Below.setCell ?_ (by first | (simp; done) | (simp; omega)) _)))).mono H2.out.1.size)⟩
end Go.Proofs.YtfgpcflegodlmaaGreatDoor
namespace Go.Proofs.YtfgpcflegodlmaaGreatDoor
set_option maxRecDepth 100000
open Go.RowKit

theorem storeWhole_law (w : World) (v0 v1 : Value) (h0 : Reads Tryz.prog w 31 v0) (h1 : Reads Tryz.prog w 22 v1) :
    Gives Tryz.prog 4 #[v0, v1] w (.bool true) := by
  obtain ⟨xs, hx, hw⟩ := acts14_read h0
  obtain ⟨ls, hl⟩ := writes_read h1
  exact whole_walk v0 v1 xs ls w hx hw hl

namespace storeWhole
open Go.ChangeShapes Go.WideShapes Go.ChangeAt Go.RowKit
open Go.ChangeMaps (open_string shut_string)
theorem own : ownKnob Tryz.prog.godebug = none := by kernel_rfl
theorem laidOut : laidOutB Tryz.prog = true := by kernel_rfl
/-- a world in which the listed variables hold what the row says -/
noncomputable def laidW (os : Os) : World := World.laidAll Tryz.prog os Rows.storeWholeRow.laid
set_option maxRecDepth 100000 in
theorem door_met (os : Os) (args : Array Value) : laidMetH Tryz.prog Rows.storeWholeRow.laid ((laidW os).forCall (fun _ _ => 0) ⟨#[], args, []⟩).memory := by
  rw [MakeChecks.laidMetH_plain _ _ _ (by kernel_rfl)]
  exact laidMet_laidAll args (by kernel_rfl) (by kernel_rfl)
set_option maxRecDepth 100000 in
theorem lifted (os : Os) (started : os.Started) (H : Type) (enc : TypeId × Value → H) :
    ReturnsInHanded {} Tryz.checked os 4 .any (fun w args => (Rows.storeWholeSpec.pre enc Tryz.prog Tryz.f4 Rows.storeWholeRow.domain false w args ∧ laidMetH Tryz.prog Rows.storeWholeRow.laid w) ∧ sizedMet enc Tryz.prog Tryz.f4 (OpenSpec.ofChange Rows.storeWholeSpec) false w args) (Rows.storeWholeSpec.post enc Tryz.prog Tryz.f4 false true false false) := by
  refine returnsInHanded_of_change_and (C := Tryz.checked) (X := fun w _ => laidMetH Tryz.prog Rows.storeWholeRow.laid w) (fun _ _ _ hh h => h.of_heap hh) own started (by kernel_rfl) Tryz.func4
    (ChangeSpec.witness_shaped (enc := enc) (C := Tryz.checked) (os := os) (X := fun w _ => laidMetH Tryz.prog Rows.storeWholeRow.laid w) false (laidW os) #[.slice none 0 0, .slice none 0 0] 8 (World.laidAll_os _ _ _) (World.shaped_of_ZipB (by kernel_rfl) (by kernel_rfl)) (by kernel_rfl) (by kernel_rfl) (by kernel_rfl) (door_met os _)) ?_
  intro W base args ds gs before hval0 hW _ _ _ _
  have hval : ∀ (j : Nat) t v, Tryz.f4.params[j]? = some t → args[j]? = some v → Value.okWide Tryz.prog W .any base t v := hval0
  have hW' := hW
  obtain ⟨p, q, hA0, hV, rfl, hfz, hnd⟩ := hW
  have hA : DataW.TrodAll enc Tryz.prog W 0 (fun _ => true) true Tryz.f4.params.toList args.toList ds p := hA0
  rw [Tryz.params4] at hA hval
  obtain ⟨v0, vs0, d0, ds0, p0, q0, hargs, rfl, rfl, h0, r0⟩ := trodAll_cons hA
  obtain ⟨v1, vs1, d1, ds1, p1, q1, rfl, rfl, rfl, h1, r1⟩ := trodAll_cons r0
  obtain ⟨rfl, rfl, rfl⟩ := trodAll_nil r1
  obtain rfl : args = #[v0, v1] := by cases args; simp_all
  obtain ⟨rfl, rfl⟩ := trodVars_none hV
  have lt0 : ∀ x ∈ p0, x.block < W.heap.size := by obtain ⟨m, hm⟩ := h0; exact DataW.trod_lt m _ _ _ hm
  have lt1 : ∀ x ∈ p1, x.block < W.heap.size := by obtain ⟨m, hm⟩ := h1; exact DataW.trod_lt m _ _ _ hm
  clear hA0 hval0
  refine Calls.mono (storeWhole_law W v0 v1 ⟨⟨_, hval 0 31 v0 rfl rfl⟩, H, enc, _, _, h0⟩ ⟨⟨_, hval 1 22 v1 rfl rfl⟩, H, enc, _, _, h1⟩) fun e W' ⟨he, bel⟩ => ?_
  subst he
  exact ⟨_, rfl, _, _, _, [], _, [], hW', trodAll_mk1 (shut_bool Tryz.underlying4 _), (trodAll_cons_mk (Below.trod laidOut (by kernel_rfl) (of_decide_eq_true (by kernel_rfl)) h0 bel lt0) (trodAll_cons_mk (Below.trod laidOut (by kernel_rfl) (of_decide_eq_true (by kernel_rfl)) h1 bel lt1) trodAll_mk0)), rfl, bel.frame _, fun h => by cases h⟩
theorem said : Rows.StoreWholeSaid :=
  OpenClaim.holds_of_wide 4 Tryz.f4 rfl rfl rfl rfl rfl rfl rfl ⟨rfl, rfl, rfl, rfl, rfl⟩ rfl rfl rfl rfl rfl (by kernel_rfl) Tryz.func4 (by kernel_rfl)
    (of_decide_eq_true (by kernel_rfl)) (by unfold Func.isWrapper; first | (rw [if_pos (by decide +kernel)]; kernel_rfl) | (rw [if_neg (by decide +kernel)]; exact ⟨rfl, rfl⟩))
    (fun os started H enc _ => lifted os started H enc)
/-- no parameter wants a stand-in; the program's own looks are off -/
theorem plain (f : FuncId) (fn : Func) (hf : Tryz.pinned.checked.prog.funcNamed "vulgate/vulgatelaw14.StoreWhole" = some f) (hfn : Tryz.pinned.checked.prog.funcs[f]? = some fn) :
    false = Tryz.pinned.checked.prog.looks [] ∧ ∀ (j : Nat) t, fn.params[j]? = some t → Tryz.pinned.checked.prog.wantsStandIn t = false := by
  obtain rfl : f = 4 := Option.some.inj ((show Tryz.prog.funcNamed "vulgate/vulgatelaw14.StoreWhole" = some 4 by kernel_rfl).symm.trans hf) |>.symm
  obtain rfl : fn = Tryz.f4 := (Option.some.inj (Tryz.func4.symm.trans hfn)).symm
  refine ⟨by kernel_rfl, fun j t ht => ?_⟩
  rw [Tryz.params4] at ht
  have hm : t ∈ [31, 22] := by simpa using Array.mem_of_getElem? ht
  have hall : ([31, 22].all fun u => !Tryz.prog.wantsStandIn u) = true := by kernel_rfl
  exact (show Tryz.prog.wantsStandIn t = false by simpa using List.all_eq_true.1 hall t hm)
theorem proved : Rows.StoreWholeCardSaid :=
  Claim7.holds_tied_plain_at .later [] _ _ _ _ said (fun _ h => by cases h) (by kernel_rfl) (fun _ h => by cases h) storeWhole_row_tie rfl ⟨rfl, rfl⟩ (by kernel_rfl) rfl plain (by kernel_rfl)
#print axioms proved
end storeWhole
end Go.Proofs.YtfgpcflegodlmaaGreatDoor

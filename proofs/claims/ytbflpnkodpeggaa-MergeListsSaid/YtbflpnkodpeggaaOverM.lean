/- merge.Over: entries behind writes. -/
import Derived.Test.YtbflpnkodpeggaaKeysM
namespace Go.Proofs.Ytbflpnkodpeggaa
set_option maxRecDepth 100000
open Go.RowKit

theorem wrAll_succ (M : MRec) (l : List Wr) (k : Nat) (h : k < l.length) : wrAll M (l.take (k + 1)) = wrOne (wrAll M (l.take k)) l[k] := by
  unfold wrAll
  rw [List.take_succ_eq_append_getElem h, List.foldl_append]
  rfl
set_option maxHeartbeats 4000000 in
theorem over_calls (l : List Ent) (ws : List Wr) (v u : Value) (w : World) (hl : l.length ≤ 500) (hw : ws.length ≤ 500)
    (hv : SlA w w.heap.size 34 v (l.map entA)) (hu : SlA w w.heap.size 35 u (ws.map wrtA)) :
    Calls Try.prog 7 #[v, u] w fun e w' => ∃ v', e = .returned v' ∧ Below w.heap.size w w' ∧ OwnA w' w.heap.size 34 43 v' ((overM l ws).map entA) := by
  obtain ⟨a0, cap0, rfl, hcl, hcm⟩ := hv.form
  obtain ⟨a1, cap1, rfl, hcl1, hcm1⟩ := hu.form
  rw [List.length_map] at *
  have HV := Lib.hid hv
  have HU := Lib.hid hu
  unfold maxLen at hcm hcm1
  clear hv hu
  go_enter Try.func7, Try.ntmps7
  go_wp2_with fail
  go_loopw [13] (fun s13 wr => ∃ i : Nat, i ≤ l.length ∧ s13 = .int .i64 i ∧ Hid (Below w.heap.size w wr) ∧ Hid (RecsAt wr w.heap.size (putAll [] (l.take i)))) (fun s13 _ => l.length - (intOf s13).toNat)
  case atStart => exact ⟨0, Nat.zero_le _, rfl, Lib.hid (by repeat (first | exact below_of_grow _ _ | exact Below.refl _ _ | exact below_more _ _ _ _ | (simp only [← Array.append_assoc]; first | exact below_more _ _ _ _ | exact below_same _ _ _ | exact Below.refl _ _) | exact below_same _ _ _ | (refine Below.alloc ?_ (by first | (simp; done) | (simp; omega)) _) | (refine Below.grow ?_ (by first | (simp; done) | (simp; omega)) _ _) | refine Below.drew ?_ | refine Below.drewN ?_ _ | (refine Below.putF ?_ (by first | (simp; done) | omega | (simp; omega)) _) | (refine Below.setCell ?_ (by first | (simp; done) | (simp; omega)) _))), Lib.hid (MapIs.made w)⟩
  case round =>
    obtain ⟨i, hi, rfl, HB, HM⟩ := hrel
    by_cases hli : i < l.length
    · have hliI : (i : Int) < l.length := by omega
      obtain ⟨_, a3, cap3, he, _, _, hc⟩ := HV.out.below HB.out
      simp only [Value.slice.injEq, List.length_map, true_and] at he
      obtain ⟨rfl, rfl⟩ := he
      obtain ⟨g2, q2, rfl, hlb2, hcut⟩ := hc (by simp; omega)
      have hcutk := hcut i (entA l[i]) (by simp [hli])
      have hsz2 := HB.out.size
      have hgr2 : g2 < wr.heap.size := by omega
      have hsu := putAll_succ [] l i hli
      have hm1 := HM.out.alloc (.cells (entA l[i]) 43)
      generalize l[i] = e at *
      obtain ⟨w2, hrun, hm2, ho2, _⟩ := update_run (P := Try.prog) mkEnc Try.underlying77 hm1 (k := e.k) trivial e.r
      rw [← hsu] at hm2
      have HM3 := Lib.hid hm2
      have HB3 := Lib.hid ((HB.out.alloc hsz2 (.cells (entA e) 43)).only ho2 (Nat.le_refl _))
      simp only [mkK, mkR] at hrun
      clear hcut hc hm1 hm2 ho2 hsu HM
      go_wp2_with fail
      go_roundw
      case rel => exact ⟨i + 1, by omega, by go_num, HB3, HM3⟩
      case measure => simp [intOf]; omega
    · have hie : i = l.length := by omega
      subst hie
      have hgn : ¬ (l.length : Int) < l.length := by omega
      have hm := HM.out
      rw [List.take_length] at hm
      have HM2 := Lib.hid hm
      have hlm : (putAll [] l).length ≤ 500 := by have := putAll_len l []; simp at this; omega
      have hov : overM l ws = ents (wrAll (putAll [] l) ws) := rfl
      generalize putAll [] l = M at *
      have HOV := Lib.hid hov
      clear hm HM hov
      go_wp2_with fail
      go_loopw [25] (fun s25 wr => ∃ i : Nat, i ≤ ws.length ∧ s25 = .int .i64 i ∧ Hid (Below w.heap.size w wr) ∧ Hid (RecsAt wr w.heap.size (wrAll M (ws.take i)))) (fun s25 _ => ws.length - (intOf s25).toNat)
      case atStart => exact ⟨0, Nat.zero_le _, rfl, HB, HM2⟩
      case round =>
        obtain ⟨i, hi, rfl, HB2, HM3⟩ := hrel
        by_cases hli : i < ws.length
        · have hliI : (i : Int) < ws.length := by omega
          obtain ⟨_, a3, cap3, he, _, _, hc⟩ := HU.out.below HB2.out
          simp only [Value.slice.injEq, List.length_map, true_and] at he
          obtain ⟨rfl, rfl⟩ := he
          obtain ⟨g2, q2, rfl, hlb2, hcut⟩ := hc (by simp; omega)
          have hcutk := hcut i (wrtA ws[i]) (by simp [hli])
          have hsz2 := HB2.out.size
          have hgr2 : g2 < wr.heap.size := by omega
          have hsu := wrAll_succ M ws i hli
          have hm1 := HM3.out.alloc (.cells (wrtA ws[i]) 67)
          generalize ws[i] = x at *
          generalize wrAll M (ws.take i) = M1 at *
          obtain ⟨w2, hrun, hm2, ho2, _⟩ := update_run (P := Try.prog) mkEnc Try.underlying77 hm1 (k := x.k) trivial x.r
          have hB3 := (HB2.out.alloc hsz2 (.cells (wrtA x) 67)).only ho2 (Nat.le_refl _)
          have hlm3 := HM3.out.lt
          have hs2 : w2.heap.size = wr.heap.size + 1 := by rw [ho2.size]; simp
          have hcx : w2.cut? wr.heap.size 0 35 = some (wrtA x) := by rw [cut_of_heap (ho2.block wr.heap.size (by omega))]; simp [go_sem]
          have hck := cut_sub (i := 0) (m := 25) hcx (by decide)
          rw [Nat.add_zero, wrtA_key] at hck
          have hc25 : w2.cell? ⟨wr.heap.size, 25, none⟩ = some (.bool x.dead) := by
            have := (cut_spec hcx).2 25 (by decide)
            rw [wrtA_25] at this
            simpa using this
          obtain ⟨w3, hrun3, hm3, ho3, _⟩ := delete_run (P := Try.prog) (ty := 0) mkEnc Try.underlying77 hm2 (k := x.k) trivial
          simp only [mkK, mkR] at hrun hrun3
          have HCX := Lib.hid hcx
          cases hd : x.dead with
          | false =>
            have hwo : wrOne M1 x = put M1 x.k x.r := by unfold wrOne; rw [hd]; rfl
            rw [hwo] at hsu
            rw [← hsu] at hm2
            have HM4 := Lib.hid hm2
            have HB4 := Lib.hid hB3
            rw [hd] at hc25
            clear hcut hc hm1 hm2 ho2 hsu HM3 hB3 hm3 ho3 hrun3 hwo
            go_wp2_with fail
            go_roundw
            case rel => exact ⟨i + 1, by omega, by go_num, HB4, HM4⟩
            case measure => simp [intOf]; omega
          | true =>
            have hwo : wrOne M1 x = del (put M1 x.k x.r) x.k := by unfold wrOne; rw [hd]; rfl
            rw [hwo] at hsu
            rw [← hsu] at hm3
            have HM4 := Lib.hid hm3
            have HB4 := Lib.hid (hB3.only ho3 (Nat.le_refl _))
            rw [hd] at hc25
            clear hcut hc hm1 hm2 ho2 hsu HM3 hB3 hm3 ho3 hwo
            go_wp2_with fail
            go_roundw
            case rel => exact ⟨i + 1, by omega, by go_num, HB4, HM4⟩
            case measure => simp [intOf]; omega
        · have hie : i = ws.length := by omega
          subst hie
          have hgn : ¬ (ws.length : Int) < ws.length := by omega
          have hm := HM3.out
          rw [List.take_length] at hm
          have HM4 := Lib.hid hm
          have hsum : (wrAll M ws).length ≤ 1000 := by have := wrAll_len ws M; omega
          have hsz3 := HB2.out.size
          clear hm HM3
          go_wp2_with (go_at_call 22; refine (entries_calls _ _ _ HM4.out hsum).mono ?_; rintro e w2 ⟨v2, rfl, hb2, ho2⟩)
          go_ret
          exact ⟨_, rfl, HB2.out.trans (hb2.mono hsz3), by rw [HOV.out]; exact ho2.mono hsz3⟩
end Go.Proofs.Ytbflpnkodpeggaa

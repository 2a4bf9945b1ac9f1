/- Layer 14: which writes may be published. -/
import Derived.Test.YtjdccgmoldmlmaaDoorRightS
import Derived.Test.YtjdccgmoldmlmaaDoorKeyOps
import Derived.Handy
namespace Go.Proofs.YtjdccgmoldmlmaaDoor
set_option maxRecDepth 100000
open Go.RowKit

/-- the writes' errors; seen: the keys that stood ahead -/
def chkL : List K25 → List Wr → Int
  | _, [] => 0
  | seen, x :: l => if rightE x = 0 then (if x.k ∈ seen then 8 else chkL (x.k :: seen) l) else rightE x
def checkE (l : List Wr) : Int := if l.length = 0 then 1 else if 16 < l.length then 2 else chkL [] l
def evB (b : Bool) : Value := .bool b
@[go_sem ↓ high] theorem run_makeMap_stood (w : World) : (Instr.makeMap 73 none).run Tryd.prog w = .ok (.map (some w.heap.size)) (w.alloc (.map #[] 0)) := by kernel_rfl
theorem wEnc : KeyEnc Tryd.prog 38 (fun k : K25 => .agg (row8 k.val)) (fun _ => True) := keyEnc
theorem zero_bool_run (w : World) : (zeroValue 4).run Tryd.prog w = .ok (.bool false) w := by kernel_rfl
/-- the map holds the keys that stood -/
def Stood (L : List (K25 × Bool)) (seen : List K25) : Prop := ∀ k, lk L k = if k ∈ seen then some true else none
theorem Stood.nil : Stood [] [] := fun k => rfl
theorem Stood.put {L : List (K25 × Bool)} {seen : List K25} (h : Stood L seen) (k : K25) : Stood (put L k true) (k :: seen) := by
  intro j
  rw [lk_put]
  by_cases hj : j = k
  · rw [if_pos hj, if_pos (by rw [hj]; exact List.mem_cons_self)]
  · rw [if_neg hj, h j]
    by_cases hm : j ∈ seen
    · rw [if_pos hm, if_pos (List.mem_cons_of_mem _ hm)]
    · rw [if_neg hm, if_neg (by simp [hj, hm])]
set_option maxHeartbeats 8000000 in
theorem checkS_gives (lv : Value) (l : List Wr) (w : World) (hl : SlA w w.heap.size 35 lv (l.map wrtA)) : Gives Tryd.prog 10 #[lv] w (.int .i64 (checkE l)) := by
  obtain ⟨a, cap, rfl, hcap, hmx⟩ := hl.form
  rw [List.length_map] at *
  have HL := Lib.hid hl
  clear hl
  by_cases h0 : l.length = 0
  · have he : checkE l = 1 := by unfold checkE; rw [if_pos h0]
    rw [he, h0]
    clear he h0 HL hcap
    unfold Gives
    go_enter Tryd.func10, Tryd.ntmps10
    go_wp2_with fail
    go_ret
    exact ⟨rfl, (by repeat (first | exact below_of_grow _ _ | exact Below.refl _ _ | exact below_more _ _ _ _ | (simp only [← Array.append_assoc]; first | exact below_more _ _ _ _ | exact below_same _ _ _ | exact Below.refl _ _) | exact below_same _ _ _ | (refine Below.alloc ?_ (by first | (simp; done) | (simp; omega)) _) | (refine Below.grow ?_ (by first | (simp; done) | (simp; omega)) _ _) | refine Below.drew ?_ | refine Below.drewN ?_ _ | (refine Below.putF ?_ (by first | (simp; done) | omega | (simp; omega)) _) | (refine Below.setCell ?_ (by first | (simp; done) | (simp; omega)) _)))⟩
  by_cases h16 : 16 < l.length
  · have he : checkE l = 2 := by unfold checkE; rw [if_neg h0, if_pos h16]
    rw [he]
    have h16' : (16 : Int) < l.length := by omega
    have h0' : ((l.length : Int) == 0) = false := by rw [beq_eq_false_iff_ne]; omega
    clear he HL hcap h0 h16
    generalize l.length = n at *
    unfold Gives
    go_enter Tryd.func10, Tryd.ntmps10
    go_wp2_with fail
    go_ret
    exact ⟨rfl, (by repeat (first | exact below_of_grow _ _ | exact Below.refl _ _ | exact below_more _ _ _ _ | (simp only [← Array.append_assoc]; first | exact below_more _ _ _ _ | exact below_same _ _ _ | exact Below.refl _ _) | exact below_same _ _ _ | (refine Below.alloc ?_ (by first | (simp; done) | (simp; omega)) _) | (refine Below.grow ?_ (by first | (simp; done) | (simp; omega)) _ _) | refine Below.drew ?_ | refine Below.drewN ?_ _ | (refine Below.putF ?_ (by first | (simp; done) | omega | (simp; omega)) _) | (refine Below.setCell ?_ (by first | (simp; done) | (simp; omega)) _)))⟩
  have he : checkE l = chkL [] l := by unfold checkE; rw [if_neg h0, if_neg h16]
  rw [he]
  have HE := Lib.hid he
  clear he
  have h16' : ¬ (16 : Int) < l.length := by omega
  have h0' : ((l.length : Int) == 0) = false := by rw [beq_eq_false_iff_ne]; omega
  obtain ⟨q, hq⟩ : ∃ q, q = chkL [] l := ⟨_, rfl⟩
  rw [← hq]
  have HQ := Lib.hid hq
  clear hq
  have HZ := Lib.hid zero_bool_run
  unfold Gives
  go_enter Tryd.func10, Tryd.ntmps10
  go_wp2_with fail
  go_loopw [18] (fun s18 wr => ∃ (i : Nat) (seen : List K25) (L : List (K25 × Bool)), i ≤ l.length ∧ s18 = .int .i64 i ∧ Hid (Below w.heap.size w wr) ∧ Hid (MapIs (fun k : K25 => .agg (row8 k.val)) evB (fun _ => True) wr w.heap.size L) ∧ Hid (Stood L seen ∧ chkL [] l = chkL seen (l.drop i))) (fun s18 _ => l.length - (intOf s18).toNat)
  case atStart => exact ⟨0, [], [], Nat.zero_le _, rfl, Lib.hid (by repeat (first | exact below_of_grow _ _ | exact Below.refl _ _ | exact below_more _ _ _ _ | (simp only [← Array.append_assoc]; first | exact below_more _ _ _ _ | exact below_same _ _ _ | exact Below.refl _ _) | exact below_same _ _ _ | (refine Below.alloc ?_ (by first | (simp; done) | (simp; omega)) _) | (refine Below.grow ?_ (by first | (simp; done) | (simp; omega)) _ _) | refine Below.drew ?_ | refine Below.drewN ?_ _ | (refine Below.putF ?_ (by first | (simp; done) | omega | (simp; omega)) _) | (refine Below.setCell ?_ (by first | (simp; done) | (simp; omega)) _))), Lib.hid (MapIs.made w), Lib.hid ⟨Stood.nil, rfl⟩⟩
  case round =>
    obtain ⟨i, seen, L, hi, rfl, HB, HM, HST⟩ := hrel
    by_cases hlt : i < l.length
    · have hltI : (i : Int) < l.length := by omega
      obtain ⟨_, a', cap', he, _, _, hc⟩ := HL.out.below HB.out
      simp only [Value.slice.injEq, List.length_map, true_and] at he
      obtain ⟨rfl, rfl⟩ := he
      obtain ⟨g, q0, rfl, hlb, hcut⟩ := hc (by simp; omega)
      have hcutk := hcut i (wrtA l[i]) (by simp [hlt])
      have hsz := HB.out.size
      have hgr : g < wr.heap.size := by omega
      have hdrop : l.drop i = l[i] :: l.drop (i + 1) := List.drop_eq_getElem_cons hlt
      have hst := HST.out
      rw [hdrop] at hst
      generalize l[i] = x at *
      have hch : chkL [] l = if rightE x = 0 then (if x.k ∈ seen then 8 else chkL (x.k :: seen) (l.drop (i + 1))) else rightE x := hst.2
      have HCH := Lib.hid hch
      have HSD := Lib.hid hst.1
      have HR := Lib.hid (right_gives x)
      clear hcut hc hst hch hdrop HST
      by_cases hr : rightE x = 0
      · rw [hr] at HR
        go_wp2_with fail
        refine Gives.use (HR.out _) ?_
        intro xs d
        go_upto_region 12 with fail
        refine wp_name ?_
        intro W hW
        have hbW : Below wr.heap.size wr W := by rw [hW]; exact (by repeat (first | exact below_of_grow _ _ | exact Below.refl _ _ | exact below_more _ _ _ _ | (simp only [← Array.append_assoc]; first | exact below_more _ _ _ _ | exact below_same _ _ _ | exact Below.refl _ _) | exact below_same _ _ _ | (refine Below.alloc ?_ (by first | (simp; done) | (simp; omega)) _) | (refine Below.grow ?_ (by first | (simp; done) | (simp; omega)) _ _) | refine Below.drew ?_ | refine Below.drewN ?_ _ | (refine Below.putF ?_ (by first | (simp; done) | omega | (simp; omega)) _) | (refine Below.setCell ?_ (by first | (simp; done) | (simp; omega)) _)))
        have hcW : W.cut? wr.heap.size 0 25 = some (row8 x.k.val) := by
          rw [hW, cut_grow _ _ _ _ _ (by simp), cut_alloc_at _ _ _ _ _ rfl]
          simp [go_sem]
        have lW : wr.heap.size < W.heap.size := by rw [hW]; simp; omega
        clear hW HR
        have hmW := HM.out.keep (hbW.block _ HM.out.lt)
        have hlk := lookup_run (P := Tryd.prog) wEnc Tryd.underlying73 hmW (k := x.k) trivial (HZ.out W) false
        rw [HSD.out x.k] at hlk
        by_cases hm : x.k ∈ seen
        · have hq8 : q = 8 := by rw [HQ.out, HCH.out, if_pos hr, if_pos hm]
          rw [if_pos hm] at hlk
          simp only [Option.map_some, Option.getD_some, evB] at hlk
          have HQ8 := Lib.hid (And.intro hq8 hbW)
          clear hq8 hm hr hmW hbW
          go_wp2_with fail
          go_ret
          exact ⟨ret_int HQ8.out.1.symm, HB.out.trans (HQ8.out.2.mono hsz)⟩
        · have hnx : chkL [] l = chkL (x.k :: seen) (l.drop (i + 1)) := by rw [HCH.out, if_pos hr, if_neg hm]
          rw [if_neg hm] at hlk
          simp only [Option.map_none, Option.getD_none] at hlk
          obtain ⟨w2, hrun, hm2, ho2, _⟩ := update_run (P := Tryd.prog) wEnc Tryd.underlying73 hmW (k := x.k) trivial true
          simp only [evB] at hrun
          have HF := Lib.hid (And.intro hm2 (And.intro ((HB.out.trans (hbW.mono hsz)).only ho2 (Nat.le_refl _)) (And.intro (HSD.out.put x.k) hnx)))
          clear hm2 ho2 hmW hbW hr hm hnx
          go_wp2_with fail
          go_roundw
          case rel => exact ⟨i + 1, x.k :: seen, _, by omega, by go_num, Lib.hid HF.out.2.1, Lib.hid HF.out.1, Lib.hid HF.out.2.2⟩
          case measure => simp [intOf]; omega
      · have hne : (rightE x != 0) = true := by simp [hr]
        have hqr : q = rightE x := by rw [HQ.out, HCH.out, if_neg hr]
        have HQR := Lib.hid hqr
        clear hqr hr
        go_wp2_with fail
        refine Gives.use (HR.out _) ?_
        intro xs d
        go_wp2_with fail
        go_ret
        exact ⟨ret_int HQR.out.symm, HB.out.trans ((show Below wr.heap.size wr _ from (by repeat (first | exact below_of_grow _ _ | exact Below.refl _ _ | exact below_more _ _ _ _ | (simp only [← Array.append_assoc]; first | exact below_more _ _ _ _ | exact below_same _ _ _ | exact Below.refl _ _) | exact below_same _ _ _ | (refine Below.alloc ?_ (by first | (simp; done) | (simp; omega)) _) | (refine Below.grow ?_ (by first | (simp; done) | (simp; omega)) _ _) | refine Below.drew ?_ | refine Below.drewN ?_ _ | (refine Below.putF ?_ (by first | (simp; done) | omega | (simp; omega)) _) | (refine Below.setCell ?_ (by first | (simp; done) | (simp; omega)) _)))).mono hsz)⟩
    · have hie : i = l.length := by omega
      subst hie
      have hgn : ¬ (l.length : Int) < l.length := by omega
      have hq0 : q = 0 := by rw [HQ.out, HST.out.2, List.drop_length]; rfl
      have HQ0 := Lib.hid hq0
      clear hlt hq0
      go_wp2_with fail
      go_ret
      exact ⟨ret_int HQ0.out.symm, HB.out⟩
end Go.Proofs.YtjdccgmoldmlmaaDoor

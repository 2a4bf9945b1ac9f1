/- merge.cells: what tells a list's cell of a key. -/
import Derived.Test.YtbflpnkodpeggaaEntries
import Derived.Test.YtbflpnkodpeggaaThreeM
namespace Go.Proofs.Ytbflpnkodpeggaa
set_option maxRecDepth 100000
open Go.RowKit

def mkC (c : Cell) : Value := .agg (cellA c)
/-- block p holds a map of cells by keys -/
def CellsAt (w : World) (p : Nat) (M : List (K25 × Cell)) : Prop :=
  ∃ b, w.heap[p]? = some (.cells #[.map (some b)] 91) ∧ MapIs mkK mkC (fun _ => True) w b M
theorem CellsAt.below {w w' : World} {p : Nat} {M : List (K25 × Cell)} (h : CellsAt w p M) (hb : Below w.heap.size w w') : CellsAt w' p M := by
  obtain ⟨b, h1, h2⟩ := h
  exact ⟨b, (hb.block p (Array.getElem?_eq_some_iff.1 h1).1).trans h1, h2.below hb h2.lt⟩
theorem cell_of_heap' {w : World} {p : Nat} {v : Value} {t : TypeId} (h : w.heap[p]? = some (.cells #[v] t)) : w.cell? ⟨p, 0, none⟩ = some v := by
  simp [World.cell?, h]
@[go_sem ↓ high] theorem run_makeMap_cells (w : World) : (Instr.makeMap 91 none).run Try.prog w = .ok (.map (some w.heap.size)) (w.alloc (.map #[] 0)) := by kernel_rfl
@[go_sem ↓ high] theorem run_makeMap_recs (w : World) : (Instr.makeMap 77 none).run Try.prog w = .ok (.map (some w.heap.size)) (w.alloc (.map #[] 0)) := by kernel_rfl
theorem cellMap_succ (l : List Ent) (k : Nat) (h : k < l.length) : cellMap (l.take (k + 1)) = put (cellMap (l.take k)) l[k].k ⟨true, l[k].r⟩ := by
  unfold cellMap
  rw [List.take_succ_eq_append_getElem h, List.foldl_append]
  rfl
theorem zero_cell_run (w : World) : (zeroValue 45).run Try.prog w = .ok (.agg (cellA Cell.zero)) w := by kernel_rfl
set_option maxHeartbeats 1000000 in
theorem cellF_gives (w : World) (p : Nat) (M : List (K25 × Cell)) (k : K25) (h : CellsAt w p M) : Gives Try.prog 30 #[.agg (row8 k.val), .pointer (some ⟨p, 0, none⟩)] w (.agg (cellA ((lk M k).getD Cell.zero))) := by
  obtain ⟨b, h1, h2⟩ := h
  have hp : p < w.heap.size := (Array.getElem?_eq_some_iff.1 h1).1
  have hc := cell_of_heap' h1
  have hl := lookup_run (P := Try.prog) (z := .agg (cellA Cell.zero)) mkEnc Try.underlying91 ((h2.alloc (.cells (row8 k.val) 38)).alloc (.cells (cellA Cell.zero) 45)) (k := k) trivial (zero_cell_run _) false
  have he : ((lk M k).map mkC).getD (.agg (cellA Cell.zero)) = .agg (cellA ((lk M k).getD Cell.zero)) := by cases lk M k <;> rfl
  simp only [Bool.false_eq_true, if_false, he, mkK] at hl
  generalize (lk M k).getD Cell.zero = c at *
  clear he h1 h2
  unfold Gives
  go_enter Try.func30, Try.ntmps30
  go_wp2_with fail
  exact bodyPost_ret (results_one Try.results30 (ResIs.row rfl agg_cell (by simp [go_sem]))) rfl ⟨rfl, (by repeat (first | exact below_of_grow _ _ | exact Below.refl _ _ | exact below_more _ _ _ _ | (simp only [← Array.append_assoc]; first | exact below_more _ _ _ _ | exact below_same _ _ _ | exact Below.refl _ _) | exact below_same _ _ _ | (refine Below.alloc ?_ (by first | (simp; done) | (simp; omega)) _) | (refine Below.grow ?_ (by first | (simp; done) | (simp; omega)) _ _) | refine Below.drew ?_ | refine Below.drewN ?_ _ | (refine Below.putF ?_ (by first | (simp; done) | omega | (simp; omega)) _) | (refine Below.setCell ?_ (by first | (simp; done) | (simp; omega)) _)))⟩
set_option maxHeartbeats 4000000 in
theorem cells_calls (l : List Ent) (v : Value) (w : World) (hl : l.length ≤ 1000) (hv : SlA w w.heap.size 34 v (l.map entA)) :
    Calls Try.prog 20 #[v] w fun e w' => ∃ p, e = .returned (.func (.func 30) #[] #[.pointer (some ⟨p, 0, none⟩)]) ∧ Below w.heap.size w w' ∧ CellsAt w' p (cellMap l) := by
  obtain ⟨a0, cap0, rfl, hcl, hcm⟩ := hv.form
  rw [List.length_map] at *
  have HV := Lib.hid hv
  unfold maxLen at hcm
  clear hv
  go_enter Try.func20, Try.ntmps20
  go_wp2_with fail
  go_loopw [9] (fun s9 wr => ∃ i : Nat, i ≤ l.length ∧ s9 = .int .i64 i ∧ Hid (Below w.heap.size w wr) ∧ Hid (wr.heap[w.heap.size + 1]? = some (.cells #[.map (some w.heap.size)] 91)) ∧ Hid (MapIs mkK mkC (fun _ => True) wr w.heap.size (cellMap (l.take i)))) (fun s9 _ => l.length - (intOf s9).toNat)
  case atStart => exact ⟨0, Nat.zero_le _, rfl, Lib.hid (by repeat (first | exact below_of_grow _ _ | exact Below.refl _ _ | exact below_more _ _ _ _ | (simp only [← Array.append_assoc]; first | exact below_more _ _ _ _ | exact below_same _ _ _ | exact Below.refl _ _) | exact below_same _ _ _ | (refine Below.alloc ?_ (by first | (simp; done) | (simp; omega)) _) | (refine Below.grow ?_ (by first | (simp; done) | (simp; omega)) _ _) | refine Below.drew ?_ | refine Below.drewN ?_ _ | (refine Below.putF ?_ (by first | (simp; done) | omega | (simp; omega)) _) | (refine Below.setCell ?_ (by first | (simp; done) | (simp; omega)) _))), Lib.hid ((heap_al _ _ _).trans (if_pos (by simp))), Lib.hid ((MapIs.made w).alloc _)⟩
  case round =>
    obtain ⟨i, hi, rfl, HB, HH, HM⟩ := hrel
    by_cases hlt : i < l.length
    · have hltI : (i : Int) < l.length := by omega
      obtain ⟨_, a', cap', he, _, _, hc⟩ := HV.out.below HB.out
      simp only [Value.slice.injEq, List.length_map, true_and] at he
      obtain ⟨rfl, rfl⟩ := he
      obtain ⟨g, q, rfl, hlb, hcut⟩ := hc (by simp; omega)
      have hcutk := hcut i (entA l[i]) (by simp [hlt])
      have hsz := HB.out.size
      have hgr : g < wr.heap.size := by omega
      have hp1 : w.heap.size + 1 < wr.heap.size := (Array.getElem?_eq_some_iff.1 HH.out).1
      have hpc := cell_of_heap' HH.out
      have hsu := cellMap_succ l i hlt
      have hm1 := HM.out.alloc (.cells (entA l[i]) 43)
      generalize l[i] = e at *
      obtain ⟨w2, hrun, hm2, ho2, _⟩ := update_run (P := Try.prog) mkEnc Try.underlying91 hm1 (k := e.k) trivial ⟨true, e.r⟩
      rw [← hsu] at hm2
      have HM2 := Lib.hid hm2
      have HH2 := Lib.hid ((ho2.block (w.heap.size + 1) (by omega)).trans ((heap_alloc_old (w := wr) (.cells (entA e) 43) hp1).trans HH.out))
      have HB2 := Lib.hid ((HB.out.alloc hsz (.cells (entA e) 43)).only ho2 (Nat.le_refl _))
      simp only [mkK, mkC] at hrun
      clear hcut hc hm1 hm2 ho2 hsu HH HM
      go_wp2_with fail
      go_roundw
      case rel => exact ⟨i + 1, by omega, by go_num, HB2, HH2, HM2⟩
      case measure => simp [intOf]; omega
    · have hie : i = l.length := by omega
      subst hie
      have hp1 : w.heap.size + 1 < wr.heap.size := (Array.getElem?_eq_some_iff.1 HH.out).1
      have hgn : ¬ (l.length : Int) < l.length := by omega
      go_wp2_with fail
      go_ret
      refine ⟨_, rfl, HB.out, w.heap.size, HH.out, ?_⟩
      have := HM.out
      rwa [List.take_length] at this
end Go.Proofs.Ytbflpnkodpeggaa

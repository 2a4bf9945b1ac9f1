/- merge.entries: a map's records as entries in order. -/
import Derived.Test.YtbflpnkodpeggaaSortE
import Derived.Test.YtbflpnkodpeggaaBuild
import Derived.BigRegion
import Derived.Deep.LoopGhost
namespace Go.Proofs.Ytbflpnkodpeggaa
set_option maxRecDepth 100000
open Go.RowKit

def mkK (k : K25) : Value := .agg (row8 k.val)
def mkR (r : Rec) : Value := .agg (recA r)
theorem mkEnc : KeyEnc Try.prog 38 mkK (fun _ => True) := keyEnc
/-- block b holds records by keys -/
abbrev RecsAt (w : World) (b : Nat) (L : MRec) : Prop := MapIs mkK mkR (fun _ => True) w b L
theorem del_mem_len {α β : Type} [DecidableEq α] : ∀ {L : List (α × β)} {p : α × β}, p ∈ L → (del L p.1).length < L.length
  | [], _, h => by simp at h
  | q :: L, p, h => by
    unfold del
    rw [List.filter_cons]
    by_cases hq : q.1 = p.1
    · simp only [hq, ne_eq, not_true_eq_false, decide_false, Bool.false_eq_true, if_false]
      have := del_len L p.1
      unfold del at this
      simp only [List.length_cons]
      simp only [ne_eq] at this
      omega
    · simp only [hq, ne_eq, not_false_eq_true, decide_true, if_true, List.length_cons]
      have hp : p ∈ L := by
        rcases List.mem_cons.1 h with rfl | h
        · exact (hq rfl).elim
        · exact h
      have := del_mem_len hp
      unfold del at this
      simp only [ne_eq] at this
      omega
theorem del_perm {α β : Type} [DecidableEq α] : ∀ {L : List (α × β)} {p : α × β}, Uniq L → p ∈ L → (p :: del L p.1).Perm L
  | [], _, _, h => by simp at h
  | q :: L, p, hu, h => by
    unfold del
    rw [List.filter_cons]
    have hu2 : q.1 ∉ L.map (·.1) ∧ (L.map (·.1)).Nodup := by unfold Uniq at hu; rwa [List.map_cons, List.nodup_cons] at hu
    by_cases hq : q.1 = p.1
    · have hqp : q = p := by
        rcases List.mem_cons.1 h with rfl | h
        · rfl
        · exact (hu2.1 (List.mem_map.2 ⟨p, h, hq.symm⟩)).elim
      subst hqp
      have hf : L.filter (fun r => decide (r.1 ≠ q.1)) = L := by
        rw [List.filter_eq_self]
        intro r hr
        simp only [ne_eq, decide_eq_true_eq]
        intro e
        exact hu2.1 (List.mem_map.2 ⟨r, hr, e⟩)
      simp only [ne_eq, not_true_eq_false, decide_false, Bool.false_eq_true, if_false]
      simp only [ne_eq] at hf
      rw [hf]
    · simp only [hq, ne_eq, not_false_eq_true, decide_true, if_true]
      have hp : p ∈ L := by
        rcases List.mem_cons.1 h with rfl | h
        · exact (hq rfl).elim
        · exact h
      have := del_perm (show Uniq L from hu2.2) hp
      unfold del at this
      simp only [ne_eq] at this
      exact (List.Perm.swap q p _).trans (this.cons q)
theorem OwnA.mono {w : World} {B B' sz : Nat} {e : TypeId} {v : Value} {xs : List (Array Value)} (h : OwnA w B sz e v xs) (hB : B' ≤ B) : OwnA w B' sz e v xs := by
  obtain ⟨h0, h1, h2⟩ := h
  refine ⟨h0, h1, ?_⟩
  rcases h2 with h2 | ⟨g, cap, cur, a, b, r⟩
  · exact .inl h2
  · exact .inr ⟨g, cap, cur, a, Nat.le_trans hB b, r⟩
theorem RangeIs.uniqL {α β : Type} [DecidableEq α] {ek : α → Value} {ev : β → Value} {dom : α → Prop} {w : World} {b r : Nat} {L left : List (α × β)} (h : RangeIs ek ev dom w b r L left) : Uniq left := by
  have hu := h.isMap.uniq
  obtain ⟨_, _, _, _, _, _, _, _, _, _, _, _, hsub⟩ := h
  exact (hsub.map _).nodup hu
set_option maxHeartbeats 400000 in
theorem entries_calls (L : MRec) (b : Nat) (w : World) (hm : RecsAt w b L) (hlen : L.length ≤ 1000) :
    Calls Try.prog 22 #[.map (some b)] w fun e w' => ∃ v', e = .returned v' ∧ Below w.heap.size w w' ∧ OwnA w' w.heap.size 34 43 v' ((ents L).map entA) := by
  have HM := Lib.hid hm
  have hu := hm.uniq
  have hb := hm.lt
  clear hm
  go_enter Try.func22, Try.ntmps22
  go_wp2_with fail
  obtain ⟨w1, hrun, hr1, hb1⟩ := range_run (P := Try.prog) (t := 77) (et := 41) Try.underlying77 HM.out
  rw [hrun]
  simp only [Result.andThen]
  rw [Oper.upon_value]
  have HR := Lib.hid hr1
  have HB := Lib.hid hb1
  clear hrun hr1 hb1
  have hs1 : w.heap.size + 1 ≤ w1.heap.size := HR.out.lt.2
  go_wp2_with fail
  simp only [Act.put, List.setIfInBounds_toArray, List.set_cons_succ, List.set_cons_zero]
  go_loopg [3] L.length (fun gk s3 wr => ∃ (left done : MRec), gk = left.length ∧ Hid (RangeIs mkK mkR (fun _ => True) wr b w.heap.size L left) ∧ Hid ((done ++ left).Perm L) ∧ Hid (Below w.heap.size w wr) ∧ Hid (OwnA wr (w.heap.size + 1) 34 43 s3 ((done.map toEnt).map entA)) ∧ w.heap.size + 1 ≤ wr.heap.size)
  case atStart => exact ⟨L, [], rfl, HR, Lib.hid (List.Perm.refl _), HB, Lib.hid (OwnA.nil _ _ _ _), hs1⟩
  case round =>
    obtain ⟨left, done, hgk, HR2, HP, HB2, HO, hsz⟩ := hrel
    rcases next_run (P := Try.prog) 0 HR2.out with ⟨h0, hrun⟩ | ⟨p, w2, hp, hrun, h1, h2, h3⟩
    · have HP2 := Lib.hid (show done.Perm L by have := HP.out; rwa [h0, List.append_nil] at this)
      clear h0 HP
      go_wp2_with fail
      refine (sort_calls (done.map toEnt) u3 wr (w.heap.size + 1) hsz HO.out (by rw [List.length_map, HP2.out.length_eq]; omega)).mono ?_
      rintro e w3 ⟨rfl, l', hp', hs', ho', hb'⟩
      have hpl := hp'.trans (HP2.out.map toEnt)
      have heq := (ents_unique hu hpl hs').1
      rw [heq] at ho'
      have HO3 := Lib.hid ho'
      have HB3 := Lib.hid (HB2.out.trans (hb'.mono (Nat.le_succ _)))
      clear ho' hb' hp' hs' hpl heq
      go_wp2_with fail
      go_ret
      exact ⟨_, rfl, HB3.out, HO3.out.mono (Nat.le_succ _)⟩
    · have HP2 := Lib.hid (show (done ++ [p] ++ del left p.1).Perm L by
        have h4 : Uniq left := HR2.out.uniqL
        have := HP.out
        rw [List.append_assoc, List.singleton_append]
        exact ((del_perm h4 hp).append_left done).trans this)
      have hdl : (del left p.1).length < gk := by rw [hgk]; exact del_mem_len hp
      have hlt := h1.lt
      have hr2 := h2.size
      have hne : ∀ g, u3.ownBlock = some g → g ≠ w.heap.size := fun g hg => by have := HO.out.lt g hg; omega
      have HR3 := Lib.hid h1
      have HO2 := Lib.hid (HO.out.keep (w' := w2) (fun g hg hlt => h2.block g (hne g hg)))
      have HB3 := Lib.hid (HB2.out.trans ⟨h2.os, h2.tape, h2.output, by rw [h2.size]; exact Nat.le_refl _, fun k hk => h2.block k (by omega)⟩ : Below w.heap.size w w2)
      have hdone : done.length ≤ 1000 := by
        have := HP.out.length_eq
        rw [List.length_append] at this
        omega
      have hsz2 : w.heap.size + 1 ≤ w2.heap.size := by omega
      clear h1 h2 hp HR2 HP HB2 HO hne hr2 hsz
      obtain ⟨k, r⟩ := p
      simp only [mkK, mkR] at hrun h3
      go_wp2_with (at_builtin; refine wpList_append (B := w.heap.size + 1) (xs := (done.map toEnt).map entA) (ys := [entA ⟨k, r⟩]) row_ent rfl (.tmp 13) (.tmp 17) rfl (v := u3) rfl ?_ rfl ?_ ?_ ?_ ?_ ?_)
      case refine_1 => have := ((HO2.out.alloc (.cells (row8 k.val) 38)).alloc (.cells (recA r) 41)).alloc (.cells (entA ⟨k, r⟩) 43); simpa using this
      case refine_2 =>
        refine ⟨_, sl_one (Nat.le_refl _) (by decide) (cut_heap ((heap_al _ _ _).trans (if_pos ?_)) (by simp))⟩
        simp
      case refine_4 => omega
      case refine_5 => omega
      intro v3 w3 ho hg hv
      obtain ⟨W, hW⟩ : ∃ W, W = (((w2.alloc (Obj.cells (row8 k.val) 38)).alloc (Obj.cells (recA r) 41)).alloc (Obj.cells (entA ⟨k, r⟩) 43)) := ⟨_, rfl⟩
      have hWb : Below w2.heap.size w2 W := by rw [hW]; exact (by repeat (first | exact below_of_grow _ _ | exact Below.refl _ _ | exact below_more _ _ _ _ | (simp only [← Array.append_assoc]; first | exact below_more _ _ _ _ | exact below_same _ _ _ | exact Below.refl _ _) | exact below_same _ _ _ | (refine Below.alloc ?_ (by first | (simp; done) | (simp; omega)) _) | (refine Below.grow ?_ (by first | (simp; done) | (simp; omega)) _ _) | refine Below.drew ?_ | refine Below.drewN ?_ _ | (refine Below.putF ?_ (by first | (simp; done) | omega | (simp; omega)) _) | (refine Below.setCell ?_ (by first | (simp; done) | (simp; omega)) _)))
      rw [← hW] at hg
      clear hv
      have hbb : Below w.heap.size w w3 := Below.grown (HB3.out.trans (hWb.mono (by omega))) hg (by have := hWb.size; omega) (fun q hq => by have := HO2.out.lt q hq; omega)
      have hkeep : ∀ q, q ≤ w.heap.size → w3.heap[q]? = w2.heap[q]? := fun q hq => by
        rw [hg.block q (by have := hWb.size; omega) (fun e => by have := HO2.out.lt q e.symm; omega)]
        exact hWb.block q (by omega)
      have hr3 := HR3.out.keep (hkeep b (by omega)) (hkeep _ (Nat.le_refl _))
      have hs3 : w.heap.size + 1 ≤ w3.heap.size := by have := hg.size; have := hWb.size; omega
      have HO3 := Lib.hid ho
      have HB4 := Lib.hid hbb
      have HR4 := Lib.hid hr3
      clear ho hg hW hWb hbb hkeep hr3 HR3 HO2 HB3
      go_wp2_with fail
      go_roundg (del left k).length
      case measure => exact hdl
      case rel => exact ⟨del left k, done ++ [(k, r)], rfl, HR4, HP2, HB4, Lib.hid (by have := HO3.out; simpa [toEnt] using this), hs3⟩
end Go.Proofs.Ytbflpnkodpeggaa

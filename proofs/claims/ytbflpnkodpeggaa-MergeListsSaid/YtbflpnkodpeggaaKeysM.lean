/- merge.keys: the keys of lists, each once, in order. -/
import Derived.Test.YtbflpnkodpeggaaCells
namespace Go.Proofs.Ytbflpnkodpeggaa
set_option maxRecDepth 100000
open Go.RowKit

theorem putAll_succ (M : MRec) (l : List Ent) (k : Nat) (h : k < l.length) : putAll M (l.take (k + 1)) = put (putAll M (l.take k)) l[k].k l[k].r := by
  unfold putAll
  rw [List.take_succ_eq_append_getElem h, List.foldl_append]
  rfl
/-- slices with their entries -/
abbrev Lists := List (Value × List Ent)
def putLists (Ps : Lists) : MRec := Ps.foldl (fun M p => putAll M p.2) []
theorem putLists_succ (Ps : Lists) (k : Nat) (h : k < Ps.length) : putLists (Ps.take (k + 1)) = putAll (putLists (Ps.take k)) Ps[k].2 := by
  unfold putLists
  rw [List.take_succ_eq_append_getElem h, List.foldl_append]
  rfl
theorem row_key : RowType Try.prog 26 38 25 25 := ⟨Try.underlying26, by kernel_rfl, by decide, by decide⟩
abbrev rowK (ks : List K25) : List (Array Value) := ks.map fun k => row8 k.val
/-- keys that lie in a row -/
def keysOfE (l : List Ent) : List K25 := l.map (·.k)
theorem keysOfE_succ (l : List Ent) (k : Nat) (h : k < l.length) : rowK (keysOfE (l.take (k + 1))) = rowK (keysOfE (l.take k)) ++ [row8 l[k].k.val] := by
  rw [List.take_succ_eq_append_getElem h]
  simp only [keysOfE, List.map_append, List.map_cons, List.map_nil]
set_option maxHeartbeats 4000000 in
theorem keys_calls (Ps : Lists) (v : Value) (w : World) (hL : Ps.length ≤ 10) (hlen : ∀ p ∈ Ps, p.2.length ≤ 1000) (hsum : (putLists Ps).length ≤ 1000)
    (hv : SlA w w.heap.size 1 v (Ps.map fun p => #[p.1])) (ha : ∀ p ∈ Ps, SlA w w.heap.size 34 p.1 (p.2.map entA)) :
    Calls Try.prog 21 #[v] w fun e w' => ∃ v', e = .returned v' ∧ Below w.heap.size w w' ∧ OwnA w' w.heap.size 25 38 v' (rowK (keysOfE (ents (putLists Ps)))) := by
  obtain ⟨a0, cap0, rfl, hcl, hcm⟩ := hv.form
  rw [List.length_map] at *
  have HV := Lib.hid hv
  have HA := Lib.hid ha
  have HLEN := Lib.hid hlen
  unfold maxLen at hcm
  clear hv ha hlen
  go_enter Try.func21, Try.ntmps21
  go_wp2_with fail
  go_loopw [14] (fun s14 wr => ∃ j : Nat, j ≤ Ps.length ∧ s14 = .int .i64 j ∧ Hid (Below w.heap.size w wr) ∧ Hid (RecsAt wr w.heap.size (putLists (Ps.take j)))) (fun s14 _ => Ps.length - (intOf s14).toNat)
  case atStart => exact ⟨0, Nat.zero_le _, rfl, Lib.hid (by repeat (first | exact below_of_grow _ _ | exact Below.refl _ _ | exact below_more _ _ _ _ | (simp only [← Array.append_assoc]; first | exact below_more _ _ _ _ | exact below_same _ _ _ | exact Below.refl _ _) | exact below_same _ _ _ | (refine Below.alloc ?_ (by first | (simp; done) | (simp; omega)) _) | (refine Below.grow ?_ (by first | (simp; done) | (simp; omega)) _ _) | refine Below.drew ?_ | refine Below.drewN ?_ _ | (refine Below.putF ?_ (by first | (simp; done) | omega | (simp; omega)) _) | (refine Below.setCell ?_ (by first | (simp; done) | (simp; omega)) _))), Lib.hid (MapIs.made w)⟩
  case round =>
    obtain ⟨j, hj, rfl, HB, HM⟩ := hrel
    by_cases hlt : j < Ps.length
    · have hltI : (j : Int) < Ps.length := by omega
      obtain ⟨_, a', cap', he, _, _, hc⟩ := HV.out.below HB.out
      simp only [Value.slice.injEq, List.length_map, true_and] at he
      obtain ⟨rfl, rfl⟩ := he
      obtain ⟨g, q, rfl, hlb, hcut⟩ := hc (by simp; omega)
      have hcutk := hcut j #[Ps[j].1] (by simp [hlt])
      have hva := HA.out Ps[j] (by simp)
      have hll := HLEN.out Ps[j] (by simp)
      have hsu := putLists_succ Ps j hlt
      have hsz := HB.out.size
      have hgr : g < wr.heap.size := by omega
      generalize Ps[j] = pj at *
      obtain ⟨vj, l⟩ := pj
      simp only at hcutk hva hll hsu
      generalize putLists (Ps.take j) = M at *
      have hcell : wr.cell? ⟨g, q + j, none⟩ = some vj := by
        have := (cut_spec hcutk).2 0 (by decide)
        simpa using this
      obtain ⟨aj, capj, rfl, hcl2, hcm2⟩ := hva.form
      rw [List.length_map] at *
      have HVA := Lib.hid hva
      have HSU := Lib.hid hsu
      have HMM := HM
      unfold maxLen at hcm2
      clear hcut hc hva hsu hcutk HM
      go_wp2_with fail
      go_loopw [20] (fun s20 wq => ∃ i : Nat, i ≤ l.length ∧ s20 = .int .i64 i ∧ Hid (Below w.heap.size w wq) ∧ Hid (RecsAt wq w.heap.size (putAll M (l.take i)))) (fun s20 _ => l.length - (intOf s20).toNat)
      case atStart => exact ⟨0, Nat.zero_le _, rfl, HB, HMM⟩
      case round =>
        obtain ⟨i, hi, rfl, HB2, HM2⟩ := hrel
        clear hcell hgr hsz hlb
        by_cases hli : i < l.length
        · have hliI : (i : Int) < l.length := by omega
          obtain ⟨_, a3, cap3, he, _, _, hc⟩ := HVA.out.below HB2.out
          simp only [Value.slice.injEq, List.length_map, true_and] at he
          obtain ⟨rfl, rfl⟩ := he
          obtain ⟨g2, q2, rfl, hlb2, hcut⟩ := hc (by simp; omega)
          have hcutk := hcut i (entA l[i]) (by simp [hli])
          have hsz2 := HB2.out.size
          have hgr2 : g2 < wr.heap.size := by omega
          have hsu := putAll_succ M l i hli
          have hm1 := HM2.out.alloc (.cells (entA l[i]) 43)
          generalize l[i] = e at *
          obtain ⟨w2, hrun, hm2, ho2, _⟩ := update_run (P := Try.prog) mkEnc Try.underlying77 hm1 (k := e.k) trivial e.r
          rw [← hsu] at hm2
          have HM3 := Lib.hid hm2
          have HB3 := Lib.hid ((HB2.out.alloc hsz2 (.cells (entA e) 43)).only ho2 (Nat.le_refl _))
          simp only [mkK, mkR] at hrun
          clear hcut hc hm1 hm2 ho2 hsu HM2
          go_wp2_with fail
          go_roundw
          case rel => exact ⟨i + 1, by omega, by go_num, HB3, HM3⟩
          case measure => simp [intOf]; omega
        · have hie : i = l.length := by omega
          subst hie
          have hgn : ¬ (l.length : Int) < l.length := by omega
          have hm := HM2.out
          rw [List.take_length, ← HSU.out] at hm
          have HM3 := Lib.hid hm
          clear hm HM2
          go_wp2_with fail
          go_roundw
          case rel => exact ⟨j + 1, by omega, by go_num, HB2, HM3⟩
          case measure => simp [intOf]; omega
    · have hje : j = Ps.length := by omega
      subst hje
      have hgn : ¬ (Ps.length : Int) < Ps.length := by omega
      have hm := HM.out
      rw [List.take_length] at hm
      have HM2 := Lib.hid hm
      clear hm HM hlt
      have hel : (ents (putLists Ps)).length ≤ 1000 := by rw [ents_len]; exact hsum
      go_wp2_with (go_at_call 22; refine (entries_calls _ _ _ HM2.out hsum).mono ?_; rintro e w2 ⟨v2, rfl, hb2, ho2⟩; obtain ⟨a2, cap2, rfl, hcm2, hcl2⟩ := ho2.form; rw [List.length_map] at *)
      generalize hle : ents (putLists Ps) = L at *
      have HLE := Lib.hid hle
      clear hle
      have hsl := ho2.sl
      have HS := Lib.hid hsl
      have HB2 := Lib.hid (HB.out.trans (hb2.mono HB.out.size))
      have hsz3 : w.heap.size ≤ w2.heap.size := HB2.out.size
      unfold maxLen at hcm2
      clear ho2 hb2 hsl
      go_wp2_with fail
      go_loopw [8, 34] (fun s8 s34 wq => ∃ i : Nat, i ≤ L.length ∧ s34 = .int .i64 i ∧ Hid (Below w2.heap.size w2 wq ∧ OwnA wq w2.heap.size 25 38 s8 (rowK (keysOfE (L.take i))))) (fun _ s34 _ => L.length - (intOf s34).toNat)
      case atStart => exact ⟨0, Nat.zero_le _, rfl, Lib.hid ⟨Below.refl _ _, OwnA.nil _ _ _ _⟩⟩
      case round =>
        obtain ⟨i, hi, rfl, HQ⟩ := hrel
        by_cases hli : i < L.length
        · have hliI : (i : Int) < L.length := by omega
          obtain ⟨_, a3, cap3, he, _, _, hc⟩ := HS.out.below HQ.out.1
          simp only [Value.slice.injEq, List.length_map, true_and] at he
          obtain ⟨rfl, rfl⟩ := he
          obtain ⟨g2, q2, rfl, hlb2, hcut⟩ := hc (by simp; omega)
          have hcutk := hcut i (entA L[i]) (by simp [hli])
          have hsz4 := HQ.out.1.size
          have hgr2 : g2 < wr.heap.size := by omega
          have hsu := keysOfE_succ L i hli
          generalize L[i] = e at *
          have HSU := Lib.hid hsu
          have hk25 := e.k.len
          clear hcut hc hsu
          go_wp2_with (at_builtin; refine wpList_append (B := w2.heap.size) (xs := rowK (keysOfE (L.take i))) (ys := [row8 e.k.val]) row_key rfl (.tmp 38) (.tmp 41) rfl (v := u8) rfl ?_ rfl ?_ ?_ ?_ ?_ ?_)
          case refine_1 => exact (HQ.out.2.alloc _).alloc _
          case refine_2 =>
            refine ⟨_, sl_one (Nat.le_refl _) (by decide) (cut_heap ((heap_al _ _ _).trans (if_pos ?_)) (by simp))⟩
            simp
          case refine_3 => intro x hx; simp at hx; subst hx; exact row8_one _
          case refine_4 => simp [keysOfE]; omega
          case refine_5 => simp; omega
          intro v3 w3 ho hg _
          have hB4 : Below w2.heap.size w2 w3 := Below.grown ((HQ.out.1.alloc hsz4 (.cells (entA e) 43)).alloc (by simp; omega) (.cells (row8 e.k.val) 38)) hg (by simp; omega) (fun q hq => (HQ.out.2.lt q hq).1)
          rw [← HSU.out] at ho
          have HQ2 := Lib.hid (And.intro hB4 ho)
          clear ho hg hB4 HQ
          go_wp2_with fail
          go_roundw
          case rel => exact ⟨i + 1, by omega, by go_num, HQ2⟩
          case measure => simp [intOf]; omega
        · have hie : i = L.length := by omega
          subst hie
          have hgn : ¬ (L.length : Int) < L.length := by omega
          have ho := HQ.out.2
          rw [List.take_length] at ho
          have HO := Lib.hid ho
          have HB3 := Lib.hid HQ.out.1
          clear ho HQ
          go_wp2_with fail
          go_ret
          exact ⟨_, rfl, HB2.out.trans (HB3.out.mono hsz3), by rw [HLE.out]; exact HO.out.mono hsz3⟩
end Go.Proofs.Ytbflpnkodpeggaa

/- Layer 16: Take. -/
import Derived.Test.YtbflpnkodpeggaaGreatDoorDrop
import Derived.Deep.CutBlock
namespace Go.Proofs.YtbflpnkodpeggaaGreatDoor
set_option maxRecDepth 100000
open Go.RowKit

@[go_sem ↓ high] theorem bo_map_none (w : World) : (binOp BinOp.eql 46 (.map none) (.map none)).run Tryz.prog w = .ok (.bool true) w := by kernel_rfl
@[go_sem ↓ high] theorem bo_map_some (b : Nat) (w : World) : (binOp BinOp.eql 46 (.map (some b)) (.map none)).run Tryz.prog w = .ok (.bool false) w := by kernel_rfl
@[go_sem ↓ high] theorem run_makeMap_key (w : World) : (Instr.makeMap 46 none).run Tryz.prog w = .ok (.map (some w.heap.size)) (w.alloc (.map #[] 0)) := by kernel_rfl
/-- block p is a table whose map lies in block b -/
def TabM (w : World) (p b : Nat) (L : Tb) : Prop := w.heap[p]? = some (.cells #[.map (some b)] 48) ∧ p < b ∧ MapIs ekK evO (fun _ => True) w b L
theorem TabM.tab {w : World} {p b : Nat} {L : Tb} (h : TabM w p b L) : TabAt w p L := .inr ⟨b, h.1, h.2.1, h.2.2⟩
theorem TabM.keep {w w' : World} {p b : Nat} {L : Tb} (h : TabM w p b L) (hb : Below w.heap.size w w') : TabM w' p b L :=
  ⟨(hb.block p (Array.getElem?_eq_some_iff.1 h.1).1).trans h.1, h.2.1, h.2.2.below hb h.2.2.lt⟩
theorem TabM.alloc {w : World} {p b : Nat} {L : Tb} (h : TabM w p b L) (o : Obj) : TabM (w.alloc o) p b L := h.keep ((Below.refl _ _).alloc (Nat.le_refl _) o)
theorem TabM.grow {w : World} {p b : Nat} {L : Tb} (h : TabM w p b L) (xs : Array Obj) (d : Nat) : TabM (w.grow xs d) p b L := h.keep (below_of_grow _ _)
theorem TabAt.step' {wr W w2 : World} {p b : Nat} {L L2 : Tb} (hh : wr.heap[p]? = some (.cells #[.map (some b)] 48)) (hb : p < b) (hm : MapIs ekK evO (fun _ => True) wr b L) (hm2 : MapIs ekK evO (fun _ => True) w2 b L2) (ho : Only b W w2) (hw : Below wr.heap.size wr W) : TabM w2 p b L2 ∧ Kept p wr w2 := by
  have hp : p < wr.heap.size := (Array.getElem?_eq_some_iff.1 hh).1
  exact ⟨⟨(ho.block p (by omega)).trans ((hw.block p hp).trans hh), hb, hm2⟩, (TabAt.step hh hb hm hm2 ho hw).2⟩
/-- a table's first map -/
theorem tab_made {w : World} {p : Nat} (h : w.heap[p]? = some (.cells #[.map none] 48)) :
    TabM ((w.alloc (.map #[] 0)).setCell ⟨p, 0, none⟩ (.map (some w.heap.size))) p w.heap.size [] ∧ Kept p w ((w.alloc (.map #[] 0)).setCell ⟨p, 0, none⟩ (.map (some w.heap.size))) := by
  have hp : p < w.heap.size := (Array.getElem?_eq_some_iff.1 h).1
  have hne : ∀ c, c ≠ p → ((w.alloc (.map #[] 0)).setCell ⟨p, 0, none⟩ (.map (some w.heap.size))).heap[c]? = (w.alloc (.map #[] 0)).heap[c]? := by
    intro c hc
    simp only [World.setCell]
    rw [Array.getElem?_modify, if_neg (fun e => hc e.symm)]
  have hpp : ((w.alloc (.map #[] 0)).setCell ⟨p, 0, none⟩ (.map (some w.heap.size))).heap[p]? = some (.cells #[.map (some w.heap.size)] 48) := by
    simp only [World.setCell]
    rw [Array.getElem?_modify, if_pos rfl, heap_alloc_old (w := w) _ hp, h]
    rfl
  refine ⟨⟨hpp, hp, (MapIs.made w).keep (hne _ (by omega))⟩, ⟨rfl, rfl, rfl, ?_, ?_⟩, ?_, ?_⟩
  · simp [World.setCell]
  · intro c hc
    rw [hne c (by omega), heap_alloc_old (w := w) _ (by omega)]
  · simp [World.setCell]
  · intro c hc cs t fr hh
    rw [hne c (by omega), heap_alloc_old (w := w) _ (Array.getElem?_eq_some_iff.1 hh).1]
theorem takeGo_drop {o : Int} {ks : List K25} {i : Nat} (h : i < ks.length) (L : Tb) (n : Int) :
    takeGo o (ks.drop i) L n = if keyRight ks[i].val = true then
      match lk L ks[i] with
      | none => takeGo o (ks.drop (i + 1)) (put L ks[i] o) (n + 1)
      | some x => if x = o then takeGo o (ks.drop (i + 1)) L n else (L, n, 11)
    else (L, n, 3) := by
  rw [List.drop_eq_getElem_cons h]; rfl

set_option maxRecDepth 100000 in
set_option maxHeartbeats 4000000 in
theorem take_calls (o : Int) (ks : List K25) (hks : ks.length ≤ 1000) (L : Tb) (v : Value) (w : World) (p : Nat) (ht : TabAt w p L) (hv : SlA w w.heap.size 25 v (rowsK ks)) :
    Calls Tryz.prog 4 #[.pointer (some ⟨p, 0, none⟩), .int .i64 o, v] w (fun e w' => e = .returned (.tuple #[.int .i64 (takeT o ks L).2.1, .int .i64 (takeT o ks L).2.2]) ∧ TabAt w' p (takeT o ks L).1 ∧ Kept p w w') := by
  obtain ⟨a, cap, rfl, hcl, hcm⟩ := hv.form
  have hp := ht.lt
  rw [List.length_map] at *
  unfold maxLen at hcm
  unfold takeT
  by_cases ho : o < 1
  · have HT := Lib.hid ht
    clear hv ht
    rw [if_pos ho]
    go_enter Tryz.func4, Tryz.ntmps4
    go_wp2_with fail
    exact bodyPost_ret (v := .tuple #[.int .i64 0, .int .i64 5]) (by simp [results, Tryz.results4, go_sem]) rfl ⟨rfl, HT.out, Kept.refl _ _⟩
  · rw [if_neg ho]
    have HV := Lib.hid hv
    have HT := Lib.hid ht
    clear hv ht
    go_enter Tryz.func4, Tryz.ntmps4
    go_upto_block 0 with fail
    go_cut [] (fun wx => ∃ mb, Hid (TabM wx p mb L) ∧ Hid (Kept p w wx))
    case first =>
      rcases HT.out with ⟨hh, rfl⟩ | ⟨mb, hh, hmb, hm⟩
      · have hc := cell_of_heap hh
        have hfz : w.frozen? ⟨p, 0, none⟩ = false := by simp [World.frozen?, hh]
        have hmade := tab_made hh
        have hsw : (w.alloc (.map #[] 0)).setCell ⟨p, 0, none⟩ (.map (some w.heap.size)) = (w.setCell ⟨p, 0, none⟩ (.map (some w.heap.size))).alloc (.map #[] 0) := by simp [go_sem, hp]
        rw [hsw] at hmade
        clear hsw
        have HM := Lib.hid hmade
        clear hmade hh
        go_wp2_with fail
        go_meet
        exact ⟨_, Lib.hid HM.out.1, Lib.hid HM.out.2⟩
      · have hc := cell_of_heap hh
        have hm2 : Hid (TabM w p mb L) := Lib.hid ⟨hh, hmb, hm⟩
        clear hh hm
        go_wp2_with fail
        go_meet
        exact ⟨mb, hm2, Lib.hid (Kept.refl _ _)⟩
    case rest =>
    obtain ⟨mb, hm0, hk0⟩ := hcut
    go_wp2_with fail
    go_loopw [8, 31] (fun s8 s31 wr => ∃ (i : Nat) (n : Int) (L' : Tb), i ≤ ks.length ∧ 0 ≤ n ∧ n ≤ i ∧ s8 = .int .i64 n ∧ s31 = .int .i64 i ∧ Hid (TabM wr p mb L') ∧ Hid (Kept p w wr) ∧ Hid (takeGo o (ks.drop i) L' n = takeGo o ks L 0)) (fun _ s31 _ => ks.length - (intOf s31).toNat)
    case atStart => exact ⟨0, 0, L, by omega, by omega, by omega, rfl, rfl, hm0, hk0, Lib.hid rfl⟩
    case round =>
      obtain ⟨i, n, L', hi, hn0, hn, rfl, rfl, HT2, HK, HD⟩ := hrel
      by_cases hlt : i < ks.length
      · have hltI : (i : Int) < ks.length := by omega
        obtain ⟨_, a', cap', he, _, _, hc⟩ := HT.out.sl HK.out (by decide) HV.out
        simp only [Value.slice.injEq, List.length_map, true_and] at he
        obtain ⟨rfl, rfl⟩ := he
        obtain ⟨b, q, rfl, hlb, hcut⟩ := hc (by simp; omega)
        have hcutk := hcut i (row8 ks[i].val) (by simp [hlt])
        have hd := HD.out
        rw [takeGo_drop hlt] at hd
        have HD2 := Lib.hid hd
        have hpr := HT2.out.tab.lt
        have hszr : w.heap.size ≤ wr.heap.size := HK.out.2.1
        have hri := keyRight_gives ks[i].val ks[i].len
        have how := fun W => owner_gives W p L' ks[i]
        have hw2 : IntKind.i64.wrap ((i : Int) + 1) = (i : Int) + 1 := by rw [IntWalk.i64_in _ (by omega)]
        generalize ks[i] = k at *
        generalize hown : ownT L' k = x at *
        generalize hsm : (lk L' k).isSome = y at *
        generalize keyRight k.val = r at *
        have HO := Lib.hid how
        have HR := Lib.hid hri
        have HOWN := Lib.hid hown
        have HSM := Lib.hid hsm
        clear hcut hc hd HD how hri hown hsm
        cases r with
        | false =>
          have hd := HD2.out
          rw [if_neg (by simp)] at hd
          have HD3 := Lib.hid hd
          clear hd
          go_wp2_with (go_at_call 12; refine Gives.use (HR.out _) ?_; intro xs d)
          refine bodyPost_ret (v := .tuple #[.int .i64 n, .int .i64 3]) (by simp [results, Tryz.results4, go_sem]) rfl ⟨?_, ?_, ?_⟩
          · rw [← HD3.out]
          · rw [← HD3.out]; exact (HT2.out.tab.alloc _).grow _ _
          · exact (HK.out.alloc hp _).grow hp _ _
        | true =>
          have hd := HD2.out
          rw [if_pos rfl] at hd
          cases y with
          | false =>
            have hl : lk L' k = none := by
              have h1 := HSM.out
              cases h : lk L' k with
              | none => rfl
              | some z => rw [h] at h1; cases h1
            rw [hl] at hd
            have HD3 := Lib.hid hd
            clear hd hl
            have hw1 : IntKind.i64.wrap (n + 1) = n + 1 := by rw [IntWalk.i64_in _ (by omega)]
            have hmc := cell_of_heap HT2.out.1
            go_wp2_with (first | (go_at_call 12; refine Gives.use (HR.out _) ?_; intro xs0 d0) | (go_at_call 5; refine Gives.use (HO.out _ ((HT2.out.tab.alloc _).grow _ _)) ?_; intro xs d))
            apply wp_region_specs (by rfl) [.val _, .val _, .val _, .val _, .val _, .val _] 6 (by rfl) [48, 49, 50, 51, 52, 53] [] [] (by rfl) (by rfl) (by decide) (by decide +kernel) (fun _ _ _ _ _ h => h)
            case hF => intro x; simp only [over, List.foldl_cons, List.foldl_nil, List.setIfInBounds_toArray, List.set_cons_succ, List.set_cons_zero]; exact rfl
            case hops =>
              refine ⟨?o0, ?o1, ?o2, ?o3, ?o4, ?o5, trivial⟩
              case o0 =>
                intro x w1 hH K hK
                obtain ⟨xs, d, rfl⟩ := grow_of_below hH.below
                clear hH
                try simp only [World.grow_drew, World.grow_grow] at hK ⊢
                go_simp
                go_wp2_with fail
                exact ⟨_, rfl, rfl, (by repeat (first | exact below_of_grow _ _ | exact Below.refl _ _ | exact below_more _ _ _ _ | (simp only [← Array.append_assoc]; first | exact below_more _ _ _ _ | exact below_same _ _ _ | exact Below.refl _ _) | exact below_same _ _ _ | (refine Below.alloc ?_ (by first | (simp; done) | (simp; omega)) _) | (refine Below.grow ?_ (by first | (simp; done) | (simp; omega)) _ _) | refine Below.drew ?_ | refine Below.drewN ?_ _ | (refine Below.putF ?_ (by first | (simp; done) | omega | (simp; omega)) _) | (refine Below.setCell ?_ (by first | (simp; done) | (simp; omega)) _))), fun h => by cases h⟩
              case o1 =>
                intro x w1 hH K hK
                have e48 : x 48 = _ := hH.holds 0 (by decide) (by decide +kernel) 48 rfl
                obtain ⟨xs, d, rfl⟩ := grow_of_below hH.below
                clear hH
                try simp only [World.grow_drew, World.grow_grow] at hK ⊢
                simp only [e48] at hK ⊢
                clear e48
                go_simp
                go_wp2_with fail
                exact ⟨_, rfl, rfl, (by repeat (first | exact below_of_grow _ _ | exact Below.refl _ _ | exact below_more _ _ _ _ | (simp only [← Array.append_assoc]; first | exact below_more _ _ _ _ | exact below_same _ _ _ | exact Below.refl _ _) | exact below_same _ _ _ | (refine Below.alloc ?_ (by first | (simp; done) | (simp; omega)) _) | (refine Below.grow ?_ (by first | (simp; done) | (simp; omega)) _ _) | refine Below.drew ?_ | refine Below.drewN ?_ _ | (refine Below.putF ?_ (by first | (simp; done) | omega | (simp; omega)) _) | (refine Below.setCell ?_ (by first | (simp; done) | (simp; omega)) _))), fun h => by cases h⟩
              case o2 =>
                intro x w1 hH K hK
                have e49 : x 49 = _ := hH.holds 1 (by decide) (by decide +kernel) 49 rfl
                obtain ⟨xs, d, rfl⟩ := grow_of_below hH.below
                clear hH
                try simp only [World.grow_drew, World.grow_grow] at hK ⊢
                simp only [e49] at hK ⊢
                clear e49
                go_simp
                go_wp2_with fail
                exact ⟨_, rfl, rfl, (by repeat (first | exact below_of_grow _ _ | exact Below.refl _ _ | exact below_more _ _ _ _ | (simp only [← Array.append_assoc]; first | exact below_more _ _ _ _ | exact below_same _ _ _ | exact Below.refl _ _) | exact below_same _ _ _ | (refine Below.alloc ?_ (by first | (simp; done) | (simp; omega)) _) | (refine Below.grow ?_ (by first | (simp; done) | (simp; omega)) _ _) | refine Below.drew ?_ | refine Below.drewN ?_ _ | (refine Below.putF ?_ (by first | (simp; done) | omega | (simp; omega)) _) | (refine Below.setCell ?_ (by first | (simp; done) | (simp; omega)) _))), fun h => by cases h⟩
              case o3 =>
                intro x w1 hH K hK
                have e50 : x 50 = _ := hH.holds 2 (by decide) (by decide +kernel) 50 rfl
                obtain ⟨xs, d, rfl⟩ := grow_of_below hH.below
                clear hH
                try simp only [World.grow_drew, World.grow_grow] at hK ⊢
                simp only [e50] at hK ⊢
                clear e50
                go_simp
                go_wp2_with fail
                exact ⟨_, rfl, rfl, (by repeat (first | exact below_of_grow _ _ | exact Below.refl _ _ | exact below_more _ _ _ _ | (simp only [← Array.append_assoc]; first | exact below_more _ _ _ _ | exact below_same _ _ _ | exact Below.refl _ _) | exact below_same _ _ _ | (refine Below.alloc ?_ (by first | (simp; done) | (simp; omega)) _) | (refine Below.grow ?_ (by first | (simp; done) | (simp; omega)) _ _) | refine Below.drew ?_ | refine Below.drewN ?_ _ | (refine Below.putF ?_ (by first | (simp; done) | omega | (simp; omega)) _) | (refine Below.setCell ?_ (by first | (simp; done) | (simp; omega)) _))), fun h => by cases h⟩
              case o4 =>
                intro x w1 hH K hK
                obtain ⟨xs, d, rfl⟩ := grow_of_below hH.below
                clear hH
                try simp only [World.grow_drew, World.grow_grow] at hK ⊢
                go_simp
                go_wp2_with fail
                exact ⟨_, rfl, rfl, (by repeat (first | exact below_of_grow _ _ | exact Below.refl _ _ | exact below_more _ _ _ _ | (simp only [← Array.append_assoc]; first | exact below_more _ _ _ _ | exact below_same _ _ _ | exact Below.refl _ _) | exact below_same _ _ _ | (refine Below.alloc ?_ (by first | (simp; done) | (simp; omega)) _) | (refine Below.grow ?_ (by first | (simp; done) | (simp; omega)) _ _) | refine Below.drew ?_ | refine Below.drewN ?_ _ | (refine Below.putF ?_ (by first | (simp; done) | omega | (simp; omega)) _) | (refine Below.setCell ?_ (by first | (simp; done) | (simp; omega)) _))), fun h => by cases h⟩
              case o5 =>
                intro x w1 hH K hK
                obtain ⟨xs, d, rfl⟩ := grow_of_below hH.below
                clear hH
                try simp only [World.grow_drew, World.grow_grow] at hK ⊢
                go_simp
                go_wp2_with fail
                exact ⟨_, rfl, rfl, (by repeat (first | exact below_of_grow _ _ | exact Below.refl _ _ | exact below_more _ _ _ _ | (simp only [← Array.append_assoc]; first | exact below_more _ _ _ _ | exact below_same _ _ _ | exact Below.refl _ _) | exact below_same _ _ _ | (refine Below.alloc ?_ (by first | (simp; done) | (simp; omega)) _) | (refine Below.grow ?_ (by first | (simp; done) | (simp; omega)) _ _) | refine Below.drew ?_ | refine Below.drewN ?_ _ | (refine Below.putF ?_ (by first | (simp; done) | omega | (simp; omega)) _) | (refine Below.setCell ?_ (by first | (simp; done) | (simp; omega)) _))), fun h => by cases h⟩
            case hend =>
              intro x w1 hH
              have e48 : x 48 = _ := hH.holds 0 (by decide) trivial 48 rfl
              have e49 : x 49 = _ := hH.holds 1 (by decide) trivial 49 rfl
              have e50 : x 50 = _ := hH.holds 2 (by decide) trivial 50 rfl
              have e51 : x 51 = _ := hH.holds 3 (by decide) trivial 51 rfl
              have e52 : x 52 = _ := hH.holds 4 (by decide) trivial 52 rfl
              have e53 : x 53 = _ := hH.holds 5 (by decide) trivial 53 rfl
              obtain ⟨xs, d, rfl⟩ := grow_of_below hH.below
              clear hH
              simp only [e48, e49, e50, e51, e52, e53]; clear e48 e49 e50 e51 e52 e53
              simp only [List.drop_succ_cons, List.drop_zero]
              refine wpList_put (b := mb) (L := L') (ev := evO) keyEncT rfl _ _ _ _ _ rfl Tryz.underlying46 rfl ?_ k trivial rfl o rfl ?_
              · repeat (first | exact HT2.out.2.2 | refine MapIs.alloc ?_ _ | refine MapIs.grow ?_ _ _ | refine MapIs.drew ?_ | refine MapIs.drewN ?_ _)
              · intro w2 hm2 ho2
                obtain ⟨ht3, hk3⟩ := TabAt.step' HT2.out.1 HT2.out.2.1 HT2.out.2.2 hm2 ho2 (by repeat (first | exact below_of_grow _ _ | exact Below.refl _ _ | exact below_more _ _ _ _ | (simp only [← Array.append_assoc]; first | exact below_more _ _ _ _ | exact below_same _ _ _ | exact Below.refl _ _) | exact below_same _ _ _ | (refine Below.alloc ?_ (by first | (simp; done) | (simp; omega)) _) | (refine Below.grow ?_ (by first | (simp; done) | (simp; omega)) _ _) | refine Below.drew ?_ | refine Below.drewN ?_ _ | (refine Below.putF ?_ (by first | (simp; done) | omega | (simp; omega)) _) | (refine Below.setCell ?_ (by first | (simp; done) | (simp; omega)) _)))
                have HT3 := Lib.hid ht3
                have HK3 := Lib.hid (HK.out.trans hk3)
                clear hm2 ho2 ht3 hk3
                go_wp2_with fail
                go_roundw
                case rel => exact ⟨i + 1, n + 1, _, by omega, by omega, by omega, rfl, by go_num, HT3, HK3, HD3⟩
                case measure => simp [intOf]; omega
          | true =>
            have hl : lk L' k = some x := by
              have h1 := HSM.out
              have h2 := HOWN.out
              unfold ownT at h2
              cases h : lk L' k with
              | none => rw [h] at h1; cases h1
              | some z => rw [h] at h2; simp at h2; rw [h2]
            rw [hl] at hd
            simp only at hd
            by_cases hx : x = o
            · subst hx
              rw [if_pos rfl] at hd
              have HD3 := Lib.hid hd
              clear hd hl
              go_wp2_with (first | (go_at_call 12; refine Gives.use (HR.out _) ?_; intro xs0 d0) | (go_at_call 5; refine Gives.use (HO.out _ ((HT2.out.tab.alloc _).grow _ _)) ?_; intro xs d))
              go_roundw
              case rel => exact ⟨i + 1, n, _, by omega, by omega, by omega, rfl, by go_num, Lib.hid ((HT2.out.alloc _).grow _ _), Lib.hid ((HK.out.alloc hp _).grow hp _ _), HD3⟩
              case measure => simp [intOf]; omega
            · rw [if_neg hx] at hd
              have HD3 := Lib.hid hd
              have hxe : (x == o) = false := by simpa using hx
              have hxn : (x != o) = true := by simpa using hx
              clear hd hl hx
              go_wp2_with (first | (go_at_call 12; refine Gives.use (HR.out _) ?_; intro xs0 d0) | (go_at_call 5; refine Gives.use (HO.out _ ((HT2.out.tab.alloc _).grow _ _)) ?_; intro xs d))
              refine bodyPost_ret (v := .tuple #[.int .i64 n, .int .i64 11]) (by simp [results, Tryz.results4, go_sem]) rfl ⟨?_, ?_, ?_⟩
              · rw [← HD3.out]
              · rw [← HD3.out]; exact (HT2.out.tab.alloc _).grow _ _
              · exact (HK.out.alloc hp _).grow hp _ _
      · have hie : i = ks.length := by omega
        have hd := HD.out
        rw [List.drop_of_length_le (by omega)] at hd
        have HD2 := Lib.hid hd
        have hgI : decide ((i : Int) < ks.length) = false := by simp; omega
        clear hd HD
        go_wp2_with fail
        refine bodyPost_ret (v := .tuple #[.int .i64 n, .int .i64 0]) (by simp [results, Tryz.results4, go_sem]) rfl ⟨?_, ?_, HK.out⟩
        · rw [← HD2.out]; rfl
        · rw [← HD2.out]; exact HT2.out.tab
end Go.Proofs.YtbflpnkodpeggaaGreatDoor

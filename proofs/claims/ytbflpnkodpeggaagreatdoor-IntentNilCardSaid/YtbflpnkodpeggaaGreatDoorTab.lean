/- Layer 16: a table in memory; Owner. -/
import Derived.Test.YtbflpnkodpeggaaGreatDoorKey3
import Derived.Test.YtbflpnkodpeggaaGreatDoorKeyOps
import Derived.Test.YtbflpnkodpeggaaGreatDoorIntPlain
import Derived.BigRegion
namespace Go.Proofs.YtbflpnkodpeggaaGreatDoor
set_option maxRecDepth 100000
open Go.RowKit

def ekK (k : K25) : Value := .agg (row8 k.val)
def evO (o : Int) : Value := .int .i64 o
def TabAt (w : World) (p : Nat) (L : Tb) : Prop :=
  (w.heap[p]? = some (.cells #[.map none] 48) ∧ L = []) ∨ ∃ b, w.heap[p]? = some (.cells #[.map (some b)] 48) ∧ p < b ∧ MapIs ekK evO (fun _ => True) w b L
/-- all stays before block p; behind it what has cells -/
def Kept (p : Nat) (w w' : World) : Prop := Below p w w' ∧ w.heap.size ≤ w'.heap.size ∧ ∀ c, p < c → ∀ cs t fr, w.heap[c]? = some (.cells cs t fr) → w'.heap[c]? = w.heap[c]?
theorem Kept.refl (p : Nat) (w : World) : Kept p w w := ⟨Below.refl _ _, Nat.le_refl _, fun _ _ _ _ _ _ => rfl⟩
theorem Kept.trans {p : Nat} {w w' w'' : World} (h : Kept p w w') (h' : Kept p w' w'') : Kept p w w'' :=
  ⟨h.1.trans h'.1, Nat.le_trans h.2.1 h'.2.1, fun c hc cs t fr hh => by
    have := h.2.2 c hc cs t fr hh
    rw [h'.2.2 c hc cs t fr (this.trans hh), this]⟩
theorem Kept.of_below {p : Nat} {w w' : World} (h : Below w.heap.size w w') (hp : p < w.heap.size) : Kept p w w' :=
  ⟨⟨h.os, h.tape, h.output, h.size, fun c hc => h.block c (by omega)⟩, h.size, fun c _ cs t fr hh => h.block c (Array.getElem?_eq_some_iff.1 hh).1⟩
theorem Kept.alloc {p : Nat} {w w' : World} (h : Kept p w w') (hp : p < w.heap.size) (o : Obj) : Kept p w (w'.alloc o) :=
  h.trans (Kept.of_below ((Below.refl _ _).alloc (Nat.le_refl _) o) (by have := h.2.1; omega))
theorem Kept.grow {p : Nat} {w w' : World} (h : Kept p w w') (hp : p < w.heap.size) (xs : Array Obj) (d : Nat) : Kept p w (w'.grow xs d) :=
  h.trans (Kept.of_below (below_of_grow _ _) (by have := h.2.1; omega))
theorem Kept.drew {p : Nat} {w w' : World} (h : Kept p w w') : Kept p w w'.drew := ⟨h.1.drew, h.2.1, h.2.2⟩
theorem Kept.drewN {p : Nat} {w w' : World} (h : Kept p w w') (n : Nat) : Kept p w (w'.drewN n) := ⟨h.1.drewN n, h.2.1, h.2.2⟩
theorem Kept.map {p b : Nat} {w w' : World} {L : Tb} (hm : MapIs ekK evO (fun _ => True) w b L) (hb : p < b) (ho : Only b w w') : Kept p w w' :=
  ⟨(Below.refl _ _).only ho (by omega), by rw [ho.size]; exact Nat.le_refl _, fun c _ cs t fr hh => ho.block c (fun e => by
    subst e
    obtain ⟨es, cl, h1, _⟩ := hm
    rw [h1] at hh; cases hh)⟩
theorem Kept.cut {p : Nat} {w w' : World} (h : Kept p w w') {b o sz : Nat} {x : Array Value} (hb : b ≠ p) (hx : w.cut? b o sz = some x) : w'.cut? b o sz = some x := by
  rcases Nat.lt_or_ge b p with h1 | h1
  · rw [cut_of_heap (h.1.block b h1)]; exact hx
  · have : ∃ cs t fr, w.heap[b]? = some (.cells cs t fr) := by
      unfold World.cut? at hx
      split at hx
      · rename_i hh; exact ⟨_, _, _, hh⟩
      · cases hx
    obtain ⟨cs, t, fr, hh⟩ := this
    rw [cut_of_heap (h.2.2 b (by omega) cs t fr hh)]; exact hx
theorem TabAt.one {w : World} {p : Nat} {L : Tb} (h : TabAt w p L) : ∃ v t, w.heap[p]? = some (.cells #[v] t) := by
  rcases h with ⟨h, _⟩ | ⟨b, h, _⟩ <;> exact ⟨_, _, h⟩
theorem TabAt.lt {w : World} {p : Nat} {L : Tb} (h : TabAt w p L) : p < w.heap.size := by
  obtain ⟨v, t, h⟩ := h.one
  exact (Array.getElem?_eq_some_iff.1 h).1
theorem TabAt.past {w : World} {p : Nat} {L : Tb} (h : TabAt w p L) {b o sz : Nat} {x : Array Value} (h1 : 1 < sz) (hx : w.cut? b o sz = some x) : b ≠ p := by
  rintro rfl
  obtain ⟨v, t, h⟩ := h.one
  unfold World.cut? at hx
  rw [h] at hx
  simp only at hx
  split at hx
  · rename_i hh; simp at hh; omega
  · cases hx
theorem TabAt.sl {w w' : World} {p B sz : Nat} {L : Tb} {v : Value} {xs : List (Array Value)} (h : TabAt w p L) (hk : Kept p w w') (h1 : 1 < sz) (hs : SlA w B sz v xs) : SlA w' B sz v xs := by
  obtain ⟨h0, a, cap, e1, e2, e3, e4⟩ := hs
  refine ⟨h0, a, cap, e1, e2, e3, fun hn => ?_⟩
  obtain ⟨b, o, e, hlt, hc⟩ := e4 hn
  exact ⟨b, o, e, hlt, fun i x hx => hk.cut (h.past h1 (hc i x hx)) (hc i x hx)⟩
theorem TabAt.keep {w w' : World} {p : Nat} {L : Tb} (h : TabAt w p L) (hb : Below w.heap.size w w') : TabAt w' p L := by
  have hp := h.lt
  rcases h with ⟨h, e⟩ | ⟨b, h, hlt, hm⟩
  · exact .inl ⟨(hb.block p hp).trans h, e⟩
  · exact .inr ⟨b, (hb.block p hp).trans h, hlt, hm.below hb hm.lt⟩
theorem TabAt.alloc {w : World} {p : Nat} {L : Tb} (h : TabAt w p L) (o : Obj) : TabAt (w.alloc o) p L := h.keep ((Below.refl _ _).alloc (Nat.le_refl _) o)
theorem TabAt.grow {w : World} {p : Nat} {L : Tb} (h : TabAt w p L) (xs : Array Obj) (d : Nat) : TabAt (w.grow xs d) p L := h.keep (below_of_grow _ _)
theorem TabAt.drew {w : World} {p : Nat} {L : Tb} (h : TabAt w p L) : TabAt w.drew p L := h
theorem TabAt.drewN {w : World} {p : Nat} {L : Tb} (h : TabAt w p L) (n : Nat) : TabAt (w.drewN n) p L := h

theorem cell_of_heap {w : World} {p : Nat} {v : Value} {t : TypeId} (h : w.heap[p]? = some (.cells #[v] t)) : w.cell? ⟨p, 0, none⟩ = some v := by simp [World.cell?, h]
theorem op_look_ok {α β : Type} [DecidableEq α] {P : Program} {kt : TypeId} {ek : α → Value} {ev : β → Value} {dom : α → Prop} {w : World} {b : Nat} {L : List (α × β)} {o : Oper} {a : Act} {K : Act → World → Prop} {Q : Exit → Act → World → Prop}
    (E : KeyEnc P kt ek dom) (m x : Operand) (t et : TypeId) (hop : o.op = Op.lookup t m x true) (ht : P.underlying t = some (.map kt et)) (hm : a.eval m = .map (some b)) {z : Value} (h : MapIs ek ev dom w b L)
    (k : α) (hk : dom k) (hx : a.eval x = ek k) (hz : (zeroValue et).run P w = .ok z w) (hK : K (a.put o.dst (.tuple #[((lk L k).map ev).getD z, .bool (lk L k).isSome])) w) : Oper.wp P o a w K Q := by
  unfold Oper.wp
  simp [execOp, hop, hm, hx, lookup_run E ht h hk hz true, Result.andThen]
  exact hK

theorem keyEncT : KeyEnc Tryz.prog 29 ekK (fun _ => True) := keyEnc
theorem op_look_none {α : Type} {P : Program} {kt : TypeId} {ek : α → Value} {dom : α → Prop} {w : World} {o : Oper} {a : Act} {K : Act → World → Prop} {Q : Exit → Act → World → Prop}
    (E : KeyEnc P kt ek dom) (m x : Operand) (t et : TypeId) (hop : o.op = Op.lookup t m x true) (ht : P.underlying t = some (.map kt et)) (hm : a.eval m = .map none) {z : Value}
    (k : α) (hk : dom k) (hx : a.eval x = ek k) (hz : (zeroValue et).run P w = .ok z w) (hK : K (a.put o.dst (.tuple #[z, .bool false])) w) : Oper.wp P o a w K Q := by
  obtain ⟨l, hl⟩ := E.reads k hk
  have hf : (Instr.findKey kt (ek k) []).run P w = .ok none w := by
    rcases E.law.find w hl [] (fun e he => by simp at he) with ⟨h1, _⟩ | ⟨j, e, _, h2, _⟩
    · exact h1
    · simp at h2
  unfold Oper.wp
  simp [execOp, hop, hm, hx, Instr.lookup, run_underlying ht, E.law.check w _ hl, hz, hf, Result.andThen]
  exact hK

set_option maxRecDepth 100000 in
theorem owner_gives (w : World) (p : Nat) (L : Tb) (k : K25) (ht : TabAt w p L) : Gives Tryz.prog 5 #[.pointer (some ⟨p, 0, none⟩), .agg (row8 k.val)] w (.tuple #[.int .i64 (ownT L k), .bool (lk L k).isSome]) := by
  have hp := ht.lt
  unfold ownT
  have hz : ∀ w : World, (zeroValue 3).run Tryz.prog w = .ok (.int .i64 0) w := by intro w; kernel_rfl
  have HZ := Lib.hid hz
  clear hz
  rcases ht with ⟨h, rfl⟩ | ⟨b, h, hlt, hm⟩
  · have hc := cell_of_heap h
    clear h
    unfold Gives
    go_enter Tryz.func5, Tryz.ntmps5
    go_wp2_with fail
    apply wp_region_specs (by rfl) [.val _, .val _, .val _, .val _, .val _, .val _, .val _, .val _, .pure _] 9 (by rfl) [11, 12, 13, 14, 15, 16, 10, 17, 18] [] [8] (by rfl) (by rfl) (by decide) (by decide +kernel) (fun _ _ _ _ _ h => h)
    case hF => intro x; simp only [over, List.foldl_cons, List.foldl_nil, List.setIfInBounds_toArray, List.set_cons_succ, List.set_cons_zero]; exact rfl
    case hops =>
      refine ⟨?o0, ?o1, ?o2, ?o3, ?o4, ?o5, ?o6, ?o7, ?o8, trivial⟩
      case o0 =>
        intro x w1 hH K hK
        obtain ⟨xs, d, rfl⟩ := grow_of_below hH.below
        clear hH
        try simp only [World.grow_drew, World.grow_grow] at hK ⊢
        go_simp
        go_wp2_with fail
        exact ⟨_, rfl, rfl, (by repeat (first | exact below_of_grow _ _ | exact Below.refl _ _ | exact below_more _ _ _ _ | (simp only [← Array.append_assoc]; first | exact below_more _ _ _ _ | exact below_same _ _ _ | exact Below.refl _ _) | exact below_same _ _ _ | (refine Below.alloc ?_ (by first | (simp; done) | (simp; omega)) _) | (refine Below.grow ?_ (by first | (simp; done) | (simp; omega)) _ _) | refine Below.drew ?_ | refine Below.drewN ?_ _ | (refine Below.putF ?_ (by first | (simp; done) | omega | (simp; omega)) _) | (refine Below.setCell ?_ (by first | (simp; done) | (simp; omega)) _))), fun h => by cases h⟩
      case o1 =>
        intro x w1 hH K hK
        have e11 : x 11 = _ := hH.holds 0 (by decide) (by decide +kernel) 11 rfl
        obtain ⟨xs, d, rfl⟩ := grow_of_below hH.below
        clear hH
        try simp only [World.grow_drew, World.grow_grow] at hK ⊢
        simp only [e11] at hK ⊢
        clear e11
        go_simp
        go_wp2_with fail
        exact ⟨_, rfl, rfl, (by repeat (first | exact below_of_grow _ _ | exact Below.refl _ _ | exact below_more _ _ _ _ | (simp only [← Array.append_assoc]; first | exact below_more _ _ _ _ | exact below_same _ _ _ | exact Below.refl _ _) | exact below_same _ _ _ | (refine Below.alloc ?_ (by first | (simp; done) | (simp; omega)) _) | (refine Below.grow ?_ (by first | (simp; done) | (simp; omega)) _ _) | refine Below.drew ?_ | refine Below.drewN ?_ _ | (refine Below.putF ?_ (by first | (simp; done) | omega | (simp; omega)) _) | (refine Below.setCell ?_ (by first | (simp; done) | (simp; omega)) _))), fun h => by cases h⟩
      case o2 =>
        intro x w1 hH K hK
        have e12 : x 12 = _ := hH.holds 1 (by decide) (by decide +kernel) 12 rfl
        obtain ⟨xs, d, rfl⟩ := grow_of_below hH.below
        clear hH
        try simp only [World.grow_drew, World.grow_grow] at hK ⊢
        simp only [e12] at hK ⊢
        clear e12
        go_simp
        go_wp2_with fail
        exact ⟨_, rfl, rfl, (by repeat (first | exact below_of_grow _ _ | exact Below.refl _ _ | exact below_more _ _ _ _ | (simp only [← Array.append_assoc]; first | exact below_more _ _ _ _ | exact below_same _ _ _ | exact Below.refl _ _) | exact below_same _ _ _ | (refine Below.alloc ?_ (by first | (simp; done) | (simp; omega)) _) | (refine Below.grow ?_ (by first | (simp; done) | (simp; omega)) _ _) | refine Below.drew ?_ | refine Below.drewN ?_ _ | (refine Below.putF ?_ (by first | (simp; done) | omega | (simp; omega)) _) | (refine Below.setCell ?_ (by first | (simp; done) | (simp; omega)) _))), fun h => by cases h⟩
      case o3 =>
        intro x w1 hH K hK
        have e13 : x 13 = _ := hH.holds 2 (by decide) (by decide +kernel) 13 rfl
        obtain ⟨xs, d, rfl⟩ := grow_of_below hH.below
        clear hH
        try simp only [World.grow_drew, World.grow_grow] at hK ⊢
        simp only [e13] at hK ⊢
        clear e13
        go_simp
        go_wp2_with fail
        exact ⟨_, rfl, rfl, (by repeat (first | exact below_of_grow _ _ | exact Below.refl _ _ | exact below_more _ _ _ _ | (simp only [← Array.append_assoc]; first | exact below_more _ _ _ _ | exact below_same _ _ _ | exact Below.refl _ _) | exact below_same _ _ _ | (refine Below.alloc ?_ (by first | (simp; done) | (simp; omega)) _) | (refine Below.grow ?_ (by first | (simp; done) | (simp; omega)) _ _) | refine Below.drew ?_ | refine Below.drewN ?_ _ | (refine Below.putF ?_ (by first | (simp; done) | omega | (simp; omega)) _) | (refine Below.setCell ?_ (by first | (simp; done) | (simp; omega)) _))), fun h => by cases h⟩
      case o4 =>
        intro x w1 hH K hK
        obtain ⟨xs, d, rfl⟩ := grow_of_below hH.below
        clear hH
        try simp only [World.grow_drew, World.grow_grow] at hK ⊢
        go_simp
        go_wp2_with fail
        exact ⟨_, rfl, rfl, (by repeat (first | exact below_of_grow _ _ | exact Below.refl _ _ | exact below_more _ _ _ _ | (simp only [← Array.append_assoc]; first | exact below_more _ _ _ _ | exact below_same _ _ _ | exact Below.refl _ _) | exact below_same _ _ _ | (refine Below.alloc ?_ (by first | (simp; done) | (simp; omega)) _) | (refine Below.grow ?_ (by first | (simp; done) | (simp; omega)) _ _) | refine Below.drew ?_ | refine Below.drewN ?_ _ | (refine Below.putF ?_ (by first | (simp; done) | omega | (simp; omega)) _) | (refine Below.setCell ?_ (by first | (simp; done) | (simp; omega)) _))), fun h => by cases h⟩
      case o5 =>
        intro x w1 hH K hK
        have e14 : x 14 = _ := hH.holds 3 (by decide) (by decide +kernel) 14 rfl
        have e15 : x 15 = _ := hH.holds 4 (by decide) (by decide +kernel) 15 rfl
        obtain ⟨xs, d, rfl⟩ := grow_of_below hH.below
        clear hH
        try simp only [World.grow_drew, World.grow_grow] at hK ⊢
        simp only [e14, e15] at hK ⊢
        clear e14 e15
        refine op_look_none keyEncT _ _ _ _ rfl Tryz.underlying46 rfl k trivial rfl (HZ.out _) ?_
        refine hK _ _ ?_
        exact ⟨_, rfl, rfl, Below.refl _ _, fun h => by cases h⟩
      case o6 =>
        intro x w1 hH K hK
        have e16 : x 16 = _ := hH.holds 5 (by decide) (by decide +kernel) 16 rfl
        obtain ⟨xs, d, rfl⟩ := grow_of_below hH.below
        clear hH
        try simp only [World.grow_drew, World.grow_grow] at hK ⊢
        simp only [e16] at hK ⊢
        clear e16
        go_simp
        go_wp2_with fail
        exact ⟨_, rfl, rfl, (by repeat (first | exact below_of_grow _ _ | exact Below.refl _ _ | exact below_more _ _ _ _ | (simp only [← Array.append_assoc]; first | exact below_more _ _ _ _ | exact below_same _ _ _ | exact Below.refl _ _) | exact below_same _ _ _ | (refine Below.alloc ?_ (by first | (simp; done) | (simp; omega)) _) | (refine Below.grow ?_ (by first | (simp; done) | (simp; omega)) _ _) | refine Below.drew ?_ | refine Below.drewN ?_ _ | (refine Below.putF ?_ (by first | (simp; done) | omega | (simp; omega)) _) | (refine Below.setCell ?_ (by first | (simp; done) | (simp; omega)) _))), fun h => by cases h⟩
      case o7 =>
        intro x w1 hH K hK
        have e10 : x 10 = _ := hH.holds 6 (by decide) (by decide +kernel) 10 rfl
        obtain ⟨xs, d, rfl⟩ := grow_of_below hH.below
        clear hH
        try simp only [World.grow_drew, World.grow_grow] at hK ⊢
        simp only [e10] at hK ⊢
        clear e10
        go_simp
        go_wp2_with fail
        exact ⟨_, rfl, rfl, (by repeat (first | exact below_of_grow _ _ | exact Below.refl _ _ | exact below_more _ _ _ _ | (simp only [← Array.append_assoc]; first | exact below_more _ _ _ _ | exact below_same _ _ _ | exact Below.refl _ _) | exact below_same _ _ _ | (refine Below.alloc ?_ (by first | (simp; done) | (simp; omega)) _) | (refine Below.grow ?_ (by first | (simp; done) | (simp; omega)) _ _) | refine Below.drew ?_ | refine Below.drewN ?_ _ | (refine Below.putF ?_ (by first | (simp; done) | omega | (simp; omega)) _) | (refine Below.setCell ?_ (by first | (simp; done) | (simp; omega)) _))), fun h => by cases h⟩
      case o8 =>
        intro x w1 hH
        have e10 : x 10 = _ := hH.holds 6 (by decide) (by decide +kernel) 10 rfl
        clear hH
        simp only [e10]
        exact Or.inl ⟨rfl, fun _ => rfl⟩
    case hend =>
      intro x w1 hH
      have e11 : x 11 = _ := hH.holds 0 (by decide) trivial 11 rfl
      have e12 : x 12 = _ := hH.holds 1 (by decide) trivial 12 rfl
      have e13 : x 13 = _ := hH.holds 2 (by decide) trivial 13 rfl
      have e14 : x 14 = _ := hH.holds 3 (by decide) trivial 14 rfl
      have e15 : x 15 = _ := hH.holds 4 (by decide) trivial 15 rfl
      have e16 : x 16 = _ := hH.holds 5 (by decide) trivial 16 rfl
      have e10 : x 10 = _ := hH.holds 6 (by decide) trivial 10 rfl
      have e17 : x 17 = _ := hH.holds 7 (by decide) trivial 17 rfl
      have e18 : x 18 = _ := hH.holds 8 (by decide) trivial 18 rfl
      obtain ⟨xs, d, rfl⟩ := grow_of_below hH.below
      clear hH
      simp only [e11, e12, e13, e14, e15, e16, e10, e17, e18]; clear e11 e12 e13 e14 e15 e16 e10 e17 e18
      simp only [List.drop_succ_cons, List.drop_zero]
      go_wp2_with fail
      exact bodyPost_ret (v := .tuple #[.int .i64 0, .bool false]) (by simp [results, Tryz.results5, go_sem]) rfl ⟨rfl, (by repeat (first | exact below_of_grow _ _ | exact Below.refl _ _ | exact below_more _ _ _ _ | (simp only [← Array.append_assoc]; first | exact below_more _ _ _ _ | exact below_same _ _ _ | exact Below.refl _ _) | exact below_same _ _ _ | (refine Below.alloc ?_ (by first | (simp; done) | (simp; omega)) _) | (refine Below.grow ?_ (by first | (simp; done) | (simp; omega)) _ _) | refine Below.drew ?_ | refine Below.drewN ?_ _ | (refine Below.putF ?_ (by first | (simp; done) | omega | (simp; omega)) _) | (refine Below.setCell ?_ (by first | (simp; done) | (simp; omega)) _)))⟩
  · have hc := cell_of_heap h
    generalize hl : lk L k = r
    have HM := Lib.hid hm
    have HL := Lib.hid hl
    clear h hm hl
    unfold Gives
    go_enter Tryz.func5, Tryz.ntmps5
    go_wp2_with fail
    apply wp_region_specs (by rfl) [.val _, .val _, .val _, .val _, .val _, .val _, .val _, .val _, .pure _] 9 (by rfl) [11, 12, 13, 14, 15, 16, 10, 17, 18] [] [8] (by rfl) (by rfl) (by decide) (by decide +kernel) (fun _ _ _ _ _ h => h)
    case hF => intro x; simp only [over, List.foldl_cons, List.foldl_nil, List.setIfInBounds_toArray, List.set_cons_succ, List.set_cons_zero]; exact rfl
    case hops =>
      refine ⟨?o0, ?o1, ?o2, ?o3, ?o4, ?o5, ?o6, ?o7, ?o8, trivial⟩
      case o0 =>
        intro x w1 hH K hK
        obtain ⟨xs, d, rfl⟩ := grow_of_below hH.below
        clear hH
        try simp only [World.grow_drew, World.grow_grow] at hK ⊢
        go_simp
        go_wp2_with fail
        exact ⟨_, rfl, rfl, (by repeat (first | exact below_of_grow _ _ | exact Below.refl _ _ | exact below_more _ _ _ _ | (simp only [← Array.append_assoc]; first | exact below_more _ _ _ _ | exact below_same _ _ _ | exact Below.refl _ _) | exact below_same _ _ _ | (refine Below.alloc ?_ (by first | (simp; done) | (simp; omega)) _) | (refine Below.grow ?_ (by first | (simp; done) | (simp; omega)) _ _) | refine Below.drew ?_ | refine Below.drewN ?_ _ | (refine Below.putF ?_ (by first | (simp; done) | omega | (simp; omega)) _) | (refine Below.setCell ?_ (by first | (simp; done) | (simp; omega)) _))), fun h => by cases h⟩
      case o1 =>
        intro x w1 hH K hK
        have e11 : x 11 = _ := hH.holds 0 (by decide) (by decide +kernel) 11 rfl
        obtain ⟨xs, d, rfl⟩ := grow_of_below hH.below
        clear hH
        try simp only [World.grow_drew, World.grow_grow] at hK ⊢
        simp only [e11] at hK ⊢
        clear e11
        go_simp
        go_wp2_with fail
        exact ⟨_, rfl, rfl, (by repeat (first | exact below_of_grow _ _ | exact Below.refl _ _ | exact below_more _ _ _ _ | (simp only [← Array.append_assoc]; first | exact below_more _ _ _ _ | exact below_same _ _ _ | exact Below.refl _ _) | exact below_same _ _ _ | (refine Below.alloc ?_ (by first | (simp; done) | (simp; omega)) _) | (refine Below.grow ?_ (by first | (simp; done) | (simp; omega)) _ _) | refine Below.drew ?_ | refine Below.drewN ?_ _ | (refine Below.putF ?_ (by first | (simp; done) | omega | (simp; omega)) _) | (refine Below.setCell ?_ (by first | (simp; done) | (simp; omega)) _))), fun h => by cases h⟩
      case o2 =>
        intro x w1 hH K hK
        have e12 : x 12 = _ := hH.holds 1 (by decide) (by decide +kernel) 12 rfl
        obtain ⟨xs, d, rfl⟩ := grow_of_below hH.below
        clear hH
        try simp only [World.grow_drew, World.grow_grow] at hK ⊢
        simp only [e12] at hK ⊢
        clear e12
        go_simp
        go_wp2_with fail
        exact ⟨_, rfl, rfl, (by repeat (first | exact below_of_grow _ _ | exact Below.refl _ _ | exact below_more _ _ _ _ | (simp only [← Array.append_assoc]; first | exact below_more _ _ _ _ | exact below_same _ _ _ | exact Below.refl _ _) | exact below_same _ _ _ | (refine Below.alloc ?_ (by first | (simp; done) | (simp; omega)) _) | (refine Below.grow ?_ (by first | (simp; done) | (simp; omega)) _ _) | refine Below.drew ?_ | refine Below.drewN ?_ _ | (refine Below.putF ?_ (by first | (simp; done) | omega | (simp; omega)) _) | (refine Below.setCell ?_ (by first | (simp; done) | (simp; omega)) _))), fun h => by cases h⟩
      case o3 =>
        intro x w1 hH K hK
        have e13 : x 13 = _ := hH.holds 2 (by decide) (by decide +kernel) 13 rfl
        obtain ⟨xs, d, rfl⟩ := grow_of_below hH.below
        clear hH
        try simp only [World.grow_drew, World.grow_grow] at hK ⊢
        simp only [e13] at hK ⊢
        clear e13
        go_simp
        go_wp2_with fail
        exact ⟨_, rfl, rfl, (by repeat (first | exact below_of_grow _ _ | exact Below.refl _ _ | exact below_more _ _ _ _ | (simp only [← Array.append_assoc]; first | exact below_more _ _ _ _ | exact below_same _ _ _ | exact Below.refl _ _) | exact below_same _ _ _ | (refine Below.alloc ?_ (by first | (simp; done) | (simp; omega)) _) | (refine Below.grow ?_ (by first | (simp; done) | (simp; omega)) _ _) | refine Below.drew ?_ | refine Below.drewN ?_ _ | (refine Below.putF ?_ (by first | (simp; done) | omega | (simp; omega)) _) | (refine Below.setCell ?_ (by first | (simp; done) | (simp; omega)) _))), fun h => by cases h⟩
      case o4 =>
        intro x w1 hH K hK
        obtain ⟨xs, d, rfl⟩ := grow_of_below hH.below
        clear hH
        try simp only [World.grow_drew, World.grow_grow] at hK ⊢
        go_simp
        go_wp2_with fail
        exact ⟨_, rfl, rfl, (by repeat (first | exact below_of_grow _ _ | exact Below.refl _ _ | exact below_more _ _ _ _ | (simp only [← Array.append_assoc]; first | exact below_more _ _ _ _ | exact below_same _ _ _ | exact Below.refl _ _) | exact below_same _ _ _ | (refine Below.alloc ?_ (by first | (simp; done) | (simp; omega)) _) | (refine Below.grow ?_ (by first | (simp; done) | (simp; omega)) _ _) | refine Below.drew ?_ | refine Below.drewN ?_ _ | (refine Below.putF ?_ (by first | (simp; done) | omega | (simp; omega)) _) | (refine Below.setCell ?_ (by first | (simp; done) | (simp; omega)) _))), fun h => by cases h⟩
      case o5 =>
        intro x w1 hH K hK
        have e14 : x 14 = _ := hH.holds 3 (by decide) (by decide +kernel) 14 rfl
        have e15 : x 15 = _ := hH.holds 4 (by decide) (by decide +kernel) 15 rfl
        obtain ⟨xs, d, rfl⟩ := grow_of_below hH.below
        clear hH
        try simp only [World.grow_drew, World.grow_grow] at hK ⊢
        simp only [e14, e15] at hK ⊢
        clear e14 e15
        refine op_look_ok keyEncT _ _ _ _ rfl Tryz.underlying46 rfl ((HM.out.alloc _).grow _ _) k trivial rfl (HZ.out _) ?_
        rw [HL.out]
        refine hK _ _ ?_
        exact ⟨_, rfl, rfl, Below.refl _ _, fun h => by cases h⟩
      case o6 =>
        intro x w1 hH K hK
        have e16 : x 16 = _ := hH.holds 5 (by decide) (by decide +kernel) 16 rfl
        obtain ⟨xs, d, rfl⟩ := grow_of_below hH.below
        clear hH
        try simp only [World.grow_drew, World.grow_grow] at hK ⊢
        simp only [e16] at hK ⊢
        clear e16
        go_simp
        go_wp2_with fail
        exact ⟨_, rfl, rfl, (by repeat (first | exact below_of_grow _ _ | exact Below.refl _ _ | exact below_more _ _ _ _ | (simp only [← Array.append_assoc]; first | exact below_more _ _ _ _ | exact below_same _ _ _ | exact Below.refl _ _) | exact below_same _ _ _ | (refine Below.alloc ?_ (by first | (simp; done) | (simp; omega)) _) | (refine Below.grow ?_ (by first | (simp; done) | (simp; omega)) _ _) | refine Below.drew ?_ | refine Below.drewN ?_ _ | (refine Below.putF ?_ (by first | (simp; done) | omega | (simp; omega)) _) | (refine Below.setCell ?_ (by first | (simp; done) | (simp; omega)) _))), fun h => by cases h⟩
      case o7 =>
        intro x w1 hH K hK
        have e10 : x 10 = _ := hH.holds 6 (by decide) (by decide +kernel) 10 rfl
        obtain ⟨xs, d, rfl⟩ := grow_of_below hH.below
        clear hH
        try simp only [World.grow_drew, World.grow_grow] at hK ⊢
        simp only [e10] at hK ⊢
        clear e10
        go_simp
        go_wp2_with fail
        exact ⟨_, rfl, rfl, (by repeat (first | exact below_of_grow _ _ | exact Below.refl _ _ | exact below_more _ _ _ _ | (simp only [← Array.append_assoc]; first | exact below_more _ _ _ _ | exact below_same _ _ _ | exact Below.refl _ _) | exact below_same _ _ _ | (refine Below.alloc ?_ (by first | (simp; done) | (simp; omega)) _) | (refine Below.grow ?_ (by first | (simp; done) | (simp; omega)) _ _) | refine Below.drew ?_ | refine Below.drewN ?_ _ | (refine Below.putF ?_ (by first | (simp; done) | omega | (simp; omega)) _) | (refine Below.setCell ?_ (by first | (simp; done) | (simp; omega)) _))), fun h => by cases h⟩
      case o8 =>
        intro x w1 hH
        have e10 : x 10 = _ := hH.holds 6 (by decide) (by decide +kernel) 10 rfl
        clear hH
        simp only [e10]
        exact Or.inl ⟨rfl, fun _ => rfl⟩
    case hend =>
      intro x w1 hH
      have e11 : x 11 = _ := hH.holds 0 (by decide) trivial 11 rfl
      have e12 : x 12 = _ := hH.holds 1 (by decide) trivial 12 rfl
      have e13 : x 13 = _ := hH.holds 2 (by decide) trivial 13 rfl
      have e14 : x 14 = _ := hH.holds 3 (by decide) trivial 14 rfl
      have e15 : x 15 = _ := hH.holds 4 (by decide) trivial 15 rfl
      have e16 : x 16 = _ := hH.holds 5 (by decide) trivial 16 rfl
      have e10 : x 10 = _ := hH.holds 6 (by decide) trivial 10 rfl
      have e17 : x 17 = _ := hH.holds 7 (by decide) trivial 17 rfl
      have e18 : x 18 = _ := hH.holds 8 (by decide) trivial 18 rfl
      obtain ⟨xs, d, rfl⟩ := grow_of_below hH.below
      clear hH
      simp only [e11, e12, e13, e14, e15, e16, e10, e17, e18]; clear e11 e12 e13 e14 e15 e16 e10 e17 e18
      simp only [List.drop_succ_cons, List.drop_zero]
      go_wp2_with fail
      refine bodyPost_ret (v := .tuple #[(Option.map evO r).getD (.int .i64 0), .bool r.isSome]) (by simp [results, Tryz.results5, go_sem]) rfl ⟨?_, ?_⟩
      · cases r <;> rfl
      · exact (by repeat (first | exact below_of_grow _ _ | exact Below.refl _ _ | exact below_more _ _ _ _ | (simp only [← Array.append_assoc]; first | exact below_more _ _ _ _ | exact below_same _ _ _ | exact Below.refl _ _) | exact below_same _ _ _ | (refine Below.alloc ?_ (by first | (simp; done) | (simp; omega)) _) | (refine Below.grow ?_ (by first | (simp; done) | (simp; omega)) _ _) | refine Below.drew ?_ | refine Below.drewN ?_ _ | (refine Below.putF ?_ (by first | (simp; done) | omega | (simp; omega)) _) | (refine Below.setCell ?_ (by first | (simp; done) | (simp; omega)) _)))
end Go.Proofs.YtbflpnkodpeggaaGreatDoor

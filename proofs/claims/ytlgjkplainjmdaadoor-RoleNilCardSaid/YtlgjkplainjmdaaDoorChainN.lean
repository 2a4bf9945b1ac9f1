/- Layer 12: a chain that is nil shows nothing. -/
import Derived.Test.YtlgjkplainjmdaaDoorCopy
import Derived.RangeFuncNested
import Derived.RangeFuncBound
import Derived.RangeFuncCalls
import Derived.RangeFuncLeaves
import Derived.Shelf.Abstract
import Derived.Shelf.RegionOpen
import Derived.WalkKit
import Derived.OwnWalkIn
import Derived.TacticsInMore
import Derived.LoopNIn
import Derived.LoopIn
namespace Go.Proofs.YtlgjkplainjmdaaDoor
set_option maxRecDepth 100000
open Go.RowKit Go.Shelf
attribute [local go_sem] Oper.semAt_some

theorem backN_in (F : Fence) (n : Nat) (h1 : F.fn 83) (hro : F.round = none) (c : Option Addr) (w : World) :
    CallsIn F n Tryd.prog 83 #[.pointer c] w fun e w' => e = .returned (.func (.func 86) #[] #[.pointer (some ⟨w.heap.size, 0, none⟩)]) ∧ w' = w.alloc (.cells #[.pointer c] 54) := by
  have hmf : ∀ (fn : Fn) (first cap : Array Value) (w : World), (Instr.makeFunc fn first cap).run Tryd.prog w = .ok (.func fn first cap) w := fun _ _ _ _ => rfl
  refine callsIn_of_wp Tryd.func83 rfl h1 ?_ hro
  simp only [Tryd.ntmps83, List.size_toArray, List.length_cons, List.length_nil, Nat.reduceAdd, Nat.reduceSub, Array.replicate_succ, Array.replicate_zero, List.push_toArray, List.append_toArray, List.nil_append, List.cons_append]
  gi_wp2
  go_ret
  exact ⟨rfl, rfl⟩
theorem backN_stops (F : Fence) (n : Nat) (h1 : F.fn 86) (hro : F.round = none) (B n0 : Nat) (w : World) (hB : B < w.heap.size) (hc : w.cell? ⟨B, 0, none⟩ = some (.pointer none)) :
    SeqStopsK F n Tryd.prog 86 #[.pointer (some ⟨B, 0, none⟩)] (fun x : Empty => x.elim) (Below n0) (fun ys => ys = []) (fun _ => False) 0 w := by
  intro l J Jx W hW hJ _ _ h0
  have hc2 : W.cell? ⟨B, 0, none⟩ = some (.pointer none) := (hW.cell (p := ⟨B, 0, none⟩) hB).trans hc
  have hBW : B < W.heap.size := by have := hW.size; omega
  refine callsIn_of_wp Tryd.func86 rfl h1 ?_ hro
  simp only [Tryd.ntmps86, List.size_toArray, List.length_cons, List.length_nil, Nat.reduceAdd, Nat.reduceSub, Array.replicate_succ, Array.replicate_zero, List.push_toArray, List.append_toArray, List.nil_append, List.cons_append]
  gi_wp2
  refine bodyPost_ret (results_none rfl _ _ _) rfl ?_
  exact ⟨⟨_, rfl⟩, hJ _ _ _ none h0 (World.grownBy_alloc _ _ none) (fun r e => by cases e)⟩
theorem seenN_calls (t : Int) (w : World) :
    Calls Tryd.prog 81 #[.pointer none, .int .u64 t] w fun e w' => e = .returned (.int .i64 (-1)) ∧ Below w.heap.size w w' := by
  refine (callsIn_wide (n := 3)).1 ?_
  refine callsIn_of_wp_marks Tryd.func81 rfl trivial ?_ rfl
  simp only [Tryd.ntmps81, List.size_toArray, List.length_cons, List.length_nil, Nat.reduceAdd, Nat.reduceSub, Array.replicate_succ, Array.replicate_zero, List.push_toArray, List.append_toArray, List.nil_append, List.cons_append]
  gi_wp2_with (refine ⟨trivial, ?_⟩; gi_at_call 83; refine (backN_in _ _ trivial rfl none _).mono ?_; rintro e w' ⟨rfl, rfl⟩)
  refine wpIn_rangeFunc_ownF (α := Empty) (encs := fun x => x.elim) (N := 0) (Kp := Below w.heap.size) (S := fun ys => ys = []) (Sp := fun _ => False) rfl (by decide) (gf := 86) (lb := #[.pointer (some ⟨w.heap.size + 1 + 1, 0, none⟩)]) rfl trivial (enters_of Tryd.func86 (by kernel_rfl) rfl)
    (backN_stops _ _ trivial rfl (w.heap.size + 1 + 1) w.heap.size _ (by simp) ?cell) belowK_t (belowK_b (by simp; omega)) (Below.refl _ _) (fun x => x.elim)
    (fun _ W => (W.cell? ⟨w.heap.size + 1, 0, none⟩ = some (.int .i64 0) ∧ W.frozen? ⟨w.heap.size + 1, 0, none⟩ = false) ∧ Below w.heap.size w W) (fun _ _ _ => False) ?hI (fun _ _ _ _ _ hs _ _ => hs) ?h0 (fun x => x.elim) (fun _ x => x.elim) (fun _ _ x => x.elim) ?done ?stop
  case cell => simp [go_sem]
  case hI => exact OwnFrom.and (Own.from (fun s A B row hs hg hr => ⟨cell_kept hs.1 hg hr, (frozen_kept hs.1 hg hr).trans hs.2⟩) _) (ownFrom_below (Nat.le_refl _) (by simp; omega))
  case h0 => exact ⟨⟨by simp [go_sem], by simp [go_sem]⟩, (by repeat (first | exact below_of_grow _ _ | exact Below.refl _ _ | exact below_more _ _ _ _ | (simp only [← Array.append_assoc]; first | exact below_more _ _ _ _ | exact below_same _ _ _ | exact Below.refl _ _) | exact below_same _ _ _ | (refine Below.alloc ?_ (by first | (simp; done) | (simp; omega)) _) | (refine Below.grow ?_ (by first | (simp; done) | (simp; omega)) _ _) | refine Below.drew ?_ | refine Below.drewN ?_ _ | (refine Below.putF ?_ (by first | (simp; done) | omega | (simp; omega)) _) | (refine Below.setCell ?_ (by first | (simp; done) | (simp; omega)) _)))⟩
  case done =>
    rintro D ys W hD rfl ⟨⟨hc, hf⟩, hB⟩ hK
    gi_wp2
    have hc2 : (W.setCell ⟨w.heap.size + 1, 0, none⟩ (.int .i64 (-1))).cell? ⟨w.heap.size + 1, 0, none⟩ = some (.int .i64 (-1)) := World.cell?_setCell_same' _ _ _ (by rw [hc]; rfl)
    have hK2 : (W.setCell ⟨w.heap.size + 1, 0, none⟩ (.int .i64 (-1))).heap[D]? = some (.deferred (some [])) := (KeepsOthers.setCell W ⟨w.heap.size + 1, 0, none⟩ (.int .i64 (-1))).same D _ hK rfl
    refine ⟨by simp, .inl ⟨_, _, rfl, run_takeDeferred hK2, ?_⟩⟩
    have hc3 : ((W.setCell ⟨w.heap.size + 1, 0, none⟩ (.int .i64 (-1))).putObj D (.deferred none)).cell? ⟨w.heap.size + 1, 0, none⟩ = some (.int .i64 (-1)) := cell_kept hc2 (grownBy_putObj' _ D (.deferred none)) (fun r e => by cases e; exact ⟨_, hK2, rfl⟩)
    refine ⟨.int .i64 (-1), ?_, rfl, ?_⟩
    · simp [results, Tryd.results81, go_sem, hc3]
    · exact (hB.setCell (p := ⟨w.heap.size + 1, 0, none⟩) (by simp) _).trans (belowK_b (w := w) (Nat.le_refl _) _ D _ _ (by simp at hD; omega) hK2 rfl rfl)
  case stop => intro D c pre W hD h; exact h.elim
end Go.Proofs.YtlgjkplainjmdaaDoor

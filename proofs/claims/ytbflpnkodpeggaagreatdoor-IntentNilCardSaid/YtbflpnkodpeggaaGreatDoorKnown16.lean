/- Layer 16: the chapter's example. -/
import Derived.Test.YtbflpnkodpeggaaGreatDoorTake
import Derived.Great.BuildSlice
namespace Go.Proofs.YtbflpnkodpeggaaGreatDoor
set_option maxRecDepth 100000
open Go.RowKit

def kE (x y : UInt8) : K25 := ⟨x :: y :: zeros 23, rfl⟩
@[go_sem] theorem set_k10 : (row8 (zeros 25)).setIfInBounds 0 (.int .u8 1) = row8 (kE 1 0).val := rfl
@[go_sem] theorem set_k11 : (row8 (kE 1 0).val).setIfInBounds 1 (.int .u8 1) = row8 (kE 1 1).val := rfl
@[go_sem] theorem set_k12 : (row8 (kE 1 0).val).setIfInBounds 1 (.int .u8 2) = row8 (kE 1 2).val := rfl

theorem fold_size' (l : List (Value × Nat)) : ∀ c : Array Value, (l.foldl (fun cs x => cs.setIfInBounds x.snd x.fst) c).size = c.size := by
  induction l with
  | nil => intro c; rfl
  | cons x l ih => intro c; rw [List.foldl_cons, ih]; simp
@[go_sem, simp] theorem fold_size (c : Array Value) (l : Array (Value × Nat)) (n : Nat) (hn : n = l.size) : (Array.foldl (fun cs x => cs.setIfInBounds x.snd x.fst) c l 0 n).size = c.size := by
  subst hn
  rw [← Array.foldl_toList]
  exact fold_size' _ _
@[go_sem high] theorem fold_two (c : Array Value) (a b : List UInt8) (n m o : Nat) (hn : n = a.length) (ho : o = a.length) (hm : m = b.length) (h : c.size = a.length + b.length) :
    Array.foldl (fun cs x => cs.setIfInBounds (o + x.snd) x.fst) (Array.foldl (fun cs x => cs.setIfInBounds x.snd x.fst) c (row8 a).zipIdx 0 n) (row8 b).zipIdx 0 m = row8 (a ++ b) := by
  have h0 := fold_row8 c a 0 n hn (by omega)
  simp only [Nat.zero_add] at h0
  rw [h0]
  have hs : (spliceA c 0 (row8 a)).size = c.size := spliceA_size (by simp; omega)
  rw [fold_row8 _ b o m hm (by omega)]
  apply Array.ext_getElem?
  intro j
  rw [spliceA_get (by simp; omega), spliceA_get (by simp; omega)]
  simp only [row8_size]
  by_cases h1 : o ≤ j ∧ j < o + b.length
  · rw [if_pos h1]
    simp only [row8, List.getElem?_toArray, List.map_append]
    rw [List.getElem?_append_right (by simp; omega)]
    simp [ho]
  · rw [if_neg h1]
    by_cases h2 : j < a.length
    · rw [if_pos (by omega)]
      simp only [row8, List.getElem?_toArray, List.map_append]
      rw [List.getElem?_append_left (by simpa using h2)]
      simp
    · rw [if_neg (by omega), Array.getElem?_eq_none (by omega), Array.getElem?_eq_none (by simp; omega)]
theorem known_1 : takeT 1 [kE 1 0, kE 1 1] [] = ([(kE 1 0, 1), (kE 1 1, 1)], 2, 0) := by decide
theorem known_2 : takeT 2 [kE 1 2, kE 1 1] [(kE 1 0, 1), (kE 1 1, 1)] = ([(kE 1 0, 1), (kE 1 1, 1), (kE 1 2, 2)], 1, 11) := by decide
theorem known_3 : lk [(kE 1 0, (1 : Int)), (kE 1 1, 1), (kE 1 2, 2)] (kE 1 2) = some 2 := by decide
theorem known_4 : (dropGo 2 [kE 1 1, kE 1 2] [(kE 1 0, 1), (kE 1 1, 1), (kE 1 2, 2)] 0).2 = 1 := by decide
theorem sl_two {w : World} {g : Nat} {a b : List UInt8} {t : TypeId} (ha : a.length = 25) (hb : b.length = 25) (h : w.heap[g]? = some (.cells (row8 (a ++ b)) t)) : SlA w (g + 1) 25 (.slice (some ⟨g, 0, none⟩) 2 2) [row8 a, row8 b] := by
  refine ⟨?_, _, _, rfl, Nat.le_refl _, by decide, fun _ => ⟨g, 0, rfl, Nat.lt_succ_self _, ?_⟩⟩
  · intro x hx
    rcases List.mem_cons.1 hx with rfl | hx
    · simpa using ha
    · rw [List.mem_singleton.1 hx]; simpa using hb
  · intro i x hx
    have hc : w.cut? g 0 50 = some (row8 (a ++ b)) := cut_heap h (by simp; omega)
    match i with
    | 0 =>
      have := cut_sub (i := 0) (m := 25) hc (by decide)
      simp only [List.getElem?_cons_zero, Option.some.injEq] at hx
      rw [row8_extract, ← hx] at *
      rw [show 0 + 0 * 25 = 0 + 0 by rfl, this]
      simp [ha]
    | 1 =>
      have := cut_sub (i := 25) (m := 25) hc (by decide)
      simp at hx
      rw [row8_extract, ← hx] at *
      rw [show 0 + 1 * 25 = 0 + 25 by rfl, this]
      congr 2
      rw [List.take_of_length_le (by simp; omega), List.drop_append_of_le_length (by omega), List.drop_of_length_le (by omega)]; rfl
    | _ + 2 => simp at hx
theorem sl_key {w : World} {g : Nat} {a : List UInt8} {t : TypeId} (ha : a.length = 25) (h : w.heap[g]? = some (.cells (row8 a) t)) : SlA w (g + 1) 25 (.slice (some ⟨g, 0, none⟩) 1 1) [row8 a] :=
  sl_one (Nat.le_refl _) (by decide) (cut_heap h (by simpa using ha))
theorem new_tab (w : World) : TabAt (w.alloc (.cells #[.map none] 48)) w.heap.size [] := .inl ⟨_root_.Go.heap_alloc_new w _, rfl⟩
set_option maxRecDepth 100000 in
set_option maxHeartbeats 4000000 in
theorem known_gives (w : World) : Gives Tryz.prog 7 #[] w (.bool true) := by
  unfold Gives
  go_enter Tryz.func7, Tryz.ntmps7
  go_wp2_with fail
  have q1 := known_1
  have q2 := known_2
  have q3 := known_3
  have q4 := known_4
  generalize kE 1 0 = k1 at *
  generalize kE 1 1 = k2 at *
  generalize kE 1 2 = k3 at *
  refine (take_calls 1 [k1, k2] (by simp) [] _ _ w.heap.size ((((new_tab w).alloc _).alloc _).alloc _ |>.alloc _) ?_).mono ?_
  · have := sl_two k1.len k2.len (_root_.Go.heap_alloc_new ((((w.alloc (.cells #[.map none] 48)).alloc (.cells (row8 k1.val) 29)).alloc (.cells (row8 k2.val) 29)).alloc (.cells (row8 k3.val) 29)) (.cells (row8 (k1.val ++ k2.val)) 29))
    simpa using this
  rw [q1]
  obtain ⟨W0, hW0⟩ : ∃ W0, W0 = ((((w.alloc (.cells #[.map none] 48)).alloc (.cells (row8 k1.val) 29)).alloc (.cells (row8 k2.val) 29)).alloc (.cells (row8 k3.val) 29)).alloc (.cells (row8 (k1.val ++ k2.val)) 29) := ⟨_, rfl⟩
  have hB0 : Below w.heap.size w W0 := by rw [hW0]; exact (by repeat (first | exact below_of_grow _ _ | exact Below.refl _ _ | exact below_more _ _ _ _ | (simp only [← Array.append_assoc]; first | exact below_more _ _ _ _ | exact below_same _ _ _ | exact Below.refl _ _) | exact below_same _ _ _ | (refine Below.alloc ?_ (by first | (simp; done) | (simp; omega)) _) | (refine Below.grow ?_ (by first | (simp; done) | (simp; omega)) _ _) | refine Below.drew ?_ | refine Below.drewN ?_ _ | (refine Below.putF ?_ (by first | (simp; done) | omega | (simp; omega)) _) | (refine Below.setCell ?_ (by first | (simp; done) | (simp; omega)) _)))
  have hs0 : W0.heap.size = w.heap.size + 1 + 1 + 1 + 1 + 1 := by rw [hW0]; simp
  have hc3 : W0.cut? (w.heap.size + 1 + 1) 0 25 = some (row8 k2.val) := by rw [hW0]; simp [go_sem]
  have hc4 : W0.cut? (w.heap.size + 1 + 1 + 1) 0 25 = some (row8 k3.val) := by rw [hW0]; simp [go_sem]
  rw [← hW0]
  clear hW0
  rintro e w1 ⟨rfl, ht1, hk1⟩
  have d3 := hk1.cut (by omega) hc3
  have d4 := hk1.cut (by omega) hc4
  have hs1 := hk1.2.1
  have l3 : w.heap.size + 1 + 1 < w1.heap.size := by omega
  have l4 : w.heap.size + 1 + 1 + 1 < w1.heap.size := by omega
  have l0 : w.heap.size < w1.heap.size := by omega
  have HT1 := Lib.hid ht1
  have HK1 := Lib.hid hk1
  have HB0 := Lib.hid hB0
  have l00 : w.heap.size < W0.heap.size := by omega
  clear ht1 hk1 hB0 hc3 hc4 hs1 hs0
  go_wp2_with fail
  refine (take_calls 2 [k3, k2] (by simp) [(k1, 1), (k2, 1)] _ _ w.heap.size (HT1.out.alloc _) ?_).mono ?_
  · have := sl_two k3.len k2.len (_root_.Go.heap_alloc_new w1 (.cells (row8 (k3.val ++ k2.val)) 29))
    simpa using this
  rw [q2]
  rintro e w2 ⟨rfl, ht2, hk2⟩
  have hk12 := (HK1.out.alloc (p := w.heap.size) l00 (.cells (row8 (k3.val ++ k2.val)) 29)).trans hk2
  have e3 := hk2.cut (by omega) ((cut_alloc_past (.cells (row8 (k3.val ++ k2.val)) 29) _ 0 25 l3).trans d3)
  have e4 := hk2.cut (by omega) ((cut_alloc_past (.cells (row8 (k3.val ++ k2.val)) 29) _ 0 25 l4).trans d4)
  have hs2 : w1.heap.size + 1 ≤ w2.heap.size := by have := hk2.2.1; simpa using this
  have m3 : w.heap.size + 1 + 1 < w2.heap.size := by omega
  have m4 : w.heap.size + 1 + 1 + 1 < w2.heap.size := by omega
  have m0 : w.heap.size < w2.heap.size := by omega
  have HT2 := Lib.hid ht2
  have HK2 := Lib.hid hk12
  have hof := owner_gives w2 w.heap.size [(k1, 1), (k2, 1), (k3, 2)] k3 ht2
  have hO2 : ownT [(k1, 1), (k2, 1), (k3, 2)] k3 = 2 := by unfold ownT; rw [q3]; rfl
  rw [q3, hO2] at hof
  have HO := Lib.hid hof
  clear ht2 hk2 hk12 hof d3 d4 l3 l4 l0 hs2
  go_wp2_with (go_at_call 5; refine Gives.use HO.out ?_; intro xs d)
  refine (drop_calls 2 [k2, k3] (by simp) _ _ _ w.heap.size ((HT2.out.grow _ _).alloc _) ?_).mono ?_
  · have := sl_two k2.len k3.len (_root_.Go.heap_alloc_new (w2.grow xs d) (.cells (row8 (k2.val ++ k3.val)) 29))
    simpa using this
  rw [q4]
  rintro e w3 ⟨rfl, _, hk3⟩
  have hfin : Below w.heap.size w w3 := ((HB0.out.trans HK2.out.1).trans ((Below.refl _ _).grow (by omega) xs d |>.alloc (by simp; omega) _)).trans hk3.1
  have HF := Lib.hid hfin
  clear hk3 hfin e3 e4
  go_wp2_with fail
  go_ret
  exact ⟨rfl, HF.out⟩
end Go.Proofs.YtbflpnkodpeggaaGreatDoor

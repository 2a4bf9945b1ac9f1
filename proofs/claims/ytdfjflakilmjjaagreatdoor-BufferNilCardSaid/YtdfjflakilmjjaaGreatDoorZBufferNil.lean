/- Layer 17's law BufferNil, for every input: a nil buffer is empty; the Go function returns true, and each argument reads behind the call as it read before. Condition: the tables that the row lists (tied to the program's text by the card); the proof does not use what they hold. -/
import Derived.Test.YtdfjflakilmjjaaGreatDoorQbi
import Derived.Handy
import Derived.Test.YtdfjflakilmjjaaGreatDoorCards
import Derived.Test.YtdfjflakilmjjaaGreatDoorTie
import Derived.ProofKit
import Derived.LaidMore
import Derived.Lay
import Derived.OpenShut
import Derived.ShutString
namespace Go.Proofs.YtdfjflakilmjjaaGreatDoor
set_option maxRecDepth 100000
open Go.RowKit

theorem bputNil_gives (lv : Value) (w : World) : Gives Tryz.prog 16 #[.pointer none, lv] w (.tuple #[.int .i64 0, .int .i64 9]) := by
  unfold Gives
  go_enter Tryz.func16, Tryz.ntmps16
  go_wp2_with fail
  exact bodyPost_ret (v := .tuple #[.int .i64 0, .int .i64 9]) (by simp [results, Tryz.results16, go_sem]) rfl ⟨rfl, (by repeat (first | exact below_of_grow _ _ | exact Below.refl _ _ | exact below_more _ _ _ _ | (simp only [← Array.append_assoc]; first | exact below_more _ _ _ _ | exact below_same _ _ _ | exact Below.refl _ _) | exact below_same _ _ _ | (refine Below.alloc ?_ (by first | (simp; done) | (simp; omega)) _) | (refine Below.grow ?_ (by first | (simp; done) | (simp; omega)) _ _) | refine Below.drew ?_ | refine Below.drewN ?_ _ | (refine Below.putF ?_ (by first | (simp; done) | omega | (simp; omega)) _) | (refine Below.setCell ?_ (by first | (simp; done) | (simp; omega)) _)))⟩
theorem bwritesNil_gives (w : World) : Gives Tryz.prog 32 #[.pointer none] w (.slice none 0 0) := by
  unfold Gives
  go_enter Tryz.func32, Tryz.ntmps32
  go_wp2_with fail
  go_ret
  exact ⟨rfl, (by repeat (first | exact below_of_grow _ _ | exact Below.refl _ _ | exact below_more _ _ _ _ | (simp only [← Array.append_assoc]; first | exact below_more _ _ _ _ | exact below_same _ _ _ | exact Below.refl _ _) | exact below_same _ _ _ | (refine Below.alloc ?_ (by first | (simp; done) | (simp; omega)) _) | (refine Below.grow ?_ (by first | (simp; done) | (simp; omega)) _ _) | refine Below.drew ?_ | refine Below.drewN ?_ _ | (refine Below.putF ?_ (by first | (simp; done) | omega | (simp; omega)) _) | (refine Below.setCell ?_ (by first | (simp; done) | (simp; omega)) _)))⟩
theorem blenNil_gives (w : World) : Gives Tryz.prog 29 #[.pointer none] w (.int .i64 0) := by
  unfold Gives
  go_enter Tryz.func29, Tryz.ntmps29
  go_wp2_with fail
  go_ret
  exact ⟨rfl, (by repeat (first | exact below_of_grow _ _ | exact Below.refl _ _ | exact below_more _ _ _ _ | (simp only [← Array.append_assoc]; first | exact below_more _ _ _ _ | exact below_same _ _ _ | exact Below.refl _ _) | exact below_same _ _ _ | (refine Below.alloc ?_ (by first | (simp; done) | (simp; omega)) _) | (refine Below.grow ?_ (by first | (simp; done) | (simp; omega)) _ _) | refine Below.drew ?_ | refine Below.drewN ?_ _ | (refine Below.putF ?_ (by first | (simp; done) | omega | (simp; omega)) _) | (refine Below.setCell ?_ (by first | (simp; done) | (simp; omega)) _)))⟩
theorem bguardNil_gives (lv : Value) (w : World) : Gives Tryz.prog 19 #[.pointer none, lv] w (.int .i64 0) := by
  unfold Gives
  go_enter Tryz.func19, Tryz.ntmps19
  go_wp2_with fail
  go_ret
  exact ⟨rfl, (by repeat (first | exact below_of_grow _ _ | exact Below.refl _ _ | exact below_more _ _ _ _ | (simp only [← Array.append_assoc]; first | exact below_more _ _ _ _ | exact below_same _ _ _ | exact Below.refl _ _) | exact below_same _ _ _ | (refine Below.alloc ?_ (by first | (simp; done) | (simp; omega)) _) | (refine Below.grow ?_ (by first | (simp; done) | (simp; omega)) _ _) | refine Below.drew ?_ | refine Below.drewN ?_ _ | (refine Below.putF ?_ (by first | (simp; done) | omega | (simp; omega)) _) | (refine Below.setCell ?_ (by first | (simp; done) | (simp; omega)) _)))⟩
theorem bguardInNil_gives (lv : Value) (w : World) : Gives Tryz.prog 22 #[.pointer none, lv] w (.int .i64 0) := by
  unfold Gives
  go_enter Tryz.func22, Tryz.ntmps22
  go_wp2_with fail
  go_ret
  exact ⟨rfl, (by repeat (first | exact below_of_grow _ _ | exact Below.refl _ _ | exact below_more _ _ _ _ | (simp only [← Array.append_assoc]; first | exact below_more _ _ _ _ | exact below_same _ _ _ | exact Below.refl _ _) | exact below_same _ _ _ | (refine Below.alloc ?_ (by first | (simp; done) | (simp; omega)) _) | (refine Below.grow ?_ (by first | (simp; done) | (simp; omega)) _ _) | refine Below.drew ?_ | refine Below.drewN ?_ _ | (refine Below.putF ?_ (by first | (simp; done) | omega | (simp; omega)) _) | (refine Below.setCell ?_ (by first | (simp; done) | (simp; omega)) _)))⟩
theorem bguardsNil_gives (w : World) : Gives Tryz.prog 30 #[.pointer none] w (.slice none 0 0) := by
  unfold Gives
  go_enter Tryz.func30, Tryz.ntmps30
  go_wp2_with fail
  go_ret
  exact ⟨rfl, (by repeat (first | exact below_of_grow _ _ | exact Below.refl _ _ | exact below_more _ _ _ _ | (simp only [← Array.append_assoc]; first | exact below_more _ _ _ _ | exact below_same _ _ _ | exact Below.refl _ _) | exact below_same _ _ _ | (refine Below.alloc ?_ (by first | (simp; done) | (simp; omega)) _) | (refine Below.grow ?_ (by first | (simp; done) | (simp; omega)) _ _) | refine Below.drew ?_ | refine Below.drewN ?_ _ | (refine Below.putF ?_ (by first | (simp; done) | omega | (simp; omega)) _) | (refine Below.setCell ?_ (by first | (simp; done) | (simp; omega)) _)))⟩
theorem bprefNil_gives (w : World) : Gives Tryz.prog 31 #[.pointer none] w (.slice none 0 0) := by
  unfold Gives
  go_enter Tryz.func31, Tryz.ntmps31
  go_wp2_with fail
  go_ret
  exact ⟨rfl, (by repeat (first | exact below_of_grow _ _ | exact Below.refl _ _ | exact below_more _ _ _ _ | (simp only [← Array.append_assoc]; first | exact below_more _ _ _ _ | exact below_same _ _ _ | exact Below.refl _ _) | exact below_same _ _ _ | (refine Below.alloc ?_ (by first | (simp; done) | (simp; omega)) _) | (refine Below.grow ?_ (by first | (simp; done) | (simp; omega)) _ _) | refine Below.drew ?_ | refine Below.drewN ?_ _ | (refine Below.putF ?_ (by first | (simp; done) | omega | (simp; omega)) _) | (refine Below.setCell ?_ (by first | (simp; done) | (simp; omega)) _)))⟩
theorem bcopyNil_gives (w : World) : Gives Tryz.prog 28 #[.pointer none] w (.pointer none) := by
  unfold Gives
  go_enter Tryz.func28, Tryz.ntmps28
  go_wp2_with fail
  go_ret
  exact ⟨rfl, (by repeat (first | exact below_of_grow _ _ | exact Below.refl _ _ | exact below_more _ _ _ _ | (simp only [← Array.append_assoc]; first | exact below_more _ _ _ _ | exact below_same _ _ _ | exact Below.refl _ _) | exact below_same _ _ _ | (refine Below.alloc ?_ (by first | (simp; done) | (simp; omega)) _) | (refine Below.grow ?_ (by first | (simp; done) | (simp; omega)) _ _) | refine Below.drew ?_ | refine Below.drewN ?_ _ | (refine Below.putF ?_ (by first | (simp; done) | omega | (simp; omega)) _) | (refine Below.setCell ?_ (by first | (simp; done) | (simp; omega)) _)))⟩
theorem boverNil_calls {w : World} (p : K25) (d : Int) (lv : Value) (l : List Ent) (hll : l.length ≤ 1000) (hl : SlA w w.heap.size 34 lv (l.map entA)) :
    Calls Tryz.prog 33 #[.pointer none, lv, .agg (prefA p d)] w fun e w' => ∃ (a : Option Addr) (cap : Nat), e = .returned (.slice a l.length cap) ∧ Below w.heap.size w w' := by
  refine (over_calls (.pointer none) [] p d lv l hll (Nat.zero_le _) hl (fun W _ k => ⟨wr0, bgetNil_gives k W⟩) (fun W _ => ?_)).mono ?_
  · refine (bwritesNil_gives W).mono ?_
    rintro e w' ⟨he, hb⟩
    refine ⟨_, he, hb, ?_⟩
    rw [show writesB [] = [] from by simp [writesB, sortK]]
    exact OwnA.nil _ _ _ _
  · rintro e w' ⟨v', l', rfl, hb, hp, _, ho⟩
    obtain ⟨a, cap, rfl, _, _⟩ := ho.form
    have hlen : l'.length = l.length := by
      rw [hp.length_eq]
      unfold overL
      rw [show writesB [] = [] from by simp [writesB, sortK]]
      simp only [List.filter_nil, List.map_nil, List.append_nil]
      rw [List.filter_eq_self.2 (fun x _ => by unfold keepE lk; simp)]
    exact ⟨a, cap, by rw [List.length_map, hlen], hb⟩
theorem sl_take {w : World} {B sz cap n : Nat} {a : Option Addr} {xs : List (Array Value)} (h : SlA w B sz (.slice a xs.length cap) xs) (hn : n ≤ xs.length) : SlA w B sz (.slice a n cap) (xs.take n) := SlA.take h hn
set_option maxHeartbeats 20000000 in
theorem bufferNil_walk (k : K25) (p : K25) (d : Int) (x : Wr) (lv : Value) (l : List Ent) (w : World) (hl : SlA w w.heap.size 34 lv (l.map entA)) :
    Gives Tryz.prog 6 #[.agg (row8 k.val), .agg (prefA p d), .agg (wrtA x), lv] w (.bool true) := by
  obtain ⟨a, cap, rfl, hcap, hmx⟩ := hl.form
  rw [List.length_map] at *
  have HL := Lib.hid hl
  unfold maxLen at hmx
  clear hl
  have hkl := k.len
  unfold Gives
  go_enter Tryz.func6, Tryz.ntmps6
  go_upto_region 3 with fail
  refine wp_name ?_
  intro W0 hW0
  have hb0 : Below w.heap.size w W0 := by rw [hW0]; exact (by repeat (first | exact below_of_grow _ _ | exact Below.refl _ _ | exact below_more _ _ _ _ | (simp only [← Array.append_assoc]; first | exact below_more _ _ _ _ | exact below_same _ _ _ | exact Below.refl _ _) | exact below_same _ _ _ | (refine Below.alloc ?_ (by first | (simp; done) | (simp; omega)) _) | (refine Below.grow ?_ (by first | (simp; done) | (simp; omega)) _ _) | refine Below.drew ?_ | refine Below.drewN ?_ _ | (refine Below.putF ?_ (by first | (simp; done) | omega | (simp; omega)) _) | (refine Below.setCell ?_ (by first | (simp; done) | (simp; omega)) _)))
  obtain ⟨q, hq⟩ : ∃ q, q = w.heap.size := ⟨_, rfl⟩
  obtain ⟨k0, k1, k2⟩ := heap_al3 (w := w) (.cells (row8 k.val) 39) (.cells (prefA p d) 50) (.cells (wrtA x) 68) w.heap.size rfl
  rw [← hW0, ← hq] at k0 k1 k2
  have hz0 : W0.heap.size = q + 1 + 1 + 1 := by rw [hW0, hq]; simp
  have hmn : (min (l.length : Int) 20).toNat = (l.take 20).length := by rw [List.length_take]; omega
  obtain ⟨l2, hl2⟩ : ∃ l2, l2 = l.take 20 := ⟨_, rfl⟩
  have hsl : SlA W0 W0.heap.size 34 (.slice a l2.length cap) (l2.map entA) := by
    have h1 := SlA.take (n := l2.length) (xs := l.map entA) (by rw [List.length_map]; exact HL.out) (by rw [hl2, List.length_take, List.length_map]; omega)
    have e : (l.map entA).take l2.length = l2.map entA := by rw [hl2, ← List.map_take, List.length_take]; congr 1; rw [List.take_eq_take_iff]; omega
    rw [e] at h1
    exact (h1.below hb0).more hb0.size
  have hl20 : l2.length ≤ 20 := by rw [hl2, List.length_take]; omega
  rw [hmn, ← hl2]
  simp only [← hq]
  have c0 := cut_heap k0 (show (row8 k.val).size = 25 by simp [hkl])
  have c1 := cut_heap k1 (prefA_size p d)
  have c2 := cut_heap k2 (wrtA_size x)
  have g0 : q < W0.heap.size := by omega
  have g1 : q + 1 < W0.heap.size := by omega
  have g2 : q + 1 + 1 < W0.heap.size := by omega
  have H0 := Lib.hid (And.intro hb0 hsl)
  have hs0 := hb0.size
  clear hW0 hb0 k0 k1 k2 hz0 hmn hsl hq HL hl2 hcap
  obtain ⟨n, hn⟩ : ∃ n, n = l2.length := ⟨_, rfl⟩
  rw [← hn] at hl20 ⊢
  have HN := Lib.hid hn
  have HKN := Lib.hid known17_gives
  clear hn
  go_wp2_with fail
  refine (bputNil_gives _ _).mono ?_
  rintro e V1 ⟨rfl, hb1⟩
  have hc1 := (show Below W0.heap.size W0 _ from (by repeat (first | exact below_of_grow _ _ | exact Below.refl _ _ | exact below_more _ _ _ _ | (simp only [← Array.append_assoc]; first | exact below_more _ _ _ _ | exact below_same _ _ _ | exact Below.refl _ _) | exact below_same _ _ _ | (refine Below.alloc ?_ (by first | (simp; done) | (simp; omega)) _) | (refine Below.grow ?_ (by first | (simp; done) | (simp; omega)) _ _) | refine Below.drew ?_ | refine Below.drewN ?_ _ | (refine Below.putF ?_ (by first | (simp; done) | omega | (simp; omega)) _) | (refine Below.setCell ?_ (by first | (simp; done) | (simp; omega)) _)))).trans (hb1.mono (by simp))
  have HB1 := Lib.hid hc1
  have c01 : V1.cut? q 0 25 = some (row8 k.val) := by rw [cut_of_heap (hc1.block _ g0)]; exact c0
  have c11 : V1.cut? (q + 1) 0 26 = some (prefA p d) := by rw [cut_of_heap (hc1.block _ g1)]; exact c1
  have g01 : q < V1.heap.size := Nat.lt_of_lt_of_le g0 hc1.size
  have g11 : q + 1 < V1.heap.size := Nat.lt_of_lt_of_le g1 hc1.size
  clear c0 c1 c2 hb1 hc1 g2
  go_wp2_with fail
  refine (bgetNil_gives k _).mono ?_
  rintro e V2 ⟨rfl, hb2⟩
  have hc2 := (show Below V1.heap.size V1 _ from (by repeat (first | exact below_of_grow _ _ | exact Below.refl _ _ | exact below_more _ _ _ _ | (simp only [← Array.append_assoc]; first | exact below_more _ _ _ _ | exact below_same _ _ _ | exact Below.refl _ _) | exact below_same _ _ _ | (refine Below.alloc ?_ (by first | (simp; done) | (simp; omega)) _) | (refine Below.grow ?_ (by first | (simp; done) | (simp; omega)) _ _) | refine Below.drew ?_ | refine Below.drewN ?_ _ | (refine Below.putF ?_ (by first | (simp; done) | omega | (simp; omega)) _) | (refine Below.setCell ?_ (by first | (simp; done) | (simp; omega)) _)))).trans (hb2.mono (by simp))
  have HB2 := Lib.hid (HB1.out.trans (hc2.mono HB1.out.size))
  have c02 : V2.cut? q 0 25 = some (row8 k.val) := by rw [cut_of_heap (hc2.block _ g01)]; exact c01
  have c12 : V2.cut? (q + 1) 0 26 = some (prefA p d) := by rw [cut_of_heap (hc2.block _ g11)]; exact c11
  have g02 : q < V2.heap.size := Nat.lt_of_lt_of_le g01 hc2.size
  have g12 : q + 1 < V2.heap.size := Nat.lt_of_lt_of_le g11 hc2.size
  clear c01 c11 g01 g11 hb2 hc2
  go_wp2_with fail
  refine (HKN.out _).mono ?_
  rintro e V3 ⟨rfl, hb3⟩
  have hc3 := (show Below V2.heap.size V2 _ from (by repeat (first | exact below_of_grow _ _ | exact Below.refl _ _ | exact below_more _ _ _ _ | (simp only [← Array.append_assoc]; first | exact below_more _ _ _ _ | exact below_same _ _ _ | exact Below.refl _ _) | exact below_same _ _ _ | (refine Below.alloc ?_ (by first | (simp; done) | (simp; omega)) _) | (refine Below.grow ?_ (by first | (simp; done) | (simp; omega)) _ _) | refine Below.drew ?_ | refine Below.drewN ?_ _ | (refine Below.putF ?_ (by first | (simp; done) | omega | (simp; omega)) _) | (refine Below.setCell ?_ (by first | (simp; done) | (simp; omega)) _)))).trans (hb3.mono (by simp))
  have HB3 := Lib.hid (HB2.out.trans (hc3.mono HB2.out.size))
  have c03 : V3.cut? q 0 25 = some (row8 k.val) := by rw [cut_of_heap (hc3.block _ g02)]; exact c02
  have c13 : V3.cut? (q + 1) 0 26 = some (prefA p d) := by rw [cut_of_heap (hc3.block _ g12)]; exact c12
  have g03 : q < V3.heap.size := Nat.lt_of_lt_of_le g02 hc3.size
  have g13 : q + 1 < V3.heap.size := Nat.lt_of_lt_of_le g12 hc3.size
  clear c02 c12 g02 g12 hb3 hc3
  go_wp2_with fail
  refine (bwritesNil_gives _).mono ?_
  rintro e V4 ⟨rfl, hb4⟩
  have hc4 := (show Below V3.heap.size V3 _ from (by repeat (first | exact below_of_grow _ _ | exact Below.refl _ _ | exact below_more _ _ _ _ | (simp only [← Array.append_assoc]; first | exact below_more _ _ _ _ | exact below_same _ _ _ | exact Below.refl _ _) | exact below_same _ _ _ | (refine Below.alloc ?_ (by first | (simp; done) | (simp; omega)) _) | (refine Below.grow ?_ (by first | (simp; done) | (simp; omega)) _ _) | refine Below.drew ?_ | refine Below.drewN ?_ _ | (refine Below.putF ?_ (by first | (simp; done) | omega | (simp; omega)) _) | (refine Below.setCell ?_ (by first | (simp; done) | (simp; omega)) _)))).trans (hb4.mono (by simp))
  have HB4 := Lib.hid (HB3.out.trans (hc4.mono HB3.out.size))
  have c04 : V4.cut? q 0 25 = some (row8 k.val) := by rw [cut_of_heap (hc4.block _ g03)]; exact c03
  have c14 : V4.cut? (q + 1) 0 26 = some (prefA p d) := by rw [cut_of_heap (hc4.block _ g13)]; exact c13
  have g04 : q < V4.heap.size := Nat.lt_of_lt_of_le g03 hc4.size
  have g14 : q + 1 < V4.heap.size := Nat.lt_of_lt_of_le g13 hc4.size
  clear c03 c13 g03 g13 hb4 hc4
  go_wp2_with fail
  refine (blenNil_gives _).mono ?_
  rintro e V5 ⟨rfl, hb5⟩
  have hc5 := (show Below V4.heap.size V4 _ from (by repeat (first | exact below_of_grow _ _ | exact Below.refl _ _ | exact below_more _ _ _ _ | (simp only [← Array.append_assoc]; first | exact below_more _ _ _ _ | exact below_same _ _ _ | exact Below.refl _ _) | exact below_same _ _ _ | (refine Below.alloc ?_ (by first | (simp; done) | (simp; omega)) _) | (refine Below.grow ?_ (by first | (simp; done) | (simp; omega)) _ _) | refine Below.drew ?_ | refine Below.drewN ?_ _ | (refine Below.putF ?_ (by first | (simp; done) | omega | (simp; omega)) _) | (refine Below.setCell ?_ (by first | (simp; done) | (simp; omega)) _)))).trans (hb5.mono (by simp))
  have HB5 := Lib.hid (HB4.out.trans (hc5.mono HB4.out.size))
  have c05 : V5.cut? q 0 25 = some (row8 k.val) := by rw [cut_of_heap (hc5.block _ g04)]; exact c04
  have c15 : V5.cut? (q + 1) 0 26 = some (prefA p d) := by rw [cut_of_heap (hc5.block _ g14)]; exact c14
  have g05 : q < V5.heap.size := Nat.lt_of_lt_of_le g04 hc5.size
  have g15 : q + 1 < V5.heap.size := Nat.lt_of_lt_of_le g14 hc5.size
  clear c04 c14 g04 g14 hb5 hc5
  go_wp2_with fail
  refine (bguardNil_gives _ _).mono ?_
  rintro e V6 ⟨rfl, hb6⟩
  have hc6 := (show Below V5.heap.size V5 _ from (by repeat (first | exact below_of_grow _ _ | exact Below.refl _ _ | exact below_more _ _ _ _ | (simp only [← Array.append_assoc]; first | exact below_more _ _ _ _ | exact below_same _ _ _ | exact Below.refl _ _) | exact below_same _ _ _ | (refine Below.alloc ?_ (by first | (simp; done) | (simp; omega)) _) | (refine Below.grow ?_ (by first | (simp; done) | (simp; omega)) _ _) | refine Below.drew ?_ | refine Below.drewN ?_ _ | (refine Below.putF ?_ (by first | (simp; done) | omega | (simp; omega)) _) | (refine Below.setCell ?_ (by first | (simp; done) | (simp; omega)) _)))).trans (hb6.mono (by simp))
  have HB6 := Lib.hid (HB5.out.trans (hc6.mono HB5.out.size))
  have c06 : V6.cut? q 0 25 = some (row8 k.val) := by rw [cut_of_heap (hc6.block _ g05)]; exact c05
  have c16 : V6.cut? (q + 1) 0 26 = some (prefA p d) := by rw [cut_of_heap (hc6.block _ g15)]; exact c15
  have g06 : q < V6.heap.size := Nat.lt_of_lt_of_le g05 hc6.size
  have g16 : q + 1 < V6.heap.size := Nat.lt_of_lt_of_le g15 hc6.size
  clear c05 c15 g05 g15 hb6 hc6
  go_wp2_with fail
  refine (bguardInNil_gives _ _).mono ?_
  rintro e V7 ⟨rfl, hb7⟩
  have hc7 := (show Below V6.heap.size V6 _ from (by repeat (first | exact below_of_grow _ _ | exact Below.refl _ _ | exact below_more _ _ _ _ | (simp only [← Array.append_assoc]; first | exact below_more _ _ _ _ | exact below_same _ _ _ | exact Below.refl _ _) | exact below_same _ _ _ | (refine Below.alloc ?_ (by first | (simp; done) | (simp; omega)) _) | (refine Below.grow ?_ (by first | (simp; done) | (simp; omega)) _ _) | refine Below.drew ?_ | refine Below.drewN ?_ _ | (refine Below.putF ?_ (by first | (simp; done) | omega | (simp; omega)) _) | (refine Below.setCell ?_ (by first | (simp; done) | (simp; omega)) _)))).trans (hb7.mono (by simp))
  have HB7 := Lib.hid (HB6.out.trans (hc7.mono HB6.out.size))
  have c07 : V7.cut? q 0 25 = some (row8 k.val) := by rw [cut_of_heap (hc7.block _ g06)]; exact c06
  have c17 : V7.cut? (q + 1) 0 26 = some (prefA p d) := by rw [cut_of_heap (hc7.block _ g16)]; exact c16
  have g07 : q < V7.heap.size := Nat.lt_of_lt_of_le g06 hc7.size
  have g17 : q + 1 < V7.heap.size := Nat.lt_of_lt_of_le g16 hc7.size
  clear c06 c16 g06 g16 hb7 hc7
  go_wp2_with fail
  refine (bguardsNil_gives _).mono ?_
  rintro e V8 ⟨rfl, hb8⟩
  have hc8 := (show Below V7.heap.size V7 _ from (by repeat (first | exact below_of_grow _ _ | exact Below.refl _ _ | exact below_more _ _ _ _ | (simp only [← Array.append_assoc]; first | exact below_more _ _ _ _ | exact below_same _ _ _ | exact Below.refl _ _) | exact below_same _ _ _ | (refine Below.alloc ?_ (by first | (simp; done) | (simp; omega)) _) | (refine Below.grow ?_ (by first | (simp; done) | (simp; omega)) _ _) | refine Below.drew ?_ | refine Below.drewN ?_ _ | (refine Below.putF ?_ (by first | (simp; done) | omega | (simp; omega)) _) | (refine Below.setCell ?_ (by first | (simp; done) | (simp; omega)) _)))).trans (hb8.mono (by simp))
  have HB8 := Lib.hid (HB7.out.trans (hc8.mono HB7.out.size))
  have c08 : V8.cut? q 0 25 = some (row8 k.val) := by rw [cut_of_heap (hc8.block _ g07)]; exact c07
  have c18 : V8.cut? (q + 1) 0 26 = some (prefA p d) := by rw [cut_of_heap (hc8.block _ g17)]; exact c17
  have g08 : q < V8.heap.size := Nat.lt_of_lt_of_le g07 hc8.size
  have g18 : q + 1 < V8.heap.size := Nat.lt_of_lt_of_le g17 hc8.size
  clear c07 c17 g07 g17 hb8 hc8
  go_wp2_with fail
  refine (bprefNil_gives _).mono ?_
  rintro e V9 ⟨rfl, hb9⟩
  have hc9 := (show Below V8.heap.size V8 _ from (by repeat (first | exact below_of_grow _ _ | exact Below.refl _ _ | exact below_more _ _ _ _ | (simp only [← Array.append_assoc]; first | exact below_more _ _ _ _ | exact below_same _ _ _ | exact Below.refl _ _) | exact below_same _ _ _ | (refine Below.alloc ?_ (by first | (simp; done) | (simp; omega)) _) | (refine Below.grow ?_ (by first | (simp; done) | (simp; omega)) _ _) | refine Below.drew ?_ | refine Below.drewN ?_ _ | (refine Below.putF ?_ (by first | (simp; done) | omega | (simp; omega)) _) | (refine Below.setCell ?_ (by first | (simp; done) | (simp; omega)) _)))).trans (hb9.mono (by simp))
  have HB9 := Lib.hid (HB8.out.trans (hc9.mono HB8.out.size))
  have c09 : V9.cut? q 0 25 = some (row8 k.val) := by rw [cut_of_heap (hc9.block _ g08)]; exact c08
  have c19 : V9.cut? (q + 1) 0 26 = some (prefA p d) := by rw [cut_of_heap (hc9.block _ g18)]; exact c18
  have g09 : q < V9.heap.size := Nat.lt_of_lt_of_le g08 hc9.size
  have g19 : q + 1 < V9.heap.size := Nat.lt_of_lt_of_le g18 hc9.size
  clear c08 c18 g08 g18 hb9 hc9
  go_wp2_with fail
  refine (boverNil_calls p d _ l2 (by rw [← HN.out]; omega) (by rw [HN.out]; exact ((H0.out.2.below HB9.out).more HB9.out.size))).mono ?_
  rintro e V10 ⟨ao, co, rfl, hb10⟩
  rw [← HN.out]
  have hc10 := (show Below V9.heap.size V9 _ from (by repeat (first | exact below_of_grow _ _ | exact Below.refl _ _ | exact below_more _ _ _ _ | (simp only [← Array.append_assoc]; first | exact below_more _ _ _ _ | exact below_same _ _ _ | exact Below.refl _ _) | exact below_same _ _ _ | (refine Below.alloc ?_ (by first | (simp; done) | (simp; omega)) _) | (refine Below.grow ?_ (by first | (simp; done) | (simp; omega)) _ _) | refine Below.drew ?_ | refine Below.drewN ?_ _ | (refine Below.putF ?_ (by first | (simp; done) | omega | (simp; omega)) _) | (refine Below.setCell ?_ (by first | (simp; done) | (simp; omega)) _)))).trans (hb10.mono (by simp))
  have HB10 := Lib.hid (HB9.out.trans (hc10.mono HB9.out.size))
  have c010 : V10.cut? q 0 25 = some (row8 k.val) := by rw [cut_of_heap (hc10.block _ g09)]; exact c09
  have c110 : V10.cut? (q + 1) 0 26 = some (prefA p d) := by rw [cut_of_heap (hc10.block _ g19)]; exact c19
  have g010 : q < V10.heap.size := Nat.lt_of_lt_of_le g09 hc10.size
  have g110 : q + 1 < V10.heap.size := Nat.lt_of_lt_of_le g19 hc10.size
  clear c09 c19 g09 g19 hb10 hc10
  go_wp2_with fail
  refine (bcopyNil_gives _).mono ?_
  rintro e V11 ⟨rfl, hb11⟩
  have hc11 := (show Below V10.heap.size V10 _ from (by repeat (first | exact below_of_grow _ _ | exact Below.refl _ _ | exact below_more _ _ _ _ | (simp only [← Array.append_assoc]; first | exact below_more _ _ _ _ | exact below_same _ _ _ | exact Below.refl _ _) | exact below_same _ _ _ | (refine Below.alloc ?_ (by first | (simp; done) | (simp; omega)) _) | (refine Below.grow ?_ (by first | (simp; done) | (simp; omega)) _ _) | refine Below.drew ?_ | refine Below.drewN ?_ _ | (refine Below.putF ?_ (by first | (simp; done) | omega | (simp; omega)) _) | (refine Below.setCell ?_ (by first | (simp; done) | (simp; omega)) _)))).trans (hb11.mono (by simp))
  have HB11 := Lib.hid (HB10.out.trans (hc11.mono HB10.out.size))
  have c011 : V11.cut? q 0 25 = some (row8 k.val) := by rw [cut_of_heap (hc11.block _ g010)]; exact c010
  have c111 : V11.cut? (q + 1) 0 26 = some (prefA p d) := by rw [cut_of_heap (hc11.block _ g110)]; exact c110
  have g011 : q < V11.heap.size := Nat.lt_of_lt_of_le g010 hc11.size
  have g111 : q + 1 < V11.heap.size := Nat.lt_of_lt_of_le g110 hc11.size
  clear c010 c110 g010 g110 hb11 hc11
  go_wp2_with fail
  go_ret
  exact ⟨rfl, H0.out.1.trans (((HB11.out).trans ((show Below V11.heap.size V11 _ from (by repeat (first | exact below_of_grow _ _ | exact Below.refl _ _ | exact below_more _ _ _ _ | (simp only [← Array.append_assoc]; first | exact below_more _ _ _ _ | exact below_same _ _ _ | exact Below.refl _ _) | exact below_same _ _ _ | (refine Below.alloc ?_ (by first | (simp; done) | (simp; omega)) _) | (refine Below.grow ?_ (by first | (simp; done) | (simp; omega)) _ _) | refine Below.drew ?_ | refine Below.drewN ?_ _ | (refine Below.putF ?_ (by first | (simp; done) | omega | (simp; omega)) _) | (refine Below.setCell ?_ (by first | (simp; done) | (simp; omega)) _)))).mono HB11.out.size)).mono hs0)⟩
end Go.Proofs.YtdfjflakilmjjaaGreatDoor
namespace Go.Proofs.YtdfjflakilmjjaaGreatDoor
set_option maxRecDepth 100000
open Go.RowKit

theorem bufferNil_law (w : World) (v0 v1 v2 v3 : Value) (h0 : Reads Tryz.prog w 39 v0) (h1 : Reads Tryz.prog w 50 v1) (h2 : Reads Tryz.prog w 68 v2) (h3 : Reads Tryz.prog w 95 v3) :
    Gives Tryz.prog 6 #[v0, v1, v2, v3] w (.bool true) := by
  obtain ⟨k, rfl⟩ := keyB_read h0
  obtain ⟨p, d, rfl⟩ := prefB_read h1
  obtain ⟨x, rfl⟩ := wrB_read h2
  obtain ⟨l, hl⟩ := entsB_read h3
  exact bufferNil_walk k p d x v3 l w hl

namespace bufferNil
open Go.ChangeShapes Go.WideShapes Go.ChangeAt Go.RowKit
open Go.ChangeMaps (open_string shut_string)
theorem own : ownKnob Tryz.prog.godebug = none := by kernel_rfl
theorem laidOut : laidOutB Tryz.prog = true := by kernel_rfl
/-- a world in which the listed variables hold what the row says -/
noncomputable def laidW (os : Os) : World := World.laidAll Tryz.prog os Rows.bufferNilRow.laid
set_option maxRecDepth 100000 in
theorem door_met (os : Os) (args : Array Value) : laidMetH Tryz.prog Rows.bufferNilRow.laid ((laidW os).forCall (fun _ _ => 0) ⟨#[], args, []⟩).memory := by
  rw [MakeChecks.laidMetH_plain _ _ _ (by kernel_rfl)]
  exact laidMet_laidAll args (by kernel_rfl) (by kernel_rfl)
set_option maxRecDepth 100000 in
theorem lifted (os : Os) (started : os.Started) (H : Type) (enc : TypeId × Value → H) :
    ReturnsInHanded {} Tryz.checked os 6 .any (fun w args => (Rows.bufferNilSpec.pre enc Tryz.prog Tryz.f6 Rows.bufferNilRow.domain false w args ∧ laidMetH Tryz.prog Rows.bufferNilRow.laid w) ∧ sizedMet enc Tryz.prog Tryz.f6 (OpenSpec.ofChange Rows.bufferNilSpec) false w args) (Rows.bufferNilSpec.post enc Tryz.prog Tryz.f6 false true false false) := by
  refine returnsInHanded_of_change_and (C := Tryz.checked) (X := fun w _ => laidMetH Tryz.prog Rows.bufferNilRow.laid w) (fun _ _ _ hh h => h.of_heap hh) own started (by kernel_rfl) Tryz.func6
    (ChangeSpec.witness_shaped (enc := enc) (C := Tryz.checked) (os := os) (X := fun w _ => laidMetH Tryz.prog Rows.bufferNilRow.laid w) false (laidW os) #[.agg #[.int .u8 0, .int .u8 0, .int .u8 0, .int .u8 0, .int .u8 0, .int .u8 0, .int .u8 0, .int .u8 0, .int .u8 0, .int .u8 0, .int .u8 0, .int .u8 0, .int .u8 0, .int .u8 0, .int .u8 0, .int .u8 0, .int .u8 0, .int .u8 0, .int .u8 0, .int .u8 0, .int .u8 0, .int .u8 0, .int .u8 0, .int .u8 0, .int .u8 0], .agg #[.int .u8 0, .int .u8 0, .int .u8 0, .int .u8 0, .int .u8 0, .int .u8 0, .int .u8 0, .int .u8 0, .int .u8 0, .int .u8 0, .int .u8 0, .int .u8 0, .int .u8 0, .int .u8 0, .int .u8 0, .int .u8 0, .int .u8 0, .int .u8 0, .int .u8 0, .int .u8 0, .int .u8 0, .int .u8 0, .int .u8 0, .int .u8 0, .int .u8 0, .int .i64 0], .agg #[.int .u8 0, .int .u8 0, .int .u8 0, .int .u8 0, .int .u8 0, .int .u8 0, .int .u8 0, .int .u8 0, .int .u8 0, .int .u8 0, .int .u8 0, .int .u8 0, .int .u8 0, .int .u8 0, .int .u8 0, .int .u8 0, .int .u8 0, .int .u8 0, .int .u8 0, .int .u8 0, .int .u8 0, .int .u8 0, .int .u8 0, .int .u8 0, .int .u8 0, .bool false, .int .u8 0, .int .u8 0, .int .u8 0, .int .u8 0, .int .u8 0, .bool false, .int .u32 0, .int .u64 0, .string ByteArray.empty], .slice none 0 0] 8 (World.laidAll_os _ _ _) (World.shaped_of_ZipB (by kernel_rfl) (by kernel_rfl)) (by kernel_rfl) (by kernel_rfl) (by kernel_rfl) (door_met os _)) ?_
  intro W base args ds gs before hval0 hW _ _ _ _
  have hval : ∀ (j : Nat) t v, Tryz.f6.params[j]? = some t → args[j]? = some v → Value.okWide Tryz.prog W .any base t v := hval0
  have hW' := hW
  obtain ⟨p, q, hA0, hV, rfl, hfz, hnd⟩ := hW
  have hA : DataW.TrodAll enc Tryz.prog W 0 (fun _ => true) true Tryz.f6.params.toList args.toList ds p := hA0
  rw [Tryz.params6] at hA hval
  obtain ⟨v0, vs0, d0, ds0, p0, q0, hargs, rfl, rfl, h0, r0⟩ := trodAll_cons hA
  obtain ⟨v1, vs1, d1, ds1, p1, q1, rfl, rfl, rfl, h1, r1⟩ := trodAll_cons r0
  obtain ⟨v2, vs2, d2, ds2, p2, q2, rfl, rfl, rfl, h2, r2⟩ := trodAll_cons r1
  obtain ⟨v3, vs3, d3, ds3, p3, q3, rfl, rfl, rfl, h3, r3⟩ := trodAll_cons r2
  obtain ⟨rfl, rfl, rfl⟩ := trodAll_nil r3
  obtain rfl : args = #[v0, v1, v2, v3] := by cases args; simp_all
  obtain ⟨rfl, rfl⟩ := trodVars_none hV
  have lt0 : ∀ x ∈ p0, x.block < W.heap.size := by obtain ⟨m, hm⟩ := h0; exact DataW.trod_lt m _ _ _ hm
  have lt1 : ∀ x ∈ p1, x.block < W.heap.size := by obtain ⟨m, hm⟩ := h1; exact DataW.trod_lt m _ _ _ hm
  have lt2 : ∀ x ∈ p2, x.block < W.heap.size := by obtain ⟨m, hm⟩ := h2; exact DataW.trod_lt m _ _ _ hm
  have lt3 : ∀ x ∈ p3, x.block < W.heap.size := by obtain ⟨m, hm⟩ := h3; exact DataW.trod_lt m _ _ _ hm
  clear hA0 hval0
  refine Calls.mono (bufferNil_law W v0 v1 v2 v3 ⟨⟨_, hval 0 39 v0 rfl rfl⟩, H, enc, _, _, h0⟩ ⟨⟨_, hval 1 50 v1 rfl rfl⟩, H, enc, _, _, h1⟩ ⟨⟨_, hval 2 68 v2 rfl rfl⟩, H, enc, _, _, h2⟩ ⟨⟨_, hval 3 95 v3 rfl rfl⟩, H, enc, _, _, h3⟩) fun e W' ⟨he, bel⟩ => ?_
  subst he
  exact ⟨_, rfl, _, _, _, [], _, [], hW', trodAll_mk1 (shut_bool Tryz.underlying4 _), (trodAll_cons_mk (Below.trod laidOut (by kernel_rfl) (of_decide_eq_true (by kernel_rfl)) h0 bel lt0) (trodAll_cons_mk (Below.trod laidOut (by kernel_rfl) (of_decide_eq_true (by kernel_rfl)) h1 bel lt1) (trodAll_cons_mk (Below.trod laidOut (by kernel_rfl) (of_decide_eq_true (by kernel_rfl)) h2 bel lt2) (trodAll_cons_mk (Below.trod laidOut (by kernel_rfl) (of_decide_eq_true (by kernel_rfl)) h3 bel lt3) trodAll_mk0)))), rfl, bel.frame _, fun h => by cases h⟩
theorem fact0 : (Rows.bufferNilRow.inPlace == Program.inPlace Tryz.pinned.checked.prog 6) = true := by kernel_rfl
theorem fact1 : (Rows.bufferNilRow.unfollowed == Program.unfollowed Tryz.pinned.checked.prog 6) = true := by kernel_rfl
theorem fact2 : (Rows.bufferNilRow.recurses == Program.recurses Tryz.pinned.checked.prog 6) = true := by kernel_rfl
theorem fact3 : (Rows.bufferNilRow.named == Program.varsNamed Tryz.pinned.checked.prog 6) = true := by kernel_rfl
theorem closed : joinedFacts Tryz.pinned.checked.prog 6 Tryz.f6 Rows.bufferNilSpec Rows.bufferNilRow = true := by
  unfold joinedFacts
  rw [fact0, fact1, fact2, fact3]
  refine Eq.trans (b := true) ?_ rfl
  kernel_rfl
theorem said : Rows.BufferNilSaid :=
  OpenClaim.holds_of_wide 6 Tryz.f6 rfl rfl rfl rfl rfl rfl rfl ⟨rfl, rfl, rfl, rfl, rfl⟩ rfl rfl rfl rfl rfl (by kernel_rfl) Tryz.func6 closed
    (of_decide_eq_true (by kernel_rfl)) (by unfold Func.isWrapper; first | (rw [if_pos (by decide +kernel)]; kernel_rfl) | (rw [if_neg (by decide +kernel)]; exact ⟨rfl, rfl⟩))
    (fun os started H enc _ => lifted os started H enc)
/-- no parameter wants a stand-in; the program's own looks are off -/
theorem plain (f : FuncId) (fn : Func) (hf : Tryz.pinned.checked.prog.funcNamed "vulgate/vulgatelaw17.BufferNil" = some f) (hfn : Tryz.pinned.checked.prog.funcs[f]? = some fn) :
    true = Tryz.pinned.checked.prog.looks [] ∧ ∀ (j : Nat) t, fn.params[j]? = some t → Tryz.pinned.checked.prog.wantsStandIn t = false := by
  obtain rfl : f = 6 := Option.some.inj ((show Tryz.prog.funcNamed "vulgate/vulgatelaw17.BufferNil" = some 6 by kernel_rfl).symm.trans hf) |>.symm
  obtain rfl : fn = Tryz.f6 := (Option.some.inj (Tryz.func6.symm.trans hfn)).symm
  refine ⟨by kernel_rfl, fun j t ht => ?_⟩
  rw [Tryz.params6] at ht
  have hm : t ∈ [39, 50, 68, 95] := by simpa using Array.mem_of_getElem? ht
  have hall : ([39, 50, 68, 95].all fun u => !Tryz.prog.wantsStandIn u) = true := by kernel_rfl
  exact (show Tryz.prog.wantsStandIn t = false by simpa using List.all_eq_true.1 hall t hm)
theorem proved : Rows.BufferNilCardSaid :=
  Claim7.holds_tied_plain_at .later [] _ _ _ _ said (fun _ h => by cases h) (by kernel_rfl) (fun _ h => by cases h) bufferNil_row_tie rfl ⟨rfl, rfl⟩ (by kernel_rfl) rfl plain (by kernel_rfl)
#print axioms proved
end bufferNil
end Go.Proofs.YtdfjflakilmjjaaGreatDoor

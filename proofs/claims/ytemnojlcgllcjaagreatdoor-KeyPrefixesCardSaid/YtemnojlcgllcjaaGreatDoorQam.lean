/- Layer 6: prefixes of keys: what is cut, which keys have one, its bytes. -/
import Derived.Test.YtemnojlcgllcjaaGreatDoorQab
import Derived.Test.YtemnojlcgllcjaaGreatDoorQad
import Derived.Handy
import Derived.OwnWalk
import Derived.Laws.BytesArg
import Derived.Lib.BufferRead
import Derived.Shelf.Slices.Clone
namespace Go.Proofs.YtemnojlcgllcjaaGreatDoor
set_option maxRecDepth 100000
open Go.RowKit

def prefA (k : K25) (d : Int) : Array Value := row8 k.val ++ #[.int .i64 d]
/-- how many bytes a depth has -/
def plen (d : Int) : Nat := if d < 4 then d.toNat else if d < 5 then 15 else 25
def prefR (d : Int) : Bool := decide (0 ≤ d ∧ d ≤ 5)
def cutB (l : List UInt8) (n : Nat) : List UInt8 := l.take n ++ zeros (25 - n)
theorem plen_le (d : Int) (_h : d ≤ 5) : plen d ≤ 25 := by unfold plen; split; omega; split <;> omega
theorem cutB_len (l : List UInt8) (n : Nat) (h : l.length = 25) (hn : n ≤ 25) : (cutB l n).length = 25 := by simp [cutB, h]; omega
/-- which keys have a prefix -/
def hasB (p : K25) (d : Int) (k : K25) : Bool := prefR d && decide (p.val.take (plen d) = k.val.take (plen d))
theorem cutB_inj (a b : List UInt8) (n : Nat) (ha : a.length = 25) (hb : b.length = 25) : cutB a n = cutB b n ↔ a.take n = b.take n := by
  unfold cutB
  constructor
  · intro h
    exact (List.append_inj h (by simp [ha, hb])).1
  · intro h; rw [h]
@[go_sem, simp] theorem prefA_size (k : K25) (d : Int) : (prefA k d).size = 26 := by simp [prefA, k.property]
@[go_sem] theorem prefA_d (k : K25) (d : Int) : (prefA k d)[25]? = some (.int .i64 d) := by
  unfold prefA; rw [Array.getElem?_append_right (by simp [k.property])]; simp [k.property]
@[go_sem] theorem prefA_dE (k : K25) (d : Int) (h : 25 < (prefA k d).size) : (prefA k d)[25]'h = .int .i64 d := by
  have := prefA_d k d; rw [Array.getElem?_eq_getElem h] at this; exact Option.some.inj this
theorem prefA_i (k : K25) (d : Int) (i : Nat) (hi : i < 25) : (prefA k d)[i]? = some (.int .u8 ((byt k.val i).toNat : Int)) := by
  unfold prefA; rw [Array.getElem?_append_left (by simp [k.property, hi])]; exact row8_get _ _ (by simp [k.property, hi])
@[go_sem] theorem prefA_0 (k : K25) (d : Int) : (prefA k d)[0]? = some (.int .u8 ((byt k.val 0).toNat : Int)) := prefA_i k d 0 (by decide)
@[go_sem] theorem prefA_1 (k : K25) (d : Int) : (prefA k d)[1]? = some (.int .u8 ((byt k.val 1).toNat : Int)) := prefA_i k d 1 (by decide)
@[go_sem] theorem prefA_2 (k : K25) (d : Int) : (prefA k d)[2]? = some (.int .u8 ((byt k.val 2).toNat : Int)) := prefA_i k d 2 (by decide)
theorem prefA_iE (k : K25) (d : Int) (i : Nat) (hi : i < 25) (h : i < (prefA k d).size) : (prefA k d)[i]'h = .int .u8 ((byt k.val i).toNat : Int) := by
  have := prefA_i k d i hi; rw [Array.getElem?_eq_getElem h] at this; exact Option.some.inj this
@[go_sem] theorem prefA_0E (k : K25) (d : Int) (h : 0 < (prefA k d).size) : (prefA k d)[0]'h = .int .u8 ((byt k.val 0).toNat : Int) := prefA_iE k d 0 (by decide) h
@[go_sem] theorem prefA_1E (k : K25) (d : Int) (h : 1 < (prefA k d).size) : (prefA k d)[1]'h = .int .u8 ((byt k.val 1).toNat : Int) := prefA_iE k d 1 (by decide) h
@[go_sem] theorem prefA_2E (k : K25) (d : Int) (h : 2 < (prefA k d).size) : (prefA k d)[2]'h = .int .u8 ((byt k.val 2).toNat : Int) := prefA_iE k d 2 (by decide) h
theorem prefA_ext (k : K25) (d : Int) (a b : Nat) (h : b ≤ 25) : (prefA k d).extract a b = row8 ((k.val.take b).drop a) := by
  unfold prefA
  rw [Array.extract_append, row8_extract, row8_size, k.property]
  rw [Array.extract_eq_empty_of_le (by omega), Array.append_empty]
@[go_sem] theorem prefA_name (k : K25) (d : Int) : (prefA k d).extract 3 15 = row8 ((k.val.take 15).drop 3) := prefA_ext k d 3 15 (by decide)
@[go_sem] theorem prefA_tag (k : K25) (d : Int) : (prefA k d).extract 15 25 = row8 ((k.val.take 25).drop 15) := prefA_ext k d 15 25 (by decide)
@[go_sem] theorem prefA_full (k : K25) (d : Int) : (prefA k d).extract 0 26 = prefA k d := Array.extract_eq_self_of_le (by simp)
@[go_sem] theorem row8_set0 (l : List UInt8) (i : Nat) : (row8 l).setIfInBounds i (.int .u8 0) = row8 (l.set i 0) := row8_set l i 0
@[go_sem] theorem agg_pref : Tryz.prog.aggSize 50 = some 26 := by kernel_rfl
@[go_sem ↓ high] theorem ld_pref (a : Addr) : loadVar 50 a = rowLoad 50 a := rfl
@[go_sem ↓ high] theorem st_pref (a : Addr) (v : Value) : storeVar 50 a v = rowStore 50 a v := rfl
def bKey (v : Value) : Sem Value := Instr.build 39 #[(0, v)]
@[go_sem ↓ high] theorem bKeyK_eq (f : Nat × Operand → Nat × Value) (p : Nat × Operand) : Instr.build 39 (Array.map f #[p]) = Instr.build 39 #[f p] := by simp
theorem bKeyK_run (x : UInt8) (w : World) : (Instr.build 39 #[(0, .int .u8 (x.toNat : Int))]).run Tryz.prog w = .ok (.agg (row8 ((zeros 25).set 0 x))) w := by
  refine build_of (zero := .agg (row8 (zeros 25))) (places := #[(0, 1), (1, 1), (2, 1), (3, 12), (15, 10)]) (by intro w; exact (Tryz.zeroValue39 w).trans rfl) Tryz.underlying39 (by intro w; kernel_rfl) ?_
  rfl
theorem pright_gives (k : K25) (d : Int) (w : World) : Gives Tryz.prog 97 #[.agg (prefA k d)] w (.bool (prefR d)) := by
  have he : prefR d = (if 0 ≤ d then decide (d ≤ 5) else false) := by unfold prefR; split <;> simp [*]
  generalize prefR d = e at *
  have HE := Lib.hid he
  clear he
  by_cases h0 : 0 ≤ d
  · have he := HE.out
    rw [if_pos h0] at he
    subst he
    unfold Gives
    go_enter Tryz.func97, Tryz.ntmps97
    go_wp2_with fail
    all_goals
      go_ret
      exact ⟨by simp [*], (by repeat (first | exact below_of_grow _ _ | exact Below.refl _ _ | exact below_more _ _ _ _ | (simp only [← Array.append_assoc]; first | exact below_more _ _ _ _ | exact below_same _ _ _ | exact Below.refl _ _) | exact below_same _ _ _ | (refine Below.alloc ?_ (by first | (simp; done) | (simp; omega)) _) | (refine Below.grow ?_ (by first | (simp; done) | (simp; omega)) _ _) | refine Below.drew ?_ | refine Below.drewN ?_ _ | (refine Below.putF ?_ (by first | (simp; done) | omega | (simp; omega)) _) | (refine Below.setCell ?_ (by first | (simp; done) | (simp; omega)) _)))⟩
  · have he := HE.out
    rw [if_neg h0] at he
    subst he
    unfold Gives
    go_enter Tryz.func97, Tryz.ntmps97
    go_wp2_with fail
    all_goals
      go_ret
      exact ⟨rfl, (by repeat (first | exact below_of_grow _ _ | exact Below.refl _ _ | exact below_more _ _ _ _ | (simp only [← Array.append_assoc]; first | exact below_more _ _ _ _ | exact below_same _ _ _ | exact Below.refl _ _) | exact below_same _ _ _ | (refine Below.alloc ?_ (by first | (simp; done) | (simp; omega)) _) | (refine Below.grow ?_ (by first | (simp; done) | (simp; omega)) _ _) | refine Below.drew ?_ | refine Below.drewN ?_ _ | (refine Below.putF ?_ (by first | (simp; done) | omega | (simp; omega)) _) | (refine Below.setCell ?_ (by first | (simp; done) | (simp; omega)) _)))⟩
theorem cutS (l : List UInt8) (h : l.length = 25) :
    (((zeros 25).set 0 0) = cutB l (plen 0)) ∧ ((zeros 25).set 0 (byt l 0) = cutB l (plen 1)) ∧ (((zeros 25).set 0 (byt l 0)).set 1 (byt l 1) = cutB l (plen 2)) ∧
    ((((zeros 25).set 0 (byt l 0)).set 1 (byt l 1)).set 2 (byt l 2) = cutB l (plen 3)) ∧ (spl ((((zeros 25).set 0 (byt l 0)).set 1 (byt l 1)).set 2 (byt l 2)) 3 ((l.take 15).drop 3) = cutB l (plen 4)) ∧
    (spl (spl ((((zeros 25).set 0 (byt l 0)).set 1 (byt l 1)).set 2 (byt l 2)) 3 ((l.take 15).drop 3)) 15 ((l.take 25).drop 15) = cutB l (plen 5)) := by
  match l, h with
  | [a, b, c, d, e, f, g, h, i, j, k, m, n, o, p, q, r, s, t, u, v, w, x, y, z], _ => exact ⟨rfl, rfl, rfl, rfl, rfl, rfl⟩
set_option maxHeartbeats 8000000 in
theorem cut_gives (k : K25) (d : Int) (h : 0 ≤ d ∧ d ≤ 5) (w : World) : Gives Tryz.prog 98 #[.agg (prefA k d)] w (.agg (row8 (cutB k.val (plen d)))) := by
  have hb := bKeyK_run (byt k.val 0)
  obtain ⟨c0, c1, c2, c3, c4, c5⟩ := cutS k.val k.property
  have C0 := Lib.hid c0
  have C1 := Lib.hid c1
  have C2 := Lib.hid c2
  have C3 := Lib.hid c3
  have C4 := Lib.hid c4
  have C5 := Lib.hid c5
  clear c0 c1 c2 c3 c4 c5
  have hk25 : List.take 25 k.val = k.val := List.take_of_length_le (Nat.le_of_eq k.property)
  have hd : d = 0 ∨ d = 1 ∨ d = 2 ∨ d = 3 ∨ d = 4 ∨ d = 5 := by omega
  rcases hd with rfl | rfl | rfl | rfl | rfl | rfl
  all_goals
    unfold Gives
    go_enter Tryz.func98, Tryz.ntmps98
    go_wp2_with fail
  · exact bodyPost_ret (v := .agg (row8 (cutB k.val (plen 0)))) (results_one Tryz.results98 (ResIs.row rfl agg_key (by rw [← C0.out]; simp [go_sem]))) rfl ⟨rfl, (by repeat (first | exact below_of_grow _ _ | exact Below.refl _ _ | exact below_more _ _ _ _ | (simp only [← Array.append_assoc]; first | exact below_more _ _ _ _ | exact below_same _ _ _ | exact Below.refl _ _) | exact below_same _ _ _ | (refine Below.alloc ?_ (by first | (simp; done) | (simp; omega)) _) | (refine Below.grow ?_ (by first | (simp; done) | (simp; omega)) _ _) | refine Below.drew ?_ | refine Below.drewN ?_ _ | (refine Below.putF ?_ (by first | (simp; done) | omega | (simp; omega)) _) | (refine Below.setCell ?_ (by first | (simp; done) | (simp; omega)) _)))⟩
  · exact bodyPost_ret (v := .agg (row8 (cutB k.val (plen 1)))) (results_one Tryz.results98 (ResIs.row rfl agg_key (by rw [← C1.out]; simp [go_sem]))) rfl ⟨rfl, (by repeat (first | exact below_of_grow _ _ | exact Below.refl _ _ | exact below_more _ _ _ _ | (simp only [← Array.append_assoc]; first | exact below_more _ _ _ _ | exact below_same _ _ _ | exact Below.refl _ _) | exact below_same _ _ _ | (refine Below.alloc ?_ (by first | (simp; done) | (simp; omega)) _) | (refine Below.grow ?_ (by first | (simp; done) | (simp; omega)) _ _) | refine Below.drew ?_ | refine Below.drewN ?_ _ | (refine Below.putF ?_ (by first | (simp; done) | omega | (simp; omega)) _) | (refine Below.setCell ?_ (by first | (simp; done) | (simp; omega)) _)))⟩
  · exact bodyPost_ret (v := .agg (row8 (cutB k.val (plen 2)))) (results_one Tryz.results98 (ResIs.row rfl agg_key (by rw [← C2.out]; simp [go_sem]))) rfl ⟨rfl, (by repeat (first | exact below_of_grow _ _ | exact Below.refl _ _ | exact below_more _ _ _ _ | (simp only [← Array.append_assoc]; first | exact below_more _ _ _ _ | exact below_same _ _ _ | exact Below.refl _ _) | exact below_same _ _ _ | (refine Below.alloc ?_ (by first | (simp; done) | (simp; omega)) _) | (refine Below.grow ?_ (by first | (simp; done) | (simp; omega)) _ _) | refine Below.drew ?_ | refine Below.drewN ?_ _ | (refine Below.putF ?_ (by first | (simp; done) | omega | (simp; omega)) _) | (refine Below.setCell ?_ (by first | (simp; done) | (simp; omega)) _)))⟩
  · exact bodyPost_ret (v := .agg (row8 (cutB k.val (plen 3)))) (results_one Tryz.results98 (ResIs.row rfl agg_key (by rw [← C3.out]; simp [go_sem]))) rfl ⟨rfl, (by repeat (first | exact below_of_grow _ _ | exact Below.refl _ _ | exact below_more _ _ _ _ | (simp only [← Array.append_assoc]; first | exact below_more _ _ _ _ | exact below_same _ _ _ | exact Below.refl _ _) | exact below_same _ _ _ | (refine Below.alloc ?_ (by first | (simp; done) | (simp; omega)) _) | (refine Below.grow ?_ (by first | (simp; done) | (simp; omega)) _ _) | refine Below.drew ?_ | refine Below.drewN ?_ _ | (refine Below.putF ?_ (by first | (simp; done) | omega | (simp; omega)) _) | (refine Below.setCell ?_ (by first | (simp; done) | (simp; omega)) _)))⟩
  · exact bodyPost_ret (v := .agg (row8 (cutB k.val (plen 4)))) (results_one Tryz.results98 (ResIs.row rfl agg_key (by rw [← C4.out]; simp [go_sem]))) rfl ⟨rfl, (by repeat (first | exact below_of_grow _ _ | exact Below.refl _ _ | exact below_more _ _ _ _ | (simp only [← Array.append_assoc]; first | exact below_more _ _ _ _ | exact below_same _ _ _ | exact Below.refl _ _) | exact below_same _ _ _ | (refine Below.alloc ?_ (by first | (simp; done) | (simp; omega)) _) | (refine Below.grow ?_ (by first | (simp; done) | (simp; omega)) _ _) | refine Below.drew ?_ | refine Below.drewN ?_ _ | (refine Below.putF ?_ (by first | (simp; done) | omega | (simp; omega)) _) | (refine Below.setCell ?_ (by first | (simp; done) | (simp; omega)) _)))⟩
  · exact bodyPost_ret (v := .agg (row8 (cutB k.val (plen 5)))) (results_one Tryz.results98 (ResIs.row rfl agg_key (by rw [← C5.out]; simp [go_sem, k.property]))) rfl ⟨rfl, (by repeat (first | exact below_of_grow _ _ | exact Below.refl _ _ | exact below_more _ _ _ _ | (simp only [← Array.append_assoc]; first | exact below_more _ _ _ _ | exact below_same _ _ _ | exact Below.refl _ _) | exact below_same _ _ _ | (refine Below.alloc ?_ (by first | (simp; done) | (simp; omega)) _) | (refine Below.grow ?_ (by first | (simp; done) | (simp; omega)) _ _) | refine Below.drew ?_ | refine Below.drewN ?_ _ | (refine Below.putF ?_ (by first | (simp; done) | omega | (simp; omega)) _) | (refine Below.setCell ?_ (by first | (simp; done) | (simp; omega)) _)))⟩
def bPf (p q : Nat × Value) : Sem Value := Instr.build 50 #[p, q]
@[go_sem ↓ high] theorem bPref_eq (f : Nat × Operand → Nat × Value) (p q : Nat × Operand) : Instr.build 50 (Array.map f #[p, q]) = bPf (f p) (f q) := by simp [bPf]
@[go_sem] theorem bPref_run (k : K25) (d : Int) (w : World) : (bPf (0, .agg (row8 k.val)) (1, .int .i64 d)).run Tryz.prog w = .ok (.agg (prefA k d)) w := by
  unfold bPf
  refine build_of (zero := .agg (row8 (zeros 25) ++ #[.int .i64 0])) (places := #[(0, 25), (25, 1)]) (by intro w; exact (Tryz.zeroValue50 w).trans rfl) Tryz.underlying50 (by intro w; kernel_rfl) ?_
  have e0 : (Value.agg (row8 (zeros 25) ++ #[.int .i64 0])).cells = #[] ++ (row8 (zeros 25) ++ #[.int .i64 0]) := by simp [Value.cells]
  rw [e0, fill_one (off := 0) (size := 25) rfl rfl (by simp [Value.cells, k.property]) (by simp)]
  rw [show (row8 (zeros 25) ++ #[Value.int .i64 0]).extract 25 (row8 (zeros 25) ++ #[Value.int .i64 0]).size = #[.int .i64 0] from rfl]
  rw [fill_one (off := 25) (size := 1) rfl (by simp [Value.cells, k.property]) rfl (by simp), fill_none]
  refine congrArg some ?_
  rw [Array.extract_eq_empty_of_le (by simp), Array.append_empty, Array.empty_append]
  rfl
set_option maxHeartbeats 20000000 in
theorem has_gives (p k : K25) (d : Int) (w : World) : Gives Tryz.prog 47 #[.agg (prefA p d), .agg (row8 k.val)] w (.bool (hasB p d k)) := by
  have hr := pright_gives p d
  have hh : hasB p d k = (if prefR d = true then (cutB p.val (plen d) == cutB k.val (plen d)) else false) := by
    unfold hasB
    have he : decide (List.take (plen d) p.val = List.take (plen d) k.val) = (cutB p.val (plen d) == cutB k.val (plen d)) := by
      have := cutB_inj p.val k.val (plen d) p.property k.property
      by_cases h : cutB p.val (plen d) = cutB k.val (plen d)
      · rw [decide_eq_true (this.1 h), h]; simp
      · rw [decide_eq_false (fun e => h (this.2 e)), beq_eq_false_iff_ne.2 h]
    rw [he]
    cases prefR d <;> rfl
  generalize hasB p d k = e at *
  have hc : prefR d = true → 0 ≤ d ∧ d ≤ 5 := fun h => by unfold prefR at h; simpa using h
  generalize prefR d = r at *
  have HR := Lib.hid hr
  have HH := Lib.hid hh
  have kp := k.property
  clear hr hh
  cases r with
  | false =>
    have he := HH.out
    rw [if_neg (by decide)] at he
    subst he
    clear hc
    unfold Gives
    go_enter Tryz.func47, Tryz.ntmps47
    go_wp2_with fail
    apply wp_region_specs (by rfl) [.val _, .val _, .val _, .val _, .val _, .val _, .val _, .val _, .val _, .val _, .val _, .val _] 12 (by rfl) [5, 6, 7, 8, 9, 10, 11, 12, 13, 14, 15, 16] [] [] (by rfl) (by rfl) (by decide) (by decide +kernel) (fun _ _ _ _ _ h => h)
    case hF => intro x; simp only [over, List.foldl_cons, List.foldl_nil, List.setIfInBounds_toArray, List.set_cons_succ, List.set_cons_zero]; exact rfl
    case hops =>
      refine ⟨?o0, ?o1, ?o2, ?o3, ?o4, ?o5, ?o6, ?o7, ?o8, ?o9, ?o10, ?o11, trivial⟩
      case o0 =>
        intro x w1 hH K hK
        obtain ⟨xs, d, rfl⟩ := grow_of_below hH.below
        clear hH
        try simp only [World.grow_drew] at hK ⊢
        try simp only [World.grow_grow] at hK ⊢
        go_simp
        go_wp2_with fail
        exact ⟨_, rfl, rfl, (by repeat (first | exact below_of_grow _ _ | exact Below.refl _ _ | exact below_more _ _ _ _ | (simp only [← Array.append_assoc]; first | exact below_more _ _ _ _ | exact below_same _ _ _ | exact Below.refl _ _) | exact below_same _ _ _ | (refine Below.alloc ?_ (by first | (simp; done) | (simp; omega)) _) | (refine Below.grow ?_ (by first | (simp; done) | (simp; omega)) _ _) | refine Below.drew ?_ | refine Below.drewN ?_ _ | (refine Below.putF ?_ (by first | (simp; done) | omega | (simp; omega)) _) | (refine Below.setCell ?_ (by first | (simp; done) | (simp; omega)) _))), fun h => by cases h⟩
      case o1 =>
        intro x w1 hH K hK
        have e5 : x 5 = _ := hH.holds 0 (by decide) (by decide +kernel) 5 rfl
        obtain ⟨xs, d, rfl⟩ := grow_of_below hH.below
        clear hH
        try simp only [World.grow_drew] at hK ⊢
        try simp only [World.grow_grow] at hK ⊢
        simp only [e5] at hK ⊢
        clear e5
        go_simp
        go_wp2_with (refine Gives.use (HR.out _) ?_; intro ys e)
        exact ⟨_, rfl, rfl, (by first | exact below_more _ _ _ _ | exact (by repeat (first | exact below_of_grow _ _ | exact Below.refl _ _ | exact below_more _ _ _ _ | (simp only [← Array.append_assoc]; first | exact below_more _ _ _ _ | exact below_same _ _ _ | exact Below.refl _ _) | exact below_same _ _ _ | (refine Below.alloc ?_ (by first | (simp; done) | (simp; omega)) _) | (refine Below.grow ?_ (by first | (simp; done) | (simp; omega)) _ _) | refine Below.drew ?_ | refine Below.drewN ?_ _ | (refine Below.putF ?_ (by first | (simp; done) | omega | (simp; omega)) _) | (refine Below.setCell ?_ (by first | (simp; done) | (simp; omega)) _)))), fun h => by cases h⟩
      case o2 =>
        intro x w1 hH K hK
        have e6 : x 6 = _ := hH.holds 1 (by decide) (by decide +kernel) 6 rfl
        obtain ⟨xs, d, rfl⟩ := grow_of_below hH.below
        clear hH
        try simp only [World.grow_drew] at hK ⊢
        try simp only [World.grow_grow] at hK ⊢
        simp only [e6] at hK ⊢
        clear e6
        go_simp
        go_wp2_with fail
        exact ⟨_, rfl, rfl, (by repeat (first | exact below_of_grow _ _ | exact Below.refl _ _ | exact below_more _ _ _ _ | (simp only [← Array.append_assoc]; first | exact below_more _ _ _ _ | exact below_same _ _ _ | exact Below.refl _ _) | exact below_same _ _ _ | (refine Below.alloc ?_ (by first | (simp; done) | (simp; omega)) _) | (refine Below.grow ?_ (by first | (simp; done) | (simp; omega)) _ _) | refine Below.drew ?_ | refine Below.drewN ?_ _ | (refine Below.putF ?_ (by first | (simp; done) | omega | (simp; omega)) _) | (refine Below.setCell ?_ (by first | (simp; done) | (simp; omega)) _))), fun h => by cases h⟩
      case o3 =>
        intro x w1 hH K hK
        have e7 : x 7 = _ := hH.holds 2 (by decide) (by decide +kernel) 7 rfl
        obtain ⟨xs, d, rfl⟩ := grow_of_below hH.below
        clear hH
        try simp only [World.grow_drew] at hK ⊢
        try simp only [World.grow_grow] at hK ⊢
        simp only [e7] at hK ⊢
        clear e7
        go_simp
        go_wp2_with fail
        exact ⟨_, rfl, rfl, (by repeat (first | exact below_of_grow _ _ | exact Below.refl _ _ | exact below_more _ _ _ _ | (simp only [← Array.append_assoc]; first | exact below_more _ _ _ _ | exact below_same _ _ _ | exact Below.refl _ _) | exact below_same _ _ _ | (refine Below.alloc ?_ (by first | (simp; done) | (simp; omega)) _) | (refine Below.grow ?_ (by first | (simp; done) | (simp; omega)) _ _) | refine Below.drew ?_ | refine Below.drewN ?_ _ | (refine Below.putF ?_ (by first | (simp; done) | omega | (simp; omega)) _) | (refine Below.setCell ?_ (by first | (simp; done) | (simp; omega)) _))), fun h => by cases h⟩
      case o4 =>
        intro x w1 hH K hK
        have e7 : x 7 = _ := hH.holds 2 (by decide) (by decide +kernel) 7 rfl
        have e8 : x 8 = _ := hH.holds 3 (by decide) (by decide +kernel) 8 rfl
        obtain ⟨xs, d, rfl⟩ := grow_of_below hH.below
        clear hH
        try simp only [World.grow_drew] at hK ⊢
        try simp only [World.grow_grow] at hK ⊢
        simp only [e7, e8] at hK ⊢
        clear e7 e8
        go_simp
        go_wp2_with fail
        exact ⟨_, rfl, rfl, (by repeat (first | exact below_of_grow _ _ | exact Below.refl _ _ | exact below_more _ _ _ _ | (simp only [← Array.append_assoc]; first | exact below_more _ _ _ _ | exact below_same _ _ _ | exact Below.refl _ _) | exact below_same _ _ _ | (refine Below.alloc ?_ (by first | (simp; done) | (simp; omega)) _) | (refine Below.grow ?_ (by first | (simp; done) | (simp; omega)) _ _) | refine Below.drew ?_ | refine Below.drewN ?_ _ | (refine Below.putF ?_ (by first | (simp; done) | omega | (simp; omega)) _) | (refine Below.setCell ?_ (by first | (simp; done) | (simp; omega)) _))), fun h => by cases h⟩
      case o5 =>
        intro x w1 hH K hK
        have e7 : x 7 = _ := hH.holds 2 (by decide) (by decide +kernel) 7 rfl
        obtain ⟨xs, d, rfl⟩ := grow_of_below hH.below
        clear hH
        try simp only [World.grow_drew] at hK ⊢
        try simp only [World.grow_grow] at hK ⊢
        simp only [e7] at hK ⊢
        clear e7
        go_simp
        go_wp2_with fail
        exact ⟨_, rfl, rfl, (by repeat (first | exact below_of_grow _ _ | exact Below.refl _ _ | exact below_more _ _ _ _ | (simp only [← Array.append_assoc]; first | exact below_more _ _ _ _ | exact below_same _ _ _ | exact Below.refl _ _) | exact below_same _ _ _ | (refine Below.alloc ?_ (by first | (simp; done) | (simp; omega)) _) | (refine Below.grow ?_ (by first | (simp; done) | (simp; omega)) _ _) | refine Below.drew ?_ | refine Below.drewN ?_ _ | (refine Below.putF ?_ (by first | (simp; done) | omega | (simp; omega)) _) | (refine Below.setCell ?_ (by first | (simp; done) | (simp; omega)) _))), fun h => by cases h⟩
      case o6 =>
        intro x w1 hH K hK
        have e7 : x 7 = _ := hH.holds 2 (by decide) (by decide +kernel) 7 rfl
        obtain ⟨xs, d, rfl⟩ := grow_of_below hH.below
        clear hH
        try simp only [World.grow_drew] at hK ⊢
        try simp only [World.grow_grow] at hK ⊢
        simp only [e7] at hK ⊢
        clear e7
        go_simp
        go_wp2_with fail
        exact ⟨_, rfl, rfl, (by repeat (first | exact below_of_grow _ _ | exact Below.refl _ _ | exact below_more _ _ _ _ | (simp only [← Array.append_assoc]; first | exact below_more _ _ _ _ | exact below_same _ _ _ | exact Below.refl _ _) | exact below_same _ _ _ | (refine Below.alloc ?_ (by first | (simp; done) | (simp; omega)) _) | (refine Below.grow ?_ (by first | (simp; done) | (simp; omega)) _ _) | refine Below.drew ?_ | refine Below.drewN ?_ _ | (refine Below.putF ?_ (by first | (simp; done) | omega | (simp; omega)) _) | (refine Below.setCell ?_ (by first | (simp; done) | (simp; omega)) _))), fun h => by cases h⟩
      case o7 =>
        intro x w1 hH K hK
        have e7 : x 7 = _ := hH.holds 2 (by decide) (by decide +kernel) 7 rfl
        have e11 : x 11 = _ := hH.holds 6 (by decide) (by decide +kernel) 11 rfl
        obtain ⟨xs, d, rfl⟩ := grow_of_below hH.below
        clear hH
        try simp only [World.grow_drew] at hK ⊢
        try simp only [World.grow_grow] at hK ⊢
        simp only [e7, e11] at hK ⊢
        clear e7 e11
        go_simp
        go_wp2_with fail
        exact ⟨_, rfl, rfl, (by repeat (first | exact below_of_grow _ _ | exact Below.refl _ _ | exact below_more _ _ _ _ | (simp only [← Array.append_assoc]; first | exact below_more _ _ _ _ | exact below_same _ _ _ | exact Below.refl _ _) | exact below_same _ _ _ | (refine Below.alloc ?_ (by first | (simp; done) | (simp; omega)) _) | (refine Below.grow ?_ (by first | (simp; done) | (simp; omega)) _ _) | refine Below.drew ?_ | refine Below.drewN ?_ _ | (refine Below.putF ?_ (by first | (simp; done) | omega | (simp; omega)) _) | (refine Below.setCell ?_ (by first | (simp; done) | (simp; omega)) _))), fun h => by cases h⟩
      case o8 =>
        intro x w1 hH K hK
        have e7 : x 7 = _ := hH.holds 2 (by decide) (by decide +kernel) 7 rfl
        have e10 : x 10 = _ := hH.holds 5 (by decide) (by decide +kernel) 10 rfl
        have e12 : x 12 = _ := hH.holds 7 (by decide) (by decide +kernel) 12 rfl
        obtain ⟨xs, d, rfl⟩ := grow_of_below hH.below
        clear hH
        try simp only [World.grow_drew] at hK ⊢
        try simp only [World.grow_grow] at hK ⊢
        simp only [e7, e10, e12] at hK ⊢
        clear e7 e10 e12
        go_simp
        go_wp2_with fail
        exact ⟨_, rfl, rfl, (by repeat (first | exact below_of_grow _ _ | exact Below.refl _ _ | exact below_more _ _ _ _ | (simp only [← Array.append_assoc]; first | exact below_more _ _ _ _ | exact below_same _ _ _ | exact Below.refl _ _) | exact below_same _ _ _ | (refine Below.alloc ?_ (by first | (simp; done) | (simp; omega)) _) | (refine Below.grow ?_ (by first | (simp; done) | (simp; omega)) _ _) | refine Below.drew ?_ | refine Below.drewN ?_ _ | (refine Below.putF ?_ (by first | (simp; done) | omega | (simp; omega)) _) | (refine Below.setCell ?_ (by first | (simp; done) | (simp; omega)) _))), fun h => by cases h⟩
      case o9 =>
        intro x w1 hH K hK
        have e7 : x 7 = _ := hH.holds 2 (by decide) (by decide +kernel) 7 rfl
        have e13 : x 13 = _ := hH.holds 8 (by decide) (by decide +kernel) 13 rfl
        obtain ⟨xs, d, rfl⟩ := grow_of_below hH.below
        clear hH
        try simp only [World.grow_drew] at hK ⊢
        try simp only [World.grow_grow] at hK ⊢
        simp only [e7, e13] at hK ⊢
        clear e7 e13
        go_simp
        go_wp2_with fail
        exact ⟨_, rfl, rfl, (by repeat (first | exact below_of_grow _ _ | exact Below.refl _ _ | exact below_more _ _ _ _ | (simp only [← Array.append_assoc]; first | exact below_more _ _ _ _ | exact below_same _ _ _ | exact Below.refl _ _) | exact below_same _ _ _ | (refine Below.alloc ?_ (by first | (simp; done) | (simp; omega)) _) | (refine Below.grow ?_ (by first | (simp; done) | (simp; omega)) _ _) | refine Below.drew ?_ | refine Below.drewN ?_ _ | (refine Below.putF ?_ (by first | (simp; done) | omega | (simp; omega)) _) | (refine Below.setCell ?_ (by first | (simp; done) | (simp; omega)) _))), fun h => by cases h⟩
      case o10 =>
        intro x w1 hH K hK
        have e7 : x 7 = _ := hH.holds 2 (by decide) (by decide +kernel) 7 rfl
        have e9 : x 9 = _ := hH.holds 4 (by decide) (by decide +kernel) 9 rfl
        have e14 : x 14 = _ := hH.holds 9 (by decide) (by decide +kernel) 14 rfl
        obtain ⟨xs, d, rfl⟩ := grow_of_below hH.below
        clear hH
        try simp only [World.grow_drew] at hK ⊢
        try simp only [World.grow_grow] at hK ⊢
        simp only [e7, e9, e14] at hK ⊢
        clear e7 e9 e14
        go_simp
        go_wp2_with fail
        exact ⟨_, rfl, rfl, (by repeat (first | exact below_of_grow _ _ | exact Below.refl _ _ | exact below_more _ _ _ _ | (simp only [← Array.append_assoc]; first | exact below_more _ _ _ _ | exact below_same _ _ _ | exact Below.refl _ _) | exact below_same _ _ _ | (refine Below.alloc ?_ (by first | (simp; done) | (simp; omega)) _) | (refine Below.grow ?_ (by first | (simp; done) | (simp; omega)) _ _) | refine Below.drew ?_ | refine Below.drewN ?_ _ | (refine Below.putF ?_ (by first | (simp; done) | omega | (simp; omega)) _) | (refine Below.setCell ?_ (by first | (simp; done) | (simp; omega)) _))), fun h => by cases h⟩
      case o11 =>
        intro x w1 hH K hK
        have e7 : x 7 = _ := hH.holds 2 (by decide) (by decide +kernel) 7 rfl
        have e15 : x 15 = _ := hH.holds 10 (by decide) (by decide +kernel) 15 rfl
        obtain ⟨xs, d, rfl⟩ := grow_of_below hH.below
        clear hH
        try simp only [World.grow_drew] at hK ⊢
        try simp only [World.grow_grow] at hK ⊢
        simp only [e7, e15] at hK ⊢
        clear e7 e15
        go_simp
        go_wp2_with fail
        exact ⟨_, rfl, rfl, (by repeat (first | exact below_of_grow _ _ | exact Below.refl _ _ | exact below_more _ _ _ _ | (simp only [← Array.append_assoc]; first | exact below_more _ _ _ _ | exact below_same _ _ _ | exact Below.refl _ _) | exact below_same _ _ _ | (refine Below.alloc ?_ (by first | (simp; done) | (simp; omega)) _) | (refine Below.grow ?_ (by first | (simp; done) | (simp; omega)) _ _) | refine Below.drew ?_ | refine Below.drewN ?_ _ | (refine Below.putF ?_ (by first | (simp; done) | omega | (simp; omega)) _) | (refine Below.setCell ?_ (by first | (simp; done) | (simp; omega)) _))), fun h => by cases h⟩
    case hend =>
      intro x w1 hH
      have e5 : x 5 = _ := hH.holds 0 (by decide) trivial 5 rfl
      have e6 : x 6 = _ := hH.holds 1 (by decide) trivial 6 rfl
      have e7 : x 7 = _ := hH.holds 2 (by decide) trivial 7 rfl
      have e8 : x 8 = _ := hH.holds 3 (by decide) trivial 8 rfl
      have e9 : x 9 = _ := hH.holds 4 (by decide) trivial 9 rfl
      have e10 : x 10 = _ := hH.holds 5 (by decide) trivial 10 rfl
      have e11 : x 11 = _ := hH.holds 6 (by decide) trivial 11 rfl
      have e12 : x 12 = _ := hH.holds 7 (by decide) trivial 12 rfl
      have e13 : x 13 = _ := hH.holds 8 (by decide) trivial 13 rfl
      have e14 : x 14 = _ := hH.holds 9 (by decide) trivial 14 rfl
      have e15 : x 15 = _ := hH.holds 10 (by decide) trivial 15 rfl
      have e16 : x 16 = _ := hH.holds 11 (by decide) trivial 16 rfl
      obtain ⟨xs, d, rfl⟩ := grow_of_below hH.below
      clear hH
      simp only [e5, e6, e7, e8, e9, e10, e11, e12, e13, e14, e15, e16]; clear e5 e6 e7 e8 e9 e10 e11 e12 e13 e14 e15 e16
      simp only [List.drop_succ_cons, List.drop_zero]
      go_wp2_with fail
      go_ret
      exact ⟨rfl, (by repeat (first | exact below_of_grow _ _ | exact Below.refl _ _ | exact below_more _ _ _ _ | (simp only [← Array.append_assoc]; first | exact below_more _ _ _ _ | exact below_same _ _ _ | exact Below.refl _ _) | exact below_same _ _ _ | (refine Below.alloc ?_ (by first | (simp; done) | (simp; omega)) _) | (refine Below.grow ?_ (by first | (simp; done) | (simp; omega)) _ _) | refine Below.drew ?_ | refine Below.drewN ?_ _ | (refine Below.putF ?_ (by first | (simp; done) | omega | (simp; omega)) _) | (refine Below.setCell ?_ (by first | (simp; done) | (simp; omega)) _)))⟩
  | true =>
    have he := HH.out
    rw [if_pos rfl] at he
    have hcp := cut_gives p d (hc rfl)
    have hck := cut_gives k d (hc rfl)
    have hl1 := cutB_len p.val (plen d) p.property (plen_le d (hc rfl).2)
    have hl2 := cutB_len k.val (plen d) k.property (plen_le d (hc rfl).2)
    clear hc
    generalize cutB p.val (plen d) = c1 at *
    generalize cutB k.val (plen d) = c2 at *
    subst he
    have HP := Lib.hid hcp
    have HK := Lib.hid hck
    clear hcp hck
    unfold Gives
    go_enter Tryz.func47, Tryz.ntmps47
    go_wp2_with fail
    apply wp_region_specs (by rfl) [.val _, .val _, .val _, .val _, .val _, .val _, .val _, .val _, .val _, .val _, .val _, .val _] 12 (by rfl) [5, 6, 7, 8, 9, 10, 11, 12, 13, 14, 15, 16] [] [] (by rfl) (by rfl) (by decide) (by decide +kernel) (fun _ _ _ _ _ h => h)
    case hF => intro x; simp only [over, List.foldl_cons, List.foldl_nil, List.setIfInBounds_toArray, List.set_cons_succ, List.set_cons_zero]; exact rfl
    case hops =>
      refine ⟨?o0, ?o1, ?o2, ?o3, ?o4, ?o5, ?o6, ?o7, ?o8, ?o9, ?o10, ?o11, trivial⟩
      case o0 =>
        intro x w1 hH K hK
        obtain ⟨xs, d, rfl⟩ := grow_of_below hH.below
        clear hH
        try simp only [World.grow_drew] at hK ⊢
        try simp only [World.grow_grow] at hK ⊢
        go_simp
        go_wp2_with fail
        exact ⟨_, rfl, rfl, (by repeat (first | exact below_of_grow _ _ | exact Below.refl _ _ | exact below_more _ _ _ _ | (simp only [← Array.append_assoc]; first | exact below_more _ _ _ _ | exact below_same _ _ _ | exact Below.refl _ _) | exact below_same _ _ _ | (refine Below.alloc ?_ (by first | (simp; done) | (simp; omega)) _) | (refine Below.grow ?_ (by first | (simp; done) | (simp; omega)) _ _) | refine Below.drew ?_ | refine Below.drewN ?_ _ | (refine Below.putF ?_ (by first | (simp; done) | omega | (simp; omega)) _) | (refine Below.setCell ?_ (by first | (simp; done) | (simp; omega)) _))), fun h => by cases h⟩
      case o1 =>
        intro x w1 hH K hK
        have e5 : x 5 = _ := hH.holds 0 (by decide) (by decide +kernel) 5 rfl
        obtain ⟨xs, d, rfl⟩ := grow_of_below hH.below
        clear hH
        try simp only [World.grow_drew] at hK ⊢
        try simp only [World.grow_grow] at hK ⊢
        simp only [e5] at hK ⊢
        clear e5
        go_simp
        go_wp2_with (refine Gives.use (HR.out _) ?_; intro ys e)
        exact ⟨_, rfl, rfl, (by first | exact below_more _ _ _ _ | exact (by repeat (first | exact below_of_grow _ _ | exact Below.refl _ _ | exact below_more _ _ _ _ | (simp only [← Array.append_assoc]; first | exact below_more _ _ _ _ | exact below_same _ _ _ | exact Below.refl _ _) | exact below_same _ _ _ | (refine Below.alloc ?_ (by first | (simp; done) | (simp; omega)) _) | (refine Below.grow ?_ (by first | (simp; done) | (simp; omega)) _ _) | refine Below.drew ?_ | refine Below.drewN ?_ _ | (refine Below.putF ?_ (by first | (simp; done) | omega | (simp; omega)) _) | (refine Below.setCell ?_ (by first | (simp; done) | (simp; omega)) _)))), fun h => by cases h⟩
      case o2 =>
        intro x w1 hH K hK
        have e6 : x 6 = _ := hH.holds 1 (by decide) (by decide +kernel) 6 rfl
        obtain ⟨xs, d, rfl⟩ := grow_of_below hH.below
        clear hH
        try simp only [World.grow_drew] at hK ⊢
        try simp only [World.grow_grow] at hK ⊢
        simp only [e6] at hK ⊢
        clear e6
        go_simp
        go_wp2_with fail
        exact ⟨_, rfl, rfl, (by repeat (first | exact below_of_grow _ _ | exact Below.refl _ _ | exact below_more _ _ _ _ | (simp only [← Array.append_assoc]; first | exact below_more _ _ _ _ | exact below_same _ _ _ | exact Below.refl _ _) | exact below_same _ _ _ | (refine Below.alloc ?_ (by first | (simp; done) | (simp; omega)) _) | (refine Below.grow ?_ (by first | (simp; done) | (simp; omega)) _ _) | refine Below.drew ?_ | refine Below.drewN ?_ _ | (refine Below.putF ?_ (by first | (simp; done) | omega | (simp; omega)) _) | (refine Below.setCell ?_ (by first | (simp; done) | (simp; omega)) _))), fun h => by cases h⟩
      case o3 =>
        intro x w1 hH K hK
        have e7 : x 7 = _ := hH.holds 2 (by decide) (by decide +kernel) 7 rfl
        obtain ⟨xs, d, rfl⟩ := grow_of_below hH.below
        clear hH
        try simp only [World.grow_drew] at hK ⊢
        try simp only [World.grow_grow] at hK ⊢
        simp only [e7] at hK ⊢
        clear e7
        go_simp
        go_wp2_with fail
        exact ⟨_, rfl, rfl, (by repeat (first | exact below_of_grow _ _ | exact Below.refl _ _ | exact below_more _ _ _ _ | (simp only [← Array.append_assoc]; first | exact below_more _ _ _ _ | exact below_same _ _ _ | exact Below.refl _ _) | exact below_same _ _ _ | (refine Below.alloc ?_ (by first | (simp; done) | (simp; omega)) _) | (refine Below.grow ?_ (by first | (simp; done) | (simp; omega)) _ _) | refine Below.drew ?_ | refine Below.drewN ?_ _ | (refine Below.putF ?_ (by first | (simp; done) | omega | (simp; omega)) _) | (refine Below.setCell ?_ (by first | (simp; done) | (simp; omega)) _))), fun h => by cases h⟩
      case o4 =>
        intro x w1 hH K hK
        have e7 : x 7 = _ := hH.holds 2 (by decide) (by decide +kernel) 7 rfl
        have e8 : x 8 = _ := hH.holds 3 (by decide) (by decide +kernel) 8 rfl
        obtain ⟨xs, d, rfl⟩ := grow_of_below hH.below
        clear hH
        try simp only [World.grow_drew] at hK ⊢
        try simp only [World.grow_grow] at hK ⊢
        simp only [e7, e8] at hK ⊢
        clear e7 e8
        go_simp
        go_wp2_with (refine Gives.use (HP.out _) ?_; intro ys e)
        exact ⟨_, rfl, rfl, (by first | exact below_more _ _ _ _ | exact (by repeat (first | exact below_of_grow _ _ | exact Below.refl _ _ | exact below_more _ _ _ _ | (simp only [← Array.append_assoc]; first | exact below_more _ _ _ _ | exact below_same _ _ _ | exact Below.refl _ _) | exact below_same _ _ _ | (refine Below.alloc ?_ (by first | (simp; done) | (simp; omega)) _) | (refine Below.grow ?_ (by first | (simp; done) | (simp; omega)) _ _) | refine Below.drew ?_ | refine Below.drewN ?_ _ | (refine Below.putF ?_ (by first | (simp; done) | omega | (simp; omega)) _) | (refine Below.setCell ?_ (by first | (simp; done) | (simp; omega)) _)))), fun h => by cases h⟩
      case o5 =>
        intro x w1 hH K hK
        have e7 : x 7 = _ := hH.holds 2 (by decide) (by decide +kernel) 7 rfl
        obtain ⟨xs, d, rfl⟩ := grow_of_below hH.below
        clear hH
        try simp only [World.grow_drew] at hK ⊢
        try simp only [World.grow_grow] at hK ⊢
        simp only [e7] at hK ⊢
        clear e7
        go_simp
        go_wp2_with fail
        exact ⟨_, rfl, rfl, (by repeat (first | exact below_of_grow _ _ | exact Below.refl _ _ | exact below_more _ _ _ _ | (simp only [← Array.append_assoc]; first | exact below_more _ _ _ _ | exact below_same _ _ _ | exact Below.refl _ _) | exact below_same _ _ _ | (refine Below.alloc ?_ (by first | (simp; done) | (simp; omega)) _) | (refine Below.grow ?_ (by first | (simp; done) | (simp; omega)) _ _) | refine Below.drew ?_ | refine Below.drewN ?_ _ | (refine Below.putF ?_ (by first | (simp; done) | omega | (simp; omega)) _) | (refine Below.setCell ?_ (by first | (simp; done) | (simp; omega)) _))), fun h => by cases h⟩
      case o6 =>
        intro x w1 hH K hK
        have e7 : x 7 = _ := hH.holds 2 (by decide) (by decide +kernel) 7 rfl
        obtain ⟨xs, d, rfl⟩ := grow_of_below hH.below
        clear hH
        try simp only [World.grow_drew] at hK ⊢
        try simp only [World.grow_grow] at hK ⊢
        simp only [e7] at hK ⊢
        clear e7
        go_simp
        go_wp2_with fail
        exact ⟨_, rfl, rfl, (by repeat (first | exact below_of_grow _ _ | exact Below.refl _ _ | exact below_more _ _ _ _ | (simp only [← Array.append_assoc]; first | exact below_more _ _ _ _ | exact below_same _ _ _ | exact Below.refl _ _) | exact below_same _ _ _ | (refine Below.alloc ?_ (by first | (simp; done) | (simp; omega)) _) | (refine Below.grow ?_ (by first | (simp; done) | (simp; omega)) _ _) | refine Below.drew ?_ | refine Below.drewN ?_ _ | (refine Below.putF ?_ (by first | (simp; done) | omega | (simp; omega)) _) | (refine Below.setCell ?_ (by first | (simp; done) | (simp; omega)) _))), fun h => by cases h⟩
      case o7 =>
        intro x w1 hH K hK
        have e7 : x 7 = _ := hH.holds 2 (by decide) (by decide +kernel) 7 rfl
        have e11 : x 11 = _ := hH.holds 6 (by decide) (by decide +kernel) 11 rfl
        obtain ⟨xs, d, rfl⟩ := grow_of_below hH.below
        clear hH
        try simp only [World.grow_drew] at hK ⊢
        try simp only [World.grow_grow] at hK ⊢
        simp only [e7, e11] at hK ⊢
        clear e7 e11
        go_simp
        go_wp2_with fail
        exact ⟨_, rfl, rfl, (by repeat (first | exact below_of_grow _ _ | exact Below.refl _ _ | exact below_more _ _ _ _ | (simp only [← Array.append_assoc]; first | exact below_more _ _ _ _ | exact below_same _ _ _ | exact Below.refl _ _) | exact below_same _ _ _ | (refine Below.alloc ?_ (by first | (simp; done) | (simp; omega)) _) | (refine Below.grow ?_ (by first | (simp; done) | (simp; omega)) _ _) | refine Below.drew ?_ | refine Below.drewN ?_ _ | (refine Below.putF ?_ (by first | (simp; done) | omega | (simp; omega)) _) | (refine Below.setCell ?_ (by first | (simp; done) | (simp; omega)) _))), fun h => by cases h⟩
      case o8 =>
        intro x w1 hH K hK
        have e7 : x 7 = _ := hH.holds 2 (by decide) (by decide +kernel) 7 rfl
        have e10 : x 10 = _ := hH.holds 5 (by decide) (by decide +kernel) 10 rfl
        have e12 : x 12 = _ := hH.holds 7 (by decide) (by decide +kernel) 12 rfl
        obtain ⟨xs, d, rfl⟩ := grow_of_below hH.below
        clear hH
        try simp only [World.grow_drew] at hK ⊢
        try simp only [World.grow_grow] at hK ⊢
        simp only [e7, e10, e12] at hK ⊢
        clear e7 e10 e12
        go_simp
        go_wp2_with fail
        exact ⟨_, rfl, rfl, (by repeat (first | exact below_of_grow _ _ | exact Below.refl _ _ | exact below_more _ _ _ _ | (simp only [← Array.append_assoc]; first | exact below_more _ _ _ _ | exact below_same _ _ _ | exact Below.refl _ _) | exact below_same _ _ _ | (refine Below.alloc ?_ (by first | (simp; done) | (simp; omega)) _) | (refine Below.grow ?_ (by first | (simp; done) | (simp; omega)) _ _) | refine Below.drew ?_ | refine Below.drewN ?_ _ | (refine Below.putF ?_ (by first | (simp; done) | omega | (simp; omega)) _) | (refine Below.setCell ?_ (by first | (simp; done) | (simp; omega)) _))), fun h => by cases h⟩
      case o9 =>
        intro x w1 hH K hK
        have e7 : x 7 = _ := hH.holds 2 (by decide) (by decide +kernel) 7 rfl
        have e13 : x 13 = _ := hH.holds 8 (by decide) (by decide +kernel) 13 rfl
        obtain ⟨xs, d, rfl⟩ := grow_of_below hH.below
        clear hH
        try simp only [World.grow_drew] at hK ⊢
        try simp only [World.grow_grow] at hK ⊢
        simp only [e7, e13] at hK ⊢
        clear e7 e13
        go_simp
        go_wp2_with (refine Gives.use (HK.out _) ?_; intro ys e)
        exact ⟨_, rfl, rfl, (by first | exact below_more _ _ _ _ | exact (by repeat (first | exact below_of_grow _ _ | exact Below.refl _ _ | exact below_more _ _ _ _ | (simp only [← Array.append_assoc]; first | exact below_more _ _ _ _ | exact below_same _ _ _ | exact Below.refl _ _) | exact below_same _ _ _ | (refine Below.alloc ?_ (by first | (simp; done) | (simp; omega)) _) | (refine Below.grow ?_ (by first | (simp; done) | (simp; omega)) _ _) | refine Below.drew ?_ | refine Below.drewN ?_ _ | (refine Below.putF ?_ (by first | (simp; done) | omega | (simp; omega)) _) | (refine Below.setCell ?_ (by first | (simp; done) | (simp; omega)) _)))), fun h => by cases h⟩
      case o10 =>
        intro x w1 hH K hK
        have e7 : x 7 = _ := hH.holds 2 (by decide) (by decide +kernel) 7 rfl
        have e9 : x 9 = _ := hH.holds 4 (by decide) (by decide +kernel) 9 rfl
        have e14 : x 14 = _ := hH.holds 9 (by decide) (by decide +kernel) 14 rfl
        obtain ⟨xs, d, rfl⟩ := grow_of_below hH.below
        clear hH
        try simp only [World.grow_drew] at hK ⊢
        try simp only [World.grow_grow] at hK ⊢
        simp only [e7, e9, e14] at hK ⊢
        clear e7 e9 e14
        go_simp
        go_wp2_with fail
        exact ⟨_, rfl, rfl, (by repeat (first | exact below_of_grow _ _ | exact Below.refl _ _ | exact below_more _ _ _ _ | (simp only [← Array.append_assoc]; first | exact below_more _ _ _ _ | exact below_same _ _ _ | exact Below.refl _ _) | exact below_same _ _ _ | (refine Below.alloc ?_ (by first | (simp; done) | (simp; omega)) _) | (refine Below.grow ?_ (by first | (simp; done) | (simp; omega)) _ _) | refine Below.drew ?_ | refine Below.drewN ?_ _ | (refine Below.putF ?_ (by first | (simp; done) | omega | (simp; omega)) _) | (refine Below.setCell ?_ (by first | (simp; done) | (simp; omega)) _))), fun h => by cases h⟩
      case o11 =>
        intro x w1 hH K hK
        have e7 : x 7 = _ := hH.holds 2 (by decide) (by decide +kernel) 7 rfl
        have e15 : x 15 = _ := hH.holds 10 (by decide) (by decide +kernel) 15 rfl
        obtain ⟨xs, d, rfl⟩ := grow_of_below hH.below
        clear hH
        try simp only [World.grow_drew] at hK ⊢
        try simp only [World.grow_grow] at hK ⊢
        simp only [e7, e15] at hK ⊢
        clear e7 e15
        go_simp
        go_wp2_with fail
        exact ⟨_, rfl, rfl, (by repeat (first | exact below_of_grow _ _ | exact Below.refl _ _ | exact below_more _ _ _ _ | (simp only [← Array.append_assoc]; first | exact below_more _ _ _ _ | exact below_same _ _ _ | exact Below.refl _ _) | exact below_same _ _ _ | (refine Below.alloc ?_ (by first | (simp; done) | (simp; omega)) _) | (refine Below.grow ?_ (by first | (simp; done) | (simp; omega)) _ _) | refine Below.drew ?_ | refine Below.drewN ?_ _ | (refine Below.putF ?_ (by first | (simp; done) | omega | (simp; omega)) _) | (refine Below.setCell ?_ (by first | (simp; done) | (simp; omega)) _))), fun h => by cases h⟩
    case hend =>
      intro x w1 hH
      have e5 : x 5 = _ := hH.holds 0 (by decide) trivial 5 rfl
      have e6 : x 6 = _ := hH.holds 1 (by decide) trivial 6 rfl
      have e7 : x 7 = _ := hH.holds 2 (by decide) trivial 7 rfl
      have e8 : x 8 = _ := hH.holds 3 (by decide) trivial 8 rfl
      have e9 : x 9 = _ := hH.holds 4 (by decide) trivial 9 rfl
      have e10 : x 10 = _ := hH.holds 5 (by decide) trivial 10 rfl
      have e11 : x 11 = _ := hH.holds 6 (by decide) trivial 11 rfl
      have e12 : x 12 = _ := hH.holds 7 (by decide) trivial 12 rfl
      have e13 : x 13 = _ := hH.holds 8 (by decide) trivial 13 rfl
      have e14 : x 14 = _ := hH.holds 9 (by decide) trivial 14 rfl
      have e15 : x 15 = _ := hH.holds 10 (by decide) trivial 15 rfl
      have e16 : x 16 = _ := hH.holds 11 (by decide) trivial 16 rfl
      obtain ⟨xs, d, rfl⟩ := grow_of_below hH.below
      clear hH
      simp only [e5, e6, e7, e8, e9, e10, e11, e12, e13, e14, e15, e16]; clear e5 e6 e7 e8 e9 e10 e11 e12 e13 e14 e15 e16
      simp only [List.drop_succ_cons, List.drop_zero]
      go_wp2_with fail
      go_ret
      exact ⟨rfl, (by repeat (first | exact below_of_grow _ _ | exact Below.refl _ _ | exact below_more _ _ _ _ | (simp only [← Array.append_assoc]; first | exact below_more _ _ _ _ | exact below_same _ _ _ | exact Below.refl _ _) | exact below_same _ _ _ | (refine Below.alloc ?_ (by first | (simp; done) | (simp; omega)) _) | (refine Below.grow ?_ (by first | (simp; done) | (simp; omega)) _ _) | refine Below.drew ?_ | refine Below.drewN ?_ _ | (refine Below.putF ?_ (by first | (simp; done) | omega | (simp; omega)) _) | (refine Below.setCell ?_ (by first | (simp; done) | (simp; omega)) _)))⟩
end Go.Proofs.YtemnojlcgllcjaaGreatDoor
namespace Go.Proofs.YtemnojlcgllcjaaGreatDoor
set_option maxRecDepth 100000
open Go.RowKit

/-- some bytes lie at a slice, in blocks below B -/
def SlB (w : World) (B : Nat) (v : Value) (l : List UInt8) : Prop := ∃ a cap, v = .slice a l.length cap ∧ l.length ≤ cap ∧ cap ≤ maxLen ∧ (0 < l.length → ∃ b o, a = some ⟨b, o, none⟩ ∧ b < B ∧ w.cut? b o l.length = some (row8 l))
theorem SlB.nil (w : World) (B : Nat) : SlB w B (.slice none 0 0) [] := ⟨none, 0, rfl, Nat.le_refl _, by unfold maxLen; decide, fun h => absurd h (by simp)⟩
theorem SlB.keep {w w' : World} {B : Nat} {v : Value} {l : List UInt8} (h : SlB w B v l) (hb : ∀ b, b < B → w'.heap[b]? = w.heap[b]?) : SlB w' B v l := by
  obtain ⟨a, cap, h1, h2, h3, h4⟩ := h
  refine ⟨a, cap, h1, h2, h3, fun hp => ?_⟩
  obtain ⟨b, o, g1, g2, g3⟩ := h4 hp
  exact ⟨b, o, g1, g2, (cut_of_heap (hb b g2) _ _).trans g3⟩
theorem SlB.more {w : World} {B B' : Nat} {v : Value} {l : List UInt8} (h : SlB w B v l) (hB : B ≤ B') : SlB w B' v l := by
  obtain ⟨a, cap, h1, h2, h3, h4⟩ := h
  refine ⟨a, cap, h1, h2, h3, fun hp => ?_⟩
  obtain ⟨b, o, g1, g2, g3⟩ := h4 hp
  exact ⟨b, o, g1, by omega, g3⟩
/-- a text of bytes -/
theorem SlB.text {w : World} {B : Nat} {v : Value} {l : List UInt8} (h : SlB w B v l) : (convert 109 9 v).run Tryz.prog w = .ok (.string (bs l)) w := by
  obtain ⟨a, cap, rfl, h2, h3, h4⟩ := h
  rcases Nat.eq_zero_or_pos l.length with h0 | h0
  · have hl : l = [] := List.eq_nil_of_length_eq_zero h0
    subst hl
    cases a with
    | none => exact run_convert_bytes_nil w 109 5 Tryz.underlying109 Tryz.underlying5 _ _ _ Tryz.underlying9
    | some ad =>
      have := run_convert_bytes_back (P := Tryz.prog) w 109 9 5 ad cap [] Tryz.underlying109 Tryz.underlying5 Tryz.underlying9 (fun j hj => absurd hj (by simp))
      simpa [bs] using this
  · obtain ⟨b, o, rfl, _, hc⟩ := h4 h0
    have hr := run_convert_bytes_back (P := Tryz.prog) w 109 9 5 ⟨b, o, none⟩ cap l Tryz.underlying109 Tryz.underlying5 Tryz.underlying9 (fun j hj => by
      rw [addr_add, (cut_spec hc).2 j hj, row8_get l j hj, byt_get hj])
    exact hr
theorem sl_fixed {w : World} {a o n : Nat} {l : List UInt8} (hl : l.length = n) (h : w.cut? a o n = some (row8 l)) {k cap : Nat} (hk : k ≤ n) (hcap : n ≤ cap) (hm : cap ≤ maxLen) : SlB w (a + 1) (.slice (some ⟨a, o, none⟩) k cap) (l.take k) := by
  have hkl : (l.take k).length = k := by simp; omega
  refine ⟨_, cap, by rw [hkl], by omega, hm, fun _ => ⟨a, o, rfl, by omega, ?_⟩⟩
  rw [hkl]
  have := cut_sub (i := 0) (m := k) h (by omega)
  rw [Nat.add_zero, Nat.zero_add, row8_extract] at this
  simpa using this
/-- what a prefix's keys begin with -/
def frontB (p : K25) (d : Int) : List UInt8 := if prefR d = true then p.val.take (plen d) else []
theorem row_byte : RowType Tryz.prog 109 5 1 1 := ⟨Tryz.underlying109, by kernel_rfl, by decide, by decide⟩
def one8 (b : UInt8) : Array Value := #[.int .u8 (b.toNat : Int)]
theorem SlB.ones {w : World} {B : Nat} {v : Value} {l : List UInt8} (h : SlB w B v l) : SlA w B 1 v (l.map one8) := by
  obtain ⟨a, cap, rfl, h2, h3, h4⟩ := h
  refine ⟨fun x hx => ?_, a, cap, by rw [List.length_map], by rw [List.length_map]; exact h2, h3, fun hp => ?_⟩
  · obtain ⟨b, _, rfl⟩ := List.mem_map.1 hx; rfl
  · rw [List.length_map] at hp
    obtain ⟨b, o, rfl, hb, hc⟩ := h4 hp
    refine ⟨b, o, rfl, hb, fun i x hx => ?_⟩
    rw [List.getElem?_map, Option.map_eq_some_iff] at hx
    obtain ⟨y, hy, rfl⟩ := hx
    have hi := (List.getElem?_eq_some_iff.1 hy).1
    have := cut_sub (i := i) (m := 1) hc (by omega)
    rw [Nat.mul_one, this, row8_extract]
    refine congrArg some ?_
    have hd : (l.take (i + 1)).drop i = [y] := by
      rw [List.drop_take, Nat.add_sub_cancel_left, List.drop_eq_getElem_cons hi]
      rw [List.getElem?_eq_getElem hi] at hy
      rw [Option.some.inj hy]; rfl
    rw [hd]; rfl
theorem SlA.bytes {w : World} {B : Nat} {v : Value} {l : List UInt8} (h : SlA w B 1 v (l.map one8)) : SlB w B v l := by
  obtain ⟨_, a, cap, rfl, h2, h3, h4⟩ := h
  rw [List.length_map] at h2 h4 ⊢
  refine ⟨a, cap, rfl, h2, h3, fun hp => ?_⟩
  obtain ⟨b, o, rfl, hb, hc⟩ := h4 hp
  refine ⟨b, o, rfl, hb, ?_⟩
  have hc' : ∀ i, i < l.length → w.cut? b (o + i) 1 = some (one8 (byt l i)) := by
    intro i hi
    have := hc i (one8 (byt l i)) (by rw [List.getElem?_map, List.getElem?_eq_getElem hi, byt_get hi]; rfl)
    rwa [Nat.mul_one] at this
  clear hc h4
  unfold World.cut? at hc' ⊢
  cases hw : w.heap[b]? with
  | none => have := hc' 0 hp; rw [hw] at this; cases this
  | some ob =>
    rw [hw] at hc'
    cases ob with
    | cells c t fr =>
      simp only at hc' ⊢
      have hsz : ∀ i, i < l.length → o + i + 1 ≤ c.size ∧ c.extract (o + i) (o + i + 1) = one8 (byt l i) := by
        intro i hi
        have := hc' i hi
        by_cases hle : o + i + 1 ≤ c.size
        · rw [if_pos hle] at this; exact ⟨hle, Option.some.inj this⟩
        · rw [if_neg hle] at this; cases this
      have hl := (hsz (l.length - 1) (by omega)).1
      rw [if_pos (by omega)]
      refine congrArg some ?_
      apply Array.ext_getElem?
      intro i
      by_cases hi : i < l.length
      · rw [row8_get l i hi, Array.getElem?_extract_of_lt (by omega)]
        have hs := hsz i hi
        have := congrArg (fun q => q[0]?) hs.2
        simp only [Array.getElem?_extract_of_lt (show 0 < min (o + i + 1) c.size - (o + i) by omega)] at this
        exact this
      · rw [Array.getElem?_eq_none (by simp; omega), Array.getElem?_eq_none (by simp; omega)]
    | _ => have := hc' 0 hp; cases this
theorem all_one8 (l : List UInt8) : ∀ x ∈ l.map one8, allOne x = true := by
  intro x hx; obtain ⟨b, _, rfl⟩ := List.mem_map.1 hx; simp [allOne, one8, Value.oneCell']
theorem clone_calls {w : World} {B b n cap : Nat} {l : List UInt8} (hn : l.length = n) (hl : n ≤ 25) (h : SlB w B (.slice (some ⟨b, 0, none⟩) n cap) l) (hB : B ≤ w.heap.size) :
    Calls Tryz.prog 99 #[.slice (some ⟨b, 0, none⟩) n cap] w fun e w' => ∃ v, e = .returned v ∧ SlB w' w'.heap.size v l ∧ Below w.heap.size w w' := by
  have hq : ∀ (w : World) (a : Option Addr) (n c n' c' : Nat), (binOp .eql 109 (.slice a n c) (.slice none n' c')).run Tryz.prog w = .ok (.bool a.isNone) w := fun w a n c n' c' => Lib.run_eql_slice_nil w _ _ a n c n' c' Tryz.underlying109
  have HS := Lib.hid (h.keep (w' := w.alloc (.cells #[] 5)) fun b hb => heap_alloc_old (w := w) _ (by omega)).ones
  have HL := Lib.hid (And.intro hn hl)
  clear h hn hl
  go_enter Tryz.func99, Tryz.ntmps99
  go_wp2_with (at_builtin; refine wpList_append (B := w.heap.size) (xs := []) (ys := l.map one8) row_byte rfl (.tmp 5) (.tmp 6) rfl rfl ?_ rfl ⟨_, HS.out⟩ (all_one8 l) ?_ ?_ ?_)
  case refine_1 => exact own_empty ((heap_al _ _ _).trans (if_pos rfl)) (Nat.le_refl _)
  case refine_2 => have := HL.out; simp; omega
  case refine_3 => simp
  intro v3 w3 ho hg _
  have hb3 : Below w.heap.size w w3 := Below.grown (((Below.refl _ w).alloc (Nat.le_refl _) _)) hg (by simp) (fun q hq => by simp [Value.ownBlock] at hq; omega)
  have HO := Lib.hid (And.intro (SlA.bytes (by simpa using ho.sl)) hb3)
  clear ho hg hb3
  go_wp2_with fail
  go_ret
  exact ⟨_, rfl, HO.out.1, HO.out.2⟩
end Go.Proofs.YtemnojlcgllcjaaGreatDoor
namespace Go.Proofs.YtemnojlcgllcjaaGreatDoor
set_option maxRecDepth 100000
open Go.RowKit

theorem plen_take (p : List UInt8) (n : Nat) : (cutB p n).take n = p.take n ++ (zeros (25 - n)).take (n - (p.take n).length) := by
  unfold cutB
  rw [List.take_append, List.take_take, Nat.min_self]
theorem front_take (p : K25) (n : Nat) (hn : n ≤ 25) : (cutB p.val n).take n = p.val.take n := by
  rw [plen_take]
  have : (p.val.take n).length = n := by rw [List.length_take, p.property]; omega
  rw [this, Nat.sub_self, List.take_zero, List.append_nil]
set_option maxHeartbeats 8000000 in
theorem front_calls (p : K25) (d : Int) (w : World) : Calls Tryz.prog 46 #[.agg (prefA p d)] w fun e w' => ∃ v, e = .returned v ∧ SlB w' w'.heap.size v (frontB p d) ∧ Below w.heap.size w w' := by
  have HR := Lib.hid (pright_gives p d)
  by_cases hd : prefR d = true
  · have h05 : 0 ≤ d ∧ d ≤ 5 := of_decide_eq_true hd
    have HC := Lib.hid (cut_gives p d h05)
    have HF := Lib.hid (show frontB p d = p.val.take (plen d) from if_pos hd)
    have hpl := plen_le d h05.2
    have hcl := cutB_len p.val (plen d) p.property hpl
    have HB := Lib.hid (keyBytes_gives _ hcl)
    have HT := Lib.hid (front_take p (plen d) hpl)
    have HL := Lib.hid hcl
    obtain ⟨n, hn⟩ : ∃ n, n = plen d := ⟨_, rfl⟩
    rw [← hn] at HC HF hpl HB HT HL
    have hcase : (d = 4 ∧ n = 15) ∨ (d = 5 ∧ n = 25) ∨ (¬ d = 4 ∧ ¬ d = 5 ∧ d = n) := by
      rw [hn]; unfold plen
      by_cases h1 : d < 4
      · rw [if_pos h1]; omega
      · rw [if_neg h1]
        by_cases h2 : d < 5
        · rw [if_pos h2]; omega
        · rw [if_neg h2]; omega
    obtain ⟨l, hl⟩ : ∃ l, l = cutB p.val n := ⟨_, rfl⟩
    rw [← hl] at HC HB HT HL
    clear hl hn hcl
    have hll := HL.out
    go_enter Tryz.func46, Tryz.ntmps46
    go_wp2_with fail
    refine Gives.use (HR.out _) ?_
    intro xs1 d1
    clear HR
    go_wp2_with fail
    refine Gives.use (HC.out _) ?_
    intro xs2 d2
    go_wp2_with fail
    refine Gives.use (HB.out _) ?_
    intro xs3 d3
    clear HC HB
    have hnI : (n : Int) ≤ 25 := by omega
    rcases hcase with ⟨rfl, rfl⟩ | ⟨rfl, rfl⟩ | ⟨h4, h5, rfl⟩
    all_goals
      go_wp2_with fail
      refine (clone_calls (by rw [List.length_take, hll]; omega) (by omega) (sl_fixed hll (cut_heap ((heap_al _ _ _).trans (if_pos (by simp <;> omega))) (by simp [hll])) (by omega) (by omega) (by unfold maxLen; decide)) (by simp <;> omega)).mono ?_
      rintro e w9 ⟨v, rfl, hv, hb⟩
      have HV := Lib.hid (And.intro hv hb)
      clear hv hb
      go_wp2_with fail
      go_ret
      exact ⟨v, rfl, by rw [HF.out, ← HT.out]; exact HV.out.1, Below.trans (by exact (by repeat (first | exact below_of_grow _ _ | exact Below.refl _ _ | exact below_more _ _ _ _ | (simp only [← Array.append_assoc]; first | exact below_more _ _ _ _ | exact below_same _ _ _ | exact Below.refl _ _) | exact below_same _ _ _ | (refine Below.alloc ?_ (by first | (simp; done) | (simp; omega)) _) | (refine Below.grow ?_ (by first | (simp; done) | (simp; omega)) _ _) | refine Below.drew ?_ | refine Below.drewN ?_ _ | (refine Below.putF ?_ (by first | (simp; done) | omega | (simp; omega)) _) | (refine Below.setCell ?_ (by first | (simp; done) | (simp; omega)) _)))) (HV.out.2.mono (by simp <;> omega))⟩
  · have hdf : prefR d = false := by cases h : prefR d; rfl; exact absurd h hd
    have HF := Lib.hid (show frontB p d = [] from if_neg hd)
    clear hd
    rw [hdf] at HR
    go_enter Tryz.func46, Tryz.ntmps46
    go_wp2_with fail
    refine Gives.use (HR.out _) ?_
    intro xs1 d1
    go_wp2_with fail
    go_ret
    exact ⟨_, rfl, by rw [HF.out]; exact SlB.nil _ _, (by repeat (first | exact below_of_grow _ _ | exact Below.refl _ _ | exact below_more _ _ _ _ | (simp only [← Array.append_assoc]; first | exact below_more _ _ _ _ | exact below_same _ _ _ | exact Below.refl _ _) | exact below_same _ _ _ | (refine Below.alloc ?_ (by first | (simp; done) | (simp; omega)) _) | (refine Below.grow ?_ (by first | (simp; done) | (simp; omega)) _ _) | refine Below.drew ?_ | refine Below.drewN ?_ _ | (refine Below.putF ?_ (by first | (simp; done) | omega | (simp; omega)) _) | (refine Below.setCell ?_ (by first | (simp; done) | (simp; omega)) _)))⟩
end Go.Proofs.YtemnojlcgllcjaaGreatDoor

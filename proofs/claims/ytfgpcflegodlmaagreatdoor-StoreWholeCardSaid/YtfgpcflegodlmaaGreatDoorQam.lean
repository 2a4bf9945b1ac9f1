/- Layer 6: prefixes of keys: what is cut, which keys have one, its bytes. -/
import Derived.Test.YtfgpcflegodlmaaGreatDoorQab
import Derived.Test.YtfgpcflegodlmaaGreatDoorQad
import Derived.Handy
import Derived.OwnWalk
import Derived.Laws.BytesArg
import Derived.Lib.BufferRead
import Derived.Shelf.Slices.Clone
import Derived.Test.YtfgpcflegodlmaaGreatDoorQaa
import Derived.OrdersIn
import Derived.RangeFuncCalls
import Derived.OwnWalkIn
namespace Go.Proofs.YtfgpcflegodlmaaGreatDoor
set_option maxRecDepth 100000
open Go.RowKit

def prefA (k : K25) (d : Int) : Array Value := row8 k.val ++ #[.int .i64 d]
/-- how many bytes a depth has -/
def plen (d : Int) : Nat := if d < 4 then d.toNat else if d < 5 then 15 else 25
def prefR (d : Int) : Bool := decide (0 ≤ d ∧ d ≤ 5)
def cutB (l : List UInt8) (n : Nat) : List UInt8 := l.take n ++ zeros (25 - n)
theorem plen_le (d : Int) (_h : d ≤ 5) : plen d ≤ 25 := by unfold plen; split; omega; split <;> omega
theorem cutB_len (l : List UInt8) (n : Nat) (h : l.length = 25) (hn : n ≤ 25) : (cutB l n).length = 25 := by simp [cutB, h]; omega
/-- which keys have a prefix -/
def hasB (p : K25) (d : Int) (k : K25) : Bool := prefR d && decide (p.val.take (plen d) = k.val.take (plen d))
theorem cutB_inj (a b : List UInt8) (n : Nat) (ha : a.length = 25) (hb : b.length = 25) : cutB a n = cutB b n ↔ a.take n = b.take n := by
  unfold cutB
  constructor
  · intro h
    exact (List.append_inj h (by simp [ha, hb])).1
  · intro h; rw [h]
@[go_sem, simp] theorem prefA_size (k : K25) (d : Int) : (prefA k d).size = 26 := by simp [prefA, k.property]
@[go_sem] theorem prefA_d (k : K25) (d : Int) : (prefA k d)[25]? = some (.int .i64 d) := by
  unfold prefA; rw [Array.getElem?_append_right (by simp [k.property])]; simp [k.property]
@[go_sem] theorem prefA_dE (k : K25) (d : Int) (h : 25 < (prefA k d).size) : (prefA k d)[25]'h = .int .i64 d := by
  have := prefA_d k d; rw [Array.getElem?_eq_getElem h] at this; exact Option.some.inj this
theorem prefA_i (k : K25) (d : Int) (i : Nat) (hi : i < 25) : (prefA k d)[i]? = some (.int .u8 ((byt k.val i).toNat : Int)) := by
  unfold prefA; rw [Array.getElem?_append_left (by simp [k.property, hi])]; exact row8_get _ _ (by simp [k.property, hi])
@[go_sem] theorem prefA_0 (k : K25) (d : Int) : (prefA k d)[0]? = some (.int .u8 ((byt k.val 0).toNat : Int)) := prefA_i k d 0 (by decide)
@[go_sem] theorem prefA_1 (k : K25) (d : Int) : (prefA k d)[1]? = some (.int .u8 ((byt k.val 1).toNat : Int)) := prefA_i k d 1 (by decide)
@[go_sem] theorem prefA_2 (k : K25) (d : Int) : (prefA k d)[2]? = some (.int .u8 ((byt k.val 2).toNat : Int)) := prefA_i k d 2 (by decide)
theorem prefA_iE (k : K25) (d : Int) (i : Nat) (hi : i < 25) (h : i < (prefA k d).size) : (prefA k d)[i]'h = .int .u8 ((byt k.val i).toNat : Int) := by
  have := prefA_i k d i hi; rw [Array.getElem?_eq_getElem h] at this; exact Option.some.inj this
@[go_sem] theorem prefA_0E (k : K25) (d : Int) (h : 0 < (prefA k d).size) : (prefA k d)[0]'h = .int .u8 ((byt k.val 0).toNat : Int) := prefA_iE k d 0 (by decide) h
@[go_sem] theorem prefA_1E (k : K25) (d : Int) (h : 1 < (prefA k d).size) : (prefA k d)[1]'h = .int .u8 ((byt k.val 1).toNat : Int) := prefA_iE k d 1 (by decide) h
@[go_sem] theorem prefA_2E (k : K25) (d : Int) (h : 2 < (prefA k d).size) : (prefA k d)[2]'h = .int .u8 ((byt k.val 2).toNat : Int) := prefA_iE k d 2 (by decide) h
theorem prefA_ext (k : K25) (d : Int) (a b : Nat) (h : b ≤ 25) : (prefA k d).extract a b = row8 ((k.val.take b).drop a) := by
  unfold prefA
  rw [Array.extract_append, row8_extract, row8_size, k.property]
  rw [Array.extract_eq_empty_of_le (by omega), Array.append_empty]
@[go_sem] theorem prefA_name (k : K25) (d : Int) : (prefA k d).extract 3 15 = row8 ((k.val.take 15).drop 3) := prefA_ext k d 3 15 (by decide)
@[go_sem] theorem prefA_tag (k : K25) (d : Int) : (prefA k d).extract 15 25 = row8 ((k.val.take 25).drop 15) := prefA_ext k d 15 25 (by decide)
@[go_sem] theorem prefA_full (k : K25) (d : Int) : (prefA k d).extract 0 26 = prefA k d := Array.extract_eq_self_of_le (by simp)
@[go_sem] theorem row8_set0 (l : List UInt8) (i : Nat) : (row8 l).setIfInBounds i (.int .u8 0) = row8 (l.set i 0) := row8_set l i 0
@[go_sem] theorem agg_pref : Tryz.prog.aggSize 52 = some 26 := by kernel_rfl
@[go_sem ↓ high] theorem ld_pref (a : Addr) : loadVar 52 a = rowLoad 52 a := rfl
@[go_sem ↓ high] theorem st_pref (a : Addr) (v : Value) : storeVar 52 a v = rowStore 52 a v := rfl
def bKey (v : Value) : Sem Value := Instr.build 44 #[(0, v)]
@[go_sem ↓ high] theorem bKeyK_eq (f : Nat × Operand → Nat × Value) (p : Nat × Operand) : Instr.build 44 (Array.map f #[p]) = Instr.build 44 #[f p] := by simp
theorem bKeyK_run (x : UInt8) (w : World) : (Instr.build 44 #[(0, .int .u8 (x.toNat : Int))]).run Tryz.prog w = .ok (.agg (row8 ((zeros 25).set 0 x))) w := by
  refine build_of (zero := .agg (row8 (zeros 25))) (places := #[(0, 1), (1, 1), (2, 1), (3, 12), (15, 10)]) (by intro w; exact (Tryz.zeroValue44 w).trans rfl) Tryz.underlying44 (by intro w; kernel_rfl) ?_
  rfl
theorem pright_gives (k : K25) (d : Int) (w : World) : Gives Tryz.prog 138 #[.agg (prefA k d)] w (.bool (prefR d)) := by
  have he : prefR d = (if 0 ≤ d then decide (d ≤ 5) else false) := by unfold prefR; split <;> simp [*]
  generalize prefR d = e at *
  have HE := Lib.hid he
  clear he
  by_cases h0 : 0 ≤ d
  · have he := HE.out
    rw [if_pos h0] at he
    subst he
    unfold Gives
    go_enter Tryz.func138, Tryz.ntmps138
    go_wp2_with fail
    all_goals
      go_ret
      exact ⟨by simp [*], (by repeat (first | exact below_of_grow _ _ | exact Below.refl _ _ | exact below_more _ _ _ _ | (simp only [← Array.append_assoc]; first | exact below_more _ _ _ _ | exact below_same _ _ _ | exact Below.refl _ _) | exact below_same _ _ _ | (refine Below.alloc ?_ (by first | (simp; done) | (simp; omega)) _) | (refine Below.grow ?_ (by first | (simp; done) | (simp; omega)) _ _) | refine Below.drew ?_ | refine Below.drewN ?_ _ | (refine Below.putF ?_ (by first | (simp; done) | omega | (simp; omega)) _) | (refine Below.setCell ?_ (by first | (simp; done) | (simp; omega)) _)))⟩
  · have he := HE.out
    rw [if_neg h0] at he
    subst he
    unfold Gives
    go_enter Tryz.func138, Tryz.ntmps138
    go_wp2_with fail
    all_goals
      go_ret
      exact ⟨rfl, (by repeat (first | exact below_of_grow _ _ | exact Below.refl _ _ | exact below_more _ _ _ _ | (simp only [← Array.append_assoc]; first | exact below_more _ _ _ _ | exact below_same _ _ _ | exact Below.refl _ _) | exact below_same _ _ _ | (refine Below.alloc ?_ (by first | (simp; done) | (simp; omega)) _) | (refine Below.grow ?_ (by first | (simp; done) | (simp; omega)) _ _) | refine Below.drew ?_ | refine Below.drewN ?_ _ | (refine Below.putF ?_ (by first | (simp; done) | omega | (simp; omega)) _) | (refine Below.setCell ?_ (by first | (simp; done) | (simp; omega)) _)))⟩
theorem cutS (l : List UInt8) (h : l.length = 25) :
    (((zeros 25).set 0 0) = cutB l (plen 0)) ∧ ((zeros 25).set 0 (byt l 0) = cutB l (plen 1)) ∧ (((zeros 25).set 0 (byt l 0)).set 1 (byt l 1) = cutB l (plen 2)) ∧
    ((((zeros 25).set 0 (byt l 0)).set 1 (byt l 1)).set 2 (byt l 2) = cutB l (plen 3)) ∧ (spl ((((zeros 25).set 0 (byt l 0)).set 1 (byt l 1)).set 2 (byt l 2)) 3 ((l.take 15).drop 3) = cutB l (plen 4)) ∧
    (spl (spl ((((zeros 25).set 0 (byt l 0)).set 1 (byt l 1)).set 2 (byt l 2)) 3 ((l.take 15).drop 3)) 15 ((l.take 25).drop 15) = cutB l (plen 5)) := by
  match l, h with
  | [a, b, c, d, e, f, g, h, i, j, k, m, n, o, p, q, r, s, t, u, v, w, x, y, z], _ => exact ⟨rfl, rfl, rfl, rfl, rfl, rfl⟩
set_option maxHeartbeats 8000000 in
theorem cut_gives (k : K25) (d : Int) (h : 0 ≤ d ∧ d ≤ 5) (w : World) : Gives Tryz.prog 139 #[.agg (prefA k d)] w (.agg (row8 (cutB k.val (plen d)))) := by
  have hb := bKeyK_run (byt k.val 0)
  obtain ⟨c0, c1, c2, c3, c4, c5⟩ := cutS k.val k.property
  have C0 := Lib.hid c0
  have C1 := Lib.hid c1
  have C2 := Lib.hid c2
  have C3 := Lib.hid c3
  have C4 := Lib.hid c4
  have C5 := Lib.hid c5
  clear c0 c1 c2 c3 c4 c5
  have hk25 : List.take 25 k.val = k.val := List.take_of_length_le (Nat.le_of_eq k.property)
  have hd : d = 0 ∨ d = 1 ∨ d = 2 ∨ d = 3 ∨ d = 4 ∨ d = 5 := by omega
  rcases hd with rfl | rfl | rfl | rfl | rfl | rfl
  all_goals
    unfold Gives
    go_enter Tryz.func139, Tryz.ntmps139
    go_wp2_with fail
  · exact bodyPost_ret (v := .agg (row8 (cutB k.val (plen 0)))) (results_one Tryz.results139 (ResIs.row rfl agg_key (by rw [← C0.out]; simp [go_sem]))) rfl ⟨rfl, (by repeat (first | exact below_of_grow _ _ | exact Below.refl _ _ | exact below_more _ _ _ _ | (simp only [← Array.append_assoc]; first | exact below_more _ _ _ _ | exact below_same _ _ _ | exact Below.refl _ _) | exact below_same _ _ _ | (refine Below.alloc ?_ (by first | (simp; done) | (simp; omega)) _) | (refine Below.grow ?_ (by first | (simp; done) | (simp; omega)) _ _) | refine Below.drew ?_ | refine Below.drewN ?_ _ | (refine Below.putF ?_ (by first | (simp; done) | omega | (simp; omega)) _) | (refine Below.setCell ?_ (by first | (simp; done) | (simp; omega)) _)))⟩
  · exact bodyPost_ret (v := .agg (row8 (cutB k.val (plen 1)))) (results_one Tryz.results139 (ResIs.row rfl agg_key (by rw [← C1.out]; simp [go_sem]))) rfl ⟨rfl, (by repeat (first | exact below_of_grow _ _ | exact Below.refl _ _ | exact below_more _ _ _ _ | (simp only [← Array.append_assoc]; first | exact below_more _ _ _ _ | exact below_same _ _ _ | exact Below.refl _ _) | exact below_same _ _ _ | (refine Below.alloc ?_ (by first | (simp; done) | (simp; omega)) _) | (refine Below.grow ?_ (by first | (simp; done) | (simp; omega)) _ _) | refine Below.drew ?_ | refine Below.drewN ?_ _ | (refine Below.putF ?_ (by first | (simp; done) | omega | (simp; omega)) _) | (refine Below.setCell ?_ (by first | (simp; done) | (simp; omega)) _)))⟩
  · exact bodyPost_ret (v := .agg (row8 (cutB k.val (plen 2)))) (results_one Tryz.results139 (ResIs.row rfl agg_key (by rw [← C2.out]; simp [go_sem]))) rfl ⟨rfl, (by repeat (first | exact below_of_grow _ _ | exact Below.refl _ _ | exact below_more _ _ _ _ | (simp only [← Array.append_assoc]; first | exact below_more _ _ _ _ | exact below_same _ _ _ | exact Below.refl _ _) | exact below_same _ _ _ | (refine Below.alloc ?_ (by first | (simp; done) | (simp; omega)) _) | (refine Below.grow ?_ (by first | (simp; done) | (simp; omega)) _ _) | refine Below.drew ?_ | refine Below.drewN ?_ _ | (refine Below.putF ?_ (by first | (simp; done) | omega | (simp; omega)) _) | (refine Below.setCell ?_ (by first | (simp; done) | (simp; omega)) _)))⟩
  · exact bodyPost_ret (v := .agg (row8 (cutB k.val (plen 3)))) (results_one Tryz.results139 (ResIs.row rfl agg_key (by rw [← C3.out]; simp [go_sem]))) rfl ⟨rfl, (by repeat (first | exact below_of_grow _ _ | exact Below.refl _ _ | exact below_more _ _ _ _ | (simp only [← Array.append_assoc]; first | exact below_more _ _ _ _ | exact below_same _ _ _ | exact Below.refl _ _) | exact below_same _ _ _ | (refine Below.alloc ?_ (by first | (simp; done) | (simp; omega)) _) | (refine Below.grow ?_ (by first | (simp; done) | (simp; omega)) _ _) | refine Below.drew ?_ | refine Below.drewN ?_ _ | (refine Below.putF ?_ (by first | (simp; done) | omega | (simp; omega)) _) | (refine Below.setCell ?_ (by first | (simp; done) | (simp; omega)) _)))⟩
  · exact bodyPost_ret (v := .agg (row8 (cutB k.val (plen 4)))) (results_one Tryz.results139 (ResIs.row rfl agg_key (by rw [← C4.out]; simp [go_sem]))) rfl ⟨rfl, (by repeat (first | exact below_of_grow _ _ | exact Below.refl _ _ | exact below_more _ _ _ _ | (simp only [← Array.append_assoc]; first | exact below_more _ _ _ _ | exact below_same _ _ _ | exact Below.refl _ _) | exact below_same _ _ _ | (refine Below.alloc ?_ (by first | (simp; done) | (simp; omega)) _) | (refine Below.grow ?_ (by first | (simp; done) | (simp; omega)) _ _) | refine Below.drew ?_ | refine Below.drewN ?_ _ | (refine Below.putF ?_ (by first | (simp; done) | omega | (simp; omega)) _) | (refine Below.setCell ?_ (by first | (simp; done) | (simp; omega)) _)))⟩
  · exact bodyPost_ret (v := .agg (row8 (cutB k.val (plen 5)))) (results_one Tryz.results139 (ResIs.row rfl agg_key (by rw [← C5.out]; simp [go_sem, k.property]))) rfl ⟨rfl, (by repeat (first | exact below_of_grow _ _ | exact Below.refl _ _ | exact below_more _ _ _ _ | (simp only [← Array.append_assoc]; first | exact below_more _ _ _ _ | exact below_same _ _ _ | exact Below.refl _ _) | exact below_same _ _ _ | (refine Below.alloc ?_ (by first | (simp; done) | (simp; omega)) _) | (refine Below.grow ?_ (by first | (simp; done) | (simp; omega)) _ _) | refine Below.drew ?_ | refine Below.drewN ?_ _ | (refine Below.putF ?_ (by first | (simp; done) | omega | (simp; omega)) _) | (refine Below.setCell ?_ (by first | (simp; done) | (simp; omega)) _)))⟩
def bPf (p q : Nat × Value) : Sem Value := Instr.build 52 #[p, q]
@[go_sem ↓ high] theorem bPref_eq (f : Nat × Operand → Nat × Value) (p q : Nat × Operand) : Instr.build 52 (Array.map f #[p, q]) = bPf (f p) (f q) := by simp [bPf]
@[go_sem] theorem bPref_run (k : K25) (d : Int) (w : World) : (bPf (0, .agg (row8 k.val)) (1, .int .i64 d)).run Tryz.prog w = .ok (.agg (prefA k d)) w := by
  unfold bPf
  refine build_of (zero := .agg (row8 (zeros 25) ++ #[.int .i64 0])) (places := #[(0, 25), (25, 1)]) (by intro w; exact (Tryz.zeroValue52 w).trans rfl) Tryz.underlying52 (by intro w; kernel_rfl) ?_
  have e0 : (Value.agg (row8 (zeros 25) ++ #[.int .i64 0])).cells = #[] ++ (row8 (zeros 25) ++ #[.int .i64 0]) := by simp [Value.cells]
  rw [e0, fill_one (off := 0) (size := 25) rfl rfl (by simp [Value.cells, k.property]) (by simp)]
  rw [show (row8 (zeros 25) ++ #[Value.int .i64 0]).extract 25 (row8 (zeros 25) ++ #[Value.int .i64 0]).size = #[.int .i64 0] from rfl]
  rw [fill_one (off := 25) (size := 1) rfl (by simp [Value.cells, k.property]) rfl (by simp), fill_none]
  refine congrArg some ?_
  rw [Array.extract_eq_empty_of_le (by simp), Array.append_empty, Array.empty_append]
  rfl
set_option maxHeartbeats 20000000 in
theorem has_gives (p k : K25) (d : Int) (w : World) : Gives Tryz.prog 111 #[.agg (prefA p d), .agg (row8 k.val)] w (.bool (hasB p d k)) := by
  have hr := pright_gives p d
  have hh : hasB p d k = (if prefR d = true then (cutB p.val (plen d) == cutB k.val (plen d)) else false) := by
    unfold hasB
    have he : decide (List.take (plen d) p.val = List.take (plen d) k.val) = (cutB p.val (plen d) == cutB k.val (plen d)) := by
      have := cutB_inj p.val k.val (plen d) p.property k.property
      by_cases h : cutB p.val (plen d) = cutB k.val (plen d)
      · rw [decide_eq_true (this.1 h), h]; simp
      · rw [decide_eq_false (fun e => h (this.2 e)), beq_eq_false_iff_ne.2 h]
    rw [he]
    cases prefR d <;> rfl
  generalize hasB p d k = e at *
  have hc : prefR d = true → 0 ≤ d ∧ d ≤ 5 := fun h => by unfold prefR at h; simpa using h
  generalize prefR d = r at *
  have HR := Lib.hid hr
  have HH := Lib.hid hh
  have kp := k.property
  clear hr hh
  cases r with
  | false =>
    have he := HH.out
    rw [if_neg (by decide)] at he
    subst he
    clear hc
    unfold Gives
    go_enter Tryz.func111, Tryz.ntmps111
    go_wp2_with fail
    apply wp_region_specs (by rfl) [.val _, .val _, .val _, .val _, .val _, .val _, .val _, .val _, .val _, .val _, .val _, .val _] 12 (by rfl) [5, 6, 7, 8, 9, 10, 11, 12, 13, 14, 15, 16] [] [] (by rfl) (by rfl) (by decide) (by decide +kernel) (fun _ _ _ _ _ h => h)
    case hF => intro x; simp only [over, List.foldl_cons, List.foldl_nil, List.setIfInBounds_toArray, List.set_cons_succ, List.set_cons_zero]; exact rfl
    case hops =>
      refine ⟨?o0, ?o1, ?o2, ?o3, ?o4, ?o5, ?o6, ?o7, ?o8, ?o9, ?o10, ?o11, trivial⟩
      case o0 =>
        intro x w1 hH K hK
        obtain ⟨xs, d, rfl⟩ := grow_of_below hH.below
        clear hH
        try simp only [World.grow_drew] at hK ⊢
        try simp only [World.grow_grow] at hK ⊢
        go_simp
        go_wp2_with fail
        exact ⟨_, rfl, rfl, (by repeat (first | exact below_of_grow _ _ | exact Below.refl _ _ | exact below_more _ _ _ _ | (simp only [← Array.append_assoc]; first | exact below_more _ _ _ _ | exact below_same _ _ _ | exact Below.refl _ _) | exact below_same _ _ _ | (refine Below.alloc ?_ (by first | (simp; done) | (simp; omega)) _) | (refine Below.grow ?_ (by first | (simp; done) | (simp; omega)) _ _) | refine Below.drew ?_ | refine Below.drewN ?_ _ | (refine Below.putF ?_ (by first | (simp; done) | omega | (simp; omega)) _) | (refine Below.setCell ?_ (by first | (simp; done) | (simp; omega)) _))), fun h => by cases h⟩
      case o1 =>
        intro x w1 hH K hK
        have e5 : x 5 = _ := hH.holds 0 (by decide) (by decide +kernel) 5 rfl
        obtain ⟨xs, d, rfl⟩ := grow_of_below hH.below
        clear hH
        try simp only [World.grow_drew] at hK ⊢
        try simp only [World.grow_grow] at hK ⊢
        simp only [e5] at hK ⊢
        clear e5
        go_simp
        go_wp2_with (refine Gives.use (HR.out _) ?_; intro ys e)
        exact ⟨_, rfl, rfl, (by first | exact below_more _ _ _ _ | exact (by repeat (first | exact below_of_grow _ _ | exact Below.refl _ _ | exact below_more _ _ _ _ | (simp only [← Array.append_assoc]; first | exact below_more _ _ _ _ | exact below_same _ _ _ | exact Below.refl _ _) | exact below_same _ _ _ | (refine Below.alloc ?_ (by first | (simp; done) | (simp; omega)) _) | (refine Below.grow ?_ (by first | (simp; done) | (simp; omega)) _ _) | refine Below.drew ?_ | refine Below.drewN ?_ _ | (refine Below.putF ?_ (by first | (simp; done) | omega | (simp; omega)) _) | (refine Below.setCell ?_ (by first | (simp; done) | (simp; omega)) _)))), fun h => by cases h⟩
      case o2 =>
        intro x w1 hH K hK
        have e6 : x 6 = _ := hH.holds 1 (by decide) (by decide +kernel) 6 rfl
        obtain ⟨xs, d, rfl⟩ := grow_of_below hH.below
        clear hH
        try simp only [World.grow_drew] at hK ⊢
        try simp only [World.grow_grow] at hK ⊢
        simp only [e6] at hK ⊢
        clear e6
        go_simp
        go_wp2_with fail
        exact ⟨_, rfl, rfl, (by repeat (first | exact below_of_grow _ _ | exact Below.refl _ _ | exact below_more _ _ _ _ | (simp only [← Array.append_assoc]; first | exact below_more _ _ _ _ | exact below_same _ _ _ | exact Below.refl _ _) | exact below_same _ _ _ | (refine Below.alloc ?_ (by first | (simp; done) | (simp; omega)) _) | (refine Below.grow ?_ (by first | (simp; done) | (simp; omega)) _ _) | refine Below.drew ?_ | refine Below.drewN ?_ _ | (refine Below.putF ?_ (by first | (simp; done) | omega | (simp; omega)) _) | (refine Below.setCell ?_ (by first | (simp; done) | (simp; omega)) _))), fun h => by cases h⟩
      case o3 =>
        intro x w1 hH K hK
        have e7 : x 7 = _ := hH.holds 2 (by decide) (by decide +kernel) 7 rfl
        obtain ⟨xs, d, rfl⟩ := grow_of_below hH.below
        clear hH
        try simp only [World.grow_drew] at hK ⊢
        try simp only [World.grow_grow] at hK ⊢
        simp only [e7] at hK ⊢
        clear e7
        go_simp
        go_wp2_with fail
        exact ⟨_, rfl, rfl, (by repeat (first | exact below_of_grow _ _ | exact Below.refl _ _ | exact below_more _ _ _ _ | (simp only [← Array.append_assoc]; first | exact below_more _ _ _ _ | exact below_same _ _ _ | exact Below.refl _ _) | exact below_same _ _ _ | (refine Below.alloc ?_ (by first | (simp; done) | (simp; omega)) _) | (refine Below.grow ?_ (by first | (simp; done) | (simp; omega)) _ _) | refine Below.drew ?_ | refine Below.drewN ?_ _ | (refine Below.putF ?_ (by first | (simp; done) | omega | (simp; omega)) _) | (refine Below.setCell ?_ (by first | (simp; done) | (simp; omega)) _))), fun h => by cases h⟩
      case o4 =>
        intro x w1 hH K hK
        have e7 : x 7 = _ := hH.holds 2 (by decide) (by decide +kernel) 7 rfl
        have e8 : x 8 = _ := hH.holds 3 (by decide) (by decide +kernel) 8 rfl
        obtain ⟨xs, d, rfl⟩ := grow_of_below hH.below
        clear hH
        try simp only [World.grow_drew] at hK ⊢
        try simp only [World.grow_grow] at hK ⊢
        simp only [e7, e8] at hK ⊢
        clear e7 e8
        go_simp
        go_wp2_with fail
        exact ⟨_, rfl, rfl, (by repeat (first | exact below_of_grow _ _ | exact Below.refl _ _ | exact below_more _ _ _ _ | (simp only [← Array.append_assoc]; first | exact below_more _ _ _ _ | exact below_same _ _ _ | exact Below.refl _ _) | exact below_same _ _ _ | (refine Below.alloc ?_ (by first | (simp; done) | (simp; omega)) _) | (refine Below.grow ?_ (by first | (simp; done) | (simp; omega)) _ _) | refine Below.drew ?_ | refine Below.drewN ?_ _ | (refine Below.putF ?_ (by first | (simp; done) | omega | (simp; omega)) _) | (refine Below.setCell ?_ (by first | (simp; done) | (simp; omega)) _))), fun h => by cases h⟩
      case o5 =>
        intro x w1 hH K hK
        have e7 : x 7 = _ := hH.holds 2 (by decide) (by decide +kernel) 7 rfl
        obtain ⟨xs, d, rfl⟩ := grow_of_below hH.below
        clear hH
        try simp only [World.grow_drew] at hK ⊢
        try simp only [World.grow_grow] at hK ⊢
        simp only [e7] at hK ⊢
        clear e7
        go_simp
        go_wp2_with fail
        exact ⟨_, rfl, rfl, (by repeat (first | exact below_of_grow _ _ | exact Below.refl _ _ | exact below_more _ _ _ _ | (simp only [← Array.append_assoc]; first | exact below_more _ _ _ _ | exact below_same _ _ _ | exact Below.refl _ _) | exact below_same _ _ _ | (refine Below.alloc ?_ (by first | (simp; done) | (simp; omega)) _) | (refine Below.grow ?_ (by first | (simp; done) | (simp; omega)) _ _) | refine Below.drew ?_ | refine Below.drewN ?_ _ | (refine Below.putF ?_ (by first | (simp; done) | omega | (simp; omega)) _) | (refine Below.setCell ?_ (by first | (simp; done) | (simp; omega)) _))), fun h => by cases h⟩
      case o6 =>
        intro x w1 hH K hK
        have e7 : x 7 = _ := hH.holds 2 (by decide) (by decide +kernel) 7 rfl
        obtain ⟨xs, d, rfl⟩ := grow_of_below hH.below
        clear hH
        try simp only [World.grow_drew] at hK ⊢
        try simp only [World.grow_grow] at hK ⊢
        simp only [e7] at hK ⊢
        clear e7
        go_simp
        go_wp2_with fail
        exact ⟨_, rfl, rfl, (by repeat (first | exact below_of_grow _ _ | exact Below.refl _ _ | exact below_more _ _ _ _ | (simp only [← Array.append_assoc]; first | exact below_more _ _ _ _ | exact below_same _ _ _ | exact Below.refl _ _) | exact below_same _ _ _ | (refine Below.alloc ?_ (by first | (simp; done) | (simp; omega)) _) | (refine Below.grow ?_ (by first | (simp; done) | (simp; omega)) _ _) | refine Below.drew ?_ | refine Below.drewN ?_ _ | (refine Below.putF ?_ (by first | (simp; done) | omega | (simp; omega)) _) | (refine Below.setCell ?_ (by first | (simp; done) | (simp; omega)) _))), fun h => by cases h⟩
      case o7 =>
        intro x w1 hH K hK
        have e7 : x 7 = _ := hH.holds 2 (by decide) (by decide +kernel) 7 rfl
        have e11 : x 11 = _ := hH.holds 6 (by decide) (by decide +kernel) 11 rfl
        obtain ⟨xs, d, rfl⟩ := grow_of_below hH.below
        clear hH
        try simp only [World.grow_drew] at hK ⊢
        try simp only [World.grow_grow] at hK ⊢
        simp only [e7, e11] at hK ⊢
        clear e7 e11
        go_simp
        go_wp2_with fail
        exact ⟨_, rfl, rfl, (by repeat (first | exact below_of_grow _ _ | exact Below.refl _ _ | exact below_more _ _ _ _ | (simp only [← Array.append_assoc]; first | exact below_more _ _ _ _ | exact below_same _ _ _ | exact Below.refl _ _) | exact below_same _ _ _ | (refine Below.alloc ?_ (by first | (simp; done) | (simp; omega)) _) | (refine Below.grow ?_ (by first | (simp; done) | (simp; omega)) _ _) | refine Below.drew ?_ | refine Below.drewN ?_ _ | (refine Below.putF ?_ (by first | (simp; done) | omega | (simp; omega)) _) | (refine Below.setCell ?_ (by first | (simp; done) | (simp; omega)) _))), fun h => by cases h⟩
      case o8 =>
        intro x w1 hH K hK
        have e7 : x 7 = _ := hH.holds 2 (by decide) (by decide +kernel) 7 rfl
        have e10 : x 10 = _ := hH.holds 5 (by decide) (by decide +kernel) 10 rfl
        have e12 : x 12 = _ := hH.holds 7 (by decide) (by decide +kernel) 12 rfl
        obtain ⟨xs, d, rfl⟩ := grow_of_below hH.below
        clear hH
        try simp only [World.grow_drew] at hK ⊢
        try simp only [World.grow_grow] at hK ⊢
        simp only [e7, e10, e12] at hK ⊢
        clear e7 e10 e12
        go_simp
        go_wp2_with fail
        exact ⟨_, rfl, rfl, (by repeat (first | exact below_of_grow _ _ | exact Below.refl _ _ | exact below_more _ _ _ _ | (simp only [← Array.append_assoc]; first | exact below_more _ _ _ _ | exact below_same _ _ _ | exact Below.refl _ _) | exact below_same _ _ _ | (refine Below.alloc ?_ (by first | (simp; done) | (simp; omega)) _) | (refine Below.grow ?_ (by first | (simp; done) | (simp; omega)) _ _) | refine Below.drew ?_ | refine Below.drewN ?_ _ | (refine Below.putF ?_ (by first | (simp; done) | omega | (simp; omega)) _) | (refine Below.setCell ?_ (by first | (simp; done) | (simp; omega)) _))), fun h => by cases h⟩
      case o9 =>
        intro x w1 hH K hK
        have e7 : x 7 = _ := hH.holds 2 (by decide) (by decide +kernel) 7 rfl
        have e13 : x 13 = _ := hH.holds 8 (by decide) (by decide +kernel) 13 rfl
        obtain ⟨xs, d, rfl⟩ := grow_of_below hH.below
        clear hH
        try simp only [World.grow_drew] at hK ⊢
        try simp only [World.grow_grow] at hK ⊢
        simp only [e7, e13] at hK ⊢
        clear e7 e13
        go_simp
        go_wp2_with fail
        exact ⟨_, rfl, rfl, (by repeat (first | exact below_of_grow _ _ | exact Below.refl _ _ | exact below_more _ _ _ _ | (simp only [← Array.append_assoc]; first | exact below_more _ _ _ _ | exact below_same _ _ _ | exact Below.refl _ _) | exact below_same _ _ _ | (refine Below.alloc ?_ (by first | (simp; done) | (simp; omega)) _) | (refine Below.grow ?_ (by first | (simp; done) | (simp; omega)) _ _) | refine Below.drew ?_ | refine Below.drewN ?_ _ | (refine Below.putF ?_ (by first | (simp; done) | omega | (simp; omega)) _) | (refine Below.setCell ?_ (by first | (simp; done) | (simp; omega)) _))), fun h => by cases h⟩
      case o10 =>
        intro x w1 hH K hK
        have e7 : x 7 = _ := hH.holds 2 (by decide) (by decide +kernel) 7 rfl
        have e9 : x 9 = _ := hH.holds 4 (by decide) (by decide +kernel) 9 rfl
        have e14 : x 14 = _ := hH.holds 9 (by decide) (by decide +kernel) 14 rfl
        obtain ⟨xs, d, rfl⟩ := grow_of_below hH.below
        clear hH
        try simp only [World.grow_drew] at hK ⊢
        try simp only [World.grow_grow] at hK ⊢
        simp only [e7, e9, e14] at hK ⊢
        clear e7 e9 e14
        go_simp
        go_wp2_with fail
        exact ⟨_, rfl, rfl, (by repeat (first | exact below_of_grow _ _ | exact Below.refl _ _ | exact below_more _ _ _ _ | (simp only [← Array.append_assoc]; first | exact below_more _ _ _ _ | exact below_same _ _ _ | exact Below.refl _ _) | exact below_same _ _ _ | (refine Below.alloc ?_ (by first | (simp; done) | (simp; omega)) _) | (refine Below.grow ?_ (by first | (simp; done) | (simp; omega)) _ _) | refine Below.drew ?_ | refine Below.drewN ?_ _ | (refine Below.putF ?_ (by first | (simp; done) | omega | (simp; omega)) _) | (refine Below.setCell ?_ (by first | (simp; done) | (simp; omega)) _))), fun h => by cases h⟩
      case o11 =>
        intro x w1 hH K hK
        have e7 : x 7 = _ := hH.holds 2 (by decide) (by decide +kernel) 7 rfl
        have e15 : x 15 = _ := hH.holds 10 (by decide) (by decide +kernel) 15 rfl
        obtain ⟨xs, d, rfl⟩ := grow_of_below hH.below
        clear hH
        try simp only [World.grow_drew] at hK ⊢
        try simp only [World.grow_grow] at hK ⊢
        simp only [e7, e15] at hK ⊢
        clear e7 e15
        go_simp
        go_wp2_with fail
        exact ⟨_, rfl, rfl, (by repeat (first | exact below_of_grow _ _ | exact Below.refl _ _ | exact below_more _ _ _ _ | (simp only [← Array.append_assoc]; first | exact below_more _ _ _ _ | exact below_same _ _ _ | exact Below.refl _ _) | exact below_same _ _ _ | (refine Below.alloc ?_ (by first | (simp; done) | (simp; omega)) _) | (refine Below.grow ?_ (by first | (simp; done) | (simp; omega)) _ _) | refine Below.drew ?_ | refine Below.drewN ?_ _ | (refine Below.putF ?_ (by first | (simp; done) | omega | (simp; omega)) _) | (refine Below.setCell ?_ (by first | (simp; done) | (simp; omega)) _))), fun h => by cases h⟩
    case hend =>
      intro x w1 hH
      have e5 : x 5 = _ := hH.holds 0 (by decide) trivial 5 rfl
      have e6 : x 6 = _ := hH.holds 1 (by decide) trivial 6 rfl
      have e7 : x 7 = _ := hH.holds 2 (by decide) trivial 7 rfl
      have e8 : x 8 = _ := hH.holds 3 (by decide) trivial 8 rfl
      have e9 : x 9 = _ := hH.holds 4 (by decide) trivial 9 rfl
      have e10 : x 10 = _ := hH.holds 5 (by decide) trivial 10 rfl
      have e11 : x 11 = _ := hH.holds 6 (by decide) trivial 11 rfl
      have e12 : x 12 = _ := hH.holds 7 (by decide) trivial 12 rfl
      have e13 : x 13 = _ := hH.holds 8 (by decide) trivial 13 rfl
      have e14 : x 14 = _ := hH.holds 9 (by decide) trivial 14 rfl
      have e15 : x 15 = _ := hH.holds 10 (by decide) trivial 15 rfl
      have e16 : x 16 = _ := hH.holds 11 (by decide) trivial 16 rfl
      obtain ⟨xs, d, rfl⟩ := grow_of_below hH.below
      clear hH
      simp only [e5, e6, e7, e8, e9, e10, e11, e12, e13, e14, e15, e16]; clear e5 e6 e7 e8 e9 e10 e11 e12 e13 e14 e15 e16
      simp only [List.drop_succ_cons, List.drop_zero]
      go_wp2_with fail
      go_ret
      exact ⟨rfl, (by repeat (first | exact below_of_grow _ _ | exact Below.refl _ _ | exact below_more _ _ _ _ | (simp only [← Array.append_assoc]; first | exact below_more _ _ _ _ | exact below_same _ _ _ | exact Below.refl _ _) | exact below_same _ _ _ | (refine Below.alloc ?_ (by first | (simp; done) | (simp; omega)) _) | (refine Below.grow ?_ (by first | (simp; done) | (simp; omega)) _ _) | refine Below.drew ?_ | refine Below.drewN ?_ _ | (refine Below.putF ?_ (by first | (simp; done) | omega | (simp; omega)) _) | (refine Below.setCell ?_ (by first | (simp; done) | (simp; omega)) _)))⟩
  | true =>
    have he := HH.out
    rw [if_pos rfl] at he
    have hcp := cut_gives p d (hc rfl)
    have hck := cut_gives k d (hc rfl)
    have hl1 := cutB_len p.val (plen d) p.property (plen_le d (hc rfl).2)
    have hl2 := cutB_len k.val (plen d) k.property (plen_le d (hc rfl).2)
    clear hc
    generalize cutB p.val (plen d) = c1 at *
    generalize cutB k.val (plen d) = c2 at *
    subst he
    have HP := Lib.hid hcp
    have HK := Lib.hid hck
    clear hcp hck
    unfold Gives
    go_enter Tryz.func111, Tryz.ntmps111
    go_wp2_with fail
    apply wp_region_specs (by rfl) [.val _, .val _, .val _, .val _, .val _, .val _, .val _, .val _, .val _, .val _, .val _, .val _] 12 (by rfl) [5, 6, 7, 8, 9, 10, 11, 12, 13, 14, 15, 16] [] [] (by rfl) (by rfl) (by decide) (by decide +kernel) (fun _ _ _ _ _ h => h)
    case hF => intro x; simp only [over, List.foldl_cons, List.foldl_nil, List.setIfInBounds_toArray, List.set_cons_succ, List.set_cons_zero]; exact rfl
    case hops =>
      refine ⟨?o0, ?o1, ?o2, ?o3, ?o4, ?o5, ?o6, ?o7, ?o8, ?o9, ?o10, ?o11, trivial⟩
      case o0 =>
        intro x w1 hH K hK
        obtain ⟨xs, d, rfl⟩ := grow_of_below hH.below
        clear hH
        try simp only [World.grow_drew] at hK ⊢
        try simp only [World.grow_grow] at hK ⊢
        go_simp
        go_wp2_with fail
        exact ⟨_, rfl, rfl, (by repeat (first | exact below_of_grow _ _ | exact Below.refl _ _ | exact below_more _ _ _ _ | (simp only [← Array.append_assoc]; first | exact below_more _ _ _ _ | exact below_same _ _ _ | exact Below.refl _ _) | exact below_same _ _ _ | (refine Below.alloc ?_ (by first | (simp; done) | (simp; omega)) _) | (refine Below.grow ?_ (by first | (simp; done) | (simp; omega)) _ _) | refine Below.drew ?_ | refine Below.drewN ?_ _ | (refine Below.putF ?_ (by first | (simp; done) | omega | (simp; omega)) _) | (refine Below.setCell ?_ (by first | (simp; done) | (simp; omega)) _))), fun h => by cases h⟩
      case o1 =>
        intro x w1 hH K hK
        have e5 : x 5 = _ := hH.holds 0 (by decide) (by decide +kernel) 5 rfl
        obtain ⟨xs, d, rfl⟩ := grow_of_below hH.below
        clear hH
        try simp only [World.grow_drew] at hK ⊢
        try simp only [World.grow_grow] at hK ⊢
        simp only [e5] at hK ⊢
        clear e5
        go_simp
        go_wp2_with (refine Gives.use (HR.out _) ?_; intro ys e)
        exact ⟨_, rfl, rfl, (by first | exact below_more _ _ _ _ | exact (by repeat (first | exact below_of_grow _ _ | exact Below.refl _ _ | exact below_more _ _ _ _ | (simp only [← Array.append_assoc]; first | exact below_more _ _ _ _ | exact below_same _ _ _ | exact Below.refl _ _) | exact below_same _ _ _ | (refine Below.alloc ?_ (by first | (simp; done) | (simp; omega)) _) | (refine Below.grow ?_ (by first | (simp; done) | (simp; omega)) _ _) | refine Below.drew ?_ | refine Below.drewN ?_ _ | (refine Below.putF ?_ (by first | (simp; done) | omega | (simp; omega)) _) | (refine Below.setCell ?_ (by first | (simp; done) | (simp; omega)) _)))), fun h => by cases h⟩
      case o2 =>
        intro x w1 hH K hK
        have e6 : x 6 = _ := hH.holds 1 (by decide) (by decide +kernel) 6 rfl
        obtain ⟨xs, d, rfl⟩ := grow_of_below hH.below
        clear hH
        try simp only [World.grow_drew] at hK ⊢
        try simp only [World.grow_grow] at hK ⊢
        simp only [e6] at hK ⊢
        clear e6
        go_simp
        go_wp2_with fail
        exact ⟨_, rfl, rfl, (by repeat (first | exact below_of_grow _ _ | exact Below.refl _ _ | exact below_more _ _ _ _ | (simp only [← Array.append_assoc]; first | exact below_more _ _ _ _ | exact below_same _ _ _ | exact Below.refl _ _) | exact below_same _ _ _ | (refine Below.alloc ?_ (by first | (simp; done) | (simp; omega)) _) | (refine Below.grow ?_ (by first | (simp; done) | (simp; omega)) _ _) | refine Below.drew ?_ | refine Below.drewN ?_ _ | (refine Below.putF ?_ (by first | (simp; done) | omega | (simp; omega)) _) | (refine Below.setCell ?_ (by first | (simp; done) | (simp; omega)) _))), fun h => by cases h⟩
      case o3 =>
        intro x w1 hH K hK
        have e7 : x 7 = _ := hH.holds 2 (by decide) (by decide +kernel) 7 rfl
        obtain ⟨xs, d, rfl⟩ := grow_of_below hH.below
        clear hH
        try simp only [World.grow_drew] at hK ⊢
        try simp only [World.grow_grow] at hK ⊢
        simp only [e7] at hK ⊢
        clear e7
        go_simp
        go_wp2_with fail
        exact ⟨_, rfl, rfl, (by repeat (first | exact below_of_grow _ _ | exact Below.refl _ _ | exact below_more _ _ _ _ | (simp only [← Array.append_assoc]; first | exact below_more _ _ _ _ | exact below_same _ _ _ | exact Below.refl _ _) | exact below_same _ _ _ | (refine Below.alloc ?_ (by first | (simp; done) | (simp; omega)) _) | (refine Below.grow ?_ (by first | (simp; done) | (simp; omega)) _ _) | refine Below.drew ?_ | refine Below.drewN ?_ _ | (refine Below.putF ?_ (by first | (simp; done) | omega | (simp; omega)) _) | (refine Below.setCell ?_ (by first | (simp; done) | (simp; omega)) _))), fun h => by cases h⟩
      case o4 =>
        intro x w1 hH K hK
        have e7 : x 7 = _ := hH.holds 2 (by decide) (by decide +kernel) 7 rfl
        have e8 : x 8 = _ := hH.holds 3 (by decide) (by decide +kernel) 8 rfl
        obtain ⟨xs, d, rfl⟩ := grow_of_below hH.below
        clear hH
        try simp only [World.grow_drew] at hK ⊢
        try simp only [World.grow_grow] at hK ⊢
        simp only [e7, e8] at hK ⊢
        clear e7 e8
        go_simp
        go_wp2_with (refine Gives.use (HP.out _) ?_; intro ys e)
        exact ⟨_, rfl, rfl, (by first | exact below_more _ _ _ _ | exact (by repeat (first | exact below_of_grow _ _ | exact Below.refl _ _ | exact below_more _ _ _ _ | (simp only [← Array.append_assoc]; first | exact below_more _ _ _ _ | exact below_same _ _ _ | exact Below.refl _ _) | exact below_same _ _ _ | (refine Below.alloc ?_ (by first | (simp; done) | (simp; omega)) _) | (refine Below.grow ?_ (by first | (simp; done) | (simp; omega)) _ _) | refine Below.drew ?_ | refine Below.drewN ?_ _ | (refine Below.putF ?_ (by first | (simp; done) | omega | (simp; omega)) _) | (refine Below.setCell ?_ (by first | (simp; done) | (simp; omega)) _)))), fun h => by cases h⟩
      case o5 =>
        intro x w1 hH K hK
        have e7 : x 7 = _ := hH.holds 2 (by decide) (by decide +kernel) 7 rfl
        obtain ⟨xs, d, rfl⟩ := grow_of_below hH.below
        clear hH
        try simp only [World.grow_drew] at hK ⊢
        try simp only [World.grow_grow] at hK ⊢
        simp only [e7] at hK ⊢
        clear e7
        go_simp
        go_wp2_with fail
        exact ⟨_, rfl, rfl, (by repeat (first | exact below_of_grow _ _ | exact Below.refl _ _ | exact below_more _ _ _ _ | (simp only [← Array.append_assoc]; first | exact below_more _ _ _ _ | exact below_same _ _ _ | exact Below.refl _ _) | exact below_same _ _ _ | (refine Below.alloc ?_ (by first | (simp; done) | (simp; omega)) _) | (refine Below.grow ?_ (by first | (simp; done) | (simp; omega)) _ _) | refine Below.drew ?_ | refine Below.drewN ?_ _ | (refine Below.putF ?_ (by first | (simp; done) | omega | (simp; omega)) _) | (refine Below.setCell ?_ (by first | (simp; done) | (simp; omega)) _))), fun h => by cases h⟩
      case o6 =>
        intro x w1 hH K hK
        have e7 : x 7 = _ := hH.holds 2 (by decide) (by decide +kernel) 7 rfl
        obtain ⟨xs, d, rfl⟩ := grow_of_below hH.below
        clear hH
        try simp only [World.grow_drew] at hK ⊢
        try simp only [World.grow_grow] at hK ⊢
        simp only [e7] at hK ⊢
        clear e7
        go_simp
        go_wp2_with fail
        exact ⟨_, rfl, rfl, (by repeat (first | exact below_of_grow _ _ | exact Below.refl _ _ | exact below_more _ _ _ _ | (simp only [← Array.append_assoc]; first | exact below_more _ _ _ _ | exact below_same _ _ _ | exact Below.refl _ _) | exact below_same _ _ _ | (refine Below.alloc ?_ (by first | (simp; done) | (simp; omega)) _) | (refine Below.grow ?_ (by first | (simp; done) | (simp; omega)) _ _) | refine Below.drew ?_ | refine Below.drewN ?_ _ | (refine Below.putF ?_ (by first | (simp; done) | omega | (simp; omega)) _) | (refine Below.setCell ?_ (by first | (simp; done) | (simp; omega)) _))), fun h => by cases h⟩
      case o7 =>
        intro x w1 hH K hK
        have e7 : x 7 = _ := hH.holds 2 (by decide) (by decide +kernel) 7 rfl
        have e11 : x 11 = _ := hH.holds 6 (by decide) (by decide +kernel) 11 rfl
        obtain ⟨xs, d, rfl⟩ := grow_of_below hH.below
        clear hH
        try simp only [World.grow_drew] at hK ⊢
        try simp only [World.grow_grow] at hK ⊢
        simp only [e7, e11] at hK ⊢
        clear e7 e11
        go_simp
        go_wp2_with fail
        exact ⟨_, rfl, rfl, (by repeat (first | exact below_of_grow _ _ | exact Below.refl _ _ | exact below_more _ _ _ _ | (simp only [← Array.append_assoc]; first | exact below_more _ _ _ _ | exact below_same _ _ _ | exact Below.refl _ _) | exact below_same _ _ _ | (refine Below.alloc ?_ (by first | (simp; done) | (simp; omega)) _) | (refine Below.grow ?_ (by first | (simp; done) | (simp; omega)) _ _) | refine Below.drew ?_ | refine Below.drewN ?_ _ | (refine Below.putF ?_ (by first | (simp; done) | omega | (simp; omega)) _) | (refine Below.setCell ?_ (by first | (simp; done) | (simp; omega)) _))), fun h => by cases h⟩
      case o8 =>
        intro x w1 hH K hK
        have e7 : x 7 = _ := hH.holds 2 (by decide) (by decide +kernel) 7 rfl
        have e10 : x 10 = _ := hH.holds 5 (by decide) (by decide +kernel) 10 rfl
        have e12 : x 12 = _ := hH.holds 7 (by decide) (by decide +kernel) 12 rfl
        obtain ⟨xs, d, rfl⟩ := grow_of_below hH.below
        clear hH
        try simp only [World.grow_drew] at hK ⊢
        try simp only [World.grow_grow] at hK ⊢
        simp only [e7, e10, e12] at hK ⊢
        clear e7 e10 e12
        go_simp
        go_wp2_with fail
        exact ⟨_, rfl, rfl, (by repeat (first | exact below_of_grow _ _ | exact Below.refl _ _ | exact below_more _ _ _ _ | (simp only [← Array.append_assoc]; first | exact below_more _ _ _ _ | exact below_same _ _ _ | exact Below.refl _ _) | exact below_same _ _ _ | (refine Below.alloc ?_ (by first | (simp; done) | (simp; omega)) _) | (refine Below.grow ?_ (by first | (simp; done) | (simp; omega)) _ _) | refine Below.drew ?_ | refine Below.drewN ?_ _ | (refine Below.putF ?_ (by first | (simp; done) | omega | (simp; omega)) _) | (refine Below.setCell ?_ (by first | (simp; done) | (simp; omega)) _))), fun h => by cases h⟩
      case o9 =>
        intro x w1 hH K hK
        have e7 : x 7 = _ := hH.holds 2 (by decide) (by decide +kernel) 7 rfl
        have e13 : x 13 = _ := hH.holds 8 (by decide) (by decide +kernel) 13 rfl
        obtain ⟨xs, d, rfl⟩ := grow_of_below hH.below
        clear hH
        try simp only [World.grow_drew] at hK ⊢
        try simp only [World.grow_grow] at hK ⊢
        simp only [e7, e13] at hK ⊢
        clear e7 e13
        go_simp
        go_wp2_with (refine Gives.use (HK.out _) ?_; intro ys e)
        exact ⟨_, rfl, rfl, (by first | exact below_more _ _ _ _ | exact (by repeat (first | exact below_of_grow _ _ | exact Below.refl _ _ | exact below_more _ _ _ _ | (simp only [← Array.append_assoc]; first | exact below_more _ _ _ _ | exact below_same _ _ _ | exact Below.refl _ _) | exact below_same _ _ _ | (refine Below.alloc ?_ (by first | (simp; done) | (simp; omega)) _) | (refine Below.grow ?_ (by first | (simp; done) | (simp; omega)) _ _) | refine Below.drew ?_ | refine Below.drewN ?_ _ | (refine Below.putF ?_ (by first | (simp; done) | omega | (simp; omega)) _) | (refine Below.setCell ?_ (by first | (simp; done) | (simp; omega)) _)))), fun h => by cases h⟩
      case o10 =>
        intro x w1 hH K hK
        have e7 : x 7 = _ := hH.holds 2 (by decide) (by decide +kernel) 7 rfl
        have e9 : x 9 = _ := hH.holds 4 (by decide) (by decide +kernel) 9 rfl
        have e14 : x 14 = _ := hH.holds 9 (by decide) (by decide +kernel) 14 rfl
        obtain ⟨xs, d, rfl⟩ := grow_of_below hH.below
        clear hH
        try simp only [World.grow_drew] at hK ⊢
        try simp only [World.grow_grow] at hK ⊢
        simp only [e7, e9, e14] at hK ⊢
        clear e7 e9 e14
        go_simp
        go_wp2_with fail
        exact ⟨_, rfl, rfl, (by repeat (first | exact below_of_grow _ _ | exact Below.refl _ _ | exact below_more _ _ _ _ | (simp only [← Array.append_assoc]; first | exact below_more _ _ _ _ | exact below_same _ _ _ | exact Below.refl _ _) | exact below_same _ _ _ | (refine Below.alloc ?_ (by first | (simp; done) | (simp; omega)) _) | (refine Below.grow ?_ (by first | (simp; done) | (simp; omega)) _ _) | refine Below.drew ?_ | refine Below.drewN ?_ _ | (refine Below.putF ?_ (by first | (simp; done) | omega | (simp; omega)) _) | (refine Below.setCell ?_ (by first | (simp; done) | (simp; omega)) _))), fun h => by cases h⟩
      case o11 =>
        intro x w1 hH K hK
        have e7 : x 7 = _ := hH.holds 2 (by decide) (by decide +kernel) 7 rfl
        have e15 : x 15 = _ := hH.holds 10 (by decide) (by decide +kernel) 15 rfl
        obtain ⟨xs, d, rfl⟩ := grow_of_below hH.below
        clear hH
        try simp only [World.grow_drew] at hK ⊢
        try simp only [World.grow_grow] at hK ⊢
        simp only [e7, e15] at hK ⊢
        clear e7 e15
        go_simp
        go_wp2_with fail
        exact ⟨_, rfl, rfl, (by repeat (first | exact below_of_grow _ _ | exact Below.refl _ _ | exact below_more _ _ _ _ | (simp only [← Array.append_assoc]; first | exact below_more _ _ _ _ | exact below_same _ _ _ | exact Below.refl _ _) | exact below_same _ _ _ | (refine Below.alloc ?_ (by first | (simp; done) | (simp; omega)) _) | (refine Below.grow ?_ (by first | (simp; done) | (simp; omega)) _ _) | refine Below.drew ?_ | refine Below.drewN ?_ _ | (refine Below.putF ?_ (by first | (simp; done) | omega | (simp; omega)) _) | (refine Below.setCell ?_ (by first | (simp; done) | (simp; omega)) _))), fun h => by cases h⟩
    case hend =>
      intro x w1 hH
      have e5 : x 5 = _ := hH.holds 0 (by decide) trivial 5 rfl
      have e6 : x 6 = _ := hH.holds 1 (by decide) trivial 6 rfl
      have e7 : x 7 = _ := hH.holds 2 (by decide) trivial 7 rfl
      have e8 : x 8 = _ := hH.holds 3 (by decide) trivial 8 rfl
      have e9 : x 9 = _ := hH.holds 4 (by decide) trivial 9 rfl
      have e10 : x 10 = _ := hH.holds 5 (by decide) trivial 10 rfl
      have e11 : x 11 = _ := hH.holds 6 (by decide) trivial 11 rfl
      have e12 : x 12 = _ := hH.holds 7 (by decide) trivial 12 rfl
      have e13 : x 13 = _ := hH.holds 8 (by decide) trivial 13 rfl
      have e14 : x 14 = _ := hH.holds 9 (by decide) trivial 14 rfl
      have e15 : x 15 = _ := hH.holds 10 (by decide) trivial 15 rfl
      have e16 : x 16 = _ := hH.holds 11 (by decide) trivial 16 rfl
      obtain ⟨xs, d, rfl⟩ := grow_of_below hH.below
      clear hH
      simp only [e5, e6, e7, e8, e9, e10, e11, e12, e13, e14, e15, e16]; clear e5 e6 e7 e8 e9 e10 e11 e12 e13 e14 e15 e16
      simp only [List.drop_succ_cons, List.drop_zero]
      go_wp2_with fail
      go_ret
      exact ⟨rfl, (by repeat (first | exact below_of_grow _ _ | exact Below.refl _ _ | exact below_more _ _ _ _ | (simp only [← Array.append_assoc]; first | exact below_more _ _ _ _ | exact below_same _ _ _ | exact Below.refl _ _) | exact below_same _ _ _ | (refine Below.alloc ?_ (by first | (simp; done) | (simp; omega)) _) | (refine Below.grow ?_ (by first | (simp; done) | (simp; omega)) _ _) | refine Below.drew ?_ | refine Below.drewN ?_ _ | (refine Below.putF ?_ (by first | (simp; done) | omega | (simp; omega)) _) | (refine Below.setCell ?_ (by first | (simp; done) | (simp; omega)) _)))⟩
end Go.Proofs.YtfgpcflegodlmaaGreatDoor
namespace Go.Proofs.YtfgpcflegodlmaaGreatDoor
set_option maxRecDepth 100000
open Go.RowKit

/-- some bytes lie at a slice, in blocks below B -/
def SlB (w : World) (B : Nat) (v : Value) (l : List UInt8) : Prop := ∃ a cap, v = .slice a l.length cap ∧ l.length ≤ cap ∧ cap ≤ maxLen ∧ (0 < l.length → ∃ b o, a = some ⟨b, o, none⟩ ∧ b < B ∧ w.cut? b o l.length = some (row8 l))
theorem SlB.nil (w : World) (B : Nat) : SlB w B (.slice none 0 0) [] := ⟨none, 0, rfl, Nat.le_refl _, by unfold maxLen; decide, fun h => absurd h (by simp)⟩
theorem SlB.keep {w w' : World} {B : Nat} {v : Value} {l : List UInt8} (h : SlB w B v l) (hb : ∀ b, b < B → w'.heap[b]? = w.heap[b]?) : SlB w' B v l := by
  obtain ⟨a, cap, h1, h2, h3, h4⟩ := h
  refine ⟨a, cap, h1, h2, h3, fun hp => ?_⟩
  obtain ⟨b, o, g1, g2, g3⟩ := h4 hp
  exact ⟨b, o, g1, g2, (cut_of_heap (hb b g2) _ _).trans g3⟩
theorem SlB.more {w : World} {B B' : Nat} {v : Value} {l : List UInt8} (h : SlB w B v l) (hB : B ≤ B') : SlB w B' v l := by
  obtain ⟨a, cap, h1, h2, h3, h4⟩ := h
  refine ⟨a, cap, h1, h2, h3, fun hp => ?_⟩
  obtain ⟨b, o, g1, g2, g3⟩ := h4 hp
  exact ⟨b, o, g1, by omega, g3⟩
/-- a text of bytes -/
theorem SlB.text {w : World} {B : Nat} {v : Value} {l : List UInt8} (h : SlB w B v l) : (convert 213 9 v).run Tryz.prog w = .ok (.string (bs l)) w := by
  obtain ⟨a, cap, rfl, h2, h3, h4⟩ := h
  rcases Nat.eq_zero_or_pos l.length with h0 | h0
  · have hl : l = [] := List.eq_nil_of_length_eq_zero h0
    subst hl
    cases a with
    | none => exact run_convert_bytes_nil w 213 5 Tryz.underlying213 Tryz.underlying5 _ _ _ Tryz.underlying9
    | some ad =>
      have := run_convert_bytes_back (P := Tryz.prog) w 213 9 5 ad cap [] Tryz.underlying213 Tryz.underlying5 Tryz.underlying9 (fun j hj => absurd hj (by simp))
      simpa [bs] using this
  · obtain ⟨b, o, rfl, _, hc⟩ := h4 h0
    have hr := run_convert_bytes_back (P := Tryz.prog) w 213 9 5 ⟨b, o, none⟩ cap l Tryz.underlying213 Tryz.underlying5 Tryz.underlying9 (fun j hj => by
      rw [addr_add, (cut_spec hc).2 j hj, row8_get l j hj, byt_get hj])
    exact hr
theorem sl_fixed {w : World} {a o n : Nat} {l : List UInt8} (hl : l.length = n) (h : w.cut? a o n = some (row8 l)) {k cap : Nat} (hk : k ≤ n) (hcap : n ≤ cap) (hm : cap ≤ maxLen) : SlB w (a + 1) (.slice (some ⟨a, o, none⟩) k cap) (l.take k) := by
  have hkl : (l.take k).length = k := by simp; omega
  refine ⟨_, cap, by rw [hkl], by omega, hm, fun _ => ⟨a, o, rfl, by omega, ?_⟩⟩
  rw [hkl]
  have := cut_sub (i := 0) (m := k) h (by omega)
  rw [Nat.add_zero, Nat.zero_add, row8_extract] at this
  simpa using this
theorem equal_gives {w : World} {B B' : Nat} {u v : Value} {l m : List UInt8} (h : SlB w B u l) (h' : SlB w B' v m) : Gives Tryz.prog 165 #[u, v] w (.bool (l == m)) := by
  have h1 := h.text
  have h2 := h'.text
  clear h h'
  unfold Gives
  go_enter Tryz.func165, Tryz.ntmps165
  go_wp2_with fail
  go_ret
  exact ⟨by simp, (by repeat (first | exact below_of_grow _ _ | exact Below.refl _ _ | exact below_more _ _ _ _ | (simp only [← Array.append_assoc]; first | exact below_more _ _ _ _ | exact below_same _ _ _ | exact Below.refl _ _) | exact below_same _ _ _ | (refine Below.alloc ?_ (by first | (simp; done) | (simp; omega)) _) | (refine Below.grow ?_ (by first | (simp; done) | (simp; omega)) _ _) | refine Below.drew ?_ | refine Below.drewN ?_ _ | (refine Below.putF ?_ (by first | (simp; done) | omega | (simp; omega)) _) | (refine Below.setCell ?_ (by first | (simp; done) | (simp; omega)) _)))⟩
theorem hasPrefix_gives {w : World} {a o B' : Nat} {v : Value} {l m : List UInt8} (hl : l.length = 25) (h : w.cut? a o 25 = some (row8 l)) (hm : m.length ≤ 25) (h' : SlB w B' v m) (hB : B' ≤ w.heap.size) :
    Gives Tryz.prog 135 #[.slice (some ⟨a, o, none⟩) 25 25, v] w (.bool (decide (l.take m.length = m))) := by
  have ha : a < w.heap.size := by
    rcases Nat.lt_or_ge a w.heap.size with g | g
    · exact g
    · unfold World.cut? at h; rw [Array.getElem?_eq_none g] at h; cases h
  have hs := sl_fixed (k := m.length) (cap := 25) hl h hm (Nat.le_refl _) (by unfold maxLen; decide)
  have hE := fun (xs : Array Obj) (d : Nat) => equal_gives (w := w.grow xs d) (hs.keep fun b hb => World.grow_heap _ _ _ (by omega)) (h'.keep fun b hb => World.grow_heap _ _ _ (by omega))
  have hE0 := equal_gives hs h'
  have hv : decide (l.take m.length = m) = (l.take m.length == m) := by
    by_cases e : l.take m.length = m
    · simp [e]
    · simp [e]
  rw [hv]
  generalize (l.take m.length == m) = r at *
  obtain ⟨av, cap, rfl, h2, h3, _⟩ := h'
  generalize m.length = n at *
  have hn : (n : Int) ≤ 25 := by omega
  have HE := Lib.hid hE
  have HE0 := Lib.hid hE0
  clear hE hE0 hs h hv hl
  unfold Gives
  go_enter Tryz.func135, Tryz.ntmps135
  go_wp2_with fail
  refine Gives.use HE0.out ?_
  intro xs d
  go_wp2_with fail
  go_ret
  exact ⟨rfl, (by repeat (first | exact below_of_grow _ _ | exact Below.refl _ _ | exact below_more _ _ _ _ | (simp only [← Array.append_assoc]; first | exact below_more _ _ _ _ | exact below_same _ _ _ | exact Below.refl _ _) | exact below_same _ _ _ | (refine Below.alloc ?_ (by first | (simp; done) | (simp; omega)) _) | (refine Below.grow ?_ (by first | (simp; done) | (simp; omega)) _ _) | refine Below.drew ?_ | refine Below.drewN ?_ _ | (refine Below.putF ?_ (by first | (simp; done) | omega | (simp; omega)) _) | (refine Below.setCell ?_ (by first | (simp; done) | (simp; omega)) _)))⟩
/-- what a prefix's keys begin with -/
def frontB (p : K25) (d : Int) : List UInt8 := if prefR d = true then p.val.take (plen d) else []
theorem row_byte : RowType Tryz.prog 213 5 1 1 := ⟨Tryz.underlying213, by kernel_rfl, by decide, by decide⟩
def one8 (b : UInt8) : Array Value := #[.int .u8 (b.toNat : Int)]
theorem SlB.ones {w : World} {B : Nat} {v : Value} {l : List UInt8} (h : SlB w B v l) : SlA w B 1 v (l.map one8) := by
  obtain ⟨a, cap, rfl, h2, h3, h4⟩ := h
  refine ⟨fun x hx => ?_, a, cap, by rw [List.length_map], by rw [List.length_map]; exact h2, h3, fun hp => ?_⟩
  · obtain ⟨b, _, rfl⟩ := List.mem_map.1 hx; rfl
  · rw [List.length_map] at hp
    obtain ⟨b, o, rfl, hb, hc⟩ := h4 hp
    refine ⟨b, o, rfl, hb, fun i x hx => ?_⟩
    rw [List.getElem?_map, Option.map_eq_some_iff] at hx
    obtain ⟨y, hy, rfl⟩ := hx
    have hi := (List.getElem?_eq_some_iff.1 hy).1
    have := cut_sub (i := i) (m := 1) hc (by omega)
    rw [Nat.mul_one, this, row8_extract]
    refine congrArg some ?_
    have hd : (l.take (i + 1)).drop i = [y] := by
      rw [List.drop_take, Nat.add_sub_cancel_left, List.drop_eq_getElem_cons hi]
      rw [List.getElem?_eq_getElem hi] at hy
      rw [Option.some.inj hy]; rfl
    rw [hd]; rfl
theorem SlA.bytes {w : World} {B : Nat} {v : Value} {l : List UInt8} (h : SlA w B 1 v (l.map one8)) : SlB w B v l := by
  obtain ⟨_, a, cap, rfl, h2, h3, h4⟩ := h
  rw [List.length_map] at h2 h4 ⊢
  refine ⟨a, cap, rfl, h2, h3, fun hp => ?_⟩
  obtain ⟨b, o, rfl, hb, hc⟩ := h4 hp
  refine ⟨b, o, rfl, hb, ?_⟩
  have hc' : ∀ i, i < l.length → w.cut? b (o + i) 1 = some (one8 (byt l i)) := by
    intro i hi
    have := hc i (one8 (byt l i)) (by rw [List.getElem?_map, List.getElem?_eq_getElem hi, byt_get hi]; rfl)
    rwa [Nat.mul_one] at this
  clear hc h4
  unfold World.cut? at hc' ⊢
  cases hw : w.heap[b]? with
  | none => have := hc' 0 hp; rw [hw] at this; cases this
  | some ob =>
    rw [hw] at hc'
    cases ob with
    | cells c t fr =>
      simp only at hc' ⊢
      have hsz : ∀ i, i < l.length → o + i + 1 ≤ c.size ∧ c.extract (o + i) (o + i + 1) = one8 (byt l i) := by
        intro i hi
        have := hc' i hi
        by_cases hle : o + i + 1 ≤ c.size
        · rw [if_pos hle] at this; exact ⟨hle, Option.some.inj this⟩
        · rw [if_neg hle] at this; cases this
      have hl := (hsz (l.length - 1) (by omega)).1
      rw [if_pos (by omega)]
      refine congrArg some ?_
      apply Array.ext_getElem?
      intro i
      by_cases hi : i < l.length
      · rw [row8_get l i hi, Array.getElem?_extract_of_lt (by omega)]
        have hs := hsz i hi
        have := congrArg (fun q => q[0]?) hs.2
        simp only [Array.getElem?_extract_of_lt (show 0 < min (o + i + 1) c.size - (o + i) by omega)] at this
        exact this
      · rw [Array.getElem?_eq_none (by simp; omega), Array.getElem?_eq_none (by simp; omega)]
    | _ => have := hc' 0 hp; cases this
theorem all_one8 (l : List UInt8) : ∀ x ∈ l.map one8, allOne x = true := by
  intro x hx; obtain ⟨b, _, rfl⟩ := List.mem_map.1 hx; simp [allOne, one8, Value.oneCell']
theorem clone_calls {w : World} {B b n cap : Nat} {l : List UInt8} (hn : l.length = n) (hl : n ≤ 25) (h : SlB w B (.slice (some ⟨b, 0, none⟩) n cap) l) (hB : B ≤ w.heap.size) :
    Calls Tryz.prog 140 #[.slice (some ⟨b, 0, none⟩) n cap] w fun e w' => ∃ v, e = .returned v ∧ SlB w' w'.heap.size v l ∧ Below w.heap.size w w' := by
  have hq : ∀ (w : World) (a : Option Addr) (n c n' c' : Nat), (binOp .eql 213 (.slice a n c) (.slice none n' c')).run Tryz.prog w = .ok (.bool a.isNone) w := fun w a n c n' c' => Lib.run_eql_slice_nil w _ _ a n c n' c' Tryz.underlying213
  have HS := Lib.hid (h.keep (w' := w.alloc (.cells #[] 5)) fun b hb => heap_alloc_old (w := w) _ (by omega)).ones
  have HL := Lib.hid (And.intro hn hl)
  clear h hn hl
  go_enter Tryz.func140, Tryz.ntmps140
  go_wp2_with (at_builtin; refine wpList_append (B := w.heap.size) (xs := []) (ys := l.map one8) row_byte rfl (.tmp 5) (.tmp 6) rfl rfl ?_ rfl ⟨_, HS.out⟩ (all_one8 l) ?_ ?_ ?_)
  case refine_1 => exact own_empty ((heap_al _ _ _).trans (if_pos rfl)) (Nat.le_refl _)
  case refine_2 => have := HL.out; simp; omega
  case refine_3 => simp
  intro v3 w3 ho hg _
  have hb3 : Below w.heap.size w w3 := Below.grown (((Below.refl _ w).alloc (Nat.le_refl _) _)) hg (by simp) (fun q hq => by simp [Value.ownBlock] at hq; omega)
  have HO := Lib.hid (And.intro (SlA.bytes (by simpa using ho.sl)) hb3)
  clear ho hg hb3
  go_wp2_with fail
  go_ret
  exact ⟨_, rfl, HO.out.1, HO.out.2⟩
end Go.Proofs.YtfgpcflegodlmaaGreatDoor
namespace Go.Proofs.YtfgpcflegodlmaaGreatDoor
set_option maxRecDepth 100000
open Go.RowKit

theorem plen_take (p : List UInt8) (n : Nat) : (cutB p n).take n = p.take n ++ (zeros (25 - n)).take (n - (p.take n).length) := by
  unfold cutB
  rw [List.take_append, List.take_take, Nat.min_self]
theorem front_take (p : K25) (n : Nat) (hn : n ≤ 25) : (cutB p.val n).take n = p.val.take n := by
  rw [plen_take]
  have : (p.val.take n).length = n := by rw [List.length_take, p.property]; omega
  rw [this, Nat.sub_self, List.take_zero, List.append_nil]
set_option maxHeartbeats 8000000 in
theorem front_calls (p : K25) (d : Int) (w : World) : Calls Tryz.prog 110 #[.agg (prefA p d)] w fun e w' => ∃ v, e = .returned v ∧ SlB w' w'.heap.size v (frontB p d) ∧ Below w.heap.size w w' := by
  have HR := Lib.hid (pright_gives p d)
  by_cases hd : prefR d = true
  · have h05 : 0 ≤ d ∧ d ≤ 5 := of_decide_eq_true hd
    have HC := Lib.hid (cut_gives p d h05)
    have HF := Lib.hid (show frontB p d = p.val.take (plen d) from if_pos hd)
    have hpl := plen_le d h05.2
    have hcl := cutB_len p.val (plen d) p.property hpl
    have HB := Lib.hid (keyBytes_gives _ hcl)
    have HT := Lib.hid (front_take p (plen d) hpl)
    have HL := Lib.hid hcl
    obtain ⟨n, hn⟩ : ∃ n, n = plen d := ⟨_, rfl⟩
    rw [← hn] at HC HF hpl HB HT HL
    have hcase : (d = 4 ∧ n = 15) ∨ (d = 5 ∧ n = 25) ∨ (¬ d = 4 ∧ ¬ d = 5 ∧ d = n) := by
      rw [hn]; unfold plen
      by_cases h1 : d < 4
      · rw [if_pos h1]; omega
      · rw [if_neg h1]
        by_cases h2 : d < 5
        · rw [if_pos h2]; omega
        · rw [if_neg h2]; omega
    obtain ⟨l, hl⟩ : ∃ l, l = cutB p.val n := ⟨_, rfl⟩
    rw [← hl] at HC HB HT HL
    clear hl hn hcl
    have hll := HL.out
    go_enter Tryz.func110, Tryz.ntmps110
    go_wp2_with fail
    refine Gives.use (HR.out _) ?_
    intro xs1 d1
    clear HR
    go_wp2_with fail
    refine Gives.use (HC.out _) ?_
    intro xs2 d2
    go_wp2_with fail
    refine Gives.use (HB.out _) ?_
    intro xs3 d3
    clear HC HB
    have hnI : (n : Int) ≤ 25 := by omega
    rcases hcase with ⟨rfl, rfl⟩ | ⟨rfl, rfl⟩ | ⟨h4, h5, rfl⟩
    all_goals
      go_wp2_with fail
      refine (clone_calls (by rw [List.length_take, hll]; omega) (by omega) (sl_fixed hll (cut_heap ((heap_al _ _ _).trans (if_pos (by simp <;> omega))) (by simp [hll])) (by omega) (by omega) (by unfold maxLen; decide)) (by simp <;> omega)).mono ?_
      rintro e w9 ⟨v, rfl, hv, hb⟩
      have HV := Lib.hid (And.intro hv hb)
      clear hv hb
      go_wp2_with fail
      go_ret
      exact ⟨v, rfl, by rw [HF.out, ← HT.out]; exact HV.out.1, Below.trans (by exact (by repeat (first | exact below_of_grow _ _ | exact Below.refl _ _ | exact below_more _ _ _ _ | (simp only [← Array.append_assoc]; first | exact below_more _ _ _ _ | exact below_same _ _ _ | exact Below.refl _ _) | exact below_same _ _ _ | (refine Below.alloc ?_ (by first | (simp; done) | (simp; omega)) _) | (refine Below.grow ?_ (by first | (simp; done) | (simp; omega)) _ _) | refine Below.drew ?_ | refine Below.drewN ?_ _ | (refine Below.putF ?_ (by first | (simp; done) | omega | (simp; omega)) _) | (refine Below.setCell ?_ (by first | (simp; done) | (simp; omega)) _)))) (HV.out.2.mono (by simp <;> omega))⟩
  · have hdf : prefR d = false := by cases h : prefR d; rfl; exact absurd h hd
    have HF := Lib.hid (show frontB p d = [] from if_neg hd)
    clear hd
    rw [hdf] at HR
    go_enter Tryz.func110, Tryz.ntmps110
    go_wp2_with fail
    refine Gives.use (HR.out _) ?_
    intro xs1 d1
    go_wp2_with fail
    go_ret
    exact ⟨_, rfl, by rw [HF.out]; exact SlB.nil _ _, (by repeat (first | exact below_of_grow _ _ | exact Below.refl _ _ | exact below_more _ _ _ _ | (simp only [← Array.append_assoc]; first | exact below_more _ _ _ _ | exact below_same _ _ _ | exact Below.refl _ _) | exact below_same _ _ _ | (refine Below.alloc ?_ (by first | (simp; done) | (simp; omega)) _) | (refine Below.grow ?_ (by first | (simp; done) | (simp; omega)) _ _) | refine Below.drew ?_ | refine Below.drewN ?_ _ | (refine Below.putF ?_ (by first | (simp; done) | omega | (simp; omega)) _) | (refine Below.setCell ?_ (by first | (simp; done) | (simp; omega)) _)))⟩
end Go.Proofs.YtfgpcflegodlmaaGreatDoor
namespace Go.Proofs.YtfgpcflegodlmaaGreatDoor.Rd
open Go.RowKit

def preCheck (ops : Array Oper) (n : Nat) (ds pures : List Nat) : Bool :=
  decide (n ≤ ops.size) &&
  ((List.range ops.size).all fun i => (preds ops i).all fun j => decide (j < i)) &&
  ((List.range ops.size).all fun i => decide (i < n) || ((List.range i).all fun j => pures.contains j || (past ops 9 i).contains j)) &&
  ((List.range n).all fun i => match dstOf ops i with | some d => ds.contains d && ((List.range n).all fun j => decide (i = j) || dstOf ops j != some d) | none => true) &&
  (Region.noSelect ops && pures.all fun i => decide (i < n) && match ops[i]? with
    | some oi => oi.dst.isSome && (List.range ops.size).all fun j => decide (j = i) || (past ops 9 i).contains j || (preds ops j).contains i || (match ops[j]? with | some oj => oi.apart ops oj | none => true)
    | none => false)

/-- no operation is a defer statement -/
def noDefer (ops : Array Oper) : Bool := ops.toList.all fun o => match o.op with | .defer _ => false | _ => true
theorem noDefer_spec {ops : Array Oper} (h : noDefer ops = true) {i : Nat} {o : Oper} (ho : ops[i]? = some o) : ∀ c, o.op ≠ .defer c := by
  intro c hc
  have := List.all_eq_true.1 h o (Array.mem_toList_iff.2 (Array.mem_of_getElem? ho))
  rw [hc] at this
  cases this
/-- every function is let in, no depth is asked -/
def IsWide (F : Fence) : Prop := F = Fence.wide ∨ ∃ l, F = Fence.wide.inRound l
theorem IsWide.fn {F : Fence} (h : IsWide F) (f : FuncId) : F.fn f := by
  rcases h with rfl | ⟨l, rfl⟩
  · exact trivial
  · exact trivial
theorem IsWide.depth {F : Fence} (h : IsWide F) : F.depth = none := by
  rcases h with rfl | ⟨l, rfl⟩
  · rfl
  · rfl
theorem callsIn_any {F : Fence} (hw : IsWide F) {n : Nat} {P : Program} {f : FuncId} {args : Array Value} {w : World} {R : Ending → World → Prop} (h : Calls P f args w R) : CallsIn F n P f args w R := by
  have h1 : CallsIn Fence.wide n P f args w R := callsIn_wide.2 h
  rcases hw with rfl | ⟨l, rfl⟩
  · exact h1
  · exact CallsIn.inRound l h1
/-- rows of externs in a fence -/
theorem rowsIn_any {F : Fence} (hw : IsWide F) {n : Nat} {P : Program} {row : String} {args : Array Value} {w : World} {R : Value → World → Prop} (h : Rows P row args w R) : RowsIn F n P row args w R := by
  intro c cs hr
  obtain ⟨v, w', hv, hs⟩ := h c cs
  have h1 : StepsIn (Machine.fenced P Fence.wide) P (lone (Frame.ofRow P row args .normal) (c :: cs) w) (lone (c.finish v) cs w') := stepsIn_wide.2 hs
  rcases hw with rfl | ⟨l, rfl⟩
  · exact ⟨v, w', hv, h1⟩
  · exact ⟨v, w', hv, h1⟩
theorem oper_in {F : Fence} (hw : IsWide F) {n : Nat} {P : Program} {o : Oper} {a : Act} {w : World} {K : Act → World → Prop} {Q : Exit → Act → World → Prop} (hd : ∀ c, o.op ≠ .defer c) (h : o.wp P a w K Q) : o.wpIn F n P a w K Q := by
  refine ⟨fun f _ => hw.fn f, ?_⟩
  rw [Oper.semAt_plain F _ _ hd]
  unfold Oper.wp at h
  have hds : ∀ k : Nat, (F.depth.isSome = true → 1 ≤ k) := fun k e => by rw [hw.depth] at e; cases e
  generalize (execOp a.eval o).run P w = r at *
  cases r with
  | ok x w' =>
    cases x <;> simp only [Oper.upon, Oper.uponIn] at h ⊢ <;>
      first
        | exact h
        | exact ⟨hds _, callsIn_any hw h⟩
        | exact ⟨hds _, rowsIn_any hw h⟩
  | halt x w' => cases x <;> simp only [Oper.upon, Oper.uponIn] at h ⊢ <;> exact h
section
variable {FF : Fence} {nn : Nat} {P : Program} {ops : Array Oper} {Q : Exit → Act → World → Prop}

/-- what operation i leaves, from a frame x and a world w: its value v, which meets R, in a world that has grown; a new block's number is a new one -/
def Left (ops : Array Oper) (base : Array Value) (df : List Deferred) (ds : List Nat) (news : List Nat) (R : Nat → Value → World → Prop) (i : Nat) (x : Nat → Value) (w : World) (a' : Act) (w' : World) : Prop :=
  ∃ v, a' = (⟨over base ds x, df⟩ : Act).put (dstOf ops i) v ∧ R i v w' ∧ Below w.heap.size w w' ∧ (i ∈ news → ∃ b, v = .pointer (some ⟨b, 0, none⟩) ∧ w.heap.size ≤ b ∧ b < w'.heap.size)

/-- the frame x and the world w behind the operations that are listed -/
structure Held (ops : Array Oper) (n : Nat) (ds news : List Nat) (R : Nat → Value → World → Prop) (w0 : World) (L : Nat → Prop) (x : Nat → Value) (w : World) : Prop where
  below : Below w0.heap.size w0 w
  holds : ∀ i, i < n → L i → ∀ d, dstOf ops i = some d → R i (x d) w
  new : ∀ i ∈ news, i < n → L i → ∀ d, dstOf ops i = some d → ∃ b, x d = .pointer (some ⟨b, 0, none⟩) ∧ b < w.heap.size
  apart : ∀ i ∈ news, ∀ j ∈ news, i < n → j < n → L i → L j → i ≠ j → ∀ d e, dstOf ops i = some d → dstOf ops j = some e → x d ≠ x e

theorem Held.next {n : Nat} {ds news : List Nat} {R : Nat → Value → World → Prop} {w0 : World} {L : Nat → Prop} {x : Nat → Value} {w w' : World} {v : Value} {i : Nat}
    (h : Held ops n ds news R w0 L x w) (hi : i < n) (hL : ¬ L i)
    (hst : ∀ i v w w', R i v w → Below w.heap.size w w' → R i v w')
    (hnd : ∀ j, j < n → j ≠ i → ∀ d, dstOf ops i = some d → dstOf ops j ≠ some d)
    (hR : R i v w') (hb : Below w.heap.size w w') (hnew : i ∈ news → ∃ b, v = .pointer (some ⟨b, 0, none⟩) ∧ w.heap.size ≤ b ∧ b < w'.heap.size) :
    Held ops n ds news R w0 (fun j => j = i ∨ L j) (match dstOf ops i with | some d => upd x d v | none => x) w' := by
  have hxo : ∀ j, j < n → j ≠ i → ∀ e, dstOf ops j = some e → (match dstOf ops i with | some d => upd x d v | none => x) e = x e := by
    intro j hj hji e he
    cases hd : dstOf ops i with
    | none => rfl
    | some d => exact upd_other _ _ (fun e' => hnd j hj hji d hd (e' ▸ he))
  have hxi : ∀ d, dstOf ops i = some d → (match dstOf ops i with | some d => upd x d v | none => x) d = v := by
    intro d hd; rw [hd]; simp
  refine ⟨h.below.trans (hb.mono h.below.size), ?_, ?_, ?_⟩
  · intro j hj hl d hd
    by_cases hji : j = i
    · subst hji; rw [hxi d hd]; exact hR
    · rw [hxo j hj hji d hd]; exact hst j _ w w' (h.holds j hj (hl.resolve_left hji) d hd) hb
  · intro j hjn hj hl d hd
    by_cases hji : j = i
    · subst hji; rw [hxi d hd]; obtain ⟨b, e, _, hb2⟩ := hnew hjn; exact ⟨b, e, hb2⟩
    · rw [hxo j hj hji d hd]; obtain ⟨b, e, hb2⟩ := h.new j hjn hj (hl.resolve_left hji) d hd; exact ⟨b, e, Nat.lt_of_lt_of_le hb2 hb.size⟩
  · intro j hjn k hkn hj hk hlj hlk hjk d e hd he
    by_cases hji : j = i
    · subst hji
      have hkj : k ≠ j := fun e' => hjk e'.symm
      rw [hxi d hd, hxo k hk hkj e he]
      obtain ⟨b, rfl, hb1, _⟩ := hnew hjn
      obtain ⟨c, ec, hc⟩ := h.new k hkn hk (hlk.resolve_left hkj) e he
      rw [ec]; intro hcon; injection hcon with hcon; injection hcon with hcon; injection hcon with hcon; omega
    · by_cases hki : k = i
      · subst hki
        rw [hxi e he, hxo j hj hji d hd]
        obtain ⟨b, rfl, hb1, _⟩ := hnew hkn
        obtain ⟨c, ec, hc⟩ := h.new j hjn hj (hlj.resolve_left hji) d hd
        rw [ec]; intro hcon; injection hcon with hcon; injection hcon with hcon; injection hcon with hcon; omega
      · rw [hxo j hj hji d hd, hxo k hk hki e he]
        exact h.apart j hjn k hkn hj hk (hlj.resolve_left hji) (hlk.resolve_left hki) hjk d e hd he

theorem count_set {l : Array Bool} {i : Nat} (hi : i < l.size) (hf : l[i]? = some false) : (l.setIfInBounds i true).toList.count false + 1 = l.toList.count false := by
  have e1 : (l.setIfInBounds i true).toList = l.toList.set i true := by simp
  have hf' : l[i] = false := by simpa [hi] using hf
  rw [e1, List.count_set (by simpa using hi)]
  simp [hf']
  have : 0 < l.toList.count false := List.count_pos_iff.2 (Array.mem_toList_iff.2 (Array.mem_of_getElem? hf))
  rw [← Array.count_toList]
  omega

/-- THE RULE. 'n': how many operations come up in any order; 'ds': their slots; 'news': which of them make a block; 'pures': which of them may come behind later ones, for they yield their value in whatever world; 'R i': what the value of operation i meets, in every world that has grown.
One obligation an operation ('hops': from whatever frame and world in which what must precede it holds), and the rest of the region from whatever all of them have left ('hend'). -/
theorem wp_region_free {rid : Nat} {a : Act} {w : World} (hww : IsWide FF) (hdf : noDefer ops = true) (hm : P.follows .mixedOrders = true) (n : Nat) (ds news pures : List Nat) (hpe : pures = []) (R : Nat → Value → World → Prop)
    (hck : preCheck ops n ds pures = true)
    (_hQ : ∀ (s : Nat) v c a w, Q (.panic c) (a.put (some s) v) w → Q (.panic c) a w)
    (hst : ∀ i v w w', R i v w → Below w.heap.size w w' → R i v w')
    (hpure : ∀ i ∈ pures, i ∉ news ∧ ∀ o, ops[i]? = some o → ∀ x w1, Held ops n ds news R w.drew (fun j => j ∈ past ops 9 i) x w1 → ∃ v, Yields P ops o v ⟨over a.tmps ds x, a.defers⟩ ∧ R i v w1)
    (hops : ∀ i, i < n → i ∉ pures → ∀ o, ops[i]? = some o → ∀ x w1, Held ops n ds news R w.drew (fun j => j ∈ past ops 9 i) x w1 →
      ∀ K : Act → World → Prop, (∀ a' w', Left ops a.tmps a.defers ds news R i x w1 a' w' → K a' w') →
      if Region.wanted o (yielded ops (over a.tmps ds x)) = true then o.wp P ⟨over a.tmps ds x, a.defers⟩ w1 K Q else K ((⟨over a.tmps ds x, a.defers⟩ : Act).put o.dst undef) w1)
    (hend : ∀ x w1, Held ops n ds news R w.drew (fun _ => True) x w1 → wpListIn FF nn P ops Q (ops.toList.drop n) ⟨over a.tmps ds x, a.defers⟩ w1) :
    (Code.region rid ops true).wpIn FF nn P Q a w := by
  simp only [preCheck, Bool.and_eq_true, List.all_eq_true, List.mem_range, Bool.or_eq_true, decide_eq_true_eq] at hck
  obtain ⟨⟨⟨⟨hn, hlt⟩, htail⟩, hds⟩, hnosel, hpu⟩ := hck
  have hmem : ∀ i, i < n → ∀ d, dstOf ops i = some d → d ∈ ds := by
    intro i hi d hd
    have := hds i hi
    rw [hd] at this
    simp only [Bool.and_eq_true] at this
    simpa using this.1
  have hnd : ∀ i, i < n → ∀ j, j < n → j ≠ i → ∀ d, dstOf ops i = some d → dstOf ops j ≠ some d := by
    intro i hi j hj hji d hd he
    have := hds i hi
    rw [hd] at this
    simp only [Bool.and_eq_true, List.all_eq_true, List.mem_range, Bool.or_eq_true, decide_eq_true_eq] at this
    rcases this.2 j hj with e | e
    · exact hji e.symm
    · rw [he] at e; simp at e
  have htail' : ∀ i, i < ops.size → n ≤ i → ∀ j, j < i → j ∉ pures → j ∈ past ops 9 i := by
    intro i hi hni j hj hjp
    rcases htail i hi with h | h
    · omega
    · rcases h j hj with h | h
      · exact (hjp (by simpa using h)).elim
      · simpa using h
  -- the invariant
  let Clo : Array Bool → Prop := fun l => ∀ j, l[j]? = some true → ∀ p ∈ preds ops j, l[p]? = some true
  let PA : Array Bool → Act → World → Prop := fun l a' w' => (∀ t, n ≤ t → t < ops.size → l[t]? = some false) ∧ (∃ i, i < n ∧ l[i]? = some false) ∧
    ∃ x, a' = ⟨over a.tmps ds x, a.defers⟩ ∧ Held ops n ds news R w.drew (fun j => l[j]? = some true) x w'
  let PB : Array Bool → Act → World → Prop := fun l a' w' => ∃ k, n ≤ k ∧ k ≤ ops.size ∧ (∀ j, j < k → l[j]? = some true) ∧ (∀ j, k ≤ j → j < ops.size → l[j]? = some false) ∧ wpListIn FF nn P ops Q (ops.toList.drop k) a' w'
  let Inv : Array Bool → Act → World → Prop := fun l a' w' => l.size = ops.size ∧ Clo l ∧ (PA l a' w' ∨ PB l a' w')
  have enterB : ∀ (l : Array Bool) x w', (∀ t, n ≤ t → t < ops.size → l[t]? = some false) → (∀ j, j < n → l[j]? = some true) →
      Held ops n ds news R w.drew (fun j => l[j]? = some true) x w' → PB l ⟨over a.tmps ds x, a.defers⟩ w' := by
    intro l x w' h1 h2 h3
    refine ⟨n, Nat.le_refl _, hn, h2, h1, hend x w' ⟨h3.below, fun i hi _ => h3.holds i hi (h2 i hi), fun i him hi _ => h3.new i him hi (h2 i hi), fun i him j hjm hi hj _ _ => h3.apart i him j hjm hi hj (h2 i hi) (h2 j hj)⟩⟩
  have leastReady : ∀ (l : Array Bool) k, k < ops.size → l[k]? = some false → (∀ j, j < k → l[j]? = some true) → k ∈ Region.ready .any ops l := by
    intro l k hk h1 h2
    exact ready_of (ops := ops) hk h1 (fun p hp => h2 p (hlt k hk p hp))
  have least : ∀ (l : Array Bool) m, l.size = ops.size → m < ops.size → l[m]? = some false → ∃ k, k ≤ m ∧ l[k]? = some false ∧ ∀ j, j < k → l[j]? = some true := by
    intro l m hl
    induction m using Nat.strongRecOn with
    | ind m ih =>
      intro hm1 hm2
      by_cases hex : ∃ j, j < m ∧ l[j]? = some false
      · obtain ⟨j, hj, hjf⟩ := hex
        obtain ⟨k, hk, hk2⟩ := ih j hj (by omega) hjf
        exact ⟨k, by omega, hk2⟩
      · refine ⟨m, Nat.le_refl _, hm2, fun j hj => ?_⟩
        have hjs : j < l.size := by omega
        cases hb : l[j] with
        | true => simp [hjs, hb]
        | false => exact (hex ⟨j, hj, by simp [hjs, hb]⟩).elim
  have setClo : ∀ (l : Array Bool) i, Clo l → (∀ p ∈ preds ops i, l[p]? = some true) → Clo (l.setIfInBounds i true) := by
    intro l i hc hp j hj p hpj
    have keep : ∀ q : Nat, l[q]? = some true → (l.setIfInBounds i true)[q]? = some true := by
      intro q hq
      by_cases hqi : i = q
      · subst hqi
        have : i < l.size := by
          rcases Nat.lt_or_ge i l.size with h | h
          · exact h
          · rw [Array.getElem?_eq_none h] at hq; cases hq
        rw [Array.getElem?_setIfInBounds_self_of_lt this]
      · rw [Array.getElem?_setIfInBounds_ne hqi]; exact hq
    by_cases hji : i = j
    · subst hji; exact keep p (hp p hpj)
    · rw [Array.getElem?_setIfInBounds_ne hji] at hj; exact keep p (hc j hj p hpj)
  -- behind operation i of the first n
  have next : ∀ (l : Array Bool) x w' i, l.size = ops.size → Clo l → (∀ t, n ≤ t → t < ops.size → l[t]? = some false) → Held ops n ds news R w.drew (fun j => l[j]? = some true) x w' →
      i < n → l[i]? = some false → (∀ p ∈ preds ops i, l[p]? = some true) → ∀ a1 w1, Left ops a.tmps a.defers ds news R i x w' a1 w1 → Inv (l.setIfInBounds i true) a1 w1 := by
    rintro l x w' i hl hc hT hH hin hfi hpi a1 w1 ⟨v, rfl, hR, hB, hnew⟩
    have hset : ∀ j, (l.setIfInBounds i true)[j]? = if j = i then some true else l[j]? := by
      intro j
      by_cases hji : j = i
      · subst hji; rw [if_pos rfl, Array.getElem?_setIfInBounds_self_of_lt (by omega)]
      · rw [if_neg hji, Array.getElem?_setIfInBounds_ne (fun e => hji e.symm)]
    have hc' := setClo l i hc hpi
    have hl' : (l.setIfInBounds i true).size = ops.size := by simpa using hl
    have hH' := hH.next (v := v) hin (by rw [hfi]; simp) hst (fun j hj hji d hd => hnd i hin j hj hji d hd) hR hB hnew
    have hfr : (⟨over a.tmps ds x, a.defers⟩ : Act).put (dstOf ops i) v = ⟨over a.tmps ds (match dstOf ops i with | some d => upd x d v | none => x), a.defers⟩ := by
      cases hd : dstOf ops i with
      | none => rfl
      | some d => simp only [Act.put]; rw [over_set v (hmem i hin d hd)]
    rw [hfr]
    have hH2 : Held ops n ds news R w.drew (fun j => (l.setIfInBounds i true)[j]? = some true) (match dstOf ops i with | some d => upd x d v | none => x) w1 := by
      have himp : ∀ j, (l.setIfInBounds i true)[j]? = some true → (j = i ∨ l[j]? = some true) := by
        intro j hj; rw [hset] at hj; by_cases hji : j = i
        · exact .inl hji
        · rw [if_neg hji] at hj; exact .inr hj
      exact ⟨hH'.below, fun j hj hjl => hH'.holds j hj (himp j hjl), fun j hjm hj hjl => hH'.new j hjm hj (himp j hjl), fun j hjm k hkm hj hk hjl hkl => hH'.apart j hjm k hkm hj hk (himp j hjl) (himp k hkl)⟩
    refine ⟨hl', hc', ?_⟩
    have hT' : ∀ t, n ≤ t → t < ops.size → (l.setIfInBounds i true)[t]? = some false := by
      intro t ht1 ht2; rw [hset, if_neg (by omega)]; exact hT t ht1 ht2
    by_cases hall : ∃ j, j < n ∧ (l.setIfInBounds i true)[j]? = some false
    · exact .inl ⟨hT', hall, _, rfl, hH2⟩
    · refine .inr (enterB _ _ _ hT' (fun j hj => ?_) hH2)
      have hjs : j < (l.setIfInBounds i true).size := by omega
      cases hb : (l.setIfInBounds i true)[j] with
      | true => rw [Array.getElem?_eq_getElem hjs, hb]
      | false => exact (hall ⟨j, hj, by rw [Array.getElem?_eq_getElem hjs, hb]⟩).elim
  have main : ∀ (fuel : Nat) (l : Array Bool) (a' : Act) (w' : World), Inv l a' w' → l.toList.count false ≤ fuel → wpAnyIn FF nn P .any ops Q fuel l a' w' := by
    intro fuel
    induction fuel with
    | zero =>
      rintro l a' w' ⟨hl, hc, hAB⟩ hcnt
      have hnone : ∀ i : Nat, l[i]? ≠ some false := by
        intro i hi
        have h0 : l.toList.count false = 0 := by omega
        rw [List.count_eq_zero] at h0
        exact h0 (Array.mem_toList_iff.2 (Array.mem_of_getElem? hi))
      have hr : Region.ready .any ops l = [] := by
        rw [List.eq_nil_iff_forall_not_mem]
        intro i hi
        exact hnone i (ready_spec hl hi rfl).2.1
      refine ⟨hr, ?_⟩
      rcases hAB with ⟨_, ⟨m, hm1, hm2⟩, _⟩ | ⟨k, hk1, hk2, hk3, hk4, hW⟩
      · exact (hnone m hm2).elim
      · rcases Nat.lt_or_ge k ops.size with h | h
        · exact (hnone k (hk4 k (Nat.le_refl _) h)).elim
        · rw [List.drop_of_length_le (by simpa using h)] at hW
          exact hW
    | succ fuel ih =>
      rintro l a' w' ⟨hl, hc, hAB⟩ hcnt
      have hcnt' : ∀ i, i < ops.size → l[i]? = some false → (l.setIfInBounds i true).toList.count false ≤ fuel := by
        intro i hi hf
        have := count_set (l := l) (i := i) (by omega) hf
        omega
      rcases hAB with ⟨hT, ⟨m0, hm01, hm02⟩, x, rfl, hH⟩ | ⟨k, hk1, hk2, hk3, hk4, hW⟩
      · by_cases hp : ∃ i, i ∈ pures ∧ i ∈ Region.ready .any ops l
        · obtain ⟨i, hip, _⟩ := hp
          rw [hpe] at hip; cases hip
        · -- no pure one is ready: what is ready is one of the first n
          obtain ⟨m, hm1, hm2, hm3⟩ := least l m0 hl (by omega) hm02
          have hmr := leastReady l m (by omega) hm2 hm3
          have hmp : m ∉ pures := fun h => hp ⟨m, h, hmr⟩
          refine ⟨fun h => (by rw [h] at hmr; cases hmr), fun i hr => ?_⟩
          obtain ⟨hi, hfi, hpi⟩ := ready_spec hl hr rfl
          have hpast := past_true hc 9 i hpi
          have hip : i ∉ pures := fun h => hp ⟨i, h, hr⟩
          have ho : ops[i]? = some ops[i] := Array.getElem?_eq_getElem hi
          have hin : i < n := by
            rcases Nat.lt_or_ge i n with h | h
            · exact h
            · have := hpast m (htail' i hi h m (by omega) hmp)
              rw [hm2] at this; cases this
          have hHp : Held ops n ds news R w.drew (fun j => j ∈ past ops 9 i) x w' :=
            ⟨hH.below, fun j hj hjp => hH.holds j hj (hpast j hjp), fun j hjm hj hjp => hH.new j hjm hj (hpast j hjp), fun j hjm k hkm hj hk hjp hkp => hH.apart j hjm k hkm hj hk (hpast j hjp) (hpast k hkp)⟩
          have key := hops i hin hip _ ho x w' hHp (wpAnyIn FF nn P .any ops Q fuel (l.setIfInBounds i true))
            (fun a1 w1 hleft => ih _ _ _ (next l x w' i hl hc hT hH hin hfi hpi a1 w1 hleft) (hcnt' i hi hfi))
          unfold wpOpIn
          rw [ho]
          show if Region.wanted ops[i] (yielded ops (over a.tmps ds x)) = true then _ else _
          split
          · rename_i hw; rw [if_pos hw] at key; exact oper_in hww (noDefer_spec hdf ho) key
          · rename_i hw; rw [if_neg hw] at key; exact ⟨fun f _ => hww.fn f, key⟩
      · refine ⟨fun hnil => ?_, fun i hr => ?_⟩
        · rcases Nat.lt_or_ge k ops.size with h | h
          · have := leastReady l k h (hk4 k (Nat.le_refl _) h) hk3
            rw [hnil] at this; cases this
          · rw [List.drop_of_length_le (by simpa using h)] at hW
            exact hW
        · obtain ⟨hi, hfi, hpi⟩ := ready_spec hl hr rfl
          have hpast := past_true hc 9 i hpi
          have ho : ops[i]? = some ops[i] := Array.getElem?_eq_getElem hi
          have hnp : ∀ q, n ≤ q → q ∉ pures := by
            intro q hq hqp
            have := (hpu q hqp).1
            omega
          have hik : i = k := by
            rcases Nat.lt_trichotomy i k with h | h | h
            · rw [hk3 i h] at hfi; cases hfi
            · exact h
            · have := hpast k (htail' i hi (by omega) k h (hnp k hk1))
              rw [hk4 k (Nat.le_refl _) (by omega)] at this; cases this
          subst hik
          have hset : ∀ j, (l.setIfInBounds i true)[j]? = if j = i then some true else l[j]? := by
            intro j
            by_cases hji : j = i
            · subst hji; rw [if_pos rfl, Array.getElem?_setIfInBounds_self_of_lt (by omega)]
            · rw [if_neg hji, Array.getElem?_setIfInBounds_ne (fun e => hji e.symm)]
          have hdrop : ops.toList.drop i = ops[i] :: ops.toList.drop (i + 1) := by
            rw [List.drop_eq_getElem_cons (by simpa using hi)]; simp
          rw [hdrop] at hW
          have goalB : ∀ a1 w1, wpListIn FF nn P ops Q (ops.toList.drop (i + 1)) a1 w1 → wpAnyIn FF nn P .any ops Q fuel (l.setIfInBounds i true) a1 w1 := by
            intro a1 w1 h1
            refine ih _ _ _ ⟨by simpa using hl, setClo l i hc hpi, .inr ⟨i + 1, by omega, by omega, ?_, ?_, h1⟩⟩ (hcnt' i hi hfi)
            · intro j hj; rw [hset]; split
              · rfl
              · exact hk3 j (by omega)
            · intro j hj1 hj2; rw [hset, if_neg (by omega)]; exact hk4 j (by omega) hj2
          unfold wpListIn at hW
          unfold wpOpIn
          rw [ho]
          show if Region.wanted ops[i] (yielded ops a'.tmps) = true then _ else _
          split
          · rename_i hw; rw [if_pos hw] at hW; exact Oper.wpIn_mono goalB hW
          · rename_i hw; rw [if_neg hw] at hW; exact ⟨hW.1, goalB _ _ hW.2⟩
  refine wpIn_region_any hm (main ops.size _ _ _ ?_ (by simp))
  have hrep : ∀ j : Nat, j < ops.size → (Array.replicate ops.size false)[j]? = some false := by intro j hj; simp [hj]
  refine ⟨by simp, ?_, ?_⟩
  · intro j hj
    rw [Array.getElem?_replicate] at hj
    split at hj <;> simp at hj
  · have hx0 : a = ⟨over a.tmps ds (fun d => a.tmps.getD d undef), a.defers⟩ := by
      have : over a.tmps ds (fun d => a.tmps.getD d undef) = a.tmps := by
        apply Array.ext_getElem?
        intro s
        rw [over_get]
        split
        · rw [Array.getD_eq_getD_getElem?]
          cases a.tmps[s]? <;> rfl
        · rfl
      rw [this]
    have hH0 : Held ops n ds news R w.drew (fun j => (Array.replicate ops.size false)[j]? = some true) (fun d => a.tmps.getD d undef) w.drew := by
      have hno : ∀ j : Nat, (Array.replicate ops.size false)[j]? ≠ some true := by
        intro j hj
        rw [Array.getElem?_replicate] at hj
        split at hj <;> simp at hj
      exact ⟨Below.refl _ _, fun j _ hj => (hno j hj).elim, fun j _ _ hj => (hno j hj).elim, fun j _ _ _ _ _ hj => (hno j hj).elim⟩
    rcases Nat.eq_zero_or_pos n with h0 | h0
    · subst h0
      rw [hx0]
      exact .inr (enterB _ _ _ (fun t _ ht => hrep t ht) (fun j hj => by omega) hH0)
    · exact .inl ⟨fun t _ ht => hrep t ht, ⟨0, h0, hrep 0 (by omega)⟩, _, hx0, hH0⟩
end

/-- what an operation gives -/
structure Spec where
  R : Nat → Value → World → Prop
  stays : ∀ B v w w', R B v w → Below w.heap.size w w' → R B v w'
  pureVal : Option Value
  pureOk : ∀ v, pureVal = some v → ∀ B w, R B v w
  isNew : Bool
/-- a value -/
def Spec.val (v : Value) : Spec := ⟨fun _ u _ => u = v, fun _ _ _ _ h _ => h, none, fun _ h => (by cases h), false⟩
/-- a value, in whatever world -/
def Spec.pure (v : Value) : Spec := ⟨fun _ u _ => u = v, fun _ _ _ _ h _ => h, some v, fun _ h _ _ => (by cases h; rfl), false⟩
/-- a new block -/
def Spec.new (o : Obj) : Spec := ⟨fun B u w => ∃ b, u = .pointer (some ⟨b, 0, none⟩) ∧ B ≤ b ∧ b < w.heap.size ∧ w.heap[b]? = some o,
  fun _ _ _ _ ⟨b, h1, h2, h3, h4⟩ hb => ⟨b, h1, h2, Nat.lt_of_lt_of_le h3 hb.size, (by rw [hb.block b h3]; exact h4)⟩, none, fun _ h => (by cases h), true⟩
/-- something that stays true -/
def Spec.rel (R : Value → World → Prop) : Spec := ⟨fun _ u w => ∀ w', Below w.heap.size w w' → R u w', fun _ _ _ _ h hb w'' h2 => h w'' (hb.trans (h2.mono hb.size)), none, fun _ h => (by cases h), false⟩
def puresOf (l : List Spec) : List Nat := (List.range l.length).filter fun i => ((l[i]?).map fun s => s.pureVal.isSome).getD false
def newsOf (l : List Spec) : List Nat := (List.range l.length).filter fun i => ((l[i]?).map (·.isNew)).getD false
def RS (B : Nat) (l : List Spec) (i : Nat) (v : Value) (w : World) : Prop := match l[i]? with | some s => s.R B v w | none => True
/-- what an operation must leave, by its spec -/
def LeftS (B : Nat) (s : Spec) (fr : Array Value) (df : List Deferred) (d : Option Nat) (w : World) (a' : Act) (w' : World) : Prop :=
  ∃ v, (⟨fr, df⟩ : Act).put d v = a' ∧ s.R B v w' ∧ Below w.heap.size w w' ∧ (s.isNew = true → ∃ b, v = .pointer (some ⟨b, 0, none⟩) ∧ w.heap.size ≤ b ∧ b < w'.heap.size)
/-- the obligations, one for each operation -/
def Obl1 (P : Program) (ops : Array Oper) (Q : Exit → Act → World → Prop) (w0 : World) (F : (Nat → Value) → Array Value) (df : List Deferred) (ds news : List Nat) (n : Nat) (all : List Spec) (i : Nat) (o : Oper) (s : Spec) : Prop :=
  match s.pureVal with
  | some v => ∀ x w1, Held ops n ds news (RS w0.heap.size all) w0 (fun j => j ∈ past ops 9 i) x w1 → Yields P ops o v ⟨F x, df⟩
  | none => ∀ x w1, Held ops n ds news (RS w0.heap.size all) w0 (fun j => j ∈ past ops 9 i) x w1 →
      ∀ K : Act → World → Prop, (∀ a' w', LeftS w0.heap.size s (F x) df o.dst w1 a' w' → K a' w') →
      if Region.wanted o (yielded ops (F x)) = true then o.wp P ⟨F x, df⟩ w1 K Q else K ((⟨F x, df⟩ : Act).put o.dst undef) w1
def Obl (P : Program) (ops : Array Oper) (Q : Exit → Act → World → Prop) (w0 : World) (F : (Nat → Value) → Array Value) (df : List Deferred) (ds news : List Nat) (n : Nat) (all : List Spec) : Nat → List Oper → List Spec → Prop
  | i, o :: l, s :: ss => Obl1 P ops Q w0 F df ds news n all i o s ∧ Obl P ops Q w0 F df ds news n all (i + 1) l ss
  | _, _, _ => True

theorem Obl.at_ {P : Program} {ops : Array Oper} {Q : Exit → Act → World → Prop} {w0 : World} {F : (Nat → Value) → Array Value} {df : List Deferred} {ds news : List Nat} {n : Nat} {all : List Spec} :
    ∀ (l : List Oper) (ss : List Spec) (k : Nat), Obl P ops Q w0 F df ds news n all k l ss → ∀ i o s, l[i]? = some o → ss[i]? = some s → Obl1 P ops Q w0 F df ds news n all (k + i) o s
  | o :: l, s :: ss, k, h, 0, o', s', ho, hs => by
    simp at ho hs; subst ho; subst hs; exact h.1
  | o :: l, s :: ss, k, h, i + 1, o', s', ho, hs => by
    have := Obl.at_ l ss (k + 1) h.2 i o' s' (by simpa using ho) (by simpa using hs)
    simpa [Nat.add_assoc, Nat.add_comm 1 i] using this
  | [], _, _, _, _, _, _, ho, _ => by simp at ho
  | _ :: _, [], _, _, _, _, _, _, hs => by simp at hs

theorem mem_puresOf {l : List Spec} {i : Nat} (h : i ∈ puresOf l) : ∃ s v, l[i]? = some s ∧ s.pureVal = some v := by
  unfold puresOf at h
  rw [List.mem_filter] at h
  obtain ⟨_, h2⟩ := h
  cases hs : l[i]? with
  | none => simp [hs] at h2
  | some s =>
    rw [hs] at h2
    simp only [Option.map_some, Option.getD_some] at h2
    obtain ⟨v, hv⟩ := Option.isSome_iff_exists.1 h2
    exact ⟨s, v, rfl, hv⟩
theorem not_mem_puresOf {l : List Spec} {i : Nat} (hi : i < l.length) (h : i ∉ puresOf l) : ∀ s, l[i]? = some s → s.pureVal = none := by
  intro s hs
  cases hv : s.pureVal with
  | none => rfl
  | some v =>
    refine (h ?_).elim
    unfold puresOf
    rw [List.mem_filter, hs]
    refine ⟨List.mem_range.2 hi, ?_⟩
    simp [hv]

theorem wp_region_specs {FF : Fence} {nn : Nat} {P : Program} {ops : Array Oper} {Q : Exit → Act → World → Prop} {rid : Nat} {a : Act} {w : World} (hm : P.follows .mixedOrders = true) (specs : List Spec) (n : Nat) (hn : specs.length = n) (ds news pures : List Nat) (hnews : newsOf specs = news)
    (hpures : puresOf specs = pures) (hpn : ∀ i ∈ news, i ∉ pures) (hck : preCheck ops n ds pures = true)
    (hQ : ∀ (s : Nat) v c a w, Q (.panic c) (a.put (some s) v) w → Q (.panic c) a w)
    (F : (Nat → Value) → Array Value) (hF : ∀ x, over a.tmps ds x = F x)
    (hops : Obl P ops Q w.drew F a.defers ds news n specs 0 ops.toList specs)
    (hend : ∀ x w1, Held ops n ds news (RS w.drew.heap.size specs) w.drew (fun _ => True) x w1 → wpListIn FF nn P ops Q (ops.toList.drop n) ⟨F x, a.defers⟩ w1)
    (hww : IsWide FF := by first | exact .inl rfl | exact .inr ⟨_, rfl⟩) (hdf : noDefer ops = true := by rfl) (hpe : pures = [] := by rfl) :
    (Code.region rid ops true).wpIn FF nn P Q a w := by
  subst hn; subst hnews; subst hpures
  refine wp_region_free hww hdf hm specs.length ds (newsOf specs) (puresOf specs) hpe (RS w.drew.heap.size specs) hck hQ ?_ ?_ ?_ ?_
  · intro i v w1 w2 h hb
    unfold RS at *
    split
    · rename_i s hs; rw [hs] at h; exact s.stays _ v w1 w2 h hb
    · trivial
  · intro i hip
    obtain ⟨s, v, hs, hv⟩ := mem_puresOf hip
    refine ⟨fun hm => hpn i hm hip, fun o ho x w1 hH => ?_⟩
    have := hops.at_ _ _ _ i o _ (by simpa using ho) hs
    rw [Nat.zero_add] at this
    unfold Obl1 at this
    rw [hv] at this
    refine ⟨v, ?_, ?_⟩
    · rw [hF]; exact this x w1 hH
    · unfold RS; rw [hs]; exact s.pureOk v hv _ _
  · intro i hi hip o ho x w1 hH K hK
    have hs : specs[i]? = some specs[i] := List.getElem?_eq_getElem hi
    have hnp := not_mem_puresOf hi hip _ hs
    have key := hops.at_ _ _ _ i o specs[i] (by simpa using ho) hs
    rw [Nat.zero_add] at key
    unfold Obl1 at key
    rw [hnp] at key
    have key2 := key x w1 hH
    rw [hF]
    refine key2 K ?_
    rintro a' w' ⟨v, rfl, hR, hB, hN⟩
    refine hK _ _ ⟨v, ?_, ?_, hB, fun hmem => hN ?_⟩
    · rw [← hF]; unfold dstOf; rw [ho]; rfl
    · unfold RS; rw [hs]; exact hR
    · unfold newsOf at hmem
      rw [List.mem_filter, hs] at hmem
      simpa using hmem.2
  · intro x w1 hH
    rw [hF]
    exact hend x w1 hH
theorem left_new {B b : Nat} {o : Obj} {fr : Array Value} {df : List Deferred} {d : Option Nat} {w : World} {a' : Act} (he : (⟨fr, df⟩ : Act).put d (.pointer (some ⟨b, 0, none⟩)) = a') (hb : b = w.heap.size) (hB : B ≤ w.heap.size) :
    LeftS B (.new o) fr df d w a' (w.alloc o) := by
  subst hb
  have hs : (w.alloc o).heap.size = w.heap.size + 1 := by simp
  refine ⟨_, he, ⟨_, rfl, hB, by omega, ?_⟩, (Below.refl _ _).alloc (Nat.le_refl _) _, fun _ => ⟨_, rfl, Nat.le_refl _, by omega⟩⟩
  show (w.heap.push o)[w.heap.size]? = some o
  simp
end Go.Proofs.YtfgpcflegodlmaaGreatDoor.Rd

/- Layer 6: prefixes of keys: what is cut, which keys have one, its bytes. -/
import Derived.Test.YtpdohgadcepipaaDoorQab
import Derived.Handy
namespace Go.Proofs.YtpdohgadcepipaaDoor
set_option maxRecDepth 100000
open Go.RowKit

def prefA (k : K25) (d : Int) : Array Value := row8 k.val ++ #[.int .i64 d]
/-- how many bytes a depth has -/
def plen (d : Int) : Nat := if d < 4 then d.toNat else if d < 5 then 15 else 25
def prefR (d : Int) : Bool := decide (0 ≤ d ∧ d ≤ 5)
def cutB (l : List UInt8) (n : Nat) : List UInt8 := l.take n ++ zeros (25 - n)
theorem plen_le (d : Int) (_h : d ≤ 5) : plen d ≤ 25 := by unfold plen; split; omega; split <;> omega
theorem cutB_len (l : List UInt8) (n : Nat) (h : l.length = 25) (hn : n ≤ 25) : (cutB l n).length = 25 := by simp [cutB, h]; omega
/-- which keys have a prefix -/
def hasB (p : K25) (d : Int) (k : K25) : Bool := prefR d && decide (p.val.take (plen d) = k.val.take (plen d))
theorem cutB_inj (a b : List UInt8) (n : Nat) (ha : a.length = 25) (hb : b.length = 25) : cutB a n = cutB b n ↔ a.take n = b.take n := by
  unfold cutB
  constructor
  · intro h
    exact (List.append_inj h (by simp [ha, hb])).1
  · intro h; rw [h]
@[go_sem, simp] theorem prefA_size (k : K25) (d : Int) : (prefA k d).size = 26 := by simp [prefA, k.property]
@[go_sem] theorem prefA_d (k : K25) (d : Int) : (prefA k d)[25]? = some (.int .i64 d) := by
  unfold prefA; rw [Array.getElem?_append_right (by simp [k.property])]; simp [k.property]
@[go_sem] theorem prefA_dE (k : K25) (d : Int) (h : 25 < (prefA k d).size) : (prefA k d)[25]'h = .int .i64 d := by
  have := prefA_d k d; rw [Array.getElem?_eq_getElem h] at this; exact Option.some.inj this
theorem prefA_i (k : K25) (d : Int) (i : Nat) (hi : i < 25) : (prefA k d)[i]? = some (.int .u8 ((byt k.val i).toNat : Int)) := by
  unfold prefA; rw [Array.getElem?_append_left (by simp [k.property, hi])]; exact row8_get _ _ (by simp [k.property, hi])
@[go_sem] theorem prefA_0 (k : K25) (d : Int) : (prefA k d)[0]? = some (.int .u8 ((byt k.val 0).toNat : Int)) := prefA_i k d 0 (by decide)
@[go_sem] theorem prefA_1 (k : K25) (d : Int) : (prefA k d)[1]? = some (.int .u8 ((byt k.val 1).toNat : Int)) := prefA_i k d 1 (by decide)
@[go_sem] theorem prefA_2 (k : K25) (d : Int) : (prefA k d)[2]? = some (.int .u8 ((byt k.val 2).toNat : Int)) := prefA_i k d 2 (by decide)
theorem prefA_iE (k : K25) (d : Int) (i : Nat) (hi : i < 25) (h : i < (prefA k d).size) : (prefA k d)[i]'h = .int .u8 ((byt k.val i).toNat : Int) := by
  have := prefA_i k d i hi; rw [Array.getElem?_eq_getElem h] at this; exact Option.some.inj this
@[go_sem] theorem prefA_0E (k : K25) (d : Int) (h : 0 < (prefA k d).size) : (prefA k d)[0]'h = .int .u8 ((byt k.val 0).toNat : Int) := prefA_iE k d 0 (by decide) h
@[go_sem] theorem prefA_1E (k : K25) (d : Int) (h : 1 < (prefA k d).size) : (prefA k d)[1]'h = .int .u8 ((byt k.val 1).toNat : Int) := prefA_iE k d 1 (by decide) h
@[go_sem] theorem prefA_2E (k : K25) (d : Int) (h : 2 < (prefA k d).size) : (prefA k d)[2]'h = .int .u8 ((byt k.val 2).toNat : Int) := prefA_iE k d 2 (by decide) h
theorem prefA_ext (k : K25) (d : Int) (a b : Nat) (h : b ≤ 25) : (prefA k d).extract a b = row8 ((k.val.take b).drop a) := by
  unfold prefA
  rw [Array.extract_append, row8_extract, row8_size, k.property]
  rw [Array.extract_eq_empty_of_le (by omega), Array.append_empty]
@[go_sem] theorem prefA_name (k : K25) (d : Int) : (prefA k d).extract 3 15 = row8 ((k.val.take 15).drop 3) := prefA_ext k d 3 15 (by decide)
@[go_sem] theorem prefA_tag (k : K25) (d : Int) : (prefA k d).extract 15 25 = row8 ((k.val.take 25).drop 15) := prefA_ext k d 15 25 (by decide)
@[go_sem] theorem prefA_full (k : K25) (d : Int) : (prefA k d).extract 0 26 = prefA k d := Array.extract_eq_self_of_le (by simp)
@[go_sem] theorem row8_set0 (l : List UInt8) (i : Nat) : (row8 l).setIfInBounds i (.int .u8 0) = row8 (l.set i 0) := row8_set l i 0
@[go_sem] theorem agg_pref : Tryd.prog.aggSize 35 = some 26 := by kernel_rfl
@[go_sem ↓ high] theorem ld_pref (a : Addr) : loadVar 35 a = rowLoad 35 a := rfl
@[go_sem ↓ high] theorem st_pref (a : Addr) (v : Value) : storeVar 35 a v = rowStore 35 a v := rfl
def bKey (v : Value) : Sem Value := Instr.build 33 #[(0, v)]
@[go_sem ↓ high] theorem bKeyK_eq (f : Nat × Operand → Nat × Value) (p : Nat × Operand) : Instr.build 33 (Array.map f #[p]) = Instr.build 33 #[f p] := by simp
theorem bKeyK_run (x : UInt8) (w : World) : (Instr.build 33 #[(0, .int .u8 (x.toNat : Int))]).run Tryd.prog w = .ok (.agg (row8 ((zeros 25).set 0 x))) w := by
  refine build_of (zero := .agg (row8 (zeros 25))) (places := #[(0, 1), (1, 1), (2, 1), (3, 12), (15, 10)]) (by intro w; exact (Tryd.zeroValue33 w).trans rfl) Tryd.underlying33 (by intro w; kernel_rfl) ?_
  rfl
theorem pright_gives (k : K25) (d : Int) (w : World) : Gives Tryd.prog 10 #[.agg (prefA k d)] w (.bool (prefR d)) := by
  have he : prefR d = (if 0 ≤ d then decide (d ≤ 5) else false) := by unfold prefR; split <;> simp [*]
  generalize prefR d = e at *
  have HE := Lib.hid he
  clear he
  by_cases h0 : 0 ≤ d
  · have he := HE.out
    rw [if_pos h0] at he
    subst he
    unfold Gives
    go_enter Tryd.func10, Tryd.ntmps10
    go_wp2_with fail
    all_goals
      go_ret
      exact ⟨by simp [*], (by repeat (first | exact below_of_grow _ _ | exact Below.refl _ _ | exact below_more _ _ _ _ | (simp only [← Array.append_assoc]; first | exact below_more _ _ _ _ | exact below_same _ _ _ | exact Below.refl _ _) | exact below_same _ _ _ | (refine Below.alloc ?_ (by first | (simp; done) | (simp; omega)) _) | (refine Below.grow ?_ (by first | (simp; done) | (simp; omega)) _ _) | refine Below.drew ?_ | refine Below.drewN ?_ _ | (refine Below.putF ?_ (by first | (simp; done) | omega | (simp; omega)) _) | (refine Below.setCell ?_ (by first | (simp; done) | (simp; omega)) _)))⟩
  · have he := HE.out
    rw [if_neg h0] at he
    subst he
    unfold Gives
    go_enter Tryd.func10, Tryd.ntmps10
    go_wp2_with fail
    all_goals
      go_ret
      exact ⟨rfl, (by repeat (first | exact below_of_grow _ _ | exact Below.refl _ _ | exact below_more _ _ _ _ | (simp only [← Array.append_assoc]; first | exact below_more _ _ _ _ | exact below_same _ _ _ | exact Below.refl _ _) | exact below_same _ _ _ | (refine Below.alloc ?_ (by first | (simp; done) | (simp; omega)) _) | (refine Below.grow ?_ (by first | (simp; done) | (simp; omega)) _ _) | refine Below.drew ?_ | refine Below.drewN ?_ _ | (refine Below.putF ?_ (by first | (simp; done) | omega | (simp; omega)) _) | (refine Below.setCell ?_ (by first | (simp; done) | (simp; omega)) _)))⟩
theorem cutS (l : List UInt8) (h : l.length = 25) :
    (((zeros 25).set 0 0) = cutB l (plen 0)) ∧ ((zeros 25).set 0 (byt l 0) = cutB l (plen 1)) ∧ (((zeros 25).set 0 (byt l 0)).set 1 (byt l 1) = cutB l (plen 2)) ∧
    ((((zeros 25).set 0 (byt l 0)).set 1 (byt l 1)).set 2 (byt l 2) = cutB l (plen 3)) ∧ (spl ((((zeros 25).set 0 (byt l 0)).set 1 (byt l 1)).set 2 (byt l 2)) 3 ((l.take 15).drop 3) = cutB l (plen 4)) ∧
    (spl (spl ((((zeros 25).set 0 (byt l 0)).set 1 (byt l 1)).set 2 (byt l 2)) 3 ((l.take 15).drop 3)) 15 ((l.take 25).drop 15) = cutB l (plen 5)) := by
  match l, h with
  | [a, b, c, d, e, f, g, h, i, j, k, m, n, o, p, q, r, s, t, u, v, w, x, y, z], _ => exact ⟨rfl, rfl, rfl, rfl, rfl, rfl⟩
set_option maxHeartbeats 8000000 in
theorem cut_gives (k : K25) (d : Int) (h : 0 ≤ d ∧ d ≤ 5) (w : World) : Gives Tryd.prog 8 #[.agg (prefA k d)] w (.agg (row8 (cutB k.val (plen d)))) := by
  have hb := bKeyK_run (byt k.val 0)
  obtain ⟨c0, c1, c2, c3, c4, c5⟩ := cutS k.val k.property
  have C0 := Lib.hid c0
  have C1 := Lib.hid c1
  have C2 := Lib.hid c2
  have C3 := Lib.hid c3
  have C4 := Lib.hid c4
  have C5 := Lib.hid c5
  clear c0 c1 c2 c3 c4 c5
  have hk25 : List.take 25 k.val = k.val := List.take_of_length_le (Nat.le_of_eq k.property)
  have hd : d = 0 ∨ d = 1 ∨ d = 2 ∨ d = 3 ∨ d = 4 ∨ d = 5 := by omega
  rcases hd with rfl | rfl | rfl | rfl | rfl | rfl
  all_goals
    unfold Gives
    go_enter Tryd.func8, Tryd.ntmps8
    go_wp2_with fail
  · exact bodyPost_ret (v := .agg (row8 (cutB k.val (plen 0)))) (results_one Tryd.results8 (ResIs.row rfl agg_key (by rw [← C0.out]; simp [go_sem]))) rfl ⟨rfl, (by repeat (first | exact below_of_grow _ _ | exact Below.refl _ _ | exact below_more _ _ _ _ | (simp only [← Array.append_assoc]; first | exact below_more _ _ _ _ | exact below_same _ _ _ | exact Below.refl _ _) | exact below_same _ _ _ | (refine Below.alloc ?_ (by first | (simp; done) | (simp; omega)) _) | (refine Below.grow ?_ (by first | (simp; done) | (simp; omega)) _ _) | refine Below.drew ?_ | refine Below.drewN ?_ _ | (refine Below.putF ?_ (by first | (simp; done) | omega | (simp; omega)) _) | (refine Below.setCell ?_ (by first | (simp; done) | (simp; omega)) _)))⟩
  · exact bodyPost_ret (v := .agg (row8 (cutB k.val (plen 1)))) (results_one Tryd.results8 (ResIs.row rfl agg_key (by rw [← C1.out]; simp [go_sem]))) rfl ⟨rfl, (by repeat (first | exact below_of_grow _ _ | exact Below.refl _ _ | exact below_more _ _ _ _ | (simp only [← Array.append_assoc]; first | exact below_more _ _ _ _ | exact below_same _ _ _ | exact Below.refl _ _) | exact below_same _ _ _ | (refine Below.alloc ?_ (by first | (simp; done) | (simp; omega)) _) | (refine Below.grow ?_ (by first | (simp; done) | (simp; omega)) _ _) | refine Below.drew ?_ | refine Below.drewN ?_ _ | (refine Below.putF ?_ (by first | (simp; done) | omega | (simp; omega)) _) | (refine Below.setCell ?_ (by first | (simp; done) | (simp; omega)) _)))⟩
  · exact bodyPost_ret (v := .agg (row8 (cutB k.val (plen 2)))) (results_one Tryd.results8 (ResIs.row rfl agg_key (by rw [← C2.out]; simp [go_sem]))) rfl ⟨rfl, (by repeat (first | exact below_of_grow _ _ | exact Below.refl _ _ | exact below_more _ _ _ _ | (simp only [← Array.append_assoc]; first | exact below_more _ _ _ _ | exact below_same _ _ _ | exact Below.refl _ _) | exact below_same _ _ _ | (refine Below.alloc ?_ (by first | (simp; done) | (simp; omega)) _) | (refine Below.grow ?_ (by first | (simp; done) | (simp; omega)) _ _) | refine Below.drew ?_ | refine Below.drewN ?_ _ | (refine Below.putF ?_ (by first | (simp; done) | omega | (simp; omega)) _) | (refine Below.setCell ?_ (by first | (simp; done) | (simp; omega)) _)))⟩
  · exact bodyPost_ret (v := .agg (row8 (cutB k.val (plen 3)))) (results_one Tryd.results8 (ResIs.row rfl agg_key (by rw [← C3.out]; simp [go_sem]))) rfl ⟨rfl, (by repeat (first | exact below_of_grow _ _ | exact Below.refl _ _ | exact below_more _ _ _ _ | (simp only [← Array.append_assoc]; first | exact below_more _ _ _ _ | exact below_same _ _ _ | exact Below.refl _ _) | exact below_same _ _ _ | (refine Below.alloc ?_ (by first | (simp; done) | (simp; omega)) _) | (refine Below.grow ?_ (by first | (simp; done) | (simp; omega)) _ _) | refine Below.drew ?_ | refine Below.drewN ?_ _ | (refine Below.putF ?_ (by first | (simp; done) | omega | (simp; omega)) _) | (refine Below.setCell ?_ (by first | (simp; done) | (simp; omega)) _)))⟩
  · exact bodyPost_ret (v := .agg (row8 (cutB k.val (plen 4)))) (results_one Tryd.results8 (ResIs.row rfl agg_key (by rw [← C4.out]; simp [go_sem]))) rfl ⟨rfl, (by repeat (first | exact below_of_grow _ _ | exact Below.refl _ _ | exact below_more _ _ _ _ | (simp only [← Array.append_assoc]; first | exact below_more _ _ _ _ | exact below_same _ _ _ | exact Below.refl _ _) | exact below_same _ _ _ | (refine Below.alloc ?_ (by first | (simp; done) | (simp; omega)) _) | (refine Below.grow ?_ (by first | (simp; done) | (simp; omega)) _ _) | refine Below.drew ?_ | refine Below.drewN ?_ _ | (refine Below.putF ?_ (by first | (simp; done) | omega | (simp; omega)) _) | (refine Below.setCell ?_ (by first | (simp; done) | (simp; omega)) _)))⟩
  · exact bodyPost_ret (v := .agg (row8 (cutB k.val (plen 5)))) (results_one Tryd.results8 (ResIs.row rfl agg_key (by rw [← C5.out]; simp [go_sem, k.property]))) rfl ⟨rfl, (by repeat (first | exact below_of_grow _ _ | exact Below.refl _ _ | exact below_more _ _ _ _ | (simp only [← Array.append_assoc]; first | exact below_more _ _ _ _ | exact below_same _ _ _ | exact Below.refl _ _) | exact below_same _ _ _ | (refine Below.alloc ?_ (by first | (simp; done) | (simp; omega)) _) | (refine Below.grow ?_ (by first | (simp; done) | (simp; omega)) _ _) | refine Below.drew ?_ | refine Below.drewN ?_ _ | (refine Below.putF ?_ (by first | (simp; done) | omega | (simp; omega)) _) | (refine Below.setCell ?_ (by first | (simp; done) | (simp; omega)) _)))⟩
def bPf (p q : Nat × Value) : Sem Value := Instr.build 35 #[p, q]
@[go_sem ↓ high] theorem bPref_eq (f : Nat × Operand → Nat × Value) (p q : Nat × Operand) : Instr.build 35 (Array.map f #[p, q]) = bPf (f p) (f q) := by simp [bPf]
@[go_sem] theorem bPref_run (k : K25) (d : Int) (w : World) : (bPf (0, .agg (row8 k.val)) (1, .int .i64 d)).run Tryd.prog w = .ok (.agg (prefA k d)) w := by
  unfold bPf
  refine build_of (zero := .agg (row8 (zeros 25) ++ #[.int .i64 0])) (places := #[(0, 25), (25, 1)]) (by intro w; exact (Tryd.zeroValue35 w).trans rfl) Tryd.underlying35 (by intro w; kernel_rfl) ?_
  have e0 : (Value.agg (row8 (zeros 25) ++ #[.int .i64 0])).cells = #[] ++ (row8 (zeros 25) ++ #[.int .i64 0]) := by simp [Value.cells]
  rw [e0, fill_one (off := 0) (size := 25) rfl rfl (by simp [Value.cells, k.property]) (by simp)]
  rw [show (row8 (zeros 25) ++ #[Value.int .i64 0]).extract 25 (row8 (zeros 25) ++ #[Value.int .i64 0]).size = #[.int .i64 0] from rfl]
  rw [fill_one (off := 25) (size := 1) rfl (by simp [Value.cells, k.property]) rfl (by simp), fill_none]
  refine congrArg some ?_
  rw [Array.extract_eq_empty_of_le (by simp), Array.append_empty, Array.empty_append]
  rfl
set_option maxHeartbeats 20000000 in
theorem has_gives (p k : K25) (d : Int) (w : World) : Gives Tryd.prog 6 #[.agg (prefA p d), .agg (row8 k.val)] w (.bool (hasB p d k)) := by
  have hr := pright_gives p d
  have hh : hasB p d k = (if prefR d = true then (cutB p.val (plen d) == cutB k.val (plen d)) else false) := by
    unfold hasB
    have he : decide (List.take (plen d) p.val = List.take (plen d) k.val) = (cutB p.val (plen d) == cutB k.val (plen d)) := by
      have := cutB_inj p.val k.val (plen d) p.property k.property
      by_cases h : cutB p.val (plen d) = cutB k.val (plen d)
      · rw [decide_eq_true (this.1 h), h]; simp
      · rw [decide_eq_false (fun e => h (this.2 e)), beq_eq_false_iff_ne.2 h]
    rw [he]
    cases prefR d <;> rfl
  generalize hasB p d k = e at *
  have hc : prefR d = true → 0 ≤ d ∧ d ≤ 5 := fun h => by unfold prefR at h; simpa using h
  generalize prefR d = r at *
  have HR := Lib.hid hr
  have HH := Lib.hid hh
  have kp := k.property
  clear hr hh
  cases r with
  | false =>
    have he := HH.out
    rw [if_neg (by decide)] at he
    subst he
    clear hc
    unfold Gives
    go_enter Tryd.func6, Tryd.ntmps6
    go_wp2_with fail
    apply wp_region_specs (by rfl) [.val _, .val _, .val _, .val _, .val _, .val _, .val _, .val _, .val _, .val _, .val _, .val _] 12 (by rfl) [5, 6, 7, 8, 9, 10, 11, 12, 13, 14, 15, 16] [] [] (by rfl) (by rfl) (by decide) (by decide +kernel) (fun _ _ _ _ _ h => h)
    case hF => intro x; simp only [over, List.foldl_cons, List.foldl_nil, List.setIfInBounds_toArray, List.set_cons_succ, List.set_cons_zero]; exact rfl
    case hops =>
      refine ⟨?o0, ?o1, ?o2, ?o3, ?o4, ?o5, ?o6, ?o7, ?o8, ?o9, ?o10, ?o11, trivial⟩
      case o0 =>
        intro x w1 hH K hK
        obtain ⟨xs, d, rfl⟩ := grow_of_below hH.below
        clear hH
        try simp only [World.grow_drew] at hK ⊢
        try simp only [World.grow_grow] at hK ⊢
        go_simp
        go_wp2_with fail
        exact ⟨_, rfl, rfl, (by repeat (first | exact below_of_grow _ _ | exact Below.refl _ _ | exact below_more _ _ _ _ | (simp only [← Array.append_assoc]; first | exact below_more _ _ _ _ | exact below_same _ _ _ | exact Below.refl _ _) | exact below_same _ _ _ | (refine Below.alloc ?_ (by first | (simp; done) | (simp; omega)) _) | (refine Below.grow ?_ (by first | (simp; done) | (simp; omega)) _ _) | refine Below.drew ?_ | refine Below.drewN ?_ _ | (refine Below.putF ?_ (by first | (simp; done) | omega | (simp; omega)) _) | (refine Below.setCell ?_ (by first | (simp; done) | (simp; omega)) _))), fun h => by cases h⟩
      case o1 =>
        intro x w1 hH K hK
        have e5 : x 5 = _ := hH.holds 0 (by decide) (by decide +kernel) 5 rfl
        obtain ⟨xs, d, rfl⟩ := grow_of_below hH.below
        clear hH
        try simp only [World.grow_drew] at hK ⊢
        try simp only [World.grow_grow] at hK ⊢
        simp only [e5] at hK ⊢
        clear e5
        go_simp
        go_wp2_with (refine Gives.use (HR.out _) ?_; intro ys e)
        exact ⟨_, rfl, rfl, (by first | exact below_more _ _ _ _ | exact (by repeat (first | exact below_of_grow _ _ | exact Below.refl _ _ | exact below_more _ _ _ _ | (simp only [← Array.append_assoc]; first | exact below_more _ _ _ _ | exact below_same _ _ _ | exact Below.refl _ _) | exact below_same _ _ _ | (refine Below.alloc ?_ (by first | (simp; done) | (simp; omega)) _) | (refine Below.grow ?_ (by first | (simp; done) | (simp; omega)) _ _) | refine Below.drew ?_ | refine Below.drewN ?_ _ | (refine Below.putF ?_ (by first | (simp; done) | omega | (simp; omega)) _) | (refine Below.setCell ?_ (by first | (simp; done) | (simp; omega)) _)))), fun h => by cases h⟩
      case o2 =>
        intro x w1 hH K hK
        have e6 : x 6 = _ := hH.holds 1 (by decide) (by decide +kernel) 6 rfl
        obtain ⟨xs, d, rfl⟩ := grow_of_below hH.below
        clear hH
        try simp only [World.grow_drew] at hK ⊢
        try simp only [World.grow_grow] at hK ⊢
        simp only [e6] at hK ⊢
        clear e6
        go_simp
        go_wp2_with fail
        exact ⟨_, rfl, rfl, (by repeat (first | exact below_of_grow _ _ | exact Below.refl _ _ | exact below_more _ _ _ _ | (simp only [← Array.append_assoc]; first | exact below_more _ _ _ _ | exact below_same _ _ _ | exact Below.refl _ _) | exact below_same _ _ _ | (refine Below.alloc ?_ (by first | (simp; done) | (simp; omega)) _) | (refine Below.grow ?_ (by first | (simp; done) | (simp; omega)) _ _) | refine Below.drew ?_ | refine Below.drewN ?_ _ | (refine Below.putF ?_ (by first | (simp; done) | omega | (simp; omega)) _) | (refine Below.setCell ?_ (by first | (simp; done) | (simp; omega)) _))), fun h => by cases h⟩
      case o3 =>
        intro x w1 hH K hK
        have e7 : x 7 = _ := hH.holds 2 (by decide) (by decide +kernel) 7 rfl
        obtain ⟨xs, d, rfl⟩ := grow_of_below hH.below
        clear hH
        try simp only [World.grow_drew] at hK ⊢
        try simp only [World.grow_grow] at hK ⊢
        simp only [e7] at hK ⊢
        clear e7
        go_simp
        go_wp2_with fail
        exact ⟨_, rfl, rfl, (by repeat (first | exact below_of_grow _ _ | exact Below.refl _ _ | exact below_more _ _ _ _ | (simp only [← Array.append_assoc]; first | exact below_more _ _ _ _ | exact below_same _ _ _ | exact Below.refl _ _) | exact below_same _ _ _ | (refine Below.alloc ?_ (by first | (simp; done) | (simp; omega)) _) | (refine Below.grow ?_ (by first | (simp; done) | (simp; omega)) _ _) | refine Below.drew ?_ | refine Below.drewN ?_ _ | (refine Below.putF ?_ (by first | (simp; done) | omega | (simp; omega)) _) | (refine Below.setCell ?_ (by first | (simp; done) | (simp; omega)) _))), fun h => by cases h⟩
      case o4 =>
        intro x w1 hH K hK
        have e7 : x 7 = _ := hH.holds 2 (by decide) (by decide +kernel) 7 rfl
        have e8 : x 8 = _ := hH.holds 3 (by decide) (by decide +kernel) 8 rfl
        obtain ⟨xs, d, rfl⟩ := grow_of_below hH.below
        clear hH
        try simp only [World.grow_drew] at hK ⊢
        try simp only [World.grow_grow] at hK ⊢
        simp only [e7, e8] at hK ⊢
        clear e7 e8
        go_simp
        go_wp2_with fail
        exact ⟨_, rfl, rfl, (by repeat (first | exact below_of_grow _ _ | exact Below.refl _ _ | exact below_more _ _ _ _ | (simp only [← Array.append_assoc]; first | exact below_more _ _ _ _ | exact below_same _ _ _ | exact Below.refl _ _) | exact below_same _ _ _ | (refine Below.alloc ?_ (by first | (simp; done) | (simp; omega)) _) | (refine Below.grow ?_ (by first | (simp; done) | (simp; omega)) _ _) | refine Below.drew ?_ | refine Below.drewN ?_ _ | (refine Below.putF ?_ (by first | (simp; done) | omega | (simp; omega)) _) | (refine Below.setCell ?_ (by first | (simp; done) | (simp; omega)) _))), fun h => by cases h⟩
      case o5 =>
        intro x w1 hH K hK
        have e7 : x 7 = _ := hH.holds 2 (by decide) (by decide +kernel) 7 rfl
        obtain ⟨xs, d, rfl⟩ := grow_of_below hH.below
        clear hH
        try simp only [World.grow_drew] at hK ⊢
        try simp only [World.grow_grow] at hK ⊢
        simp only [e7] at hK ⊢
        clear e7
        go_simp
        go_wp2_with fail
        exact ⟨_, rfl, rfl, (by repeat (first | exact below_of_grow _ _ | exact Below.refl _ _ | exact below_more _ _ _ _ | (simp only [← Array.append_assoc]; first | exact below_more _ _ _ _ | exact below_same _ _ _ | exact Below.refl _ _) | exact below_same _ _ _ | (refine Below.alloc ?_ (by first | (simp; done) | (simp; omega)) _) | (refine Below.grow ?_ (by first | (simp; done) | (simp; omega)) _ _) | refine Below.drew ?_ | refine Below.drewN ?_ _ | (refine Below.putF ?_ (by first | (simp; done) | omega | (simp; omega)) _) | (refine Below.setCell ?_ (by first | (simp; done) | (simp; omega)) _))), fun h => by cases h⟩
      case o6 =>
        intro x w1 hH K hK
        have e7 : x 7 = _ := hH.holds 2 (by decide) (by decide +kernel) 7 rfl
        obtain ⟨xs, d, rfl⟩ := grow_of_below hH.below
        clear hH
        try simp only [World.grow_drew] at hK ⊢
        try simp only [World.grow_grow] at hK ⊢
        simp only [e7] at hK ⊢
        clear e7
        go_simp
        go_wp2_with fail
        exact ⟨_, rfl, rfl, (by repeat (first | exact below_of_grow _ _ | exact Below.refl _ _ | exact below_more _ _ _ _ | (simp only [← Array.append_assoc]; first | exact below_more _ _ _ _ | exact below_same _ _ _ | exact Below.refl _ _) | exact below_same _ _ _ | (refine Below.alloc ?_ (by first | (simp; done) | (simp; omega)) _) | (refine Below.grow ?_ (by first | (simp; done) | (simp; omega)) _ _) | refine Below.drew ?_ | refine Below.drewN ?_ _ | (refine Below.putF ?_ (by first | (simp; done) | omega | (simp; omega)) _) | (refine Below.setCell ?_ (by first | (simp; done) | (simp; omega)) _))), fun h => by cases h⟩
      case o7 =>
        intro x w1 hH K hK
        have e7 : x 7 = _ := hH.holds 2 (by decide) (by decide +kernel) 7 rfl
        have e11 : x 11 = _ := hH.holds 6 (by decide) (by decide +kernel) 11 rfl
        obtain ⟨xs, d, rfl⟩ := grow_of_below hH.below
        clear hH
        try simp only [World.grow_drew] at hK ⊢
        try simp only [World.grow_grow] at hK ⊢
        simp only [e7, e11] at hK ⊢
        clear e7 e11
        go_simp
        go_wp2_with fail
        exact ⟨_, rfl, rfl, (by repeat (first | exact below_of_grow _ _ | exact Below.refl _ _ | exact below_more _ _ _ _ | (simp only [← Array.append_assoc]; first | exact below_more _ _ _ _ | exact below_same _ _ _ | exact Below.refl _ _) | exact below_same _ _ _ | (refine Below.alloc ?_ (by first | (simp; done) | (simp; omega)) _) | (refine Below.grow ?_ (by first | (simp; done) | (simp; omega)) _ _) | refine Below.drew ?_ | refine Below.drewN ?_ _ | (refine Below.putF ?_ (by first | (simp; done) | omega | (simp; omega)) _) | (refine Below.setCell ?_ (by first | (simp; done) | (simp; omega)) _))), fun h => by cases h⟩
      case o8 =>
        intro x w1 hH K hK
        have e7 : x 7 = _ := hH.holds 2 (by decide) (by decide +kernel) 7 rfl
        have e10 : x 10 = _ := hH.holds 5 (by decide) (by decide +kernel) 10 rfl
        have e12 : x 12 = _ := hH.holds 7 (by decide) (by decide +kernel) 12 rfl
        obtain ⟨xs, d, rfl⟩ := grow_of_below hH.below
        clear hH
        try simp only [World.grow_drew] at hK ⊢
        try simp only [World.grow_grow] at hK ⊢
        simp only [e7, e10, e12] at hK ⊢
        clear e7 e10 e12
        go_simp
        go_wp2_with fail
        exact ⟨_, rfl, rfl, (by repeat (first | exact below_of_grow _ _ | exact Below.refl _ _ | exact below_more _ _ _ _ | (simp only [← Array.append_assoc]; first | exact below_more _ _ _ _ | exact below_same _ _ _ | exact Below.refl _ _) | exact below_same _ _ _ | (refine Below.alloc ?_ (by first | (simp; done) | (simp; omega)) _) | (refine Below.grow ?_ (by first | (simp; done) | (simp; omega)) _ _) | refine Below.drew ?_ | refine Below.drewN ?_ _ | (refine Below.putF ?_ (by first | (simp; done) | omega | (simp; omega)) _) | (refine Below.setCell ?_ (by first | (simp; done) | (simp; omega)) _))), fun h => by cases h⟩
      case o9 =>
        intro x w1 hH K hK
        have e7 : x 7 = _ := hH.holds 2 (by decide) (by decide +kernel) 7 rfl
        have e13 : x 13 = _ := hH.holds 8 (by decide) (by decide +kernel) 13 rfl
        obtain ⟨xs, d, rfl⟩ := grow_of_below hH.below
        clear hH
        try simp only [World.grow_drew] at hK ⊢
        try simp only [World.grow_grow] at hK ⊢
        simp only [e7, e13] at hK ⊢
        clear e7 e13
        go_simp
        go_wp2_with fail
        exact ⟨_, rfl, rfl, (by repeat (first | exact below_of_grow _ _ | exact Below.refl _ _ | exact below_more _ _ _ _ | (simp only [← Array.append_assoc]; first | exact below_more _ _ _ _ | exact below_same _ _ _ | exact Below.refl _ _) | exact below_same _ _ _ | (refine Below.alloc ?_ (by first | (simp; done) | (simp; omega)) _) | (refine Below.grow ?_ (by first | (simp; done) | (simp; omega)) _ _) | refine Below.drew ?_ | refine Below.drewN ?_ _ | (refine Below.putF ?_ (by first | (simp; done) | omega | (simp; omega)) _) | (refine Below.setCell ?_ (by first | (simp; done) | (simp; omega)) _))), fun h => by cases h⟩
      case o10 =>
        intro x w1 hH K hK
        have e7 : x 7 = _ := hH.holds 2 (by decide) (by decide +kernel) 7 rfl
        have e9 : x 9 = _ := hH.holds 4 (by decide) (by decide +kernel) 9 rfl
        have e14 : x 14 = _ := hH.holds 9 (by decide) (by decide +kernel) 14 rfl
        obtain ⟨xs, d, rfl⟩ := grow_of_below hH.below
        clear hH
        try simp only [World.grow_drew] at hK ⊢
        try simp only [World.grow_grow] at hK ⊢
        simp only [e7, e9, e14] at hK ⊢
        clear e7 e9 e14
        go_simp
        go_wp2_with fail
        exact ⟨_, rfl, rfl, (by repeat (first | exact below_of_grow _ _ | exact Below.refl _ _ | exact below_more _ _ _ _ | (simp only [← Array.append_assoc]; first | exact below_more _ _ _ _ | exact below_same _ _ _ | exact Below.refl _ _) | exact below_same _ _ _ | (refine Below.alloc ?_ (by first | (simp; done) | (simp; omega)) _) | (refine Below.grow ?_ (by first | (simp; done) | (simp; omega)) _ _) | refine Below.drew ?_ | refine Below.drewN ?_ _ | (refine Below.putF ?_ (by first | (simp; done) | omega | (simp; omega)) _) | (refine Below.setCell ?_ (by first | (simp; done) | (simp; omega)) _))), fun h => by cases h⟩
      case o11 =>
        intro x w1 hH K hK
        have e7 : x 7 = _ := hH.holds 2 (by decide) (by decide +kernel) 7 rfl
        have e15 : x 15 = _ := hH.holds 10 (by decide) (by decide +kernel) 15 rfl
        obtain ⟨xs, d, rfl⟩ := grow_of_below hH.below
        clear hH
        try simp only [World.grow_drew] at hK ⊢
        try simp only [World.grow_grow] at hK ⊢
        simp only [e7, e15] at hK ⊢
        clear e7 e15
        go_simp
        go_wp2_with fail
        exact ⟨_, rfl, rfl, (by repeat (first | exact below_of_grow _ _ | exact Below.refl _ _ | exact below_more _ _ _ _ | (simp only [← Array.append_assoc]; first | exact below_more _ _ _ _ | exact below_same _ _ _ | exact Below.refl _ _) | exact below_same _ _ _ | (refine Below.alloc ?_ (by first | (simp; done) | (simp; omega)) _) | (refine Below.grow ?_ (by first | (simp; done) | (simp; omega)) _ _) | refine Below.drew ?_ | refine Below.drewN ?_ _ | (refine Below.putF ?_ (by first | (simp; done) | omega | (simp; omega)) _) | (refine Below.setCell ?_ (by first | (simp; done) | (simp; omega)) _))), fun h => by cases h⟩
    case hend =>
      intro x w1 hH
      have e5 : x 5 = _ := hH.holds 0 (by decide) trivial 5 rfl
      have e6 : x 6 = _ := hH.holds 1 (by decide) trivial 6 rfl
      have e7 : x 7 = _ := hH.holds 2 (by decide) trivial 7 rfl
      have e8 : x 8 = _ := hH.holds 3 (by decide) trivial 8 rfl
      have e9 : x 9 = _ := hH.holds 4 (by decide) trivial 9 rfl
      have e10 : x 10 = _ := hH.holds 5 (by decide) trivial 10 rfl
      have e11 : x 11 = _ := hH.holds 6 (by decide) trivial 11 rfl
      have e12 : x 12 = _ := hH.holds 7 (by decide) trivial 12 rfl
      have e13 : x 13 = _ := hH.holds 8 (by decide) trivial 13 rfl
      have e14 : x 14 = _ := hH.holds 9 (by decide) trivial 14 rfl
      have e15 : x 15 = _ := hH.holds 10 (by decide) trivial 15 rfl
      have e16 : x 16 = _ := hH.holds 11 (by decide) trivial 16 rfl
      obtain ⟨xs, d, rfl⟩ := grow_of_below hH.below
      clear hH
      simp only [e5, e6, e7, e8, e9, e10, e11, e12, e13, e14, e15, e16]; clear e5 e6 e7 e8 e9 e10 e11 e12 e13 e14 e15 e16
      simp only [List.drop_succ_cons, List.drop_zero]
      go_wp2_with fail
      go_ret
      exact ⟨rfl, (by repeat (first | exact below_of_grow _ _ | exact Below.refl _ _ | exact below_more _ _ _ _ | (simp only [← Array.append_assoc]; first | exact below_more _ _ _ _ | exact below_same _ _ _ | exact Below.refl _ _) | exact below_same _ _ _ | (refine Below.alloc ?_ (by first | (simp; done) | (simp; omega)) _) | (refine Below.grow ?_ (by first | (simp; done) | (simp; omega)) _ _) | refine Below.drew ?_ | refine Below.drewN ?_ _ | (refine Below.putF ?_ (by first | (simp; done) | omega | (simp; omega)) _) | (refine Below.setCell ?_ (by first | (simp; done) | (simp; omega)) _)))⟩
  | true =>
    have he := HH.out
    rw [if_pos rfl] at he
    have hcp := cut_gives p d (hc rfl)
    have hck := cut_gives k d (hc rfl)
    have hl1 := cutB_len p.val (plen d) p.property (plen_le d (hc rfl).2)
    have hl2 := cutB_len k.val (plen d) k.property (plen_le d (hc rfl).2)
    clear hc
    generalize cutB p.val (plen d) = c1 at *
    generalize cutB k.val (plen d) = c2 at *
    subst he
    have HP := Lib.hid hcp
    have HK := Lib.hid hck
    clear hcp hck
    unfold Gives
    go_enter Tryd.func6, Tryd.ntmps6
    go_wp2_with fail
    apply wp_region_specs (by rfl) [.val _, .val _, .val _, .val _, .val _, .val _, .val _, .val _, .val _, .val _, .val _, .val _] 12 (by rfl) [5, 6, 7, 8, 9, 10, 11, 12, 13, 14, 15, 16] [] [] (by rfl) (by rfl) (by decide) (by decide +kernel) (fun _ _ _ _ _ h => h)
    case hF => intro x; simp only [over, List.foldl_cons, List.foldl_nil, List.setIfInBounds_toArray, List.set_cons_succ, List.set_cons_zero]; exact rfl
    case hops =>
      refine ⟨?o0, ?o1, ?o2, ?o3, ?o4, ?o5, ?o6, ?o7, ?o8, ?o9, ?o10, ?o11, trivial⟩
      case o0 =>
        intro x w1 hH K hK
        obtain ⟨xs, d, rfl⟩ := grow_of_below hH.below
        clear hH
        try simp only [World.grow_drew] at hK ⊢
        try simp only [World.grow_grow] at hK ⊢
        go_simp
        go_wp2_with fail
        exact ⟨_, rfl, rfl, (by repeat (first | exact below_of_grow _ _ | exact Below.refl _ _ | exact below_more _ _ _ _ | (simp only [← Array.append_assoc]; first | exact below_more _ _ _ _ | exact below_same _ _ _ | exact Below.refl _ _) | exact below_same _ _ _ | (refine Below.alloc ?_ (by first | (simp; done) | (simp; omega)) _) | (refine Below.grow ?_ (by first | (simp; done) | (simp; omega)) _ _) | refine Below.drew ?_ | refine Below.drewN ?_ _ | (refine Below.putF ?_ (by first | (simp; done) | omega | (simp; omega)) _) | (refine Below.setCell ?_ (by first | (simp; done) | (simp; omega)) _))), fun h => by cases h⟩
      case o1 =>
        intro x w1 hH K hK
        have e5 : x 5 = _ := hH.holds 0 (by decide) (by decide +kernel) 5 rfl
        obtain ⟨xs, d, rfl⟩ := grow_of_below hH.below
        clear hH
        try simp only [World.grow_drew] at hK ⊢
        try simp only [World.grow_grow] at hK ⊢
        simp only [e5] at hK ⊢
        clear e5
        go_simp
        go_wp2_with (refine Gives.use (HR.out _) ?_; intro ys e)
        exact ⟨_, rfl, rfl, (by first | exact below_more _ _ _ _ | exact (by repeat (first | exact below_of_grow _ _ | exact Below.refl _ _ | exact below_more _ _ _ _ | (simp only [← Array.append_assoc]; first | exact below_more _ _ _ _ | exact below_same _ _ _ | exact Below.refl _ _) | exact below_same _ _ _ | (refine Below.alloc ?_ (by first | (simp; done) | (simp; omega)) _) | (refine Below.grow ?_ (by first | (simp; done) | (simp; omega)) _ _) | refine Below.drew ?_ | refine Below.drewN ?_ _ | (refine Below.putF ?_ (by first | (simp; done) | omega | (simp; omega)) _) | (refine Below.setCell ?_ (by first | (simp; done) | (simp; omega)) _)))), fun h => by cases h⟩
      case o2 =>
        intro x w1 hH K hK
        have e6 : x 6 = _ := hH.holds 1 (by decide) (by decide +kernel) 6 rfl
        obtain ⟨xs, d, rfl⟩ := grow_of_below hH.below
        clear hH
        try simp only [World.grow_drew] at hK ⊢
        try simp only [World.grow_grow] at hK ⊢
        simp only [e6] at hK ⊢
        clear e6
        go_simp
        go_wp2_with fail
        exact ⟨_, rfl, rfl, (by repeat (first | exact below_of_grow _ _ | exact Below.refl _ _ | exact below_more _ _ _ _ | (simp only [← Array.append_assoc]; first | exact below_more _ _ _ _ | exact below_same _ _ _ | exact Below.refl _ _) | exact below_same _ _ _ | (refine Below.alloc ?_ (by first | (simp; done) | (simp; omega)) _) | (refine Below.grow ?_ (by first | (simp; done) | (simp; omega)) _ _) | refine Below.drew ?_ | refine Below.drewN ?_ _ | (refine Below.putF ?_ (by first | (simp; done) | omega | (simp; omega)) _) | (refine Below.setCell ?_ (by first | (simp; done) | (simp; omega)) _))), fun h => by cases h⟩
      case o3 =>
        intro x w1 hH K hK
        have e7 : x 7 = _ := hH.holds 2 (by decide) (by decide +kernel) 7 rfl
        obtain ⟨xs, d, rfl⟩ := grow_of_below hH.below
        clear hH
        try simp only [World.grow_drew] at hK ⊢
        try simp only [World.grow_grow] at hK ⊢
        simp only [e7] at hK ⊢
        clear e7
        go_simp
        go_wp2_with fail
        exact ⟨_, rfl, rfl, (by repeat (first | exact below_of_grow _ _ | exact Below.refl _ _ | exact below_more _ _ _ _ | (simp only [← Array.append_assoc]; first | exact below_more _ _ _ _ | exact below_same _ _ _ | exact Below.refl _ _) | exact below_same _ _ _ | (refine Below.alloc ?_ (by first | (simp; done) | (simp; omega)) _) | (refine Below.grow ?_ (by first | (simp; done) | (simp; omega)) _ _) | refine Below.drew ?_ | refine Below.drewN ?_ _ | (refine Below.putF ?_ (by first | (simp; done) | omega | (simp; omega)) _) | (refine Below.setCell ?_ (by first | (simp; done) | (simp; omega)) _))), fun h => by cases h⟩
      case o4 =>
        intro x w1 hH K hK
        have e7 : x 7 = _ := hH.holds 2 (by decide) (by decide +kernel) 7 rfl
        have e8 : x 8 = _ := hH.holds 3 (by decide) (by decide +kernel) 8 rfl
        obtain ⟨xs, d, rfl⟩ := grow_of_below hH.below
        clear hH
        try simp only [World.grow_drew] at hK ⊢
        try simp only [World.grow_grow] at hK ⊢
        simp only [e7, e8] at hK ⊢
        clear e7 e8
        go_simp
        go_wp2_with (refine Gives.use (HP.out _) ?_; intro ys e)
        exact ⟨_, rfl, rfl, (by first | exact below_more _ _ _ _ | exact (by repeat (first | exact below_of_grow _ _ | exact Below.refl _ _ | exact below_more _ _ _ _ | (simp only [← Array.append_assoc]; first | exact below_more _ _ _ _ | exact below_same _ _ _ | exact Below.refl _ _) | exact below_same _ _ _ | (refine Below.alloc ?_ (by first | (simp; done) | (simp; omega)) _) | (refine Below.grow ?_ (by first | (simp; done) | (simp; omega)) _ _) | refine Below.drew ?_ | refine Below.drewN ?_ _ | (refine Below.putF ?_ (by first | (simp; done) | omega | (simp; omega)) _) | (refine Below.setCell ?_ (by first | (simp; done) | (simp; omega)) _)))), fun h => by cases h⟩
      case o5 =>
        intro x w1 hH K hK
        have e7 : x 7 = _ := hH.holds 2 (by decide) (by decide +kernel) 7 rfl
        obtain ⟨xs, d, rfl⟩ := grow_of_below hH.below
        clear hH
        try simp only [World.grow_drew] at hK ⊢
        try simp only [World.grow_grow] at hK ⊢
        simp only [e7] at hK ⊢
        clear e7
        go_simp
        go_wp2_with fail
        exact ⟨_, rfl, rfl, (by repeat (first | exact below_of_grow _ _ | exact Below.refl _ _ | exact below_more _ _ _ _ | (simp only [← Array.append_assoc]; first | exact below_more _ _ _ _ | exact below_same _ _ _ | exact Below.refl _ _) | exact below_same _ _ _ | (refine Below.alloc ?_ (by first | (simp; done) | (simp; omega)) _) | (refine Below.grow ?_ (by first | (simp; done) | (simp; omega)) _ _) | refine Below.drew ?_ | refine Below.drewN ?_ _ | (refine Below.putF ?_ (by first | (simp; done) | omega | (simp; omega)) _) | (refine Below.setCell ?_ (by first | (simp; done) | (simp; omega)) _))), fun h => by cases h⟩
      case o6 =>
        intro x w1 hH K hK
        have e7 : x 7 = _ := hH.holds 2 (by decide) (by decide +kernel) 7 rfl
        obtain ⟨xs, d, rfl⟩ := grow_of_below hH.below
        clear hH
        try simp only [World.grow_drew] at hK ⊢
        try simp only [World.grow_grow] at hK ⊢
        simp only [e7] at hK ⊢
        clear e7
        go_simp
        go_wp2_with fail
        exact ⟨_, rfl, rfl, (by repeat (first | exact below_of_grow _ _ | exact Below.refl _ _ | exact below_more _ _ _ _ | (simp only [← Array.append_assoc]; first | exact below_more _ _ _ _ | exact below_same _ _ _ | exact Below.refl _ _) | exact below_same _ _ _ | (refine Below.alloc ?_ (by first | (simp; done) | (simp; omega)) _) | (refine Below.grow ?_ (by first | (simp; done) | (simp; omega)) _ _) | refine Below.drew ?_ | refine Below.drewN ?_ _ | (refine Below.putF ?_ (by first | (simp; done) | omega | (simp; omega)) _) | (refine Below.setCell ?_ (by first | (simp; done) | (simp; omega)) _))), fun h => by cases h⟩
      case o7 =>
        intro x w1 hH K hK
        have e7 : x 7 = _ := hH.holds 2 (by decide) (by decide +kernel) 7 rfl
        have e11 : x 11 = _ := hH.holds 6 (by decide) (by decide +kernel) 11 rfl
        obtain ⟨xs, d, rfl⟩ := grow_of_below hH.below
        clear hH
        try simp only [World.grow_drew] at hK ⊢
        try simp only [World.grow_grow] at hK ⊢
        simp only [e7, e11] at hK ⊢
        clear e7 e11
        go_simp
        go_wp2_with fail
        exact ⟨_, rfl, rfl, (by repeat (first | exact below_of_grow _ _ | exact Below.refl _ _ | exact below_more _ _ _ _ | (simp only [← Array.append_assoc]; first | exact below_more _ _ _ _ | exact below_same _ _ _ | exact Below.refl _ _) | exact below_same _ _ _ | (refine Below.alloc ?_ (by first | (simp; done) | (simp; omega)) _) | (refine Below.grow ?_ (by first | (simp; done) | (simp; omega)) _ _) | refine Below.drew ?_ | refine Below.drewN ?_ _ | (refine Below.putF ?_ (by first | (simp; done) | omega | (simp; omega)) _) | (refine Below.setCell ?_ (by first | (simp; done) | (simp; omega)) _))), fun h => by cases h⟩
      case o8 =>
        intro x w1 hH K hK
        have e7 : x 7 = _ := hH.holds 2 (by decide) (by decide +kernel) 7 rfl
        have e10 : x 10 = _ := hH.holds 5 (by decide) (by decide +kernel) 10 rfl
        have e12 : x 12 = _ := hH.holds 7 (by decide) (by decide +kernel) 12 rfl
        obtain ⟨xs, d, rfl⟩ := grow_of_below hH.below
        clear hH
        try simp only [World.grow_drew] at hK ⊢
        try simp only [World.grow_grow] at hK ⊢
        simp only [e7, e10, e12] at hK ⊢
        clear e7 e10 e12
        go_simp
        go_wp2_with fail
        exact ⟨_, rfl, rfl, (by repeat (first | exact below_of_grow _ _ | exact Below.refl _ _ | exact below_more _ _ _ _ | (simp only [← Array.append_assoc]; first | exact below_more _ _ _ _ | exact below_same _ _ _ | exact Below.refl _ _) | exact below_same _ _ _ | (refine Below.alloc ?_ (by first | (simp; done) | (simp; omega)) _) | (refine Below.grow ?_ (by first | (simp; done) | (simp; omega)) _ _) | refine Below.drew ?_ | refine Below.drewN ?_ _ | (refine Below.putF ?_ (by first | (simp; done) | omega | (simp; omega)) _) | (refine Below.setCell ?_ (by first | (simp; done) | (simp; omega)) _))), fun h => by cases h⟩
      case o9 =>
        intro x w1 hH K hK
        have e7 : x 7 = _ := hH.holds 2 (by decide) (by decide +kernel) 7 rfl
        have e13 : x 13 = _ := hH.holds 8 (by decide) (by decide +kernel) 13 rfl
        obtain ⟨xs, d, rfl⟩ := grow_of_below hH.below
        clear hH
        try simp only [World.grow_drew] at hK ⊢
        try simp only [World.grow_grow] at hK ⊢
        simp only [e7, e13] at hK ⊢
        clear e7 e13
        go_simp
        go_wp2_with (refine Gives.use (HK.out _) ?_; intro ys e)
        exact ⟨_, rfl, rfl, (by first | exact below_more _ _ _ _ | exact (by repeat (first | exact below_of_grow _ _ | exact Below.refl _ _ | exact below_more _ _ _ _ | (simp only [← Array.append_assoc]; first | exact below_more _ _ _ _ | exact below_same _ _ _ | exact Below.refl _ _) | exact below_same _ _ _ | (refine Below.alloc ?_ (by first | (simp; done) | (simp; omega)) _) | (refine Below.grow ?_ (by first | (simp; done) | (simp; omega)) _ _) | refine Below.drew ?_ | refine Below.drewN ?_ _ | (refine Below.putF ?_ (by first | (simp; done) | omega | (simp; omega)) _) | (refine Below.setCell ?_ (by first | (simp; done) | (simp; omega)) _)))), fun h => by cases h⟩
      case o10 =>
        intro x w1 hH K hK
        have e7 : x 7 = _ := hH.holds 2 (by decide) (by decide +kernel) 7 rfl
        have e9 : x 9 = _ := hH.holds 4 (by decide) (by decide +kernel) 9 rfl
        have e14 : x 14 = _ := hH.holds 9 (by decide) (by decide +kernel) 14 rfl
        obtain ⟨xs, d, rfl⟩ := grow_of_below hH.below
        clear hH
        try simp only [World.grow_drew] at hK ⊢
        try simp only [World.grow_grow] at hK ⊢
        simp only [e7, e9, e14] at hK ⊢
        clear e7 e9 e14
        go_simp
        go_wp2_with fail
        exact ⟨_, rfl, rfl, (by repeat (first | exact below_of_grow _ _ | exact Below.refl _ _ | exact below_more _ _ _ _ | (simp only [← Array.append_assoc]; first | exact below_more _ _ _ _ | exact below_same _ _ _ | exact Below.refl _ _) | exact below_same _ _ _ | (refine Below.alloc ?_ (by first | (simp; done) | (simp; omega)) _) | (refine Below.grow ?_ (by first | (simp; done) | (simp; omega)) _ _) | refine Below.drew ?_ | refine Below.drewN ?_ _ | (refine Below.putF ?_ (by first | (simp; done) | omega | (simp; omega)) _) | (refine Below.setCell ?_ (by first | (simp; done) | (simp; omega)) _))), fun h => by cases h⟩
      case o11 =>
        intro x w1 hH K hK
        have e7 : x 7 = _ := hH.holds 2 (by decide) (by decide +kernel) 7 rfl
        have e15 : x 15 = _ := hH.holds 10 (by decide) (by decide +kernel) 15 rfl
        obtain ⟨xs, d, rfl⟩ := grow_of_below hH.below
        clear hH
        try simp only [World.grow_drew] at hK ⊢
        try simp only [World.grow_grow] at hK ⊢
        simp only [e7, e15] at hK ⊢
        clear e7 e15
        go_simp
        go_wp2_with fail
        exact ⟨_, rfl, rfl, (by repeat (first | exact below_of_grow _ _ | exact Below.refl _ _ | exact below_more _ _ _ _ | (simp only [← Array.append_assoc]; first | exact below_more _ _ _ _ | exact below_same _ _ _ | exact Below.refl _ _) | exact below_same _ _ _ | (refine Below.alloc ?_ (by first | (simp; done) | (simp; omega)) _) | (refine Below.grow ?_ (by first | (simp; done) | (simp; omega)) _ _) | refine Below.drew ?_ | refine Below.drewN ?_ _ | (refine Below.putF ?_ (by first | (simp; done) | omega | (simp; omega)) _) | (refine Below.setCell ?_ (by first | (simp; done) | (simp; omega)) _))), fun h => by cases h⟩
    case hend =>
      intro x w1 hH
      have e5 : x 5 = _ := hH.holds 0 (by decide) trivial 5 rfl
      have e6 : x 6 = _ := hH.holds 1 (by decide) trivial 6 rfl
      have e7 : x 7 = _ := hH.holds 2 (by decide) trivial 7 rfl
      have e8 : x 8 = _ := hH.holds 3 (by decide) trivial 8 rfl
      have e9 : x 9 = _ := hH.holds 4 (by decide) trivial 9 rfl
      have e10 : x 10 = _ := hH.holds 5 (by decide) trivial 10 rfl
      have e11 : x 11 = _ := hH.holds 6 (by decide) trivial 11 rfl
      have e12 : x 12 = _ := hH.holds 7 (by decide) trivial 12 rfl
      have e13 : x 13 = _ := hH.holds 8 (by decide) trivial 13 rfl
      have e14 : x 14 = _ := hH.holds 9 (by decide) trivial 14 rfl
      have e15 : x 15 = _ := hH.holds 10 (by decide) trivial 15 rfl
      have e16 : x 16 = _ := hH.holds 11 (by decide) trivial 16 rfl
      obtain ⟨xs, d, rfl⟩ := grow_of_below hH.below
      clear hH
      simp only [e5, e6, e7, e8, e9, e10, e11, e12, e13, e14, e15, e16]; clear e5 e6 e7 e8 e9 e10 e11 e12 e13 e14 e15 e16
      simp only [List.drop_succ_cons, List.drop_zero]
      go_wp2_with fail
      go_ret
      exact ⟨rfl, (by repeat (first | exact below_of_grow _ _ | exact Below.refl _ _ | exact below_more _ _ _ _ | (simp only [← Array.append_assoc]; first | exact below_more _ _ _ _ | exact below_same _ _ _ | exact Below.refl _ _) | exact below_same _ _ _ | (refine Below.alloc ?_ (by first | (simp; done) | (simp; omega)) _) | (refine Below.grow ?_ (by first | (simp; done) | (simp; omega)) _ _) | refine Below.drew ?_ | refine Below.drewN ?_ _ | (refine Below.putF ?_ (by first | (simp; done) | omega | (simp; omega)) _) | (refine Below.setCell ?_ (by first | (simp; done) | (simp; omega)) _)))⟩
end Go.Proofs.YtpdohgadcepipaaDoor

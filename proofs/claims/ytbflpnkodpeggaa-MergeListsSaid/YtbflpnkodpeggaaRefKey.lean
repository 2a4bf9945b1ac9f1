/- The document's keys: three numbers and 22 bytes; their bytes and their order. -/
import Derived.Test.YtbflpnkodpeggaaLess
import Derived.BigRegion
namespace Go.Proofs.Ytbflpnkodpeggaa
open Go.RowKit

/-- a key as the document has it -/
def rk (a b c : Int) (l : List UInt8) : Array Value := (.int .i64 a :: .int .i64 b :: .int .i64 c :: l.map fun b => Value.int .u8 (b.toNat : Int)).toArray
theorem rk_eq (a b c : Int) (l : List UInt8) : rk a b c l = #[.int .i64 a, .int .i64 b, .int .i64 c] ++ row8 l := by
  apply Array.ext'; simp [rk, row8]
@[go_sem] theorem rk_size (a b c : Int) (l : List UInt8) : (rk a b c l).size = 3 + l.length := by simp [rk_eq]
@[go_sem] theorem rk_0 (a b c : Int) (l : List UInt8) : (rk a b c l)[0]? = some (.int .i64 a) := by
  rw [rk_eq]; rw [Array.getElem?_append_left (by simp)]; rfl
@[go_sem, simp] theorem rk_0E (a b c : Int) (l : List UInt8) (h : 0 < (rk a b c l).size) : (rk a b c l)[0]'h = .int .i64 a := by
  have := rk_0 a b c l
  rw [Array.getElem?_eq_getElem h] at this
  exact Option.some.inj this
@[go_sem] theorem rk_1 (a b c : Int) (l : List UInt8) : (rk a b c l)[1]? = some (.int .i64 b) := by
  rw [rk_eq]; rw [Array.getElem?_append_left (by simp)]; rfl
@[go_sem, simp] theorem rk_1E (a b c : Int) (l : List UInt8) (h : 1 < (rk a b c l).size) : (rk a b c l)[1]'h = .int .i64 b := by
  have := rk_1 a b c l
  rw [Array.getElem?_eq_getElem h] at this
  exact Option.some.inj this
@[go_sem] theorem rk_2 (a b c : Int) (l : List UInt8) : (rk a b c l)[2]? = some (.int .i64 c) := by
  rw [rk_eq]; rw [Array.getElem?_append_left (by simp)]; rfl
@[go_sem, simp] theorem rk_2E (a b c : Int) (l : List UInt8) (h : 2 < (rk a b c l).size) : (rk a b c l)[2]'h = .int .i64 c := by
  have := rk_2 a b c l
  rw [Array.getElem?_eq_getElem h] at this
  exact Option.some.inj this
@[go_sem] theorem rk_3 (a b c : Int) (l : List UInt8) (i : Nat) (h : i < l.length) : (rk a b c l)[3 + i]? = some (.int .u8 ((byt l i).toNat : Int)) := by
  rw [rk_eq]
  rw [Array.getElem?_append_right (by simp)]
  simp [row8_get l i h]
@[go_sem] theorem rk_extract (a b c : Int) (l : List UInt8) (o e : Nat) (h : 3 ≤ o) : (rk a b c l).extract o e = row8 ((l.take (e - 3)).drop (o - 3)) := by
  rw [rk_eq]
  rw [Array.extract_append]
  have : (#[Value.int .i64 a, .int .i64 b, .int .i64 c] : Array Value).extract o e = #[] := by
    apply Array.ext'; simp [List.extract_eq_take_drop]; omega
  rw [this, Array.empty_append, row8_extract]
  rfl
@[go_sem] theorem rk_full (a b c : Int) (l : List UInt8) (e : Nat) (h : 3 + l.length ≤ e) : (rk a b c l).extract 0 e = rk a b c l := by
  apply Array.extract_eq_self_of_le; simp [rk_eq]; omega
theorem rk_one (a b c : Int) (l : List UInt8) : (rk a b c l).all (·.oneCell') = true := by
  have := row8_one l
  rw [rk_eq]
  rw [Array.all_append, this, Bool.and_true]
  simp [Value.oneCell']
@[go_sem] theorem rk_3E (a b c : Int) (l : List UInt8) (i : Nat) (h : 3 + i < (rk a b c l).size) : (rk a b c l)[3 + i]'h = .int .u8 ((byt l i).toNat : Int) := by
  have := rk_3 a b c l i (by rw [rk_size] at h; omega)
  rw [Array.getElem?_eq_getElem h] at this
  exact Option.some.inj this
@[go_sem] theorem rk_15 (a b c : Int) (l : List UInt8) (i : Nat) (h : 12 + i < l.length) : (rk a b c l)[15 + i]? = some (.int .u8 ((byt l (12 + i)).toNat : Int)) := by
  have := rk_3 a b c l (12 + i) (by omega)
  simpa [show 3 + (12 + i) = 15 + i by omega] using this
@[go_sem] theorem rk_15E (a b c : Int) (l : List UInt8) (i : Nat) (h : 15 + i < (rk a b c l).size) : (rk a b c l)[15 + i]'h = .int .u8 ((byt l (12 + i)).toNat : Int) := by
  have := rk_3E a b c l (12 + i) (by omega)
  simpa [show 3 + (12 + i) = 15 + i by omega] using this
theorem rk_set (a b c : Int) (l : List UInt8) (i : Nat) (v : UInt8) : (rk a b c l).setIfInBounds (3 + i) (.int .u8 (v.toNat : Int)) = rk a b c (l.set i v) := by
  rw [rk_eq, rk_eq]
  rw [← row8_set]
  apply Array.ext_getElem?
  intro k
  by_cases hk : 3 + i = k
  · subst hk
    by_cases h : i < l.length
    · rw [Array.getElem?_setIfInBounds_self_of_lt (by simp; omega), Array.getElem?_append_right (by simp)]
      simp [h]
    · rw [Array.getElem?_eq_none (by simp; omega), Array.getElem?_eq_none (by simp; omega)]
  · rw [Array.getElem?_setIfInBounds_ne hk, Array.getElem?_append, Array.getElem?_append]
    split
    · rfl
    · rename_i h
      simp at h
      simp only [List.size_toArray, List.length_cons, List.length_nil]
      rw [Array.getElem?_setIfInBounds_ne (by omega)]
def rkey (k : List UInt8) : Array Value := rk ((byt k 0).toNat) ((byt k 1).toNat) ((byt k 2).toNat) (k.drop 3)
@[go_sem] theorem agg_rkey : Try.prog.aggSize 60 = some 25 := by kernel_rfl
@[go_sem ↓ high] theorem ld_rkey (a : Addr) : loadVar 60 a = rowLoad 60 a := rfl
@[go_sem ↓ high] theorem st_rkey (a : Addr) (v : Value) : storeVar 60 a v = rowStore 60 a v := rfl
@[go_sem] theorem run_rowStore_rk {P : Program} {w : World} {t : TypeId} {n o : Nat} {a b c : Int} {l : List UInt8} (ht : P.aggSize t = some (3 + l.length)) (hc : w.there? n o (3 + l.length) = true) :
    (rowStore t ⟨n, o, none⟩ (.agg (rk a b c l))).run P w = .ok () (w.lay n o (rk a b c l)) :=
  run_rowStore (by rw [ht, rk_size]) (by rw [rk_size]; exact hc) (rk_one a b c l)
set_option maxRecDepth 100000 in
set_option maxHeartbeats 1600000 in
theorem refBytes_gives (k : List UInt8) (hk : k.length = 25) (w : World) : Gives Try.prog 29 #[.agg (rkey k)] w (.agg (row8 k)) := by
  have hk25 := hk
  have hl : (k.drop 3).length = 22 := by simp; omega
  have h0 : IntKind.u8.wrap ((byt k 0).toNat : Int) = (byt k 0).toNat := by have := (byt k 0).toNat_lt; simp [IntKind.wrap, IntKind.bits, IntKind.signed]; omega
  have h1 : IntKind.u8.wrap ((byt k 1).toNat : Int) = (byt k 1).toNat := by have := (byt k 1).toNat_lt; simp [IntKind.wrap, IntKind.bits, IntKind.signed]; omega
  have h2 : IntKind.u8.wrap ((byt k 2).toNat : Int) = (byt k 2).toNat := by have := (byt k 2).toNat_lt; simp [IntKind.wrap, IntKind.bits, IntKind.signed]; omega
  unfold rkey
  generalize hll : k.drop 3 = l at *
  generalize hb0 : byt k 0 = b0 at *
  generalize hb1 : byt k 1 = b1 at *
  generalize hb2 : byt k 2 = b2 at *
  have HL := Lib.hid hll
  have HB0 := Lib.hid hb0
  have HB1 := Lib.hid hb1
  have HB2 := Lib.hid hb2
  clear hll hb0 hb1 hb2
  obtain ⟨k0, hk0⟩ : ∃ k0, k0 = k := ⟨_, rfl⟩
  have HK := Lib.hid hk0
  rw [← hk0]
  clear hk0
  unfold Gives
  go_enter Try.func29, Try.ntmps29
  go_wp2_with fail
  go_region
  go_wp2_with fail
  go_loopw [4] (fun i wr => ∃ (k d : Nat), k ≤ 12 ∧ i = .int .i64 k ∧ wr = (((w.alloc (.cells (rk b0.toNat b1.toNat b2.toNat l) 60)).alloc (.cells (row8 (zeros 25)) 89)).alloc (.cells (row8 ([b0, b1, b2] ++ padTo 22 (l.take k))) 89)).drewN d) (fun i _ => 12 - (intOf i).toNat)
  case atStart => exact ⟨0, 1, by omega, rfl, rfl⟩
  case round =>
    obtain ⟨k, d, hk, rfl, rfl⟩ := hrel
    by_cases hlt : k < 12
    · have hset := fill_end [b0, b1, b2] l 22 k (by omega) (by omega)
      have hlen : ([b0, b1, b2] ++ padTo 22 (l.take k)).length = 25 := by rw [List.length_append, padTo_len (by simp; omega)]; rfl
      have hk22 : k < 22 := by omega
      have hkl : 3 + k < ([b0, b1, b2] ++ padTo 22 (l.take k)).length := by omega
      simp only [List.length_cons, List.length_nil, Nat.zero_add, Nat.reduceAdd] at hset
      generalize [b0, b1, b2] ++ padTo 22 (l.take k) = tk at *
      have HSET := Lib.hid hset
      clear hset hlen
      go_wp2_with fail
      go_roundw
      case rel => exact ⟨k + 1, _, by omega, by go_num, by rw [HSET.out]⟩
      case measure => simp [intOf]; omega
    · have : k = 12 := by omega
      subst this
      go_wp2_with fail
      go_loopw [5] (fun i wr => ∃ (k d : Nat), k ≤ 10 ∧ i = .int .i64 k ∧ wr = (((w.alloc (.cells (rk b0.toNat b1.toNat b2.toNat l) 60)).alloc (.cells (row8 (zeros 25)) 89)).alloc (.cells (row8 ([b0, b1, b2] ++ padTo 22 (l.take (12 + k)))) 89)).drewN d) (fun i _ => 10 - (intOf i).toNat)
      case atStart => exact ⟨0, d, by omega, rfl, rfl⟩
      case round =>
        obtain ⟨k, d, hk, rfl, rfl⟩ := hrel
        by_cases hlt : k < 10
        · have hset := fill_end [b0, b1, b2] l 22 (12 + k) (by omega) (by omega)
          have hlen : ([b0, b1, b2] ++ padTo 22 (l.take (12 + k))).length = 25 := by rw [List.length_append, padTo_len (by simp; omega)]; rfl
          have hk22 : 12 + k < 22 := by omega
          have hkl : 15 + k < ([b0, b1, b2] ++ padTo 22 (l.take (12 + k))).length := by omega
          simp only [List.length_cons, List.length_nil, Nat.zero_add, Nat.reduceAdd, ← Nat.add_assoc] at hset
          generalize [b0, b1, b2] ++ padTo 22 (l.take (12 + k)) = tk at *
          have HSET := Lib.hid hset
          clear hset hlen
          go_wp2_with fail
          go_roundw
          case rel => exact ⟨k + 1, _, by omega, by go_num, by rw [HSET.out]; rfl⟩
          case measure => simp [intOf]; omega
        · have : k = 10 := by omega
          subst this
          have hfin : [b0, b1, b2] ++ padTo 22 (l.take (12 + 10)) = k0 := by
            rw [HK.out, ← HL.out, ← HB0.out, ← HB1.out, ← HB2.out]
            match k, hk25 with
            | [a, b, c, d, e, f, g, i, j, l, m, n, o, p, q, r, s, t, u, v, w, x, y, z, a2], _ => rfl
          have hk0 : k0.length = 25 := by rw [HK.out]; exact hk25
          rw [hfin]
          clear hfin
          go_wp2_with fail
          exact bodyPost_ret (v := .agg (row8 k0)) (results_one Try.results29 (ResIs.row rfl agg_b25 (by simp [go_sem, hk0]))) rfl ⟨rfl, (by repeat (first | exact below_of_grow _ _ | exact Below.refl _ _ | exact below_more _ _ _ _ | (simp only [← Array.append_assoc]; first | exact below_more _ _ _ _ | exact below_same _ _ _ | exact Below.refl _ _) | exact below_same _ _ _ | (refine Below.alloc ?_ (by first | (simp; done) | (simp; omega)) _) | (refine Below.grow ?_ (by first | (simp; done) | (simp; omega)) _ _) | refine Below.drew ?_ | refine Below.drewN ?_ _ | (refine Below.putF ?_ (by first | (simp; done) | omega | (simp; omega)) _) | (refine Below.setCell ?_ (by first | (simp; done) | (simp; omega)) _)))⟩
end Go.Proofs.Ytbflpnkodpeggaa

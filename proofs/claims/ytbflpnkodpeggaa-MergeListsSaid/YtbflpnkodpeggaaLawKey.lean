/- A key as the document has it. -/
import Derived.Test.YtbflpnkodpeggaaRefLess
import Derived.IntWalk
namespace Go.Proofs.Ytbflpnkodpeggaa
open Go.RowKit

@[go_sem] theorem lit_rk (a b c : Int) : (#[.int .i64 a, .int .i64 b, .int .i64 c, .int .u8 0, .int .u8 0, .int .u8 0, .int .u8 0, .int .u8 0, .int .u8 0, .int .u8 0, .int .u8 0, .int .u8 0, .int .u8 0, .int .u8 0, .int .u8 0, .int .u8 0, .int .u8 0, .int .u8 0, .int .u8 0, .int .u8 0, .int .u8 0, .int .u8 0, .int .u8 0, .int .u8 0, .int .u8 0] : Array Value) = rk a b c (zeros 22) := rfl
@[go_sem] theorem splice_rk (a b c : Int) (l m : List UInt8) (o : Nat) (h1 : 3 ≤ o) (h : o + m.length ≤ 3 + l.length) : spliceA (rk a b c l) o (row8 m) = rk a b c (spl l (o - 3) m) := by
  obtain ⟨p, rfl⟩ : ∃ p, o = 3 + p := ⟨o - 3, by omega⟩
  rw [Nat.add_sub_cancel_left]
  rw [rk_eq, rk_eq, ← splice_row8 _ _ _ (by omega)]
  apply Array.ext_getElem?
  intro j
  rw [spliceA_get (by simp; omega), Array.getElem?_append, Array.getElem?_append]
  simp only [List.size_toArray, List.length_cons, List.length_nil, row8_size]
  by_cases h2 : j < 3
  · rw [if_neg (by omega), if_pos h2, if_pos h2]
  · rw [if_neg h2, if_neg h2, spliceA_get (by simp; omega), row8_size]
    by_cases h3 : 3 + p ≤ j ∧ j < 3 + p + m.length
    · rw [if_pos h3, if_pos (by omega)]; congr 1; omega
    · rw [if_neg h3, if_neg (by omega)]
@[go_sem] theorem rk_set15 (a b c : Int) (l : List UInt8) (i : Nat) (v : UInt8) : (rk a b c l).setIfInBounds (15 + i) (.int .u8 (v.toNat : Int)) = rk a b c (l.set (12 + i) v) := by
  have := rk_set a b c l (12 + i) v
  rwa [show 3 + (12 + i) = 15 + i by omega] at this
@[go_sem] theorem rk_set0 (a b c x : Int) (l : List UInt8) : (rk a b c l).setIfInBounds 0 (.int .i64 x) = rk x b c l := by simp [rk]
@[go_sem] theorem rk_set1 (a b c x : Int) (l : List UInt8) : (rk a b c l).setIfInBounds 1 (.int .i64 x) = rk a x c l := by simp [rk]
@[go_sem] theorem rk_set2 (a b c x : Int) (l : List UInt8) : (rk a b c l).setIfInBounds 2 (.int .i64 x) = rk a b x l := by simp [rk]
theorem wrap64_byte (b : UInt8) : wrap64 (b.toNat : Int) = b.toNat := by
  have h := b.toNat_lt
  unfold wrap64
  omega
theorem name_spl (l : List UInt8) (h : l.length = 12) : spl (zeros 22) 0 l = l ++ zeros 10 := by
  simp [spl, h]
  rw [List.take_of_length_le (by simp [zeros, h])]
  simp [zeros]
set_option maxRecDepth 100000 in
set_option maxHeartbeats 1600000 in
theorem lawOf_gives (k : List UInt8) (hk : k.length = 25) (w : World) : Gives Try.prog 15 #[.agg (row8 k)] w (.agg (rkey k)) := by
  have h0 : wrap64 ((byt k 0).toNat : Int) = (byt k 0).toNat := wrap64_byte _
  have h1 : wrap64 ((byt k 1).toNat : Int) = (byt k 1).toNat := wrap64_byte _
  have h2 : wrap64 ((byt k 2).toNat : Int) = (byt k 2).toNat := wrap64_byte _
  have hn : (List.drop 3 (List.take 15 k)).length = 12 := by simp; omega
  have ht : (k.drop 15).length = 10 := by simp; omega
  have hsp := name_spl _ hn
  have hfin : List.drop 3 (List.take 15 k) ++ k.drop 15 = k.drop 3 := by
    rw [List.drop_take, show 15 - 3 = 12 from rfl, show k.drop 15 = (k.drop 3).drop 12 by rw [List.drop_drop], List.take_append_drop]
  have hbyt : ∀ i, i < 10 → byt k (15 + i) = byt (k.drop 15) i := by
    intro i hi
    unfold byt
    rw [List.getD_eq_getElem?_getD, List.getD_eq_getElem?_getD, List.getElem?_drop]
  unfold rkey
  rw [← hfin]
  generalize hnn : List.drop 3 (List.take 15 k) = n12 at *
  have HN := Lib.hid hnn
  have HB := Lib.hid hbyt
  have HSP := Lib.hid hsp
  generalize k.drop 15 = t at *
  clear hsp hfin hbyt hnn
  unfold Gives
  go_enter Try.func15, Try.ntmps15
  go_wp2_with fail
  go_loopw [4] (fun i wr => ∃ (q d : Nat), q ≤ 10 ∧ i = .int .i64 q ∧ wr = (((w.alloc (.cells (row8 k) 38)).alloc (.cells (rk 0 0 0 (zeros 22)) 60)).alloc (.cells (rk (byt k 0).toNat (byt k 1).toNat (byt k 2).toNat (n12 ++ padTo 10 (t.take q))) 60)).drewN d) (fun i _ => 10 - (intOf i).toNat)
  case atStart => exact ⟨0, 0, by omega, rfl, by rw [List.take_zero, padTo_nil, ← HSP.out, HN.out]; rfl⟩
  case round =>
    obtain ⟨q, d, hq, rfl, rfl⟩ := hrel
    by_cases hlt : q < 10
    · have hset := fill_end n12 t 10 q (by omega) (by omega)
      have hlen : (n12 ++ padTo 10 (t.take q)).length = 22 := by rw [List.length_append, padTo_len (by simp; omega)]; omega
      rw [hn] at hset
      have hqk : 15 + q < 25 := by omega
      have hb := HB.out q hlt
      generalize n12 ++ padTo 10 (t.take q) = tk at *
      have HSET := Lib.hid hset
      have HBB := Lib.hid hb
      clear hset hb
      by_cases h3 : q < 3
      · go_wp2_with fail
        go_roundw
        case rel => exact ⟨q + 1, _, by omega, by go_num, by rw [HBB.out, HSET.out]⟩
        case measure => simp [intOf]; omega
      · by_cases h7 : q < 7
        · obtain ⟨j, rfl⟩ : ∃ j, q = 3 + j := ⟨q - 3, by omega⟩
          have hj : 18 + j < 25 := by omega
          have hbb := HBB.out
          rw [show 15 + (3 + j) = 18 + j by omega] at hbb
          have HB2 := Lib.hid hbb
          clear hbb
          go_wp2_with fail
          go_roundw
          case rel => exact ⟨3 + j + 1, _, by omega, by go_num, by rw [← HSET.out, ← HB2.out]⟩
          case measure => simp [intOf]; omega
        · obtain ⟨j, rfl⟩ : ∃ j, q = 7 + j := ⟨q - 7, by omega⟩
          have hj : 22 + j < 25 := by omega
          have hbb := HBB.out
          rw [show 15 + (7 + j) = 22 + j by omega] at hbb
          have HB2 := Lib.hid hbb
          clear hbb
          go_wp2_with fail
          go_roundw
          case rel => exact ⟨7 + j + 1, _, by omega, by go_num, by rw [← HSET.out, ← HB2.out]⟩
          case measure => simp [intOf]; omega
    · have : q = 10 := by omega
      subst this
      have hp : padTo 10 (t.take 10) = t := by rw [List.take_of_length_le (by omega)]; unfold padTo; simp [ht, zeros]
      rw [hp]
      clear hp
      go_wp2_with fail
      exact bodyPost_ret (v := .agg (rk (byt k 0).toNat (byt k 1).toNat (byt k 2).toNat (n12 ++ t))) (results_one Try.results15 (ResIs.row rfl agg_rkey (by simp [go_sem, hn, ht]))) rfl ⟨rfl, (by repeat (first | exact below_of_grow _ _ | exact Below.refl _ _ | exact below_more _ _ _ _ | (simp only [← Array.append_assoc]; first | exact below_more _ _ _ _ | exact below_same _ _ _ | exact Below.refl _ _) | exact below_same _ _ _ | (refine Below.alloc ?_ (by first | (simp; done) | (simp; omega)) _) | (refine Below.grow ?_ (by first | (simp; done) | (simp; omega)) _ _) | refine Below.drew ?_ | refine Below.drewN ?_ _ | (refine Below.putF ?_ (by first | (simp; done) | omega | (simp; omega)) _) | (refine Below.setCell ?_ (by first | (simp; done) | (simp; omega)) _)))⟩
end Go.Proofs.Ytbflpnkodpeggaa

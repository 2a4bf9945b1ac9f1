/- Layer 22: the text of a mask. -/
import Derived.Test.YtlgjkplainjmdaaDoorRole5
namespace Go.Proofs.YtlgjkplainjmdaaDoor
open Go.RowKit
set_option maxRecDepth 100000

def u8s (l : List UInt8) : List Value := l.map fun (b : UInt8) => Value.int .u8 b.toNat
theorem info_u8 : (Tryd.prog.info? 5).map (fun i => (i.zero, i.size, i.bytes)) = some (some (.int .u8 0), 1, 1) := by kernel_rfl

def textB (m : Int) : List UInt8 := if m < 0 ∨ 63 < m then [] else if m = 0 then [45] else lettersTo m.toNat 6

theorem lettersTo_pos : ∀ m : Fin 64, 1 ≤ m.val → 0 < (lettersTo m.val 6).length := by decide +kernel
theorem bit_at (m k : Nat) (hm : m < 64) : (bits .and .i64 ((m : Int) / 2 ^ k) 1 == 1) = decide (m / 2 ^ k % 2 = 1) := by
  have hq : m / 2 ^ k < 64 := Nat.lt_of_le_of_lt (Nat.div_le_self _ _) hm
  have e : ((m : Int) / 2 ^ k) = ((m / 2 ^ k : Nat) : Int) := by simp
  rw [e, show (1 : Int) = ((1 : Nat) : Int) from rfl, i64_and_nat _ 1 (by omega) (by omega), Nat.and_one_is_mod, Bool.eq_iff_iff, beq_iff_eq, decide_eq_true_eq]
  omega
theorem u8s_get (l : List UInt8) (j : Nat) (h : j < l.length) : (u8s l)[j]? = some (.int .u8 (l[j].toNat : Int)) := by simp [u8s, h]

set_option maxHeartbeats 800000 in
theorem roleText_some (m : Nat) (h1 : 1 ≤ m) (h2 : m ≤ 63) (w : World) : Gives Tryd.prog 12 #[.int .i64 m] w (.string (bs (lettersTo m 6))) := by
  obtain ⟨i0, hi, hz0, hz1, hz2⟩ := info_parts info_u8
  have HI := Lib.hid hi
  have HZ0 := Lib.hid hz0
  have HZ1 := Lib.hid hz1
  have HZ2 := Lib.hid hz2
  clear hi hz0 hz1 hz2
  have hm0 : ((m : Int) == 0) = false := by simp; omega
  unfold Gives
  go_enter Tryd.func12, Tryd.ntmps12
  go_wp2_with fail
  go_loopw [3, 15] (fun v i wr => ∃ k : Nat, k ≤ 6 ∧ i = .int .i64 k ∧ Below w.heap.size w wr ∧ wr.ownsRow w.heap.size 5 1 v (lettersTo m k).length (u8s (lettersTo m k))) (fun _ i _ => 6 - (intOf i).toNat)
  case atStart => exact ⟨0, by omega, rfl, Below.refl _ _, World.ownsRow_nil _ _ _ _⟩
  case round =>
    obtain ⟨k, hk, rfl, hb, hown⟩ := hrel
    have hl := lettersTo_len m k
    have hs := hb.size
    have HB := Lib.hid hb
    have HO := Lib.hid hown
    clear hb hown
    by_cases hlt : k < 6
    · have hbit := bit_at m k (by omega)
      have hsucc : lettersTo m (k + 1) = lettersTo m k ++ if m / 2 ^ k % 2 = 1 then [lettersL.getD k 0] else [] := rfl
      have HS := Lib.hid hsucc
      clear hsucc
      by_cases hq : m / 2 ^ k % 2 = 1
      · have HQ := Lib.hid hq
        rw [decide_eq_true hq] at hbit
        clear hq
        go_wp2_with (at_builtin; refine wpList_append_own _ rfl _ _ 68 rfl w.heap.size 5 i0 (.int .u8 0) 1 1 Tryd.underlying68 HI.out HZ0.out HZ1.out HZ2.out rfl (by decide) _ _ _ rfl (HO.out.alloc _) ⟨wr.heap.size, 0, none⟩ 1 1 [.int .u8 ((ByteArray.mk #[114, 101, 118, 115, 109, 103])[k]'(show k < 6 from hlt)).toNat] rfl rfl ?c1 ?c2 ?c3 ?c4 ?c5 ?_)
        case c1 =>
          intro j u hj
          have : j = 0 := by
            have := (List.getElem?_eq_some_iff.1 hj).1
            simp at this; omega
          subst this
          simp at hj; subst hj
          simp [go_sem]
        case c2 => intro u hu; simp at hu; subst hu; rfl
        case c3 => unfold maxLen; omega
        case c4 => omega
        case c5 => simp; omega
        intro v' w1 hown1 hg1 _
        have hb1 : Below w.heap.size w w1 := by
          refine Below.grown (HB.out.alloc hs _) hg1 (by simp; omega) ?_
          intro q hq
          exact (HO.out.lt q hq).1
        have HB1 := Lib.hid hb1
        have HO1 := Lib.hid hown1
        clear hb1 hown1 hg1
        go_wp2_with fail
        go_roundw
        case rel =>
          refine ⟨k + 1, by omega, by go_num, HB1.out, ?_⟩
          rw [HS.out, if_pos HQ.out]
          have := HO1.out
          rw [let_at] at this
          simpa [u8s] using this
        case measure => simp [intOf]; omega
      · have HQ := Lib.hid hq
        rw [decide_eq_false hq] at hbit
        clear hq
        go_wp2_with fail
        go_roundw
        case rel =>
          refine ⟨k + 1, by omega, by go_num, HB.out, ?_⟩
          rw [HS.out, if_neg HQ.out, List.append_nil]
          exact HO.out
        case measure => simp [intOf]; omega
    · have : k = 6 := by omega
      subst this
      have hpos := lettersTo_pos ⟨m, by omega⟩ h1
      obtain ⟨g, cap, hv⟩ := Go.Joins.ownsRow_form HO.out hpos
      subst hv
      have hcv := run_convert_bytes_back wr 68 9 5 ⟨g, 0, none⟩ cap (lettersTo m 6) Tryd.underlying68 Tryd.underlying5 Tryd.underlying9 (fun j hj => by
        rw [addr_add, Nat.zero_add, HO.out.cellAt j (by omega), u8s_get _ j hj])
      clear hpos
      go_wp2_with fail
      go_ret
      exact ⟨rfl, HB.out⟩

theorem roleText_gives (m : Int) (w : World) : Gives Tryd.prog 12 #[.int .i64 m] w (.string (bs (textB m))) := by
  by_cases h : m < 0 ∨ 63 < m
  · have e : textB m = [] := if_pos h
    rw [e]
    unfold Gives
    go_enter Tryd.func12, Tryd.ntmps12
    go_wp2_with fail
    all_goals (go_ret; exact ⟨rfl, (by repeat (first | exact below_of_grow _ _ | exact Below.refl _ _ | exact below_more _ _ _ _ | (simp only [← Array.append_assoc]; first | exact below_more _ _ _ _ | exact below_same _ _ _ | exact Below.refl _ _) | exact below_same _ _ _ | (refine Below.alloc ?_ (by first | (simp; done) | (simp; omega)) _) | (refine Below.grow ?_ (by first | (simp; done) | (simp; omega)) _ _) | refine Below.drew ?_ | refine Below.drewN ?_ _ | (refine Below.putF ?_ (by first | (simp; done) | omega | (simp; omega)) _) | (refine Below.setCell ?_ (by first | (simp; done) | (simp; omega)) _)))⟩)
  · by_cases h0 : m = 0
    · subst h0
      unfold Gives
      go_enter Tryd.func12, Tryd.ntmps12
      go_wp2_with fail
      go_ret
      exact ⟨rfl, (by repeat (first | exact below_of_grow _ _ | exact Below.refl _ _ | exact below_more _ _ _ _ | (simp only [← Array.append_assoc]; first | exact below_more _ _ _ _ | exact below_same _ _ _ | exact Below.refl _ _) | exact below_same _ _ _ | (refine Below.alloc ?_ (by first | (simp; done) | (simp; omega)) _) | (refine Below.grow ?_ (by first | (simp; done) | (simp; omega)) _ _) | refine Below.drew ?_ | refine Below.drewN ?_ _ | (refine Below.putF ?_ (by first | (simp; done) | omega | (simp; omega)) _) | (refine Below.setCell ?_ (by first | (simp; done) | (simp; omega)) _)))⟩
    · obtain ⟨k, rfl⟩ := Int.eq_ofNat_of_zero_le (a := m) (by omega)
      have e : textB k = lettersTo k 6 := by unfold textB; rw [if_neg h, if_neg h0, Int.toNat_natCast]
      rw [e]
      exact roleText_some k (by omega) (by omega) w

theorem known22 (w : World) : Gives Tryd.prog 7 #[] w (.bool true) := by
  have t1 := roleText_gives 21
  have e1 : bs (textB 21) = bs [114, 118, 109] := by decide +kernel
  rw [e1] at t1
  have T1 := Lib.hid t1
  have m1 := may_gives 63 17
  have m2 := may_gives 63 16
  rw [show mayB 63 17 = false by decide] at m1
  rw [show mayB 63 16 = true by decide] at m2
  have M1 := Lib.hid m1
  have M2 := Lib.hid m2
  clear t1 e1 m1 m2
  unfold Gives
  go_enter Tryd.func7, Tryd.ntmps7
  go_wp2_with fail
  refine Gives.use (T1.out _) ?_
  intro xs d
  have hs : (bs [114, 118, 109]).toList = [114, 118, 109] := by decide +kernel
  go_wp2_with fail
  refine Gives.use (least_gives [7, 13] _ _ ⟨_, 2, rfl, Nat.le_refl _, by unfold maxLen; omega, fun _ => ⟨_, 0, rfl, by simp, fun j u hu => ?_⟩⟩) ?_
  · have : j < 2 := by have := (List.getElem?_eq_some_iff.1 hu).1; simpa [iv] using this
    match j, this with
    | 0, _ | 1, _ => simp [iv] at hu; subst hu; simp [go_sem]
  rw [show leastN [7, 13] = 26 by decide]
  intro ys e
  go_wp2_with fail
  refine Gives.use (M1.out _) ?_
  intro zs f
  go_wp2_with fail
  refine Gives.use (M2.out _) ?_
  intro us g
  go_wp2_with fail
  go_ret
  exact ⟨rfl, (by repeat (first | exact below_of_grow _ _ | exact Below.refl _ _ | exact below_more _ _ _ _ | (simp only [← Array.append_assoc]; first | exact below_more _ _ _ _ | exact below_same _ _ _ | exact Below.refl _ _) | exact below_same _ _ _ | (refine Below.alloc ?_ (by first | (simp; done) | (simp; omega)) _) | (refine Below.grow ?_ (by first | (simp; done) | (simp; omega)) _ _) | refine Below.drew ?_ | refine Below.drewN ?_ _ | (refine Below.putF ?_ (by first | (simp; done) | omega | (simp; omega)) _) | (refine Below.setCell ?_ (by first | (simp; done) | (simp; omega)) _)))⟩
end Go.Proofs.YtlgjkplainjmdaaDoor

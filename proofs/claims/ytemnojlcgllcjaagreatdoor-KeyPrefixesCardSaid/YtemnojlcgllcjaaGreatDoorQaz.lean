/- Layer 2's document: which bytes come first; are they the same? -/
import Derived.Test.YtemnojlcgllcjaaGreatDoorQat
import Derived.Test.YtemnojlcgllcjaaGreatDoorQam
import Derived.Handy
namespace Go.Proofs.YtemnojlcgllcjaaGreatDoor
set_option maxRecDepth 100000
open Go.RowKit

theorem lessL_gen : ∀ (a b : List UInt8) (k : Nat), k < a.length → k < b.length → a.take k = b.take k → ¬ byt a k = byt b k → lessL a b = decide ((byt a k).toNat < (byt b k).toNat)
  | [], _, k, h, _, _, _ => by simp at h
  | x :: a, [], k, _, h, _, _ => by simp at h
  | x :: a, y :: b, 0, _, _, _, hne => by
    have hne : ¬ x = y := hne
    unfold lessL
    rw [if_neg hne]
    show decide (x < y) = decide (x.toNat < y.toNat)
    rw [decide_eq_decide]; exact UInt8.lt_iff_toNat_lt
  | x :: a, y :: b, k + 1, h1, h2, h3, hne => by
    simp only [List.take_succ_cons, List.cons.injEq] at h3
    unfold lessL
    rw [if_pos h3.1]
    exact lessL_gen a b k (by simpa using h1) (by simpa using h2) h3.2 hne
theorem lessL_short : ∀ (a b : List UInt8), a.length < b.length → a = b.take a.length → lessL a b = true
  | [], [], h, _ => by simp at h
  | [], _ :: _, _, _ => rfl
  | x :: a, [], h, _ => by simp at h
  | x :: a, y :: b, h, e => by
    simp only [List.length_cons, List.take_succ_cons, List.cons.injEq] at e h
    unfold lessL
    rw [if_pos e.1]
    exact lessL_short a b (by omega) e.2
theorem lessL_pre : ∀ (a b : List UInt8), b.length ≤ a.length → a.take b.length = b → lessL a b = false
  | [], [], _, _ => rfl
  | [], _ :: _, h, _ => by simp at h
  | x :: a, [], _, _ => rfl
  | x :: a, y :: b, h, e => by
    simp only [List.length_cons, List.take_succ_cons, List.cons.injEq] at e h
    unfold lessL
    rw [if_pos e.1]
    exact lessL_pre a b (by omega) e.2
theorem lessL_same : ∀ (a b : List UInt8), lessL a b = false → lessL b a = false → a = b
  | [], [], _, _ => rfl
  | [], _ :: _, h, _ => by cases h
  | _ :: _, [], _, h => by cases h
  | x :: a, y :: b, h, h' => by
    unfold lessL at h h'
    by_cases e : x = y
    · rw [if_pos e] at h; rw [if_pos e.symm] at h'
      rw [e, lessL_same a b h h']
    · rw [if_neg e] at h; rw [if_neg (Ne.symm e)] at h'
      simp only [decide_eq_false_iff_not, UInt8.lt_iff_toNat_lt] at h h'
      exact absurd (UInt8.toNat_inj.1 (by omega)) e
theorem same_lessL (a b : List UInt8) : (!lessL a b && !lessL b a) = (a == b) := by
  by_cases h : a = b
  · subst h; simp [lessL_self]
  · rw [beq_eq_false_iff_ne.2 h]
    cases h1 : lessL a b
    · cases h2 : lessL b a
      · exact absurd (lessL_same a b h1 h2) h
      · rfl
    · rfl
set_option maxHeartbeats 4000000 in
theorem ref2Less_gives {w : World} {B B' : Nat} {u v : Value} (a b : List UInt8) (ha : SlB w B u a) (hb : SlB w B' v b) : Gives Tryz.prog 45 #[u, v] w (.bool (lessL a b)) := by
  obtain ⟨xa, ca, rfl, hca, hma, ha⟩ := ha
  obtain ⟨xb, cb, rfl, hcb, hmb, hb⟩ := hb
  have HA := Lib.hid ha
  have HB := Lib.hid hb
  clear ha hb
  unfold maxLen at hma hmb
  unfold Gives
  go_enter Tryz.func45, Tryz.ntmps45
  go_wp2_with fail
  go_loopw [5] (fun i wr => ∃ (k d : Nat), k ≤ b.length ∧ k ≤ a.length ∧ i = .int .i64 k ∧ Hid (a.take k = b.take k) ∧ wr = w.drewN d) (fun i _ => b.length - (intOf i).toNat)
  case atStart => exact ⟨0, 0, by omega, by omega, rfl, Lib.hid (by simp), rfl⟩
  case round =>
    obtain ⟨k, d, hk, hka, rfl, ht, rfl⟩ := hrel
    by_cases hlt : k < b.length
    · have hltI : (k : Int) < b.length := by omega
      by_cases hla : k < a.length
      · have hlaI : ¬ (k : Int) ≥ a.length := by omega
        have hlaI2 : (k : Int) < a.length := by omega
        obtain ⟨ba, oa, rfl, hBa, hcA⟩ := HA.out (by omega)
        obtain ⟨bb, ob, rfl, hBb, hcB⟩ := HB.out (by omega)
        have c5 : w.cell? ⟨ba, oa + k, none⟩ = some (.int .u8 ((byt a k).toNat : Int)) := ((cut_spec hcA).2 k hla).trans (row8_get a k hla)
        have c6 : w.cell? ⟨bb, ob + k, none⟩ = some (.int .u8 ((byt b k).toNat : Int)) := ((cut_spec hcB).2 k hlt).trans (row8_get b k hlt)
        clear hcA hcB
        by_cases he : byt a k = byt b k
        · have hne : (((byt a k).toNat : Int) != ((byt b k).toNat : Int)) = false := by rw [he]; simp
          have hts := take_step (by omega) (by omega) ht.out he
          have HTS := Lib.hid hts
          clear hts he
          go_wp2_with fail
          go_quiet (fail)
          go_wp2_with fail
          go_roundw
          case rel => exact ⟨k + 1, _, by omega, by omega, by go_num, HTS, rfl⟩
          case measure => simp [intOf]; omega
        · have hne : (((byt a k).toNat : Int) != ((byt b k).toNat : Int)) = true := by rw [byte_eqI]; simp [he]
          have hl := lessL_gen a b k (by omega) (by omega) ht.out he
          have HLL := Lib.hid hl
          clear hl he
          go_wp2_with fail
          go_quiet (fail)
          go_wp2_with fail
          go_quiet (fail)
          go_wp2_with fail
          go_ret
          exact ⟨congrArg Ending.returned (congrArg Value.bool (by rw [HLL.out])), (by repeat (first | exact below_of_grow _ _ | exact Below.refl _ _ | exact below_more _ _ _ _ | (simp only [← Array.append_assoc]; first | exact below_more _ _ _ _ | exact below_same _ _ _ | exact Below.refl _ _) | exact below_same _ _ _ | (refine Below.alloc ?_ (by first | (simp; done) | (simp; omega)) _) | (refine Below.grow ?_ (by first | (simp; done) | (simp; omega)) _ _) | refine Below.drew ?_ | refine Below.drewN ?_ _ | (refine Below.putF ?_ (by first | (simp; done) | omega | (simp; omega)) _) | (refine Below.setCell ?_ (by first | (simp; done) | (simp; omega)) _)))⟩
      · have hlaI : (a.length : Int) ≤ k := by omega
        have hl : lessL a b = true := lessL_short a b (by omega) (by have := ht.out; rw [List.take_of_length_le (by omega)] at this; rw [this]; congr 1; simp; omega)
        have HLL := Lib.hid hl
        clear hl
        go_wp2_with fail
        go_ret
        exact ⟨congrArg Ending.returned (congrArg Value.bool HLL.out.symm), (by repeat (first | exact below_of_grow _ _ | exact Below.refl _ _ | exact below_more _ _ _ _ | (simp only [← Array.append_assoc]; first | exact below_more _ _ _ _ | exact below_same _ _ _ | exact Below.refl _ _) | exact below_same _ _ _ | (refine Below.alloc ?_ (by first | (simp; done) | (simp; omega)) _) | (refine Below.grow ?_ (by first | (simp; done) | (simp; omega)) _ _) | refine Below.drew ?_ | refine Below.drewN ?_ _ | (refine Below.putF ?_ (by first | (simp; done) | omega | (simp; omega)) _) | (refine Below.setCell ?_ (by first | (simp; done) | (simp; omega)) _)))⟩
    · have hltI : ¬ (k : Int) < b.length := by omega
      have hl : lessL a b = false := lessL_pre a b (by omega) (by have := ht.out; rw [List.take_of_length_le (l := b) (by omega)] at this; rw [← this]; congr 1; simp; omega)
      have HLL := Lib.hid hl
      clear hl
      go_wp2_with fail
      go_ret
      exact ⟨congrArg Ending.returned (congrArg Value.bool HLL.out.symm), (by repeat (first | exact below_of_grow _ _ | exact Below.refl _ _ | exact below_more _ _ _ _ | (simp only [← Array.append_assoc]; first | exact below_more _ _ _ _ | exact below_same _ _ _ | exact Below.refl _ _) | exact below_same _ _ _ | (refine Below.alloc ?_ (by first | (simp; done) | (simp; omega)) _) | (refine Below.grow ?_ (by first | (simp; done) | (simp; omega)) _ _) | refine Below.drew ?_ | refine Below.drewN ?_ _ | (refine Below.putF ?_ (by first | (simp; done) | omega | (simp; omega)) _) | (refine Below.setCell ?_ (by first | (simp; done) | (simp; omega)) _)))⟩
end Go.Proofs.YtemnojlcgllcjaaGreatDoor

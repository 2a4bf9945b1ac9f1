/- Layer 22: masks and letters, as the document has them. -/
import Derived.Test.YteefknjaandjhaaSpec
import Derived.Lib.Hide
namespace Go.Proofs.Yteefknjaandjhaa
open Go.RowKit

def lettersL : List UInt8 := [114, 101, 118, 115, 109, 103]
/-- the mask of the first i letters that are in s -/
def maskTo (s : List UInt8) : Nat → Int
  | 0 => 0
  | i + 1 => maskTo s i + if lettersL.getD i 0 ∈ s then 2 ^ i else 0
def maskL (s : List UInt8) : Int := maskTo s 6

theorem pow_bd {k : Nat} (h : k < 6) : 1 ≤ (2 : Int) ^ k ∧ (2 : Int) ^ k ≤ 32 ∧ (2 : Int) ^ (k + 1) = 2 ^ k * 2 := by
  refine ⟨?_, ?_, Int.pow_succ 2 k⟩
  · match k, h with
    | 0, _ | 1, _ | 2, _ | 3, _ | 4, _ | 5, _ => decide
  · match k, h with
    | 0, _ | 1, _ | 2, _ | 3, _ | 4, _ | 5, _ => decide
theorem maskTo_bd (s : List UInt8) : ∀ k, k ≤ 6 → 0 ≤ maskTo s k ∧ maskTo s k < 2 ^ k
  | 0, _ => by simp [maskTo]
  | k + 1, h => by
    have ih := maskTo_bd s k (by omega)
    have hp := pow_bd (k := k) (by omega)
    simp only [maskTo]
    split <;> omega
theorem let_at (k : Nat) (h : k < (ByteArray.mk #[114, 101, 118, 115, 109, 103]).size) : (ByteArray.mk #[114, 101, 118, 115, 109, 103])[k] = lettersL.getD k 0 := by
  have h' : k < 6 := h
  match k, h' with
  | 0, _ | 1, _ | 2, _ | 3, _ | 4, _ | 5, _ => rfl
theorem byte_eq {a b : UInt8} : (((a.toNat : Int) == (b.toNat : Int)) = true) = (a = b) := by
  rw [beq_iff_eq, Int.ofNat_inj, UInt8.toNat_inj]
theorem byte_ne {a b : UInt8} : (((a.toNat : Int) == (b.toNat : Int)) = false) = ¬ (a = b) := by
  rw [← byte_eq]; simp
theorem at_size {s : ByteArray} {q : Nat} (h : q < s.size) : s.data.toList[q]? = some s[q] := by
  have : q < s.data.toList.length := by simpa using h
  rw [List.getElem?_eq_getElem this]; rfl

set_option maxHeartbeats 800000 in
theorem mask_gives (s : ByteArray) (hs : s.size ≤ 1000000) (w : World) : Gives Try.prog 11 #[.string s] w (.int .i64 (maskL s.data.toList)) := by
  unfold Gives
  go_enter Try.func11, Try.ntmps11
  go_wp2_with fail
  go_loopw [3, 4, 5] (fun o v i wr => ∃ (k d : Nat), k ≤ 6 ∧ o = .int .i64 (maskTo s.data.toList k) ∧ v = .int .i64 (2 ^ k) ∧ i = .int .i64 k ∧ wr = w.drewN d) (fun _ _ i _ => 6 - (intOf i).toNat)
  case atStart => exact ⟨0, 0, by omega, rfl, rfl, rfl, rfl⟩
  case round =>
    obtain ⟨k, d, hk, rfl, rfl, rfl, rfl⟩ := hrel
    by_cases hlt : k < 6
    · have hp := pow_bd hlt
      have hm := maskTo_bd s.data.toList k hk
      obtain ⟨hp1, hp2, hp3⟩ := hp
      have Hp3 := Lib.hid hp3
      clear hp3
      go_wp2_with fail
      obtain ⟨wo, rfl⟩ : ∃ wo : World, wo = w.drewN d := ⟨_, rfl⟩
      go_loopw [3, 6] (fun o j wr => ∃ (q e : Nat), j = .int .i64 q ∧ wr = w.drewN e ∧
          ((q ≤ s.size ∧ (∀ t, t < q → s.data.toList[t]? ≠ some (lettersL.getD k 0)) ∧ o = .int .i64 (maskTo s.data.toList k)) ∨
           (q = s.size + 1 ∧ lettersL.getD k 0 ∈ s.data.toList ∧ o = .int .i64 (maskTo s.data.toList k + 2 ^ k)))) (fun _ j _ => s.size + 1 - (intOf j).toNat)
      case atStart => exact ⟨0, d, rfl, rfl, .inl ⟨by omega, fun t ht => by omega, rfl⟩⟩
      case round =>
        obtain ⟨q, e, rfl, rfl, hq | hq⟩ := hrel
        · obtain ⟨hqs, hno, rfl⟩ := hq
          have Hno := Lib.hid hno
          clear hno
          by_cases hq2 : q < s.size
          · go_wp2_with fail
            go_quiet (fail)
            go_wp2_with fail
            · rename_i h
              rw [byte_eq, let_at] at h
              have hmem : lettersL.getD k 0 ∈ s.data.toList := by rw [← h]; exact List.mem_of_getElem? (at_size hq2)
              clear h
              go_roundw
              case rel => exact ⟨s.size + 1, _, by go_num, rfl, .inr ⟨rfl, hmem, by go_num⟩⟩
              case measure => simp [intOf]; omega
            · rename_i h
              rw [byte_ne, let_at] at h
              have Hh := Lib.hid h
              clear h
              go_roundw
              case rel =>
                refine ⟨q + 1, _, by go_num, rfl, .inl ⟨by omega, fun t ht => ?_, rfl⟩⟩
                by_cases htq : t = q
                · subst htq; rw [at_size hq2]; intro he; exact Hh.out (Option.some.inj he)
                · exact Hno.out t (by omega)
              case measure => simp [intOf]; omega
          · have hqe : q = s.size := by omega
            subst hqe
            have hnm : lettersL.getD k 0 ∉ s.data.toList := by
              intro hmem
              obtain ⟨t, ht, he⟩ := List.getElem_of_mem hmem
              exact Hno.out t (by simpa using ht) (by rw [List.getElem?_eq_getElem ht, he])
            have HN := Lib.hid hnm
            clear hnm
            go_wp2_with fail
            go_roundw
            case rel => exact ⟨k + 1, _, by omega, by simp only [maskTo]; rw [if_neg HN.out]; go_num, by rw [Hp3.out], by go_num, rfl⟩
            case measure => simp [intOf]; omega
        · obtain ⟨rfl, hmem, rfl⟩ := hq
          have HM := Lib.hid hmem
          clear hmem
          go_wp2_with fail
          go_roundw
          case rel => exact ⟨k + 1, _, by omega, by simp only [maskTo]; rw [if_pos HM.out], by rw [Hp3.out], by go_num, rfl⟩
          case measure => simp [intOf]; omega
    · have : k = 6 := by omega
      subst this
      go_wp2_with fail
      go_ret
      exact ⟨rfl, (by repeat (first | exact Below.refl _ _ | exact below_of_grow _ _ | exact below_more _ _ _ _ | exact below_same _ _ _ | (refine Below.alloc ?_ (by first | (simp; done) | (simp; omega)) _) | (refine Below.grow ?_ (by first | (simp; done) | (simp; omega)) _ _) | refine Below.drew ?_ | refine Below.drewN ?_ _ | (refine Below.putF ?_ (by first | (simp; done) | omega | (simp; omega)) _) | (refine Below.setCell ?_ (by first | (simp; done) | (simp; omega)) _)))⟩
end Go.Proofs.Yteefknjaandjhaa

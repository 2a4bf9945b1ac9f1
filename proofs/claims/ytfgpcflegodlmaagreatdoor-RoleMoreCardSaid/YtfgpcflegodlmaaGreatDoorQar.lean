/- Layer 22: masks and letters, as the document has them. -/
import Derived.Test.YtfgpcflegodlmaaGreatDoorQaa
import Derived.Lib.Hide
import Derived.Test.YtfgpcflegodlmaaGreatDoorQab
namespace Go.Proofs.YtfgpcflegodlmaaGreatDoor
open Go.RowKit

def lettersL : List UInt8 := [114, 101, 118, 115, 109, 103]
/-- the mask of the first i letters that are in s -/
def maskTo (s : List UInt8) : Nat → Int
  | 0 => 0
  | i + 1 => maskTo s i + if lettersL.getD i 0 ∈ s then 2 ^ i else 0
def maskL (s : List UInt8) : Int := maskTo s 6

theorem pow_bd {k : Nat} (h : k < 6) : 1 ≤ (2 : Int) ^ k ∧ (2 : Int) ^ k ≤ 32 ∧ (2 : Int) ^ (k + 1) = 2 ^ k * 2 := by
  refine ⟨?_, ?_, Int.pow_succ 2 k⟩
  · match k, h with
    | 0, _ | 1, _ | 2, _ | 3, _ | 4, _ | 5, _ => decide
  · match k, h with
    | 0, _ | 1, _ | 2, _ | 3, _ | 4, _ | 5, _ => decide
theorem maskTo_bd (s : List UInt8) : ∀ k, k ≤ 6 → 0 ≤ maskTo s k ∧ maskTo s k < 2 ^ k
  | 0, _ => by simp [maskTo]
  | k + 1, h => by
    have ih := maskTo_bd s k (by omega)
    have hp := pow_bd (k := k) (by omega)
    simp only [maskTo]
    split <;> omega
theorem let_at (k : Nat) (h : k < (ByteArray.mk #[114, 101, 118, 115, 109, 103]).size) : (ByteArray.mk #[114, 101, 118, 115, 109, 103])[k] = lettersL.getD k 0 := by
  have h' : k < 6 := h
  match k, h' with
  | 0, _ | 1, _ | 2, _ | 3, _ | 4, _ | 5, _ => rfl
theorem byte_eq {a b : UInt8} : (((a.toNat : Int) == (b.toNat : Int)) = true) = (a = b) := by
  rw [beq_iff_eq, Int.ofNat_inj, UInt8.toNat_inj]
theorem byte_ne {a b : UInt8} : (((a.toNat : Int) == (b.toNat : Int)) = false) = ¬ (a = b) := by
  rw [← byte_eq]; simp
theorem at_size {s : ByteArray} {q : Nat} (h : q < s.size) : s.data.toList[q]? = some s[q] := by
  have : q < s.data.toList.length := by simpa using h
  rw [List.getElem?_eq_getElem this]; rfl

set_option maxHeartbeats 800000 in
theorem mask_gives (s : ByteArray) (hs : s.size ≤ 1000000) (w : World) : Gives Tryz.prog 102 #[.string s] w (.int .i64 (maskL s.data.toList)) := by
  unfold Gives
  go_enter Tryz.func102, Tryz.ntmps102
  go_wp2_with fail
  go_loopw [3, 4, 5] (fun o v i wr => ∃ (k d : Nat), k ≤ 6 ∧ o = .int .i64 (maskTo s.data.toList k) ∧ v = .int .i64 (2 ^ k) ∧ i = .int .i64 k ∧ wr = w.drewN d) (fun _ _ i _ => 6 - (intOf i).toNat)
  case atStart => exact ⟨0, 0, by omega, rfl, rfl, rfl, rfl⟩
  case round =>
    obtain ⟨k, d, hk, rfl, rfl, rfl, rfl⟩ := hrel
    by_cases hlt : k < 6
    · have hp := pow_bd hlt
      have hm := maskTo_bd s.data.toList k hk
      obtain ⟨hp1, hp2, hp3⟩ := hp
      have Hp3 := Lib.hid hp3
      clear hp3
      go_wp2_with fail
      obtain ⟨wo, rfl⟩ : ∃ wo : World, wo = w.drewN d := ⟨_, rfl⟩
      go_loopw [3, 6] (fun o j wr => ∃ (q e : Nat), j = .int .i64 q ∧ wr = w.drewN e ∧
          ((q ≤ s.size ∧ (∀ t, t < q → s.data.toList[t]? ≠ some (lettersL.getD k 0)) ∧ o = .int .i64 (maskTo s.data.toList k)) ∨
           (q = s.size + 1 ∧ lettersL.getD k 0 ∈ s.data.toList ∧ o = .int .i64 (maskTo s.data.toList k + 2 ^ k)))) (fun _ j _ => s.size + 1 - (intOf j).toNat)
      case atStart => exact ⟨0, d, rfl, rfl, .inl ⟨by omega, fun t ht => by omega, rfl⟩⟩
      case round =>
        obtain ⟨q, e, rfl, rfl, hq | hq⟩ := hrel
        · obtain ⟨hqs, hno, rfl⟩ := hq
          have Hno := Lib.hid hno
          clear hno
          by_cases hq2 : q < s.size
          · go_wp2_with fail
            go_quiet (fail)
            go_wp2_with fail
            · rename_i h
              rw [byte_eq, let_at] at h
              have hmem : lettersL.getD k 0 ∈ s.data.toList := by rw [← h]; exact List.mem_of_getElem? (at_size hq2)
              clear h
              go_roundw
              case rel => exact ⟨s.size + 1, _, by go_num, rfl, .inr ⟨rfl, hmem, by go_num⟩⟩
              case measure => simp [intOf]; omega
            · rename_i h
              rw [byte_ne, let_at] at h
              have Hh := Lib.hid h
              clear h
              go_roundw
              case rel =>
                refine ⟨q + 1, _, by go_num, rfl, .inl ⟨by omega, fun t ht => ?_, rfl⟩⟩
                by_cases htq : t = q
                · subst htq; rw [at_size hq2]; intro he; exact Hh.out (Option.some.inj he)
                · exact Hno.out t (by omega)
              case measure => simp [intOf]; omega
          · have hqe : q = s.size := by omega
            subst hqe
            have hnm : lettersL.getD k 0 ∉ s.data.toList := by
              intro hmem
              obtain ⟨t, ht, he⟩ := List.getElem_of_mem hmem
              exact Hno.out t (by simpa using ht) (by rw [List.getElem?_eq_getElem ht, he])
            have HN := Lib.hid hnm
            clear hnm
            go_wp2_with fail
            go_roundw
            case rel => exact ⟨k + 1, _, by omega, by simp only [maskTo]; rw [if_neg HN.out]; go_num, by rw [Hp3.out], by go_num, rfl⟩
            case measure => simp [intOf]; omega
        · obtain ⟨rfl, hmem, rfl⟩ := hq
          have HM := Lib.hid hmem
          clear hmem
          go_wp2_with fail
          go_roundw
          case rel => exact ⟨k + 1, _, by omega, by simp only [maskTo]; rw [if_pos HM.out], by rw [Hp3.out], by go_num, rfl⟩
          case measure => simp [intOf]; omega
    · have : k = 6 := by omega
      subst this
      go_wp2_with fail
      go_ret
      exact ⟨rfl, (by repeat (first | exact below_of_grow _ _ | exact Below.refl _ _ | exact below_more _ _ _ _ | (simp only [← Array.append_assoc]; first | exact below_more _ _ _ _ | exact below_same _ _ _ | exact Below.refl _ _) | exact below_same _ _ _ | (refine Below.alloc ?_ (by first | (simp; done) | (simp; omega)) _) | (refine Below.grow ?_ (by first | (simp; done) | (simp; omega)) _ _) | refine Below.drew ?_ | refine Below.drewN ?_ _ | (refine Below.putF ?_ (by first | (simp; done) | omega | (simp; omega)) _) | (refine Below.setCell ?_ (by first | (simp; done) | (simp; omega)) _)))⟩
end Go.Proofs.YtfgpcflegodlmaaGreatDoor
namespace Go.Proofs.YtfgpcflegodlmaaGreatDoor
open Go.RowKit
set_option maxRecDepth 100000

/-- the letters of the first k bits of m -/
def lettersTo (m : Nat) : Nat → List UInt8
  | 0 => []
  | k + 1 => lettersTo m k ++ if m / 2 ^ k % 2 = 1 then [lettersL.getD k 0] else []

theorem div_pow_succ (m k : Nat) : m / 2 ^ (k + 1) = m / 2 ^ k / 2 := by rw [Nat.pow_succ, Nat.div_div_eq_div_mul]
theorem lettersTo_len (m : Nat) : ∀ k, (lettersTo m k).length ≤ k
  | 0 => by simp [lettersTo]
  | k + 1 => by have := lettersTo_len m k; simp only [lettersTo, List.length_append]; split <;> simp <;> omega
theorem let_cut {k : Nat} (h : k < 6) : (ByteArray.mk #[114, 101, 118, 115, 109, 103]).extract k (k + 1) = ByteArray.mk #[lettersL.getD k 0] := by
  match k, h with
  | 0, _ | 1, _ | 2, _ | 3, _ | 4, _ | 5, _ => decide +kernel

set_option maxHeartbeats 800000 in
theorem letters_gives (m : Nat) (hm : m < 64) (w : World) : Gives Tryz.prog 103 #[.int .i64 m] w (.string ⟨(lettersTo m 6).toArray⟩) := by
  unfold Gives
  go_enter Tryz.func103, Tryz.ntmps103
  go_wp2_with fail
  go_loopw [0, 3, 4] (fun mm o i wr => ∃ (k d : Nat), k ≤ 6 ∧ mm = .int .i64 (m / 2 ^ k : Nat) ∧ o = .string ⟨(lettersTo m k).toArray⟩ ∧ i = .int .i64 k ∧ wr = w.drewN d) (fun _ _ i _ => 6 - (intOf i).toNat)
  case atStart => exact ⟨0, 0, by omega, by simp, rfl, rfl, rfl⟩
  case round =>
    obtain ⟨k, d, hk, rfl, rfl, rfl, rfl⟩ := hrel
    have hq : m / 2 ^ k < 64 := Nat.lt_of_le_of_lt (Nat.div_le_self _ _) hm
    have hl := lettersTo_len m k
    generalize hqe : m / 2 ^ k = q at *
    have HQ := Lib.hid hqe
    clear hqe
    by_cases hlt : k < 6
    · go_wp2_with fail
      all_goals
        rename_i h
        go_roundw
        case rel =>
          refine ⟨k + 1, _, by omega, ?_, ?_, by go_num, rfl⟩
          · rw [div_pow_succ, HQ.out]; rfl
          · simp only [lettersTo]
            rw [HQ.out]
            first
              | (rw [let_cut hlt, if_pos (by simp at h; omega)]; exact congrArg Value.string (bytes_append _ [_]))
              | (rw [if_neg (by simp at h; omega), List.append_nil])
        case measure => simp [intOf]; omega
    · have : k = 6 := by omega
      subst this
      go_wp2_with fail
      go_ret
      exact ⟨rfl, (by repeat (first | exact below_of_grow _ _ | exact Below.refl _ _ | exact below_more _ _ _ _ | (simp only [← Array.append_assoc]; first | exact below_more _ _ _ _ | exact below_same _ _ _ | exact Below.refl _ _) | exact below_same _ _ _ | (refine Below.alloc ?_ (by first | (simp; done) | (simp; omega)) _) | (refine Below.grow ?_ (by first | (simp; done) | (simp; omega)) _ _) | refine Below.drew ?_ | refine Below.drewN ?_ _ | (refine Below.putF ?_ (by first | (simp; done) | omega | (simp; omega)) _) | (refine Below.setCell ?_ (by first | (simp; done) | (simp; omega)) _)))⟩

theorem is_yes (a : Int) (h : 1 ≤ a ∧ a ≤ 16) (w : World) : Gives Tryz.prog 53 #[.int .i64 a] w (.bool true) := by
  unfold Gives
  go_enter Tryz.func53, Tryz.ntmps53
  go_wp2_with fail
  go_ret
  exact ⟨ret_bool (by simp), (by repeat (first | exact below_of_grow _ _ | exact Below.refl _ _ | exact below_more _ _ _ _ | (simp only [← Array.append_assoc]; first | exact below_more _ _ _ _ | exact below_same _ _ _ | exact Below.refl _ _) | exact below_same _ _ _ | (refine Below.alloc ?_ (by first | (simp; done) | (simp; omega)) _) | (refine Below.grow ?_ (by first | (simp; done) | (simp; omega)) _ _) | refine Below.drew ?_ | refine Below.drewN ?_ _ | (refine Below.putF ?_ (by first | (simp; done) | omega | (simp; omega)) _) | (refine Below.setCell ?_ (by first | (simp; done) | (simp; omega)) _)))⟩
theorem is_no (a : Int) (h : ¬ (1 ≤ a ∧ a ≤ 16)) (w : World) : Gives Tryz.prog 53 #[.int .i64 a] w (.bool false) := by
  unfold Gives
  go_enter Tryz.func53, Tryz.ntmps53
  go_wp2_with fail
  all_goals (go_ret; refine ⟨ret_bool ?_, (by repeat (first | exact below_of_grow _ _ | exact Below.refl _ _ | exact below_more _ _ _ _ | (simp only [← Array.append_assoc]; first | exact below_more _ _ _ _ | exact below_same _ _ _ | exact Below.refl _ _) | exact below_same _ _ _ | (refine Below.alloc ?_ (by first | (simp; done) | (simp; omega)) _) | (refine Below.grow ?_ (by first | (simp; done) | (simp; omega)) _ _) | refine Below.drew ?_ | refine Below.drewN ?_ _ | (refine Below.putF ?_ (by first | (simp; done) | omega | (simp; omega)) _) | (refine Below.setCell ?_ (by first | (simp; done) | (simp; omega)) _)))⟩)
  all_goals first | rfl | (simp; omega)

def needL : List Int := [0, 0, 32, 16, 16, 8, 8, 2, 2, 4, 4, 1, 1, 24, 1, 2, 0]
def need (a : Int) : Int := if 1 ≤ a ∧ a ≤ 16 then needL.getD a.toNat 0 else 0

theorem i64_and_nat (a b : Nat) (ha : a < 1024) (hb : b < 1024) : bits .and .i64 (a : Int) (b : Int) = ((a &&& b : Nat) : Int) := by
  have hx : a &&& b < 2 ^ 10 := Nat.and_lt_two_pow _ (by omega)
  have e : ∀ c : Nat, c < 1024 → (BitVec.ofInt 64 (c : Int)).toNat = c := by
    intro c hc; rw [BitVec.ofInt_natCast, BitVec.toNat_ofNat]; exact Nat.mod_eq_of_lt (by omega)
  show IntKind.i64.wrap ((BitVec.ofInt 64 (a : Int) &&& BitVec.ofInt 64 (b : Int)).toNat : Int) = _
  rw [BitVec.toNat_and, e a ha, e b hb]
  exact IntWalk.i64_in _ (by omega)
theorem i64_or_nat (a b : Nat) (ha : a < 1024) (hb : b < 1024) : bits .or .i64 (a : Int) (b : Int) = ((a ||| b : Nat) : Int) := by
  have hx : a ||| b < 2 ^ 10 := Nat.or_lt_two_pow (by omega) (by omega)
  have e : ∀ c : Nat, c < 1024 → (BitVec.ofInt 64 (c : Int)).toNat = c := by
    intro c hc; rw [BitVec.ofInt_natCast, BitVec.toNat_ofNat]; exact Nat.mod_eq_of_lt (by omega)
  show IntKind.i64.wrap ((BitVec.ofInt 64 (a : Int) ||| BitVec.ofInt 64 (b : Int)).toNat : Int) = _
  rw [BitVec.toNat_or, e a ha, e b hb]
  exact IntWalk.i64_in _ (by omega)

@[go_sem] theorem agg_17int : Tryz.prog.aggSize 156 = some 17 := by kernel_rfl
@[go_sem ↓ high] theorem ld_17int (a : Addr) : loadVar 156 a = rowLoad 156 a := rfl
@[go_sem ↓ high] theorem st_17int (a : Addr) (v : Value) : storeVar 156 a v = rowStore 156 a v := rfl
theorem needs_gives (w : World) : Gives Tryz.prog 54 #[] w (.agg #[.int .i64 0, .int .i64 0, .int .i64 32, .int .i64 16, .int .i64 16, .int .i64 8, .int .i64 8, .int .i64 2, .int .i64 2, .int .i64 4, .int .i64 4, .int .i64 1, .int .i64 1, .int .i64 24, .int .i64 1, .int .i64 2, .int .i64 0]) := by
  unfold Gives
  go_enter Tryz.func54, Tryz.ntmps54
  go_wp2_with fail
  exact bodyPost_ret (results_one Tryz.results54 (ResIs.row rfl agg_17int (by simp [go_sem]))) rfl ⟨rfl, (by repeat (first | exact below_of_grow _ _ | exact Below.refl _ _ | exact below_more _ _ _ _ | (simp only [← Array.append_assoc]; first | exact below_more _ _ _ _ | exact below_same _ _ _ | exact Below.refl _ _) | exact below_same _ _ _ | (refine Below.alloc ?_ (by first | (simp; done) | (simp; omega)) _) | (refine Below.grow ?_ (by first | (simp; done) | (simp; omega)) _ _) | refine Below.drew ?_ | refine Below.drewN ?_ _ | (refine Below.putF ?_ (by first | (simp; done) | omega | (simp; omega)) _) | (refine Below.setCell ?_ (by first | (simp; done) | (simp; omega)) _)))⟩

theorem needs_at' : ∀ k : Fin 17, ∀ w, (Instr.index 156 (.agg #[.int .i64 0, .int .i64 0, .int .i64 32, .int .i64 16, .int .i64 16, .int .i64 8, .int .i64 8, .int .i64 2, .int .i64 2, .int .i64 4, .int .i64 4, .int .i64 1, .int .i64 1, .int .i64 24, .int .i64 1, .int .i64 2, .int .i64 0]) (.int .i64 (k.val : Nat))).run Tryz.prog w = .ok (.int .i64 (needL.getD k.val 0)) w := by
  intro k w
  rcases k with ⟨k, hk⟩
  have h : k = 0 ∨ k = 1 ∨ k = 2 ∨ k = 3 ∨ k = 4 ∨ k = 5 ∨ k = 6 ∨ k = 7 ∨ k = 8 ∨ k = 9 ∨ k = 10 ∨ k = 11 ∨ k = 12 ∨ k = 13 ∨ k = 14 ∨ k = 15 ∨ k = 16 := by omega
  rcases h with rfl | rfl | rfl | rfl | rfl | rfl | rfl | rfl | rfl | rfl | rfl | rfl | rfl | rfl | rfl | rfl | rfl <;> rfl
theorem needs_at (k : Nat) (h : k ≤ 16) (w : World) : (Instr.index 156 (.agg #[.int .i64 0, .int .i64 0, .int .i64 32, .int .i64 16, .int .i64 16, .int .i64 8, .int .i64 8, .int .i64 2, .int .i64 2, .int .i64 4, .int .i64 4, .int .i64 1, .int .i64 1, .int .i64 24, .int .i64 1, .int .i64 2, .int .i64 0]) (.int .i64 k)).run Tryz.prog w = .ok (.int .i64 (needL.getD k 0)) w := needs_at' ⟨k, by omega⟩ w

set_option maxHeartbeats 800000 in
theorem need_gives (a : Int) (w : World) : Gives Tryz.prog 22 #[.int .i64 a] w (.int .i64 (need a)) := by
  by_cases h : 1 ≤ a ∧ a ≤ 16
  · obtain ⟨k, rfl⟩ := Int.eq_ofNat_of_zero_le (a := a) (by omega)
    have hk := needs_at k (by omega)
    unfold Gives
    go_enter Tryz.func22, Tryz.ntmps22
    go_wp2_with (first | (go_at_call 53; refine Gives.use (is_yes _ h _) ?_; intro xs d) | (go_at_call 54; refine Gives.use (needs_gives _) ?_; intro ys e))
    go_ret
    exact ⟨ret_int (by unfold need; rw [if_pos h]; rfl), (by repeat (first | exact below_of_grow _ _ | exact Below.refl _ _ | exact below_more _ _ _ _ | (simp only [← Array.append_assoc]; first | exact below_more _ _ _ _ | exact below_same _ _ _ | exact Below.refl _ _) | exact below_same _ _ _ | (refine Below.alloc ?_ (by first | (simp; done) | (simp; omega)) _) | (refine Below.grow ?_ (by first | (simp; done) | (simp; omega)) _ _) | refine Below.drew ?_ | refine Below.drewN ?_ _ | (refine Below.putF ?_ (by first | (simp; done) | omega | (simp; omega)) _) | (refine Below.setCell ?_ (by first | (simp; done) | (simp; omega)) _)))⟩
  · unfold Gives
    go_enter Tryz.func22, Tryz.ntmps22
    go_wp2_with (go_at_call 53; refine Gives.use (is_no _ h _) ?_; intro xs d)
    go_ret
    exact ⟨ret_int (by unfold need; rw [if_neg h]), (by repeat (first | exact below_of_grow _ _ | exact Below.refl _ _ | exact below_more _ _ _ _ | (simp only [← Array.append_assoc]; first | exact below_more _ _ _ _ | exact below_same _ _ _ | exact Below.refl _ _) | exact below_same _ _ _ | (refine Below.alloc ?_ (by first | (simp; done) | (simp; omega)) _) | (refine Below.grow ?_ (by first | (simp; done) | (simp; omega)) _ _) | refine Below.drew ?_ | refine Below.drewN ?_ _ | (refine Below.putF ?_ (by first | (simp; done) | omega | (simp; omega)) _) | (refine Below.setCell ?_ (by first | (simp; done) | (simp; omega)) _)))⟩

theorem need_bd (a : Int) : 0 ≤ need a ∧ need a ≤ 63 := by
  unfold need
  split
  · rename_i h
    obtain ⟨k, rfl⟩ := Int.eq_ofNat_of_zero_le (a := a) (by omega)
    have h3 : k < 17 := by omega
    rw [Int.toNat_natCast]
    match k, h3 with
    | 0, _ | 1, _ | 2, _ | 3, _ | 4, _ | 5, _ | 6, _ | 7, _ | 8, _ | 9, _ | 10, _ | 11, _ | 12, _ | 13, _ | 14, _ | 15, _ | 16, _ => decide
  · decide

def mayB (m a : Int) : Bool := decide (1 ≤ a ∧ a ≤ 16 ∧ 0 ≤ m ∧ m ≤ 63 ∧ (m.toNat &&& (need a).toNat) = (need a).toNat)

set_option maxHeartbeats 800000 in
theorem may_gives (m a : Int) (w : World) : Gives Tryz.prog 24 #[.int .i64 m, .int .i64 a] w (.bool (mayB m a)) := by
  by_cases h : 1 ≤ a ∧ a ≤ 16
  · by_cases h2 : 0 ≤ m ∧ m ≤ 63
    · obtain ⟨q, rfl⟩ := Int.eq_ofNat_of_zero_le h2.1
      have hb := need_bd a
      unfold Gives
      go_enter Tryz.func24, Tryz.ntmps24
      go_wp2_with (first | (go_at_call 53; refine Gives.use (is_yes _ h _) ?_; intro xs d) | (go_at_call 22; refine Gives.use (need_gives _ _) ?_; intro ys e))
      go_ret
      refine ⟨ret_bool ?_, (by repeat (first | exact below_of_grow _ _ | exact Below.refl _ _ | exact below_more _ _ _ _ | (simp only [← Array.append_assoc]; first | exact below_more _ _ _ _ | exact below_same _ _ _ | exact Below.refl _ _) | exact below_same _ _ _ | (refine Below.alloc ?_ (by first | (simp; done) | (simp; omega)) _) | (refine Below.grow ?_ (by first | (simp; done) | (simp; omega)) _ _) | refine Below.drew ?_ | refine Below.drewN ?_ _ | (refine Below.putF ?_ (by first | (simp; done) | omega | (simp; omega)) _) | (refine Below.setCell ?_ (by first | (simp; done) | (simp; omega)) _)))⟩
      obtain ⟨n, hn⟩ := Int.eq_ofNat_of_zero_le hb.1
      unfold mayB
      rw [hn] at hb ⊢
      rw [i64_and_nat q n (by omega) (by omega), Bool.eq_iff_iff, beq_iff_eq, decide_eq_true_eq]
      simp only [Int.toNat_natCast]
      omega
    · unfold Gives
      go_enter Tryz.func24, Tryz.ntmps24
      go_wp2_with (first | (go_at_call 53; refine Gives.use (is_yes _ h _) ?_; intro xs d) | (go_at_call 22; refine Gives.use (need_gives _ _) ?_; intro ys e))
      all_goals (go_ret; exact ⟨ret_bool (by unfold mayB; simp; omega), (by repeat (first | exact below_of_grow _ _ | exact Below.refl _ _ | exact below_more _ _ _ _ | (simp only [← Array.append_assoc]; first | exact below_more _ _ _ _ | exact below_same _ _ _ | exact Below.refl _ _) | exact below_same _ _ _ | (refine Below.alloc ?_ (by first | (simp; done) | (simp; omega)) _) | (refine Below.grow ?_ (by first | (simp; done) | (simp; omega)) _ _) | refine Below.drew ?_ | refine Below.drewN ?_ _ | (refine Below.putF ?_ (by first | (simp; done) | omega | (simp; omega)) _) | (refine Below.setCell ?_ (by first | (simp; done) | (simp; omega)) _)))⟩)
  · unfold Gives
    go_enter Tryz.func24, Tryz.ntmps24
    go_wp2_with (go_at_call 53; refine Gives.use (is_no _ h _) ?_; intro xs d)
    go_ret
    exact ⟨ret_bool (by unfold mayB; simp; omega), (by repeat (first | exact below_of_grow _ _ | exact Below.refl _ _ | exact below_more _ _ _ _ | (simp only [← Array.append_assoc]; first | exact below_more _ _ _ _ | exact below_same _ _ _ | exact Below.refl _ _) | exact below_same _ _ _ | (refine Below.alloc ?_ (by first | (simp; done) | (simp; omega)) _) | (refine Below.grow ?_ (by first | (simp; done) | (simp; omega)) _ _) | refine Below.drew ?_ | refine Below.drewN ?_ _ | (refine Below.putF ?_ (by first | (simp; done) | omega | (simp; omega)) _) | (refine Below.setCell ?_ (by first | (simp; done) | (simp; omega)) _)))⟩
end Go.Proofs.YtfgpcflegodlmaaGreatDoor
namespace Go.Proofs.YtfgpcflegodlmaaGreatDoor
open Go.RowKit
set_option maxRecDepth 100000

def leastN (l : List Int) : Nat := l.foldl (fun acc a => acc ||| (need a).toNat) 0
theorem leastN_snoc (l : List Int) (a : Int) : leastN (l ++ [a]) = leastN l ||| (need a).toNat := by simp [leastN]
theorem leastN_lt (l : List Int) : leastN l < 64 := by
  suffices h : ∀ (l : List Int) (q : Nat), q < 2 ^ 6 → l.foldl (fun acc a => acc ||| (need a).toNat) q < 2 ^ 6 from h l 0 (by decide)
  intro l
  induction l with
  | nil => intro q h; exact h
  | cons a l ih =>
    intro q h
    have hn := need_bd a
    exact ih _ (Nat.or_lt_two_pow h (by omega))
def iv (l : List Int) : List Value := l.map (Value.int .i64)

set_option maxHeartbeats 800000 in
theorem least_gives (l : List Int) (v : Value) (w : World) (h : Rd w w.heap.size v l.length (iv l)) : Gives Tryz.prog 56 #[v] w (.int .i64 (leastN l)) := by
  obtain ⟨a, cap, rfl, hn, hm, hc⟩ := h
  unfold maxLen at hm
  unfold Gives
  have HC := Lib.hid hc
  clear hc
  go_enter Tryz.func56, Tryz.ntmps56
  go_wp2_with fail
  go_loopw [3, 8] (fun o i wr => ∃ (k : Nat) (xs : Array Obj) (d : Nat), k ≤ l.length ∧ o = .int .i64 (leastN (l.take k)) ∧ i = .int .i64 k ∧ wr = w.grow xs d) (fun _ i _ => l.length - (intOf i).toNat)
  case atStart => exact ⟨0, #[], w.drawn, by omega, rfl, rfl, World.grow_nil.symm⟩
  case round =>
    obtain ⟨k, xs, d, hk, rfl, rfl, rfl⟩ := hrel
    by_cases hlt : k < l.length
    · obtain ⟨b, o, rfl, hbs, hcell⟩ := HC.out (by omega)
      have hck := hcell k (.int .i64 l[k]) (by simp [iv, hlt])
      clear hcell HC
      have hb := need_bd l[k]
      have hl := leastN_lt (l.take k)
      have htake : l.take (k + 1) = l.take k ++ [l[k]] := List.take_succ_eq_append_getElem hlt
      have HT := Lib.hid htake
      clear htake
      generalize hz : l[k] = z at *
      clear hz
      go_wp2_with (go_at_call 22; refine Gives.use (need_gives z _) ?_; intro ys e)
      go_roundw
      case rel =>
        refine ⟨k + 1, _, _, by omega, ?_, by go_num, rfl⟩
        rw [HT.out, leastN_snoc]
        obtain ⟨q, hq⟩ := Int.eq_ofNat_of_zero_le hb.1
        rw [hq, Int.toNat_natCast, i64_or_nat _ _ (by omega) (by omega)]
      case measure => simp [intOf]; omega
    · have : k = l.length := by omega
      subst this
      go_wp2_with fail
      go_ret
      exact ⟨ret_int (by rw [List.take_length]), (by repeat (first | exact below_of_grow _ _ | exact Below.refl _ _ | exact below_more _ _ _ _ | (simp only [← Array.append_assoc]; first | exact below_more _ _ _ _ | exact below_same _ _ _ | exact Below.refl _ _) | exact below_same _ _ _ | (refine Below.alloc ?_ (by first | (simp; done) | (simp; omega)) _) | (refine Below.grow ?_ (by first | (simp; done) | (simp; omega)) _ _) | refine Below.drew ?_ | refine Below.drewN ?_ _ | (refine Below.putF ?_ (by first | (simp; done) | omega | (simp; omega)) _) | (refine Below.setCell ?_ (by first | (simp; done) | (simp; omega)) _)))⟩
end Go.Proofs.YtfgpcflegodlmaaGreatDoor
namespace Go.Proofs.YtfgpcflegodlmaaGreatDoor
open Go.RowKit
set_option maxRecDepth 100000

def u8s (l : List UInt8) : List Value := l.map fun (b : UInt8) => Value.int .u8 b.toNat
theorem info_u8 : (Tryz.prog.info? 5).map (fun i => (i.zero, i.size, i.bytes)) = some (some (.int .u8 0), 1, 1) := by kernel_rfl

def textB (m : Int) : List UInt8 := if m < 0 ∨ 63 < m then [] else if m = 0 then [45] else lettersTo m.toNat 6

theorem lettersTo_pos : ∀ m : Fin 64, 1 ≤ m.val → 0 < (lettersTo m.val 6).length := by decide +kernel
theorem bit_at (m k : Nat) (hm : m < 64) : (bits .and .i64 ((m : Int) / 2 ^ k) 1 == 1) = decide (m / 2 ^ k % 2 = 1) := by
  have hq : m / 2 ^ k < 64 := Nat.lt_of_le_of_lt (Nat.div_le_self _ _) hm
  have e : ((m : Int) / 2 ^ k) = ((m / 2 ^ k : Nat) : Int) := by simp
  rw [e, show (1 : Int) = ((1 : Nat) : Int) from rfl, i64_and_nat _ 1 (by omega) (by omega), Nat.and_one_is_mod, Bool.eq_iff_iff, beq_iff_eq, decide_eq_true_eq]
  omega
theorem u8s_get (l : List UInt8) (j : Nat) (h : j < l.length) : (u8s l)[j]? = some (.int .u8 (l[j].toNat : Int)) := by simp [u8s, h]

set_option maxHeartbeats 800000 in
theorem roleText_some (m : Nat) (h1 : 1 ≤ m) (h2 : m ≤ 63) (w : World) : Gives Tryz.prog 55 #[.int .i64 m] w (.string (bs (lettersTo m 6))) := by
  obtain ⟨i0, hi, hz0, hz1, hz2⟩ := info_parts info_u8
  have HI := Lib.hid hi
  have HZ0 := Lib.hid hz0
  have HZ1 := Lib.hid hz1
  have HZ2 := Lib.hid hz2
  clear hi hz0 hz1 hz2
  have hm0 : ((m : Int) == 0) = false := by simp; omega
  unfold Gives
  go_enter Tryz.func55, Tryz.ntmps55
  go_wp2_with fail
  go_loopw [3, 15] (fun v i wr => ∃ k : Nat, k ≤ 6 ∧ i = .int .i64 k ∧ Below w.heap.size w wr ∧ wr.ownsRow w.heap.size 5 1 v (lettersTo m k).length (u8s (lettersTo m k))) (fun _ i _ => 6 - (intOf i).toNat)
  case atStart => exact ⟨0, by omega, rfl, Below.refl _ _, World.ownsRow_nil _ _ _ _⟩
  case round =>
    obtain ⟨k, hk, rfl, hb, hown⟩ := hrel
    have hl := lettersTo_len m k
    have hs := hb.size
    have HB := Lib.hid hb
    have HO := Lib.hid hown
    clear hb hown
    by_cases hlt : k < 6
    · have hbit := bit_at m k (by omega)
      have hsucc : lettersTo m (k + 1) = lettersTo m k ++ if m / 2 ^ k % 2 = 1 then [lettersL.getD k 0] else [] := rfl
      have HS := Lib.hid hsucc
      clear hsucc
      by_cases hq : m / 2 ^ k % 2 = 1
      · have HQ := Lib.hid hq
        rw [decide_eq_true hq] at hbit
        clear hq
        go_wp2_with (at_builtin; refine wpList_append_own _ rfl _ _ 213 rfl w.heap.size 5 i0 (.int .u8 0) 1 1 Tryz.underlying213 HI.out HZ0.out HZ1.out HZ2.out rfl (by decide) _ _ _ rfl (HO.out.alloc _) ⟨wr.heap.size, 0, none⟩ 1 1 [.int .u8 ((ByteArray.mk #[114, 101, 118, 115, 109, 103])[k]'(show k < 6 from hlt)).toNat] rfl rfl ?c1 ?c2 ?c3 ?c4 ?c5 ?_)
        case c1 =>
          intro j u hj
          have : j = 0 := by
            have := (List.getElem?_eq_some_iff.1 hj).1
            simp at this; omega
          subst this
          simp at hj; subst hj
          simp [go_sem]
        case c2 => intro u hu; simp at hu; subst hu; rfl
        case c3 => unfold maxLen; omega
        case c4 => omega
        case c5 => simp; omega
        intro v' w1 hown1 hg1 _
        have hb1 : Below w.heap.size w w1 := by
          refine Below.grown (HB.out.alloc hs _) hg1 (by simp; omega) ?_
          intro q hq
          exact (HO.out.lt q hq).1
        have HB1 := Lib.hid hb1
        have HO1 := Lib.hid hown1
        clear hb1 hown1 hg1
        go_wp2_with fail
        go_roundw
        case rel =>
          refine ⟨k + 1, by omega, by go_num, HB1.out, ?_⟩
          rw [HS.out, if_pos HQ.out]
          have := HO1.out
          rw [let_at] at this
          simpa [u8s] using this
        case measure => simp [intOf]; omega
      · have HQ := Lib.hid hq
        rw [decide_eq_false hq] at hbit
        clear hq
        go_wp2_with fail
        go_roundw
        case rel =>
          refine ⟨k + 1, by omega, by go_num, HB.out, ?_⟩
          rw [HS.out, if_neg HQ.out, List.append_nil]
          exact HO.out
        case measure => simp [intOf]; omega
    · have : k = 6 := by omega
      subst this
      have hpos := lettersTo_pos ⟨m, by omega⟩ h1
      obtain ⟨g, cap, hv⟩ := Go.Joins.ownsRow_form HO.out hpos
      subst hv
      have hcv := run_convert_bytes_back wr 213 9 5 ⟨g, 0, none⟩ cap (lettersTo m 6) Tryz.underlying213 Tryz.underlying5 Tryz.underlying9 (fun j hj => by
        rw [addr_add, Nat.zero_add, HO.out.cellAt j (by omega), u8s_get _ j hj])
      clear hpos
      go_wp2_with fail
      go_ret
      exact ⟨rfl, HB.out⟩

theorem roleText_gives (m : Int) (w : World) : Gives Tryz.prog 55 #[.int .i64 m] w (.string (bs (textB m))) := by
  by_cases h : m < 0 ∨ 63 < m
  · have e : textB m = [] := if_pos h
    rw [e]
    unfold Gives
    go_enter Tryz.func55, Tryz.ntmps55
    go_wp2_with fail
    all_goals (go_ret; exact ⟨rfl, (by repeat (first | exact below_of_grow _ _ | exact Below.refl _ _ | exact below_more _ _ _ _ | (simp only [← Array.append_assoc]; first | exact below_more _ _ _ _ | exact below_same _ _ _ | exact Below.refl _ _) | exact below_same _ _ _ | (refine Below.alloc ?_ (by first | (simp; done) | (simp; omega)) _) | (refine Below.grow ?_ (by first | (simp; done) | (simp; omega)) _ _) | refine Below.drew ?_ | refine Below.drewN ?_ _ | (refine Below.putF ?_ (by first | (simp; done) | omega | (simp; omega)) _) | (refine Below.setCell ?_ (by first | (simp; done) | (simp; omega)) _)))⟩)
  · by_cases h0 : m = 0
    · subst h0
      unfold Gives
      go_enter Tryz.func55, Tryz.ntmps55
      go_wp2_with fail
      go_ret
      exact ⟨rfl, (by repeat (first | exact below_of_grow _ _ | exact Below.refl _ _ | exact below_more _ _ _ _ | (simp only [← Array.append_assoc]; first | exact below_more _ _ _ _ | exact below_same _ _ _ | exact Below.refl _ _) | exact below_same _ _ _ | (refine Below.alloc ?_ (by first | (simp; done) | (simp; omega)) _) | (refine Below.grow ?_ (by first | (simp; done) | (simp; omega)) _ _) | refine Below.drew ?_ | refine Below.drewN ?_ _ | (refine Below.putF ?_ (by first | (simp; done) | omega | (simp; omega)) _) | (refine Below.setCell ?_ (by first | (simp; done) | (simp; omega)) _)))⟩
    · obtain ⟨k, rfl⟩ := Int.eq_ofNat_of_zero_le (a := m) (by omega)
      have e : textB k = lettersTo k 6 := by unfold textB; rw [if_neg h, if_neg h0, Int.toNat_natCast]
      rw [e]
      exact roleText_some k (by omega) (by omega) w

theorem known22 (w : World) : Gives Tryz.prog 23 #[] w (.bool true) := by
  have t1 := roleText_gives 21
  have e1 : bs (textB 21) = bs [114, 118, 109] := by decide +kernel
  rw [e1] at t1
  have T1 := Lib.hid t1
  have m1 := may_gives 63 17
  have m2 := may_gives 63 16
  rw [show mayB 63 17 = false by decide] at m1
  rw [show mayB 63 16 = true by decide] at m2
  have M1 := Lib.hid m1
  have M2 := Lib.hid m2
  clear t1 e1 m1 m2
  unfold Gives
  go_enter Tryz.func23, Tryz.ntmps23
  go_wp2_with fail
  refine Gives.use (T1.out _) ?_
  intro xs d
  have hs : (bs [114, 118, 109]).toList = [114, 118, 109] := by decide +kernel
  go_wp2_with fail
  refine Gives.use (least_gives [7, 13] _ _ ⟨_, 2, rfl, Nat.le_refl _, by unfold maxLen; omega, fun _ => ⟨_, 0, rfl, by simp, fun j u hu => ?_⟩⟩) ?_
  · have : j < 2 := by have := (List.getElem?_eq_some_iff.1 hu).1; simpa [iv] using this
    match j, this with
    | 0, _ | 1, _ => simp [iv] at hu; subst hu; simp [go_sem]
  rw [show leastN [7, 13] = 26 by decide]
  intro ys e
  go_wp2_with fail
  refine Gives.use (M1.out _) ?_
  intro zs f
  go_wp2_with fail
  refine Gives.use (M2.out _) ?_
  intro us g
  go_wp2_with fail
  go_ret
  exact ⟨rfl, (by repeat (first | exact below_of_grow _ _ | exact Below.refl _ _ | exact below_more _ _ _ _ | (simp only [← Array.append_assoc]; first | exact below_more _ _ _ _ | exact below_same _ _ _ | exact Below.refl _ _) | exact below_same _ _ _ | (refine Below.alloc ?_ (by first | (simp; done) | (simp; omega)) _) | (refine Below.grow ?_ (by first | (simp; done) | (simp; omega)) _ _) | refine Below.drew ?_ | refine Below.drewN ?_ _ | (refine Below.putF ?_ (by first | (simp; done) | omega | (simp; omega)) _) | (refine Below.setCell ?_ (by first | (simp; done) | (simp; omega)) _)))⟩
end Go.Proofs.YtfgpcflegodlmaaGreatDoor

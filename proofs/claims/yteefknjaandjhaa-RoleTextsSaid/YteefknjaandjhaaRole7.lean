/- Layer 22: the words of acts; the texts of masks, read and written. -/
import Derived.Test.YteefknjaandjhaaRolePlain
namespace Go.Proofs.Yteefknjaandjhaa
open Go.RowKit

theorem bs_inj {a b : List UInt8} : bs a = bs b ↔ a = b := ⟨fun h => by
  have := congrArg (fun x : ByteArray => x.data.toList) h
  simpa [bs] using this, fun h => by rw [h]⟩
theorem bs_of (s : ByteArray) : s = bs s.data.toList := by
  obtain ⟨⟨l⟩⟩ := s
  rfl
@[go_sem] theorem bs_toList (l : List UInt8) : (bs l).toList = l := by rw [ByteArray.toList_eq]; rfl

def wordsL : List (List UInt8) := [] :: actsL.map (·.1)
def wordsV : Array Value := (wordsL.map fun l => Value.string (bs l)).toArray
def wordOf (a : Int) : List UInt8 := if 1 ≤ a ∧ a ≤ 16 then wordsL.getD a.toNat [] else []

@[go_sem] theorem agg_17s : Try.prog.aggSize 61 = some 17 := by kernel_rfl
@[go_sem ↓ high] theorem ld_17s (a : Addr) : loadVar 61 a = rowLoad 61 a := rfl
@[go_sem ↓ high] theorem st_17s (a : Addr) (v : Value) : storeVar 61 a v = rowStore 61 a v := rfl
theorem words_gives (w : World) : Gives Try.prog 29 #[] w (.agg wordsV) := by
  unfold Gives
  go_enter Try.func29, Try.ntmps29
  go_wp2_with fail
  exact bodyPost_ret (results_one Try.results29 (ResIs.row rfl agg_17s (by simp [go_sem]; rfl))) rfl ⟨rfl, (by repeat (first | exact Below.refl _ _ | exact below_of_grow _ _ | exact below_more _ _ _ _ | exact below_same _ _ _ | (refine Below.alloc ?_ (by first | (simp; done) | (simp; omega)) _) | (refine Below.grow ?_ (by first | (simp; done) | (simp; omega)) _ _) | refine Below.drew ?_ | refine Below.drewN ?_ _ | (refine Below.putF ?_ (by first | (simp; done) | omega | (simp; omega)) _) | (refine Below.setCell ?_ (by first | (simp; done) | (simp; omega)) _)))⟩

theorem words_at' : ∀ k : Fin 17, ∀ w, (Instr.index 61 (.agg wordsV) (.int .i64 (k.val : Nat))).run Try.prog w = .ok (.string (bs (wordsL.getD k.val []))) w := by
  intro k w
  rcases k with ⟨k, hk⟩
  have h : k = 0 ∨ k = 1 ∨ k = 2 ∨ k = 3 ∨ k = 4 ∨ k = 5 ∨ k = 6 ∨ k = 7 ∨ k = 8 ∨ k = 9 ∨ k = 10 ∨ k = 11 ∨ k = 12 ∨ k = 13 ∨ k = 14 ∨ k = 15 ∨ k = 16 := by omega
  rcases h with rfl | rfl | rfl | rfl | rfl | rfl | rfl | rfl | rfl | rfl | rfl | rfl | rfl | rfl | rfl | rfl | rfl <;> rfl
theorem words_at (k : Nat) (h : k ≤ 16) (w : World) : (Instr.index 61 (.agg wordsV) (.int .i64 k)).run Try.prog w = .ok (.string (bs (wordsL.getD k []))) w := words_at' ⟨k, by omega⟩ w

theorem word_gives (a : Int) (w : World) : Gives Try.prog 23 #[.int .i64 a] w (.string (bs (wordOf a))) := by
  by_cases h : 1 ≤ a ∧ a ≤ 16
  · obtain ⟨k, rfl⟩ := Int.eq_ofNat_of_zero_le (a := a) (by omega)
    have hk := words_at k (by omega)
    have e : wordOf k = wordsL.getD k [] := by unfold wordOf; rw [if_pos h]; rfl
    rw [e]
    have hw := words_gives
    generalize wordsL.getD k [] = l at *
    generalize wordsV = V at *
    have HW := Lib.hid hw
    clear hw
    unfold Gives
    go_enter Try.func23, Try.ntmps23
    go_wp2_with (first | (go_at_call 27; refine Gives.use (is_yes _ h _) ?_; intro xs d) | (go_at_call 29; refine Gives.use (HW.out _) ?_; intro ys e))
    go_ret
    exact ⟨rfl, (by repeat (first | exact Below.refl _ _ | exact below_of_grow _ _ | exact below_more _ _ _ _ | exact below_same _ _ _ | (refine Below.alloc ?_ (by first | (simp; done) | (simp; omega)) _) | (refine Below.grow ?_ (by first | (simp; done) | (simp; omega)) _ _) | refine Below.drew ?_ | refine Below.drewN ?_ _ | (refine Below.putF ?_ (by first | (simp; done) | omega | (simp; omega)) _) | (refine Below.setCell ?_ (by first | (simp; done) | (simp; omega)) _)))⟩
  · have e : wordOf a = [] := if_neg h
    rw [e]
    unfold Gives
    go_enter Try.func23, Try.ntmps23
    go_wp2_with (go_at_call 27; refine Gives.use (is_no _ h _) ?_; intro xs d)
    go_ret
    exact ⟨rfl, (by repeat (first | exact Below.refl _ _ | exact below_of_grow _ _ | exact below_more _ _ _ _ | exact below_same _ _ _ | (refine Below.alloc ?_ (by first | (simp; done) | (simp; omega)) _) | (refine Below.grow ?_ (by first | (simp; done) | (simp; omega)) _ _) | refine Below.drew ?_ | refine Below.drewN ?_ _ | (refine Below.putF ?_ (by first | (simp; done) | omega | (simp; omega)) _) | (refine Below.setCell ?_ (by first | (simp; done) | (simp; omega)) _)))⟩

theorem refText_gives (m : Int) (w : World) : Gives Try.prog 20 #[.int .i64 m] w (.string (bs (textB m))) := by
  by_cases h : m < 0 ∨ 63 < m
  · have e : textB m = [] := if_pos h
    rw [e]
    unfold Gives
    go_enter Try.func20, Try.ntmps20
    go_wp2_with fail
    all_goals (go_ret; exact ⟨rfl, (by repeat (first | exact Below.refl _ _ | exact below_of_grow _ _ | exact below_more _ _ _ _ | exact below_same _ _ _ | (refine Below.alloc ?_ (by first | (simp; done) | (simp; omega)) _) | (refine Below.grow ?_ (by first | (simp; done) | (simp; omega)) _ _) | refine Below.drew ?_ | refine Below.drewN ?_ _ | (refine Below.putF ?_ (by first | (simp; done) | omega | (simp; omega)) _) | (refine Below.setCell ?_ (by first | (simp; done) | (simp; omega)) _)))⟩)
  · by_cases h0 : m = 0
    · subst h0
      unfold Gives
      go_enter Try.func20, Try.ntmps20
      go_wp2_with fail
      go_ret
      exact ⟨rfl, (by repeat (first | exact Below.refl _ _ | exact below_of_grow _ _ | exact below_more _ _ _ _ | exact below_same _ _ _ | (refine Below.alloc ?_ (by first | (simp; done) | (simp; omega)) _) | (refine Below.grow ?_ (by first | (simp; done) | (simp; omega)) _ _) | refine Below.drew ?_ | refine Below.drewN ?_ _ | (refine Below.putF ?_ (by first | (simp; done) | omega | (simp; omega)) _) | (refine Below.setCell ?_ (by first | (simp; done) | (simp; omega)) _)))⟩
    · obtain ⟨k, rfl⟩ := Int.eq_ofNat_of_zero_le (a := m) (by omega)
      have e : textB k = lettersTo k 6 := by unfold textB; rw [if_neg h, if_neg h0, Int.toNat_natCast]
      rw [e]
      have hz : ((k : Int) == 0) = false := by simp; omega
      have hl := letters_gives k (by omega)
      have HL := Lib.hid hl
      clear hl
      unfold Gives
      go_enter Try.func20, Try.ntmps20
      go_wp2_with (go_at_call 26; refine Gives.use (HL.out _) ?_; intro xs d)
      go_ret
      exact ⟨rfl, (by repeat (first | exact Below.refl _ _ | exact below_of_grow _ _ | exact below_more _ _ _ _ | exact below_same _ _ _ | (refine Below.alloc ?_ (by first | (simp; done) | (simp; omega)) _) | (refine Below.grow ?_ (by first | (simp; done) | (simp; omega)) _ _) | refine Below.drew ?_ | refine Below.drewN ?_ _ | (refine Below.putF ?_ (by first | (simp; done) | omega | (simp; omega)) _) | (refine Below.setCell ?_ (by first | (simp; done) | (simp; omega)) _)))⟩

theorem mask_text : ∀ k : Fin 64, maskL (textB (k.val : Nat)) = (k.val : Nat) := by decide +kernel
theorem maskL_in (s : List UInt8) : 0 ≤ maskL s ∧ maskL s < 64 := maskTo_bd s 6 (by omega)
def isText (s : List UInt8) : Bool := decide (textB (maskL s) = s)
theorem text_hit {s : List UInt8} {k : Nat} (hk : k < 64) (h : textB k = s) : maskL s = k ∧ isText s = true := by
  have e : maskL s = k := by rw [← h]; exact mask_text ⟨k, hk⟩
  exact ⟨e, by unfold isText; rw [e]; simpa using h⟩
theorem text_miss {s : List UInt8} (h : ∀ j : Nat, j < 64 → textB j ≠ s) : isText s = false := by
  have hb := maskL_in s
  obtain ⟨p, hp⟩ := Int.eq_ofNat_of_zero_le hb.1
  have := h p (by omega)
  unfold isText
  rw [hp]
  simpa using this

def parse1 (s : List UInt8) : Int := if isText s = true then maskL s else 0
def parse2 (s : List UInt8) : Int := if isText s = true then 0 else 3
set_option maxHeartbeats 800000 in
theorem parse_gives (s : List UInt8) (w : World) : Gives Try.prog 19 #[.string (bs s)] w (.tuple #[.int .i64 (parse1 s), .int .i64 (parse2 s)]) := by
  unfold Gives
  go_enter Try.func19, Try.ntmps19
  go_wp2_with fail
  go_loopw [5] (fun i wr => ∃ (k : Nat) (xs : Array Obj) (d : Nat), k ≤ 64 ∧ i = .int .i64 k ∧ Hid (∀ j : Nat, j < k → textB j ≠ s) ∧ wr = w.grow xs d) (fun i _ => 64 - (intOf i).toNat)
  case atStart => exact ⟨0, #[], w.drawn, by omega, rfl, Lib.hid (fun j hj => absurd hj (by omega)), World.grow_nil.symm⟩
  case round =>
    obtain ⟨k, xs, d, hk, rfl, hno, rfl⟩ := hrel
    by_cases hlt : k < 64
    · by_cases hq : textB k = s
      · obtain ⟨hm, hi⟩ := text_hit hlt hq
        have HM := Lib.hid hm
        have HI := Lib.hid hi
        have hes : (textB k == s) = true := beq_iff_eq.2 hq
        clear hq hm hi
        go_wp2_with (go_at_call 22; refine Gives.use (roleText_gives _ _) ?_; intro ys e)
        exact bodyPost_ret (v := .tuple #[.int .i64 k, .int .i64 0]) (by simp [results, Try.results19, go_sem]) rfl ⟨by unfold parse1 parse2; rw [if_pos HI.out, if_pos HI.out, HM.out], (by repeat (first | exact Below.refl _ _ | exact below_of_grow _ _ | exact below_more _ _ _ _ | exact below_same _ _ _ | (refine Below.alloc ?_ (by first | (simp; done) | (simp; omega)) _) | (refine Below.grow ?_ (by first | (simp; done) | (simp; omega)) _ _) | refine Below.drew ?_ | refine Below.drewN ?_ _ | (refine Below.putF ?_ (by first | (simp; done) | omega | (simp; omega)) _) | (refine Below.setCell ?_ (by first | (simp; done) | (simp; omega)) _)))⟩
      · have HQ := Lib.hid hq
        have hes : (textB k == s) = false := beq_eq_false_iff_ne.2 hq
        clear hq
        go_wp2_with (go_at_call 22; refine Gives.use (roleText_gives _ _) ?_; intro ys e)
        go_roundw
        case rel =>
          refine ⟨k + 1, _, _, by omega, by go_num, Lib.hid (fun j hj => ?_), rfl⟩
          rcases Nat.lt_succ_iff_lt_or_eq.1 hj with h | rfl
          · exact hno.out j h
          · exact HQ.out
        case measure => simp [intOf]; omega
    · have : k = 64 := by omega
      subst this
      have hi := text_miss hno.out
      have HI := Lib.hid hi
      clear hi
      go_wp2_with fail
      exact bodyPost_ret (v := .tuple #[.int .i64 0, .int .i64 3]) (by simp [results, Try.results19, go_sem]) rfl ⟨by unfold parse1 parse2; rw [HI.out]; rfl, (by repeat (first | exact Below.refl _ _ | exact below_of_grow _ _ | exact below_more _ _ _ _ | exact below_same _ _ _ | (refine Below.alloc ?_ (by first | (simp; done) | (simp; omega)) _) | (refine Below.grow ?_ (by first | (simp; done) | (simp; omega)) _ _) | refine Below.drew ?_ | refine Below.drewN ?_ _ | (refine Below.putF ?_ (by first | (simp; done) | omega | (simp; omega)) _) | (refine Below.setCell ?_ (by first | (simp; done) | (simp; omega)) _)))⟩

def hasTo (s : List UInt8) : Nat → Nat
  | 0 => 0
  | k + 1 => if wordsL.getD (k + 1) [] = s then k + 1 else hasTo s k
theorem has_word : ∀ k : Fin 17, 1 ≤ k.val → hasTo (wordsL.getD k.val []) 16 = k.val := by decide +kernel
theorem has_hit {s : List UInt8} {k : Nat} (h1 : 1 ≤ k) (h2 : k ≤ 16) (h : wordsL.getD k [] = s) : hasTo s 16 = k := by
  subst h
  exact has_word ⟨k, by omega⟩ h1
theorem has_none {s : List UInt8} : ∀ n : Nat, (∀ j, 1 ≤ j → j ≤ n → wordsL.getD j [] ≠ s) → hasTo s n = 0
  | 0, _ => rfl
  | n + 1, h => by
    unfold hasTo
    rw [if_neg (h (n + 1) (by omega) (Nat.le_refl _))]
    exact has_none n fun j h1 h2 => h j h1 (by omega)

def read2 (s : List UInt8) : Int := if hasTo s 16 = 0 then 15 else 0
set_option maxHeartbeats 800000 in
theorem read_gives (s : List UInt8) (w : World) : Gives Try.prog 21 #[.string (bs s)] w (.tuple #[.int .i64 (hasTo s 16 : Nat), .int .i64 (read2 s)]) := by
  have hw := words_gives
  have hat := words_at
  generalize wordsV = V at *
  have HA := Lib.hid hat
  have HW := Lib.hid hw
  clear hat hw
  unfold Gives
  go_enter Try.func21, Try.ntmps21
  go_wp2_with (go_at_call 29; refine Gives.use (HW.out _) ?_; intro ys e)
  go_loopw [7] (fun i wr => ∃ (k : Nat) (xs : Array Obj) (d : Nat), k ≤ 17 ∧ i = .int .i64 k ∧ Hid (∀ j, 1 ≤ j → j < k → wordsL.getD j [] ≠ s) ∧ wr = w.grow xs d) (fun i _ => 17 - (intOf i).toNat)
  case atStart => exact ⟨0, _, _, by omega, rfl, Lib.hid (fun j _ hj => absurd hj (by omega)), rfl⟩
  case round =>
    obtain ⟨k, xs, d, hk, rfl, hno, rfl⟩ := hrel
    by_cases hlt : k < 17
    · have hk := HA.out k (by omega)
      by_cases h0 : k = 0
      · have HZ := Lib.hid h0
        have hp : ¬ ((0 : Int) < k) := by omega
        clear h0
        generalize wordsL.getD k [] = l0 at *
        go_wp2_with fail
        go_roundw
        case rel => exact ⟨k + 1, _, _, by omega, by go_num, Lib.hid (fun j h1 h2 => by have := HZ.out; omega), rfl⟩
        case measure => simp [intOf]; omega
      · have HZ := Lib.hid h0
        have hp : (0 : Int) < k := by omega
        clear h0
        have h0 := HZ
        by_cases hq : wordsL.getD k [] = s
        · have hh := has_hit (by have := HZ.out; omega) (by omega) hq
          have HH := Lib.hid hh
          have hes : (wordsL.getD k [] == s) = true := beq_iff_eq.2 hq
          clear hq hh
          generalize wordsL.getD k [] = l0 at *
          go_wp2_with fail
          exact bodyPost_ret (v := .tuple #[.int .i64 k, .int .i64 0]) (by simp [results, Try.results21, go_sem]) rfl ⟨by unfold read2; rw [HH.out, if_neg HZ.out], (by repeat (first | exact Below.refl _ _ | exact below_of_grow _ _ | exact below_more _ _ _ _ | exact below_same _ _ _ | (refine Below.alloc ?_ (by first | (simp; done) | (simp; omega)) _) | (refine Below.grow ?_ (by first | (simp; done) | (simp; omega)) _ _) | refine Below.drew ?_ | refine Below.drewN ?_ _ | (refine Below.putF ?_ (by first | (simp; done) | omega | (simp; omega)) _) | (refine Below.setCell ?_ (by first | (simp; done) | (simp; omega)) _)))⟩
        · have HQ := Lib.hid hq
          have hes : (wordsL.getD k [] == s) = false := beq_eq_false_iff_ne.2 hq
          clear hq
          generalize hl : wordsL.getD k [] = l0 at *
          have HL := Lib.hid hl
          clear hl
          go_wp2_with fail
          go_roundw
          case rel =>
            refine ⟨k + 1, _, _, by omega, by go_num, Lib.hid (fun j h1 hj => ?_), rfl⟩
            rcases Nat.lt_succ_iff_lt_or_eq.1 hj with h | rfl
            · exact hno.out j h1 h
            · rw [HL.out]; exact HQ.out
          case measure => simp [intOf]; omega
    · have : k = 17 := by omega
      subst this
      have hh := has_none (s := s) 16 fun j h1 h2 => hno.out j h1 (by omega)
      have HH := Lib.hid hh
      clear hh
      go_wp2_with fail
      exact bodyPost_ret (v := .tuple #[.int .i64 0, .int .i64 15]) (by simp [results, Try.results21, go_sem]) rfl ⟨by unfold read2; rw [HH.out]; rfl, (by repeat (first | exact Below.refl _ _ | exact below_of_grow _ _ | exact below_more _ _ _ _ | exact below_same _ _ _ | (refine Below.alloc ?_ (by first | (simp; done) | (simp; omega)) _) | (refine Below.grow ?_ (by first | (simp; done) | (simp; omega)) _ _) | refine Below.drew ?_ | refine Below.drewN ?_ _ | (refine Below.putF ?_ (by first | (simp; done) | omega | (simp; omega)) _) | (refine Below.setCell ?_ (by first | (simp; done) | (simp; omega)) _)))⟩
end Go.Proofs.Yteefknjaandjhaa

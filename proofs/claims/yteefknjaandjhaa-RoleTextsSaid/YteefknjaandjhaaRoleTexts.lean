/- Layer 22: the walk of the law of texts and words. -/
import Derived.Test.YteefknjaandjhaaRole7
import Derived.Deep.RegionHeld3
import Derived.Deep.DeepCutAuto
namespace Go.Proofs.Yteefknjaandjhaa
open Go.RowKit

theorem word_act' : ∀ k : Fin 16, wordsL.getD (k.val + 1) [] = (actsL.getD k.val ([], [])).1 := by decide +kernel
theorem word_act (k : Nat) (h : k < 16) : wordsL.getD (k + 1) [] = (actsL.getD k ([], [])).1 := word_act' ⟨k, h⟩
theorem wordOf_act (k : Nat) (h : k < 16) : wordOf ((k : Int) + 1) = (actsL.getD k ([], [])).1 := by
  unfold wordOf
  rw [if_pos (by omega), show ((k : Int) + 1).toNat = k + 1 by omega]
  exact word_act k h
theorem bs_size (s : List UInt8) : (bs s).size = s.length := by simp [bs, ByteArray.size]
theorem bs_cut (s : List UInt8) (n : Nat) : (bs s).extract 0 n = bs (s.take n) := by
  apply ByteArray.ext
  simp [bs, ByteArray.data_extract]

theorem parse_is {t : List UInt8} (h : textB (maskL t) = t) : parse1 t = maskL t ∧ parse2 t = 0 := by
  have e : isText t = true := decide_eq_true h
  unfold parse1 parse2
  rw [if_pos e, if_pos e]
  exact ⟨rfl, rfl⟩
theorem parse_not {t : List UInt8} (h : ¬ textB (maskL t) = t) : parse1 t = 0 ∧ parse2 t = 3 := by
  have e : ¬ isText t = true := by unfold isText; rw [decide_eq_false h]; decide
  unfold parse1 parse2
  rw [if_neg e, if_neg e]
  exact ⟨rfl, rfl⟩
theorem read_some {t : List UInt8} (h : 0 < hasTo t 16) : read2 t = 0 := if_neg (by omega)
theorem read_none {t : List UInt8} (h : hasTo t 16 = 0) : read2 t = 15 := if_pos h
theorem is_cases (t : List UInt8) : ((textB (maskL t) == t) = true ∧ parse1 t = maskL t ∧ parse2 t = 0) ∨ ((textB (maskL t) == t) = false ∧ parse1 t = 0 ∧ parse2 t = 3) := by
  by_cases h : textB (maskL t) = t
  · exact .inl ⟨beq_iff_eq.2 h, parse_is h⟩
  · exact .inr ⟨beq_eq_false_iff_ne.2 h, parse_not h⟩
theorem has_cases (t : List UInt8) : (0 < hasTo t 16 ∧ read2 t = 0) ∨ (hasTo t 16 = 0 ∧ read2 t = 15) := by
  by_cases h : 0 < hasTo t 16
  · exact .inl ⟨h, read_some h⟩
  · exact .inr ⟨by omega, read_none (by omega)⟩
theorem parse_text {m : Int} (h1 : 0 ≤ m) (h2 : m ≤ 63) : parse1 (textB m) = m ∧ parse2 (textB m) = 0 := by
  obtain ⟨p, rfl⟩ := Int.eq_ofNat_of_zero_le h1
  have e : maskL (textB p) = p := mask_text ⟨p, by omega⟩
  have := parse_is (t := textB p) (by rw [e])
  rw [e] at this
  exact this

set_option maxRecDepth 100000 in
set_option maxHeartbeats 12800000 in
theorem roleTexts_walk (m a : Int) (s : List UInt8) (w : World) (hm : s.length ≤ maxLen) : Gives Try.prog 5 #[.int .i64 m, .int .i64 a, .string (bs s)] w (.bool true) := by
  unfold maxLen at hm
  unfold Gives
  go_enter Try.func5, Try.ntmps5
  go_upto_region 1 with fail
  go_cut [2] (fun s2 wx => s2 = .string (bs (s.take 20)) ∧ w = wx)
  case first =>
    have hz := bs_size s
    by_cases h20 : s.length ≤ 20
    · have hi : ((s.length : Nat) : Int) ≤ 20 := by omega
      go_wp2_with fail
      go_meet
      refine ⟨?_, rfl⟩
      exact congrArg Value.string (by rw [bs_cut, List.take_of_length_le (Nat.le_refl _), List.take_of_length_le h20])
    · have hi : ¬ ((s.length : Nat) : Int) ≤ 20 := by omega
      go_wp2_with fail
      go_meet
      refine ⟨?_, rfl⟩
      exact congrArg Value.string (bs_cut _ _)
  case rest =>
  obtain ⟨rfl, rfl⟩ := hcut
  have h20 : (s.take 20).length ≤ 20 := by simp; omega
  generalize s.take 20 = t at *
  go_upto_region 3 with fail
  go_cut [28] (fun s28 wx => s28 = .bool (decide (1 ≤ a ∧ a ≤ 16)) ∧ w = wx)
  case first =>
    by_cases h1 : 1 ≤ a
    · by_cases h2 : a ≤ 16
      · go_wp2_with fail
        go_meet
        exact ⟨by simp [h1, h2], rfl⟩
      · go_wp2_with fail
        go_meet
        exact ⟨by simp [h1, h2], rfl⟩
    · go_wp2_with fail
      go_meet
      exact ⟨by simp; omega, rfl⟩
  case rest =>
  obtain ⟨rfl, rfl⟩ := hcut
  go_upto_if 28 with fail
  go_cut [7] (fun s7 wx => s7 = .string (bs (wordOf a)) ∧ ∃ xs d, wx = w.grow xs d)
  case first =>
    by_cases ha : 1 ≤ a ∧ a ≤ 16
    · obtain ⟨k, hk⟩ : ∃ k : Nat, a = (k : Int) + 1 := ⟨(a - 1).toNat, by omega⟩
      subst hk
      have hk : k < 16 := by omega
      obtain ⟨ha1, ha2⟩ := ha
      go_wp2_with fail
      refine (acts_gives _).mono ?_
      rintro e w1 ⟨v, rfl, hb, b, rfl, hbs, hc⟩
      have hc1 := (hc k hk).1
      clear hc
      obtain ⟨xs, d, rfl⟩ := grow_of_below hb
      clear hb
      go_wp2_with fail
      go_meet
      exact ⟨by rw [wordOf_act k hk]; rfl, _, _, rfl⟩
    · have e : wordOf a = [] := if_neg ha
      have HE := Lib.hid e
      clear e
      have hd : decide (1 ≤ a ∧ a ≤ 16) = false := decide_eq_false ha
      go_wp2_with fail
      go_meet
      exact ⟨by rw [HE.out]; rfl, #[], w.drawn, World.grow_nil.symm⟩
  case rest =>
  obtain ⟨rfl, xs0, d0, rfl⟩ := hcut
  have hsz : (bs t).size ≤ 1000000 := by rw [bs_size]; omega
  have hmk := fun w => mask_gives (bs t) hsz w
  rw [show (bs t).data.toList = t by simp [bs]] at hmk
  go_wp2_with (first | (go_at_call 19; refine Gives.use (parse_gives t _) ?_; intro ys e) | (go_at_call 11; refine Gives.use (hmk _) ?_; intro ys e) | (go_at_call 20; refine Gives.use (refText_gives _ _) ?_; intro ys e) | (go_at_call 21; refine Gives.use (read_gives t _) ?_; intro ys e))
  go_loopw [14, 15] (fun h i wr => ∃ (q : Nat) (xs : Array Obj) (d : Nat), q ≤ 16 ∧ h = .int .i64 (hasTo t q : Nat) ∧ i = .int .i64 ((q : Int) + 1) ∧ wr = w.grow xs d) (fun _ i _ => 17 - (intOf i).toNat)
  case atStart => exact ⟨0, _, _, by omega, rfl, rfl, rfl⟩
  case round =>
    obtain ⟨q, xs, d, hq, rfl, rfl, rfl⟩ := hrel
    by_cases hlt : q < 16
    · have hwa := word_act q hlt
      have hS : hasTo t (q + 1) = if wordsL.getD (q + 1) [] = t then q + 1 else hasTo t q := rfl
      generalize wordsL.getD (q + 1) [] = wq at hwa hS
      have HWQ := Lib.hid hwa
      have HS := Lib.hid hS
      clear hwa hS
      have hq1 : (q : Int) + 1 ≤ 16 := by omega
      by_cases hh : wq = t
      · have hes2 : (wq == t) = true := beq_iff_eq.2 hh
        have HH := Lib.hid hh
        clear hh
        go_wp2_with fail
        refine (acts_gives _).mono ?_
        rintro e w1 ⟨v, rfl, hb, b, rfl, hbs, hc⟩
        have hc1 := (hc q hlt).1
        rw [← HWQ.out] at hc1
        clear hc
        obtain ⟨ys, d2, rfl⟩ := grow_of_below hb
        rw [World.grow_grow] at hc1
        simp only [World.grow_size] at hbs
        clear hb
        go_wp2_with fail
        go_roundw
        case rel =>
          refine ⟨q + 1, _, _, by omega, ?_, by go_num, by first | rfl | simp [World.grow_grow]⟩
          rw [HS.out, if_pos HH.out]; rfl
        case measure => simp [intOf]; omega
      · have hes2 : (wq == t) = false := beq_eq_false_iff_ne.2 hh
        have HH := Lib.hid hh
        clear hh
        go_wp2_with fail
        refine (acts_gives _).mono ?_
        rintro e w1 ⟨v, rfl, hb, b, rfl, hbs, hc⟩
        have hc1 := (hc q hlt).1
        rw [← HWQ.out] at hc1
        clear hc
        obtain ⟨ys, d2, rfl⟩ := grow_of_below hb
        rw [World.grow_grow] at hc1
        simp only [World.grow_size] at hbs
        clear hb
        go_wp2_with fail
        go_roundw
        case rel =>
          refine ⟨q + 1, _, _, by omega, ?_, by go_num, by first | rfl | simp [World.grow_grow]⟩
          rw [HS.out, if_neg HH.out]
        case measure => simp [intOf]; omega
    · have : q = 16 := by omega
      subst this
      have H1 := is_cases t
      have H2 := has_cases t
      generalize parse1 t = x1 at *
      generalize parse2 t = x2 at *
      generalize (textB (maskL t) == t) = b0 at *
      generalize maskL t = x0 at *
      generalize hasTo t 16 = h0 at *
      generalize read2 t = y2 at *
      go_upto_region 15 with fail
      go_cut [85] (fun s85 wx => s85 = .bool false ∧ w.grow xs d = wx)
      case first =>
        rcases H1 with ⟨rfl, rfl, rfl⟩ | ⟨rfl, rfl, rfl⟩
        · go_wp2_with fail
          go_meet
          exact ⟨rfl, rfl⟩
        · go_wp2_with fail
          go_meet
          exact ⟨rfl, rfl⟩
      case rest =>
      obtain ⟨rfl, rfl⟩ := hcut
      go_upto_region 17 with fail
      go_cut [108] (fun s108 wx => s108 = .bool false ∧ w.grow xs d = wx)
      case first =>
        rcases H2 with ⟨hp, rfl⟩ | ⟨rfl, rfl⟩
        · have hp2 : (0 : Int) < h0 := by omega
          go_wp2_with fail
          go_meet
          exact ⟨rfl, rfl⟩
        · go_wp2_with fail
          go_meet
          exact ⟨rfl, rfl⟩
      case rest =>
      obtain ⟨rfl, rfl⟩ := hcut
      clear H1 H2
      by_cases hm0 : m < 0
      · clear hq hlt hmk hsz h20
        go_wp2_with fail
        refine Gives.use (roleText_gives m _) ?_; intro ys2 e2
        go_wp2_with fail
        refine Gives.use (parse_gives (textB m) _) ?_; intro ys3 e3
        go_wp2_with fail
        refine Gives.use (known22 _) ?_; intro ys4 e4
        go_wp2_with fail
        refine Gives.use (roleText_gives m _) ?_; intro ys5 e5
        go_wp2_with fail
        refine Gives.use (refText_gives m _) ?_; intro ys6 e6
        go_wp2_with fail
        refine Gives.use (word_gives a _) ?_; intro ys7 e7
        go_wp2_with fail
        go_ret
        exact ⟨congrArg Ending.returned (by simp), below_of_grow _ _⟩
      · by_cases hm1 : m ≤ 63
        · have hpt := parse_text (m := m) (by omega) hm1
          generalize hp1 : parse1 (textB m) = z1 at *
          generalize hp2 : parse2 (textB m) = z2 at *
          have HP1 := Lib.hid hp1
          have HP2 := Lib.hid hp2
          clear hp1 hp2
          obtain ⟨rfl, rfl⟩ := hpt
          clear hq hlt hmk hsz h20
          go_wp2_with fail
          refine Gives.use (roleText_gives z1 _) ?_; intro ys2 e2
          go_wp2_with fail
          refine Gives.use (by have := parse_gives (textB z1); rw [HP1.out, HP2.out] at this; exact this _) ?_; intro ys3 e3
          go_wp2_with fail
          refine Gives.use (known22 _) ?_; intro ys4 e4
          go_wp2_with fail
          refine Gives.use (roleText_gives z1 _) ?_; intro ys5 e5
          go_wp2_with fail
          refine Gives.use (refText_gives z1 _) ?_; intro ys6 e6
          go_wp2_with fail
          refine Gives.use (word_gives a _) ?_; intro ys7 e7
          go_wp2_with fail
          go_ret
          exact ⟨congrArg Ending.returned (by simp), below_of_grow _ _⟩
        · clear hq hlt hmk hsz h20
          go_wp2_with fail
          refine Gives.use (roleText_gives m _) ?_; intro ys2 e2
          go_wp2_with fail
          refine Gives.use (parse_gives (textB m) _) ?_; intro ys3 e3
          go_wp2_with fail
          refine Gives.use (known22 _) ?_; intro ys4 e4
          go_wp2_with fail
          refine Gives.use (roleText_gives m _) ?_; intro ys5 e5
          go_wp2_with fail
          refine Gives.use (refText_gives m _) ?_; intro ys6 e6
          go_wp2_with fail
          refine Gives.use (word_gives a _) ?_; intro ys7 e7
          go_wp2_with fail
          go_ret
          exact ⟨congrArg Ending.returned (by simp), below_of_grow _ _⟩
end Go.Proofs.Yteefknjaandjhaa

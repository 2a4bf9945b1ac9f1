/- Layer 1: the highest bit of a word; layer 11: the first bit in which bytes are unlike. -/
import Derived.Test.YtjdccgmoldmlmaaDoorGet
import Derived.Laws.BitsLemmas
namespace Go.Proofs.YtjdccgmoldmlmaaDoor
set_option maxRecDepth 100000
open Go.RowKit

/-- the highest bit below n; -1: there is none -/
def topU (x : Nat) : Nat → Int
  | 0 => -1
  | n + 1 => if x.testBit n then n else topU x n
theorem topU_range (x : Nat) : ∀ n : Nat, -1 ≤ topU x n ∧ topU x n < n
  | 0 => by unfold topU; omega
  | n + 1 => by
    have := topU_range x n
    unfold topU
    split
    all_goals omega
theorem topU_spec {x : Nat} : ∀ {n t : Nat}, topU x n = t → x.testBit t = true ∧ ∀ i, t < i → i < n → x.testBit i = false
  | 0, t, h => by simp [topU] at h
  | n + 1, t, h => by
    unfold topU at h
    split at h
    · rename_i hb
      obtain rfl : n = t := by omega
      exact ⟨hb, fun i h1 h2 => by omega⟩
    · rename_i hb
      obtain ⟨h1, h2⟩ := topU_spec h
      refine ⟨h1, fun i hi hn => ?_⟩
      by_cases e : i = n
      · subst e; simpa using hb
      · exact h2 i hi (by omega)
theorem topU_none {x : Nat} : ∀ {n : Nat}, topU x n = -1 → ∀ i, i < n → x.testBit i = false
  | 0, _, i, hi => by omega
  | n + 1, h, i, hi => by
    unfold topU at h
    split at h
    · omega
    · rename_i hb
      by_cases e : i = n
      · subst e; simpa using hb
      · exact topU_none h i (by omega)
theorem and_one_u64 (y : Nat) (hy : y < 2 ^ 64) : bits BinOp.and IntKind.u64 (y : Int) 1 = ((y % 2 : Nat) : Int) := by
  have h := (bits_nat .u64 64 (by decide) (fun n h0 h1 => by simp [IntKind.wrap, IntKind.bits, IntKind.signed]; omega) y 1 hy (by decide)).1
  rw [Nat.and_one_is_mod] at h
  exact h
theorem top_bit (x i : Nat) (hx : x < 2 ^ 64) : (bits BinOp.and IntKind.u64 ((x : Int) / 2 ^ i) 1 == 1) = x.testBit i := by
  have e : (x : Int) / 2 ^ i = ((x / 2 ^ i : Nat) : Int) := by rw [Int.natCast_ediv]; simp
  rw [e, and_one_u64 _ (Nat.lt_of_le_of_lt (Nat.div_le_self _ _) hx), Nat.testBit_eq_decide_div_mod_eq]
  rw [Bool.eq_iff_iff]
  simp
  omega
theorem xor_u8 (a b : UInt8) : bits BinOp.xor IntKind.u8 (a.toNat : Int) (b.toNat : Int) = ((a.toNat ^^^ b.toNat : Nat) : Int) := by
  have ha := a.toNat_lt
  have hb := b.toNat_lt
  have hx : a.toNat ^^^ b.toNat < 2 ^ 8 := Nat.xor_lt_two_pow ha hb
  simp only [bits, BitVec.ofInt_natCast, BitVec.toNat_xor, BitVec.toNat_ofNat, show IntKind.u8.bits = 8 from rfl, Nat.mod_eq_of_lt ha, Nat.mod_eq_of_lt hb]
  exact wraps_u8 _ (Int.natCast_nonneg _) (by exact_mod_cast hx)
set_option maxHeartbeats 2000000 in
theorem top_gives (x : Nat) (hx : x < 2 ^ 64) (w : World) : Gives Tryd.prog 34 #[.int .u64 x] w (.int .i64 (topU x 64)) := by
  have HT := Lib.hid (top_bit x · hx)
  unfold Gives
  go_enter Tryd.func34, Tryd.ntmps34
  go_wp2_with fail
  go_loopw [3, 5] (fun s3 s5 wr => ∃ i : Nat, i ≤ 64 ∧ s3 = .int .i64 (topU x i) ∧ s5 = .int .i64 (i : Int) ∧ wr = w) (fun _ s5 _ => 64 - (intOf s5).toNat)
  case atStart => exact ⟨0, by omega, rfl, rfl, rfl⟩
  case round =>
    obtain ⟨i, hi, rfl, rfl, rfl⟩ := hrel
    obtain ⟨h1, h2⟩ := topU_range x i
    obtain ⟨t, ht⟩ : ∃ t, t = topU x i := ⟨_, rfl⟩
    by_cases hlt : i < 64
    · have hb := HT.out i
      by_cases hx : x.testBit i = true
      · have ht2 : topU x (i + 1) = i := by unfold topU; rw [if_pos hx]
        rw [hx] at hb
        rw [← ht]
        clear HT hx ht
        go_wp2_with fail
        exact ⟨⟨i + 1, by omega, by rw [ht2], by simp, trivial⟩, by simp [intOf]; omega⟩
      · have ht2 : topU x (i + 1) = t := by unfold topU; rw [if_neg hx]; exact ht.symm
        rw [Bool.not_eq_true] at hx
        rw [hx] at hb
        rw [← ht]
        clear HT hx ht
        go_wp2_with fail
        exact ⟨⟨i + 1, by omega, by rw [ht2], by simp, trivial⟩, by simp [intOf]; omega⟩
    · obtain rfl : i = 64 := by omega
      go_wp2_with fail
      go_ret
      exact ⟨rfl, (by repeat (first | exact below_of_grow _ _ | exact Below.refl _ _ | exact below_more _ _ _ _ | (simp only [← Array.append_assoc]; first | exact below_more _ _ _ _ | exact below_same _ _ _ | exact Below.refl _ _) | exact below_same _ _ _ | (refine Below.alloc ?_ (by first | (simp; done) | (simp; omega)) _) | (refine Below.grow ?_ (by first | (simp; done) | (simp; omega)) _ _) | refine Below.drew ?_ | refine Below.drewN ?_ _ | (refine Below.putF ?_ (by first | (simp; done) | omega | (simp; omega)) _) | (refine Below.setCell ?_ (by first | (simp; done) | (simp; omega)) _)))⟩
/-- the first bit in which two rows are unlike -/
def FirstUnlike (a b : List UInt8) (d : Nat) : Prop := d < 200 ∧ Alike d a b ∧ bitB a d ≠ bitB b d
theorem FirstUnlike.once {a b : List UInt8} {d e : Nat} (h : FirstUnlike a b d) (h' : FirstUnlike a b e) : d = e := by
  rcases Nat.lt_trichotomy d e with hlt | rfl | hlt
  · exact absurd (h'.2.1 d hlt) h.2.2
  · rfl
  · exact absurd (h.2.1 e hlt) h'.2.2
open Classical in
noncomputable def diffN (a b : List UInt8) : Nat := if h : ∃ d, FirstUnlike a b d then Classical.choose h else 0
theorem diffN_eq {a b : List UInt8} {d : Nat} (h : FirstUnlike a b d) : diffN a b = d := by
  have hex : ∃ d, FirstUnlike a b d := ⟨d, h⟩
  unfold diffN
  rw [dif_pos hex]
  exact (Classical.choose_spec hex).once h
theorem bitB_test (b : List UInt8) (i : Nat) : bitB b i = (byt b (i / 8)).toNat.testBit (7 - i % 8) := by
  rw [Nat.testBit_eq_decide_div_mod_eq]; rfl
theorem topU_small {x : Nat} (hx : x < 256) (h0 : x ≠ 0) : ∃ t : Nat, topU x 64 = t ∧ t < 8 ∧ x.testBit t = true ∧ ∀ i, t < i → x.testBit i = false := by
  have hr := topU_range x 64
  have hbig : ∀ i, 8 ≤ i → x.testBit i = false := fun i hi => Nat.testBit_lt_two_pow (Nat.lt_of_lt_of_le hx (Nat.pow_le_pow_right (by decide) hi : 2 ^ 8 ≤ 2 ^ i))
  by_cases hn : topU x 64 = -1
  · exfalso
    apply h0
    apply Nat.eq_of_testBit_eq
    intro i
    rw [Nat.zero_testBit]
    by_cases h : i < 64
    · exact topU_none hn i h
    · exact hbig i (by omega)
  · obtain ⟨t, ht⟩ : ∃ t : Nat, topU x 64 = t := ⟨(topU x 64).toNat, by omega⟩
    obtain ⟨h1, h2⟩ := topU_spec ht
    refine ⟨t, ht, ?_, h1, fun i hi => ?_⟩
    · rcases Nat.lt_or_ge t 8 with h | h
      · exact h
      · rw [hbig t h] at h1; cases h1
    · by_cases h : i < 64
      · exact h2 i hi h
      · exact hbig i (by omega)
/-- at the first byte in which they are unlike -/
theorem firstUnlike_of {a b : List UInt8} {i t : Nat} (hi : i < 25) (he : ∀ j, j < i → byt a j = byt b j) (ht8 : t < 8) (h1 : ((byt a i).toNat ^^^ (byt b i).toNat).testBit t = true) (h2 : ∀ j, t < j → ((byt a i).toNat ^^^ (byt b i).toNat).testBit j = false) : FirstUnlike a b (8 * i + 7 - t) := by
  have e1 : (8 * i + 7 - t) / 8 = i := by omega
  have e2 : 7 - (8 * i + 7 - t) % 8 = t := by omega
  refine ⟨by omega, fun j hj => ?_, ?_⟩
  · rw [bitB_test, bitB_test]
    by_cases hq : j / 8 < i
    · rw [he _ hq]
    · have hq2 : j / 8 = i := by omega
      rw [hq2]
      have := h2 (7 - j % 8) (by omega)
      rw [Nat.testBit_xor] at this
      simpa using this
  · rw [bitB_test, bitB_test, e1, e2]
    rw [Nat.testBit_xor] at h1
    simpa using h1
theorem first_ne {a b : List UInt8} : ∀ n, (∀ j, j < n → byt a j = byt b j) ∨ ∃ i, i < n ∧ byt a i ≠ byt b i ∧ ∀ j, j < i → byt a j = byt b j
  | 0 => .inl fun j hj => by omega
  | n + 1 => by
    rcases first_ne (a := a) (b := b) n with h | ⟨i, h1, h2, h3⟩
    · by_cases he : byt a n = byt b n
      · refine .inl fun j hj => ?_
        by_cases hj2 : j = n
        · rw [hj2]; exact he
        · exact h j (by omega)
      · exact .inr ⟨n, by omega, he, h⟩
    · exact .inr ⟨i, by omega, h2, h3⟩
theorem eq_of_xor {a b : Nat} (h : a ^^^ b = 0) : a = b := by
  have e : (a ^^^ b) ^^^ b = a := by rw [Nat.xor_assoc, Nat.xor_self, Nat.xor_zero]
  rw [h, Nat.zero_xor] at e
  exact e.symm
theorem firstUnlike_ex {a b : List UInt8} (ha : a.length = 25) (hb : b.length = 25) (hne : a ≠ b) : FirstUnlike a b (diffN a b) := by
  rcases first_ne (a := a) (b := b) 25 with h | ⟨i, h1, h2, h3⟩
  · exfalso
    apply hne
    apply List.ext_getElem (by omega)
    intro j h1 h2
    rw [byt_get h1, byt_get h2]
    exact h j (by omega)
  · have hx0 : (byt a i).toNat ^^^ (byt b i).toNat ≠ 0 := fun h0 => h2 (UInt8.toNat_inj.1 (eq_of_xor h0))
    have hxl : (byt a i).toNat ^^^ (byt b i).toNat < 256 := Nat.xor_lt_two_pow (n := 8) (byt a i).toNat_lt (byt b i).toNat_lt
    obtain ⟨t, g1, g2, g3, g4⟩ := topU_small hxl hx0
    have := firstUnlike_of h1 h3 g2 g3 g4
    rw [diffN_eq this]; exact this
set_option maxHeartbeats 4000000 in
theorem differ_gives (a b : List UInt8) (ha : a.length = 25) (hb : b.length = 25) (hne : a ≠ b) (w : World) : Gives Tryd.prog 25 #[.agg (row8 a), .agg (row8 b)] w (.int .i64 (diffN a b)) := by
  have HT := Lib.hid top_gives
  have HNE := Lib.hid hne
  clear hne
  unfold Gives
  go_enter Tryd.func25, Tryd.ntmps25
  go_wp2_with fail
  go_loopw [7] (fun s7 wr => ∃ i d : Nat, i ≤ 25 ∧ s7 = .int .i64 (i : Int) ∧ (∀ j, j < i → byt a j = byt b j) ∧ wr = ((w.alloc (.cells (row8 a) 78)).alloc (.cells (row8 b) 78)).drewN d) (fun s7 _ => 25 - (intOf s7).toNat)
  case atStart => exact ⟨0, 0, by omega, rfl, fun j hj => by omega, rfl⟩
  case round =>
    obtain ⟨i, d, hi, rfl, hall, rfl⟩ := hrel
    by_cases hlt : i < 25
    · have ga : (row8 a)[i]? = some (.int .u8 ((byt a i).toNat : Int)) := row8_get a _ (by omega)
      have gb : (row8 b)[i]? = some (.int .u8 ((byt b i).toNat : Int)) := row8_get b _ (by omega)
      have hx := xor_u8 (byt a i) (byt b i)
      obtain ⟨x, hxe⟩ : ∃ x, x = (byt a i).toNat ^^^ (byt b i).toNat := ⟨_, rfl⟩
      have hxl : x < 256 := by rw [hxe]; exact Nat.xor_lt_two_pow (n := 8) (byt a i).toNat_lt (byt b i).toNat_lt
      rw [← hxe] at hx
      have HALL := Lib.hid hall
      have HX := Lib.hid hxe
      clear hall hxe
      by_cases h0 : x = 0
      · subst h0
        go_wp2_with fail
        go_quiet (fail)
        go_wp2_with fail
        refine ⟨⟨i + 1, _, by omega, by simp, fun j hj => ?_, rfl⟩, by simp [intOf]; omega⟩
        by_cases hj2 : j < i
        · exact HALL.out j hj2
        · obtain rfl : j = i := by omega
          exact UInt8.toNat_inj.1 (eq_of_xor HX.out.symm)
      · obtain ⟨t, h1, h2, h3, h4⟩ := topU_small hxl h0
        have hd : diffN a b = 8 * i + 7 - t := diffN_eq (firstUnlike_of hlt HALL.out h2 (HX.out ▸ h3) (HX.out ▸ h4))
        have HD := Lib.hid hd
        have HTT := Lib.hid (HT.out x (by omega))
        rw [h1] at HTT
        clear h1 h3 h4 hd
        go_wp2_with fail
        go_quiet (fail)
        go_wp2_with fail
        refine Gives.use (HTT.out _) ?_
        intro xs e
        go_wp2_with fail
        go_ret
        refine ⟨congrArg Ending.returned (congrArg (Value.int IntKind.i64) (by rw [HD.out]; omega)), (by repeat (first | exact below_of_grow _ _ | exact Below.refl _ _ | exact below_more _ _ _ _ | (simp only [← Array.append_assoc]; first | exact below_more _ _ _ _ | exact below_same _ _ _ | exact Below.refl _ _) | exact below_same _ _ _ | (refine Below.alloc ?_ (by first | (simp; done) | (simp; omega)) _) | (refine Below.grow ?_ (by first | (simp; done) | (simp; omega)) _ _) | refine Below.drew ?_ | refine Below.drewN ?_ _ | (refine Below.putF ?_ (by first | (simp; done) | omega | (simp; omega)) _) | (refine Below.setCell ?_ (by first | (simp; done) | (simp; omega)) _)))⟩
    · exfalso
      obtain rfl : i = 25 := by omega
      apply HNE.out
      apply List.ext_getElem (by omega)
      intro j h1 h2
      rw [byt_get h1, byt_get h2]
      exact hall j (by omega)
end Go.Proofs.YtjdccgmoldmlmaaDoor

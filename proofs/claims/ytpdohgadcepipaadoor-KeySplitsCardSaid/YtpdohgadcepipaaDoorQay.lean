/- The document's tags in plain Lean: three parts; it takes for right just what the program does. -/
import Derived.Test.YtpdohgadcepipaaDoorQab
namespace Go.Proofs.YtpdohgadcepipaaDoor

abbrev Tag3 := List UInt8 × List UInt8 × List UInt8
/-- three parts, each in its place -/
def pad3 (x : Tag3) : List UInt8 := padTo 3 x.1 ++ padTo 4 x.2.1 ++ padTo 3 x.2.2
def titleR (p : List UInt8) : List UInt8 := (p.take 1).map toUpp ++ (p.drop 1).map toLow
/-- the parts behind the first one -/
def loopT : List (List UInt8) → List UInt8 → List UInt8 → Option (List UInt8 × List UInt8)
  | [], s, r => some (s, r)
  | p :: q, s, r => if scriptB p = true ∧ s = [] ∧ r = [] then loopT q (titleR p) r else if regionB p = true ∧ r = [] then loopT q s (p.map toUpp) else none
def refTagL : List (List UInt8) → Option Tag3
  | [] => none
  | p :: q => if langB p = true then (loopT q [] []).map fun x => (p.map toLow, x) else none
def refTag (s : List UInt8) : Option Tag3 := if s = rootL then some ([], [], []) else refTagL (splitOn 45 s)
theorem byte256 {P : UInt8 → Prop} (h : ∀ k < 256, P (UInt8.ofNat k)) (x : UInt8) : P x := by
  have := h x.toNat x.toNat_lt
  rwa [UInt8.ofNat_toNat] at this
theorem upp_low : ∀ c : UInt8, letB c = true → toUpp (toLow c) = toUpp c := byte256 (by decide +kernel)
theorem low_nz : ∀ c : UInt8, letB c = true → toLow c ≠ 0 := byte256 (by decide +kernel)
theorem upp_nz : ∀ c : UInt8, letB c = true → toUpp c ≠ 0 := byte256 (by decide +kernel)
theorem dig_nz : ∀ c : UInt8, digB c = true → toUpp c ≠ 0 := byte256 (by decide +kernel)
theorem title_eq {p : List UInt8} (h : p.all letB = true) : title p = titleR p := by
  cases p with
  | nil => rfl
  | cons c r =>
    simp only [List.all_cons, Bool.and_eq_true] at h
    show toUpp (toLow c) :: r.map toLow = [toUpp c] ++ r.map toLow
    rw [upp_low c h.1]; rfl
theorem titleR_ne {p : List UInt8} (h : scriptB p = true) : titleR p ≠ [] := by
  cases p with
  | nil => simp [scriptB] at h
  | cons c r => simp [titleR]
theorem region_ne {p : List UInt8} (h : regionB p = true) : p.map toUpp ≠ [] := by
  cases p with
  | nil => simp [regionB] at h
  | cons c r => simp
theorem loopT_full (q : List (List UInt8)) (s r : List UInt8) (hr : r ≠ []) : loopT q s r = if q = [] then some (s, r) else none := by
  cases q with
  | nil => rfl
  | cons p q => unfold loopT; simp [hr]
theorem loopT_region (q : List (List UInt8)) (s : List UInt8) (hs : s ≠ []) : loopT q s [] = if rgRest q = [] then some (s, match q with | [] => [] | p :: _ => if regionB p = true then p.map toUpp else []) else none := by
  cases q with
  | nil => rfl
  | cons p q =>
    unfold loopT
    simp only [hs, and_false, if_false, and_true]
    by_cases h : regionB p = true
    · rw [if_pos h, loopT_full q s _ (region_ne h)]
      simp [rgRest, h]
    · rw [if_neg h]; simp [rgRest, h]
theorem zeros_pad (n : Nat) : zeros n = padTo n [] := by simp [padTo]
theorem loopT_all (q : List (List UInt8)) : (loopT q [] []).map (fun x => padTo 4 x.1 ++ padTo 3 x.2) = if rgRest (scRest q) = [] then some (scOf q ++ rgOf (scRest q)) else none := by
  cases q with
  | nil => simp [loopT, rgRest, scRest, scOf, rgOf, padTo]
  | cons p q =>
    unfold loopT
    by_cases h : scriptB p = true
    · rw [if_pos ⟨h, rfl, rfl⟩, loopT_region q _ (titleR_ne h)]
      have hl : p.length = 4 ∧ p.all letB = true := by simpa [scriptB] using h
      have ht : padTo 4 (titleR p) = title p := by
        rw [← title_eq hl.2]
        have : (title p).length = 4 := by
          cases p with
          | nil => simp at hl
          | cons c r => simpa [title] using hl.1
        unfold padTo; simp [this, zeros]
      have e1 : scRest (p :: q) = q := by simp [scRest, h]
      have e2 : scOf (p :: q) = title p := by simp [scOf, h]
      rw [e1, e2]
      by_cases hr : rgRest q = []
      · rw [if_pos hr, if_pos hr, Option.map_some, ht]
        congr 2
        cases q with
        | nil => simp [rgOf, padTo]
        | cons p2 q2 =>
          by_cases h2 : regionB p2 = true
          · simp [rgOf, h2]
          · simp [rgOf, h2, padTo]
      · rw [if_neg hr, if_neg hr]; rfl
    · have e1 : scRest (p :: q) = p :: q := by simp [scRest, h]
      have e2 : scOf (p :: q) = zeros 4 := by simp [scOf, h]
      rw [if_neg (fun hh => h hh.1), e1, e2]
      by_cases h2 : regionB p = true
      · rw [if_pos ⟨h2, rfl⟩, loopT_full q _ _ (region_ne h2)]
        have e3 : rgRest (p :: q) = q := by simp [rgRest, h2]
        have e4 : rgOf (p :: q) = padTo 3 (p.map toUpp) := by simp [rgOf, h2]
        rw [e3, e4]
        by_cases hq : q = []
        · rw [if_pos hq, if_pos hq, Option.map_some, zeros_pad]
        · rw [if_neg hq, if_neg hq]; rfl
      · rw [if_neg (fun hh => h2 hh.1)]
        have e3 : rgRest (p :: q) = p :: q := by simp [rgRest, h2]
        rw [e3, if_neg (by simp)]; rfl
theorem tagOpt_ref (s : List UInt8) : tagOpt s = (refTag s).map pad3 := by
  unfold tagOpt refTag
  by_cases h : s = rootL
  · rw [if_pos h, if_pos h]; rfl
  · rw [if_neg h, if_neg h]
    cases splitOn 45 s with
    | nil => rfl
    | cons p q =>
      show (if langB p = true ∧ rgRest (scRest q) = [] then some (padTo 3 (p.map toLow) ++ scOf q ++ rgOf (scRest q)) else none) = (if langB p = true then (loopT q [] []).map (fun x => (p.map toLow, x)) else none).map pad3
      have hl := loopT_all q
      by_cases hp : langB p = true
      · rw [if_pos hp]
        by_cases hr : rgRest (scRest q) = []
        · rw [if_pos ⟨hp, hr⟩]
          rw [if_pos hr] at hl
          cases hx : loopT q [] [] with
          | none => rw [hx] at hl; cases hl
          | some x =>
            rw [hx, Option.map_some, Option.some.injEq] at hl
            simp only [Option.map_some, pad3]
            rw [List.append_assoc, List.append_assoc, hl]
        · rw [if_neg (fun hh => hr hh.2)]
          rw [if_neg hr] at hl
          cases hx : loopT q [] [] with
          | none => rfl
          | some x => rw [hx] at hl; cases hl
      · rw [if_neg hp, if_neg (fun hh => hp hh.1)]; rfl
/-- parts without bytes that are 0, short enough -/
def GoodT (x : Tag3) : Prop := (x.1.length ≤ 3 ∧ (0 : UInt8) ∉ x.1) ∧ (x.2.1.length ≤ 4 ∧ (0 : UInt8) ∉ x.2.1) ∧ (x.2.2.length ≤ 3 ∧ (0 : UInt8) ∉ x.2.2)
theorem titleR_good {p : List UInt8} (h : scriptB p = true) : (titleR p).length ≤ 4 ∧ (0 : UInt8) ∉ titleR p := by
  have hl : p.length = 4 ∧ ∀ c ∈ p, letB c = true := by simpa [scriptB] using h
  refine ⟨by simp [titleR]; omega, fun hm => ?_⟩
  unfold titleR at hm
  rcases List.mem_append.1 hm with hm | hm
  · obtain ⟨c, hc, e⟩ := List.mem_map.1 hm
    exact upp_nz c (hl.2 c (List.mem_of_mem_take hc)) e
  · obtain ⟨c, hc, e⟩ := List.mem_map.1 hm
    exact low_nz c (hl.2 c (List.mem_of_mem_drop hc)) e
theorem region_good {p : List UInt8} (h : regionB p = true) : (p.map toUpp).length ≤ 3 ∧ (0 : UInt8) ∉ p.map toUpp := by
  have hl : (p.length = 2 ∧ ∀ c ∈ p, letB c = true) ∨ (p.length = 3 ∧ ∀ c ∈ p, digB c = true) := by simpa [regionB] using h
  refine ⟨by rw [List.length_map]; omega, fun hm => ?_⟩
  obtain ⟨c, hc, e⟩ := List.mem_map.1 hm
  rcases hl with hl | hl
  · exact upp_nz c (hl.2 c hc) e
  · exact dig_nz c (hl.2 c hc) e
theorem loopT_good : ∀ (q : List (List UInt8)) (s r : List UInt8) (x : List UInt8 × List UInt8), loopT q s r = some x → (s.length ≤ 4 ∧ (0 : UInt8) ∉ s) → (r.length ≤ 3 ∧ (0 : UInt8) ∉ r) → (x.1.length ≤ 4 ∧ (0 : UInt8) ∉ x.1) ∧ (x.2.length ≤ 3 ∧ (0 : UInt8) ∉ x.2)
  | [], s, r, x, h, hs, hr => by
    obtain rfl := Option.some.inj h
    exact ⟨hs, hr⟩
  | p :: q, s, r, x, h, hs, hr => by
    unfold loopT at h
    split at h
    · rename_i hh; exact loopT_good q _ r x h (titleR_good hh.1) hr
    · split at h
      · rename_i hh; exact loopT_good q s _ x h hs (region_good hh.1)
      · cases h
theorem refTag_good {s : List UInt8} {x : Tag3} (h : refTag s = some x) : GoodT x := by
  unfold refTag at h
  split at h
  · obtain rfl := Option.some.inj h
    exact ⟨⟨Nat.zero_le _, by simp⟩, ⟨Nat.zero_le _, by simp⟩, ⟨Nat.zero_le _, by simp⟩⟩
  · cases hq : splitOn 45 s with
    | nil => rw [hq] at h; cases h
    | cons p q =>
      rw [hq] at h
      have h : (if langB p = true then (loopT q [] []).map (fun x => (p.map toLow, x)) else none) = some x := h
      split at h
      · rename_i hp
        cases hx : loopT q [] [] with
        | none => rw [hx] at h; cases h
        | some y =>
          simp only [hx, Option.map_some, Option.some.injEq] at h
          subst h
          have hl : (2 ≤ p.length ∧ p.length ≤ 3) ∧ ∀ c ∈ p, letB c = true := by simpa [langB] using hp
          have := loopT_good q [] [] y hx ⟨Nat.zero_le _, by simp⟩ ⟨Nat.zero_le _, by simp⟩
          refine ⟨⟨by simp; omega, fun hm => ?_⟩, this⟩
          obtain ⟨c, hc, e⟩ := List.mem_map.1 hm
          exact low_nz c (hl.2 c hc) e
      · cases h
theorem takeWhile_zero : ∀ l : List UInt8, l.takeWhile (· == 0) = zeros (l.takeWhile (· == 0)).length
  | [] => rfl
  | c :: l => by
    rw [List.takeWhile_cons]
    split
    · rename_i h
      have : c = 0 := by simpa using h
      rw [this, List.length_cons]
      show 0 :: _ = 0 :: zeros _
      rw [← takeWhile_zero l]
    · rfl
theorem zeros_rev (n : Nat) : (zeros n).reverse = zeros n := by simp [zeros]
theorem partT_pad {n : Nat} {l : List UInt8} (h : l.length = n) : padTo n (partT l) = l := by
  have h1 : l = partT l ++ zeros (l.reverse.takeWhile (· == 0)).length := by
    have h2 := List.takeWhile_append_dropWhile (p := fun x : UInt8 => x == 0) (l := l.reverse)
    have h3 := congrArg List.reverse h2
    rw [List.reverse_append, List.reverse_reverse, takeWhile_zero l.reverse, zeros_rev] at h3
    exact h3.symm
  have h4 := congrArg List.length h1
  rw [List.length_append] at h4
  have h5 : (zeros (l.reverse.takeWhile (· == 0)).length).length = (l.reverse.takeWhile (· == 0)).length := by simp [zeros]
  unfold padTo
  rw [show n - (partT l).length = (l.reverse.takeWhile (· == 0)).length by omega]
  exact h1.symm
theorem dropWhile_zeros (n : Nat) (l : List UInt8) : (zeros n ++ l).dropWhile (· == 0) = l.dropWhile (· == 0) := by
  induction n with
  | zero => rfl
  | succ n ih =>
    show (0 :: (zeros n ++ l)).dropWhile (· == 0) = _
    rw [List.dropWhile_cons_of_pos (by rfl)]
    exact ih
theorem pad_partT {n : Nat} {x : List UInt8} (h : (0 : UInt8) ∉ x) : partT (padTo n x) = x := by
  unfold partT Lib.trimRightB padTo
  rw [List.reverse_append, zeros_rev, dropWhile_zeros]
  have h1 : x.reverse.dropWhile (· == 0) = x.reverse := by
    cases hx : x.reverse with
    | nil => rfl
    | cons c r =>
      rw [List.dropWhile_cons_of_neg]
      have hc : c ∈ x := by rw [← List.mem_reverse, hx]; exact List.mem_cons_self
      intro he
      have : c = 0 := by simpa using he
      exact h (this ▸ hc)
  rw [h1, List.reverse_reverse]
/-- the parts of ten bytes -/
def splitT (b : List UInt8) : Tag3 := (partT (b.take 3), partT ((b.drop 3).take 4), partT (b.drop 7))
def refText (x : Tag3) : List UInt8 := if x.1 = [] then rootL else x.1 ++ dashed x.2.1 ++ dashed x.2.2
def refOf (b : List UInt8) : Tag3 × Bool :=
  if (splitT b).1 = [] then (([], [], []), decide (splitT b = ([], [], []))) else if refTag (refText (splitT b)) = some (splitT b) then (splitT b, true) else (([], [], []), false)
theorem pad_split {b : List UInt8} (hb : b.length = 10) : pad3 (splitT b) = b := by
  unfold pad3 splitT
  simp only
  rw [partT_pad (by simp; omega), partT_pad (by simp; omega), partT_pad (by simp; omega), List.append_assoc]
  have e : (b.drop 3).take 4 ++ b.drop 7 = b.drop 3 := by
    rw [show b.drop 7 = (b.drop 3).drop 4 by rw [List.drop_drop], List.take_append_drop]
  rw [e, List.take_append_drop]
theorem split_pad {x : Tag3} (h : GoodT x) : splitT (pad3 x) = x := by
  obtain ⟨⟨h1, h2⟩, ⟨h3, h4⟩, ⟨h5, h6⟩⟩ := h
  have l1 : (padTo 3 x.1).length = 3 := padTo_len h1
  have l2 : (padTo 4 x.2.1).length = 4 := padTo_len h3
  have l3 : (padTo 3 x.2.2).length = 3 := padTo_len h5
  have e1 : (pad3 x).take 3 = padTo 3 x.1 := by
    unfold pad3; rw [List.append_assoc]; exact List.take_left' l1
  have e2 : (pad3 x).drop 3 = padTo 4 x.2.1 ++ padTo 3 x.2.2 := by
    unfold pad3
    rw [List.append_assoc, List.drop_append_of_le_length (by omega), List.drop_of_length_le (by omega)]; rfl
  have e3 : (pad3 x).drop 7 = padTo 3 x.2.2 := by
    rw [show (pad3 x).drop 7 = ((pad3 x).drop 3).drop 4 by rw [List.drop_drop], e2, List.drop_append_of_le_length (by omega), List.drop_of_length_le (by omega)]; rfl
  unfold splitT
  rw [e1, e2, e3, List.take_left' l2, pad_partT h2, pad_partT h4, pad_partT h6]
theorem splitOn_dash (l : List UInt8) : splitOn 45 (45 :: l) = [] :: splitOn 45 l := by
  show (if (45 : UInt8) = 45 then _ else _) = _
  rw [if_pos rfl]
theorem refOf_right {b : List UInt8} (hb : b.length = 10) : (refOf b).2 = tagRight b := by
  unfold refOf
  by_cases h0 : (splitT b).1 = []
  · rw [if_pos h0]
    by_cases hz : splitT b = ([], [], [])
    · have hb0 : b = zeros 10 := by rw [← pad_split hb, hz]; rfl
      rw [hz, hb0]; decide
    · have hbz : b ≠ zeros 10 := fun e => hz (by rw [e]; decide)
      rw [decide_eq_false hz]
      symm
      unfold tagRight
      have ht : tagPlain b = dashed (splitT b).2.1 ++ dashed (splitT b).2.2 := by
        unfold tagPlain
        rw [if_neg hbz]
        show (splitT b).1 ++ _ ++ _ = _
        rw [h0]; rfl
      have hd : ∃ l, tagPlain b = 45 :: l := by
        rw [ht]
        by_cases h1 : (splitT b).2.1 = []
        · by_cases h2 : (splitT b).2.2 = []
          · exact absurd (Prod.ext h0 (Prod.ext h1 h2)) hz
          · rw [h1]; unfold dashed; rw [if_pos rfl, if_neg h2]; exact ⟨_, rfl⟩
        · unfold dashed; rw [if_neg h1]; exact ⟨_, rfl⟩
      obtain ⟨l, hl⟩ := hd
      have : tagOpt (tagPlain b) = none := by
        rw [hl]
        unfold tagOpt
        rw [if_neg (by intro e; have := congrArg (fun z : List UInt8 => byt z 0) e; exact absurd this (by show ¬ (45 : UInt8) = 114; decide)), splitOn_dash]
        show (if langB [] = true ∧ rgRest (scRest (splitOn 45 l)) = [] then some (padTo 3 (([] : List UInt8).map toLow) ++ scOf (splitOn 45 l) ++ rgOf (scRest (splitOn 45 l))) else none) = none
        rw [if_neg (fun hh => absurd hh.1 (by decide))]
      rw [this]; rfl
  · rw [if_neg h0]
    have hbz : b ≠ zeros 10 := fun e => h0 (by rw [e]; decide)
    have ht : tagPlain b = refText (splitT b) := by
      unfold tagPlain refText
      rw [if_neg hbz, if_neg h0]; rfl
    unfold tagRight
    rw [ht, tagOpt_ref]
    by_cases hr : refTag (refText (splitT b)) = some (splitT b)
    · rw [if_pos hr, hr, Option.map_some, pad_split hb]; simp
    · rw [if_neg hr]
      symm
      cases hx : refTag (refText (splitT b)) with
      | none => rfl
      | some x =>
        rw [Option.map_some]
        rw [beq_eq_false_iff_ne]
        intro he
        have : pad3 x = b := Option.some.inj he
        exact hr (by rw [hx, ← this, split_pad (refTag_good hx)])
theorem refOf_lang {b : List UInt8} (hb : b.length = 10) (h : (refOf b).2 = true) : (refOf b).1.1 = [] ↔ b = zeros 10 := by
  unfold refOf at h ⊢
  by_cases h0 : (splitT b).1 = []
  · rw [if_pos h0] at h ⊢
    simp only [true_iff]
    have hz : splitT b = ([], [], []) := of_decide_eq_true h
    rw [← pad_split hb, hz]; rfl
  · rw [if_neg h0] at h ⊢
    have hbz : b ≠ zeros 10 := fun e => h0 (by rw [e]; decide)
    by_cases hr : refTag (refText (splitT b)) = some (splitT b)
    · rw [if_pos hr]; exact ⟨fun e => absurd e h0, fun e => absurd e hbz⟩
    · rw [if_neg hr] at h; cases h
end Go.Proofs.YtpdohgadcepipaaDoor

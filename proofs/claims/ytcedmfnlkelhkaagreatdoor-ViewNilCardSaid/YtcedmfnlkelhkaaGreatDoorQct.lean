/- Layer 5 in plain Lean: which tags are right; a tag's parents; its chain. -/
import Derived.Test.YtcedmfnlkelhkaaGreatDoorQay
import Derived.Test.YtcedmfnlkelhkaaGreatDoorQam
namespace Go.Proofs.YtcedmfnlkelhkaaGreatDoor

/-- parts as they are told -/
structure CanT (x : Tag3) : Prop where
 lang : langB x.1 = true ∧ x.1.map toLow = x.1
 script : x.2.1 = [] ∨ (scriptB x.2.1 = true ∧ titleR x.2.1 = x.2.1)
 region : x.2.2 = [] ∨ (regionB x.2.2 = true ∧ x.2.2.map toUpp = x.2.2)
theorem spl_one {c : UInt8} : ∀ {x : List UInt8}, c ∉ x → splitOn c x = [x]
 | [], _ => rfl
 | b :: x, h => by
  unfold splitOn
  rw [if_neg (fun e => h (by rw [e]; exact List.mem_cons_self)), spl_one (fun hm => h (List.mem_cons_of_mem _ hm))]
theorem spl_app {c : UInt8} : ∀ {x l : List UInt8}, c ∉ x → splitOn c (x ++ c :: l) = x :: splitOn c l
 | [], l, _ => by
  show (if c = c then _ else _) = _
  rw [if_pos rfl]
 | b :: x, l, h => by
  show (if b = c then [] :: splitOn c (x ++ c :: l) else match splitOn c (x ++ c :: l) with | p :: r => (b :: p) :: r | [] => [[b]]) = _
  rw [if_neg (fun e => h (by rw [e]; exact List.mem_cons_self)), spl_app (fun hm => h (List.mem_cons_of_mem _ hm))]
theorem let_45 : ∀ c : UInt8, letB c = true → c ≠ 45 := byte256 (by decide +kernel)
theorem dig_45 : ∀ c : UInt8, digB c = true → c ≠ 45 := byte256 (by decide +kernel)
theorem low_let : ∀ c : UInt8, letB c = true → letB (toLow c) = true := byte256 (by decide +kernel)
theorem upp_let : ∀ c : UInt8, letB c = true → letB (toUpp c) = true := byte256 (by decide +kernel)
theorem upp_dig : ∀ c : UInt8, digB c = true → digB (toUpp c) = true := byte256 (by decide +kernel)
theorem low_low : ∀ c : UInt8, toLow (toLow c) = toLow c := byte256 (by decide +kernel)
theorem upp_upp : ∀ c : UInt8, toUpp (toUpp c) = toUpp c := byte256 (by decide +kernel)
theorem lang_45 {p : List UInt8} (h : langB p = true) : (45 : UInt8) ∉ p := by
 have hl : (2 ≤ p.length ∧ p.length ≤ 3) ∧ ∀ c ∈ p, letB c = true := by simpa [langB] using h
 exact fun hm => let_45 _ (hl.2 _ hm) rfl
theorem script_45 {p : List UInt8} (h : scriptB p = true) : (45 : UInt8) ∉ p := by
 have hl : p.length = 4 ∧ ∀ c ∈ p, letB c = true := by simpa [scriptB] using h
 exact fun hm => let_45 _ (hl.2 _ hm) rfl
theorem region_45 {p : List UInt8} (h : regionB p = true) : (45 : UInt8) ∉ p := by
 have hl : (p.length = 2 ∧ ∀ c ∈ p, letB c = true) ∨ (p.length = 3 ∧ ∀ c ∈ p, digB c = true) := by simpa [regionB] using h
 intro hm
 rcases hl with hl | hl
 ·exact let_45 _ (hl.2 _ hm) rfl
 ·exact dig_45 _ (hl.2 _ hm) rfl
theorem region_script {p : List UInt8} (h : regionB p = true) : scriptB p = false := by
 have hl : (p.length = 2 ∧ ∀ c ∈ p, letB c = true) ∨ (p.length = 3 ∧ ∀ c ∈ p, digB c = true) := by simpa [regionB] using h
 unfold scriptB
 rw [decide_eq_false (by omega)]; rfl
theorem canT_split {x : Tag3} (h : CanT x) : splitOn 45 (refText x) = x.1 :: ((if x.2.1 = [] then [] else [x.2.1]) ++ (if x.2.2 = [] then [] else [x.2.2])) := by
 obtain ⟨l, s, r⟩ := x
 obtain ⟨⟨h1, -⟩, h2, h3⟩ := h
 simp only at h1 h2 h3 ⊢
 have hl := lang_45 h1
 have hne : l ≠ [] := fun e => by subst e; simp [langB] at h1
 unfold refText
 rw [if_neg hne]
 unfold dashed
 by_cases hs : s = []
 ·by_cases hr : r = []
  ·rw [if_pos hs, if_pos hr, if_pos hs, if_pos hr, List.append_nil, List.append_nil, spl_one hl]; rfl
  ·rw [if_pos hs, if_neg hr, if_pos hs, if_neg hr, List.append_nil, spl_app hl, spl_one (region_45 (h3.resolve_left hr).1)]; rfl
 ·have h45 := script_45 (h2.resolve_left hs).1
  by_cases hr : r = []
  ·rw [if_neg hs, if_pos hr, if_neg hs, if_pos hr, List.append_nil, spl_app hl, spl_one h45]; rfl
  ·rw [if_neg hs, if_neg hr, if_neg hs, if_neg hr, List.append_assoc, List.cons_append, spl_app hl, spl_app h45, spl_one (region_45 (h3.resolve_left hr).1)]; rfl
theorem canT_text {x : Tag3} (h : CanT x) : refTag (refText x) = some x := by
 have hsp := canT_split h
 have hroot : refText x ≠ rootL := by
  intro e
  rw [e] at hsp
  have e2 : splitOn 45 rootL = [rootL] := by decide
  rw [e2] at hsp
  have e3 : rootL = x.1 := (List.cons.inj hsp).1
  have := h.lang.1
  rw [← e3] at this
  exact absurd this (by decide)
 unfold refTag
 rw [if_neg hroot, hsp]
 show (if langB x.1 = true then (loopT _ [] []).map (fun y => (x.1.map toLow, y)) else none) = some x
 rw [if_pos h.lang.1, h.lang.2]
 have hloop : loopT ((if x.2.1 = [] then [] else [x.2.1]) ++ (if x.2.2 = [] then [] else [x.2.2])) [] [] = some x.2 := by
  obtain ⟨l, s, r⟩ := x
  obtain ⟨-, h2, h3⟩ := h
  simp only at h2 h3 ⊢
  by_cases hs : s = []
  ·by_cases hr : r = []
   ·subst hs hr; rfl
   ·obtain ⟨k1, k2⟩ := h3.resolve_left hr
    rw [if_pos hs, if_neg hr]
    show loopT [r] [] [] = _
    unfold loopT
    rw [if_neg (fun hh => by have := region_script k1; rw [hh.1] at this; cases this), if_pos ⟨k1, rfl⟩, k2, hs]
    rfl
  ·obtain ⟨j1, j2⟩ := h2.resolve_left hs
   by_cases hr : r = []
   ·rw [if_neg hs, if_pos hr]
    show loopT [s] [] [] = _
    unfold loopT
    rw [if_pos ⟨j1, rfl, rfl⟩, j2, hr]
    rfl
   ·obtain ⟨k1, k2⟩ := h3.resolve_left hr
    rw [if_neg hs, if_neg hr]
    show loopT [s, r] [] [] = _
    unfold loopT
    rw [if_pos ⟨j1, rfl, rfl⟩, j2]
    unfold loopT
    rw [if_neg (fun hh => hs hh.2.1), if_pos ⟨k1, rfl⟩, k2]
    rfl
 rw [hloop]
 rfl
theorem title_can {p : List UInt8} (h : scriptB p = true) : scriptB (titleR p) = true ∧ titleR (titleR p) = titleR p := by
 have hl : p.length = 4 ∧ ∀ c ∈ p, letB c = true := by simpa [scriptB] using h
 cases p with
 | nil => simp at hl
 | cons c q =>
  have e : titleR (c :: q) = toUpp c :: q.map toLow := rfl
  rw [e]
  constructor
  ·have h1 : ∀ d ∈ toUpp c :: q.map toLow, letB d = true := by
    intro d hd
    rcases List.mem_cons.1 hd with rfl | hd
    ·exact upp_let _ (hl.2 c List.mem_cons_self)
    ·obtain ⟨g, hg, rfl⟩ := List.mem_map.1 hd
     exact low_let _ (hl.2 g (List.mem_cons_of_mem _ hg))
   unfold scriptB
   rw [decide_eq_true (by simpa using hl.1), List.all_eq_true.2 h1]; rfl
  ·show toUpp (toUpp c) :: (q.map toLow).map toLow = _
   rw [upp_upp, List.map_map]
   congr 1
   exact List.map_congr_left (fun d _ => low_low d)
theorem region_can {p : List UInt8} (h : regionB p = true) : regionB (p.map toUpp) = true ∧ (p.map toUpp).map toUpp = p.map toUpp := by
 have hl : (p.length = 2 ∧ ∀ c ∈ p, letB c = true) ∨ (p.length = 3 ∧ ∀ c ∈ p, digB c = true) := by simpa [regionB] using h
 constructor
 ·rcases hl with hl | hl
  ·have h1 : ∀ d ∈ p.map toUpp, letB d = true := by
    intro d hd
    obtain ⟨g, hg, rfl⟩ := List.mem_map.1 hd
    exact upp_let _ (hl.2 g hg)
   unfold regionB
   rw [decide_eq_true (by simpa using hl.1), List.all_eq_true.2 h1]; rfl
  ·have h1 : ∀ d ∈ p.map toUpp, digB d = true := by
    intro d hd
    obtain ⟨g, hg, rfl⟩ := List.mem_map.1 hd
    exact upp_dig _ (hl.2 g hg)
   unfold regionB
   rw [decide_eq_true (by simpa using hl.1 : (p.map toUpp).length = 3), List.all_eq_true.2 h1]; simp
 ·rw [List.map_map]
  exact List.map_congr_left (fun d _ => upp_upp d)
theorem loopT_can : ∀ (q : List (List UInt8)) (s r : List UInt8) (x : List UInt8 × List UInt8), loopT q s r = some x → (s = [] ∨ (scriptB s = true ∧ titleR s = s)) → (r = [] ∨ (regionB r = true ∧ r.map toUpp = r)) → (x.1 = [] ∨ (scriptB x.1 = true ∧ titleR x.1 = x.1)) ∧ (x.2 = [] ∨ (regionB x.2 = true ∧ x.2.map toUpp = x.2))
 | [], s, r, x, h, hs, hr => by
  obtain rfl := Option.some.inj h
  exact ⟨hs, hr⟩
 | p :: q, s, r, x, h, hs, hr => by
  unfold loopT at h
  split at h
  ·rename_i hh; exact loopT_can q _ r x h (.inr (title_can hh.1)) hr
  ·split at h
   ·rename_i hh; exact loopT_can q s _ x h hs (.inr (region_can hh.1))
   ·cases h
theorem canT_of {s : List UInt8} {x : Tag3} (h : refTag s = some x) : x = ([], [], []) ∨ CanT x := by
 unfold refTag at h
 split at h
 ·exact .inl (Option.some.inj h).symm
 ·cases hq : splitOn 45 s with
  | nil => rw [hq] at h; cases h
  | cons p q =>
   rw [hq] at h
   have h : (if langB p = true then (loopT q [] []).map (fun x => (p.map toLow, x)) else none) = some x := h
   split at h
   ·rename_i hp
    cases hx : loopT q [] [] with
    | none => rw [hx] at h; cases h
    | some y =>
     simp only [hx, Option.map_some, Option.some.injEq] at h
     subst h
     have hl : (2 ≤ p.length ∧ p.length ≤ 3) ∧ ∀ c ∈ p, letB c = true := by simpa [langB] using hp
     have := loopT_can q [] [] y hx (.inl rfl) (.inl rfl)
     refine .inr ⟨⟨?_, ?_⟩, this.1, this.2⟩
     ·have h1 : ∀ d ∈ p.map toLow, letB d = true := by
       intro d hd
       obtain ⟨g, hg, rfl⟩ := List.mem_map.1 hd
       exact low_let _ (hl.2 g hg)
      unfold langB
      rw [List.all_eq_true.2 h1, List.length_map, decide_eq_true hl.1.1, decide_eq_true hl.1.2]; rfl
     ·show (p.map toLow).map toLow = _
      rw [List.map_map]
      exact List.map_congr_left (fun d _ => low_low d)
   ·cases h
theorem right_can {b : List UInt8} (hb : b.length = 10) : tagRight b = true ↔ b = zeros 10 ∨ CanT (splitT b) := by
 rw [← refOf_right hb]
 unfold refOf
 by_cases h0 : (splitT b).1 = []
 ·rw [if_pos h0]
  constructor
  ·intro h
   have hz : splitT b = ([], [], []) := of_decide_eq_true h
   exact .inl (by rw [← pad_split hb, hz]; rfl)
  ·rintro (h | h)
   ·rw [h]; decide
   ·have := h.lang.1
    rw [h0] at this
    exact absurd this (by decide)
 ·rw [if_neg h0]
  constructor
  ·intro h
   by_cases hr : refTag (refText (splitT b)) = some (splitT b)
   ·rcases canT_of hr with e | e
    ·exact absurd (congrArg (·.1) e) h0
    ·exact .inr e
   ·rw [if_neg hr] at h; cases h
  ·rintro (h | h)
   ·rw [h] at h0; exact absurd (by decide) h0
   ·rw [if_pos (canT_text h)]
/-- a tag's parent -/
def parT (t : List UInt8) : List UInt8 := if t.drop 7 ≠ zeros 3 then t.take 7 ++ zeros 3 else if (t.drop 3).take 4 ≠ zeros 4 then t.take 3 ++ (zeros 4 ++ t.drop 7) else zeros 10
theorem parT_len {t : List UInt8} (h : t.length = 10) : (parT t).length = 10 := by
 unfold parT
 split
 ·simp [zeros]; omega
 ·split
  ·simp [zeros]; omega
  ·rfl
theorem part_zeros (n : Nat) : partT (zeros n) = [] := by
 unfold partT Lib.trimRightB
 rw [zeros_rev, show zeros n = zeros n ++ [] by simp, dropWhile_zeros]
 rfl
theorem parT_right {t : List UInt8} (ht : t.length = 10) (h : tagRight t = true) : tagRight (parT t) = true := by
 rw [right_can ht] at h
 rw [right_can (parT_len ht)]
 rcases h with h | h
 ·left
  subst h
  decide
 ·unfold parT
  split
  ·right
   have e1 : (t.take 7 ++ zeros 3).take 3 = t.take 3 := by rw [List.take_append_of_le_length (by simp; omega), List.take_take]; rfl
   have e2 : ((t.take 7 ++ zeros 3).drop 3).take 4 = (t.drop 3).take 4 := by
    rw [List.drop_append_of_le_length (by simp; omega), List.take_append_of_le_length (by simp; omega), List.drop_take, List.take_take]; rfl
   have e3 : (t.take 7 ++ zeros 3).drop 7 = zeros 3 := by
    rw [List.drop_append_of_le_length (by simp; omega), List.drop_of_length_le (by simp; omega)]; rfl
   unfold splitT
   rw [e1, e2, e3, part_zeros]
   exact ⟨h.lang, h.script, .inl rfl⟩
  ·rename_i hr
   have hr : t.drop 7 = zeros 3 := Classical.not_not.1 hr
   split
   ·right
    have e1 : (t.take 3 ++ (zeros 4 ++ t.drop 7)).take 3 = t.take 3 := by rw [List.take_append_of_le_length (by simp; omega), List.take_take]; rfl
    have e2 : (t.take 3 ++ (zeros 4 ++ t.drop 7)).drop 3 = zeros 4 ++ t.drop 7 := by
     rw [List.drop_append_of_le_length (by simp; omega), List.drop_of_length_le (by simp; omega)]; rfl
    have e3 : (t.take 3 ++ (zeros 4 ++ t.drop 7)).drop 7 = t.drop 7 := by
     rw [show (t.take 3 ++ (zeros 4 ++ t.drop 7)).drop 7 = ((t.take 3 ++ (zeros 4 ++ t.drop 7)).drop 3).drop 4 by rw [List.drop_drop], e2]; rfl
    unfold splitT
    rw [e1, e2, e3, hr, part_zeros, show (zeros 4 ++ zeros 3).take 4 = zeros 4 by rfl, part_zeros]
    exact ⟨h.lang, .inl rfl, .inl rfl⟩
   ·exact .inl rfl
/-- how far it is to root -/
def rankT (t : List UInt8) : Nat := if t = zeros 10 then 0 else 1 + (if t.drop 7 = zeros 3 then 0 else 1) + (if (t.drop 3).take 4 = zeros 4 then 0 else 1)
theorem rankT_lt {t : List UInt8} (ht : t.length = 10) (hz : t ≠ zeros 10) : rankT (parT t) < rankT t := by
 unfold parT
 split
 ·rename_i hr
  have e2 : ((t.take 7 ++ zeros 3).drop 3).take 4 = (t.drop 3).take 4 := by
   rw [List.drop_append_of_le_length (by simp; omega), List.take_append_of_le_length (by simp; omega), List.drop_take, List.take_take]; rfl
  have e3 : (t.take 7 ++ zeros 3).drop 7 = zeros 3 := by
   rw [List.drop_append_of_le_length (by simp; omega), List.drop_of_length_le (by simp; omega)]; rfl
  unfold rankT
  rw [if_neg hz, if_neg hr, e2, e3, if_pos rfl]
  split
  ·omega
  ·omega
 ·rename_i hr
  have hr : t.drop 7 = zeros 3 := Classical.not_not.1 hr
  split
  ·rename_i hs
   have e2 : (t.take 3 ++ (zeros 4 ++ t.drop 7)).drop 3 = zeros 4 ++ t.drop 7 := by
    rw [List.drop_append_of_le_length (by simp; omega), List.drop_of_length_le (by simp; omega)]; rfl
   have e3 : (t.take 3 ++ (zeros 4 ++ t.drop 7)).drop 7 = t.drop 7 := by
    rw [show (t.take 3 ++ (zeros 4 ++ t.drop 7)).drop 7 = ((t.take 3 ++ (zeros 4 ++ t.drop 7)).drop 3).drop 4 by rw [List.drop_drop], e2]; rfl
   unfold rankT
   rw [if_neg hz, if_neg hs, e2, e3, hr, if_pos rfl, show (zeros 4 ++ zeros 3).take 4 = zeros 4 by rfl, if_pos rfl]
   split <;> omega
  ·unfold rankT
   rw [if_pos rfl, if_neg hz]
   omega
theorem rankT_le (t : List UInt8) : rankT t ≤ 3 := by
 unfold rankT
 split
 ·omega
 ·split <;> split <;> omega
def upT : Nat → List UInt8 → List (List UInt8)
 | 0, _ => []
 | n + 1, t => t :: if t = zeros 10 then [] else upT n (parT t)
theorem upT_fuel : ∀ (n m : Nat) (t : List UInt8), t.length = 10 → rankT t < n → rankT t < m → upT n t = upT m t
 | 0, _, _, _, h, _ => absurd h (Nat.not_lt_zero _)
 | _ + 1, 0, _, _, _, h => absurd h (Nat.not_lt_zero _)
 | n + 1, m + 1, t, ht, h1, h2 => by
  unfold upT
  by_cases hz : t = zeros 10
  ·rw [if_pos hz, if_pos hz]
  ·have := rankT_lt ht hz
   rw [if_neg hz, if_neg hz, upT_fuel n m _ (parT_len ht) (by omega) (by omega)]
/-- a right tag's chain: itself, and up to root -/
def chainT (t : List UInt8) : List (List UInt8) := upT 4 t
theorem chainT_eq {t : List UInt8} (ht : t.length = 10) : chainT t = t :: if t = zeros 10 then [] else chainT (parT t) := by
 unfold chainT
 show upT (3 + 1) t = _
 rw [upT]
 by_cases hz : t = zeros 10
 ·rw [if_pos hz, if_pos hz]
 ·have h1 := rankT_lt ht hz
  have h2 := rankT_le t
  rw [if_neg hz, if_neg hz, upT_fuel 3 4 _ (parT_len ht) (by omega) (by omega)]
theorem chainT_len (t : List UInt8) (ht : t.length = 10) : ∀ u ∈ chainT t, u.length = 10 := by
 unfold chainT
 generalize 4 = n
 induction n generalizing t with
 | zero => intro u hu; cases hu
 | succ n ih =>
  intro u hu
  unfold upT at hu
  rcases List.mem_cons.1 hu with rfl | hu
  ·exact ht
  ·split at hu
   ·cases hu
   ·exact ih _ (parT_len ht) u hu
theorem upT_root : ∀ (n : Nat) (t : List UInt8), t.length = 10 → rankT t < n → zeros 10 ∈ upT n t
 | 0, _, _, h => absurd h (Nat.not_lt_zero _)
 | n + 1, t, ht, h => by
  unfold upT
  by_cases hz : t = zeros 10
  ·rw [if_pos hz, hz]; exact List.mem_cons_self
  ·have := rankT_lt ht hz
   rw [if_neg hz]
   exact List.mem_cons_of_mem _ (upT_root n _ (parT_len ht) (by omega))
theorem chainT_root {t : List UInt8} (ht : t.length = 10) : zeros 10 ∈ chainT t := upT_root 4 t ht (by have := rankT_le t; omega)
theorem upT_count : ∀ (n : Nat) (t : List UInt8), (upT n t).length ≤ n
 | 0, _ => Nat.le_refl _
 | n + 1, t => by
  unfold upT
  split
  ·simp
  ·have := upT_count n (parT t)
   simp; omega
end Go.Proofs.YtcedmfnlkelhkaaGreatDoor
namespace Go.Proofs.YtcedmfnlkelhkaaGreatDoor
open Go.RowKit

/-- a translation that is there has a state; the keys are right -/
def GoodF (f : K25 → List Ver) : Prop := (∀ k, ∀ v ∈ f k, v.dead = false → byt k.val 0 = 6 → v.r.state ≠ 0) ∧ ∀ k, f k ≠ [] → keyRight k.val = true
theorem GoodF.nil : GoodF (fun _ => []) := ⟨fun _ _ h => (by cases h), fun _ h => absurd rfl h⟩
theorem rightE_key {x : Wr} (h : rightE x = 0) : keyRight x.k.val = true := by
 unfold rightE at h
 split at h
 ·rename_i hk; exact hk
 ·omega
theorem good_wr {x : Wr} (h : rightE x = 0) (a : UInt64) (hd : (verOf a x).dead = false) (hk : byt x.k.val 0 = 6) : (verOf a x).r.state ≠ 0 := by
 have hd : x.dead = false := hd
 have hf : (verOf a x).r.state = x.r.state := by
  show (fixR a x).state = _
  unfold fixR
  split <;> rfl
 rw [hf]
 unfold rightE at h
 split at h
 ·rw [hd] at h
  rw [if_neg (by decide)] at h
  split at h
  ·rename_i hr
   split at h
   ·rename_i hkk
    rw [hk] at hkk
    have hkind : x.r.kind = 6 := UInt8.toNat_inj.1 hkk
    unfold recE at hr
    split at hr
    ·split at hr
     ·split at hr
      ·rename_i hw
       unfold withinB at hw
       rw [hkind] at hw
       simp only [show ((6 : UInt8) = 1) = False by decide, show ((6 : UInt8) = 2) = False by decide, show ((6 : UInt8) = 4) = False by decide, show ((6 : UInt8) = 5) = False by decide, if_false, if_true, Bool.and_eq_true, decide_eq_true_eq] at hw
       intro e
       rw [e] at hw
       exact absurd hw.1.1.1 (by decide)
      ·omega
     ·omega
    ·omega
   ·omega
  ·rename_i hr; exact absurd h hr
 ·omega
theorem GoodF.step {f : K25 → List Ver} (h : GoodF f) {x : Wr} (hx : rightE x = 0) (a : UInt64) : GoodF (applyF a f x) := by
 refine ⟨?_, fun k hk => ?_⟩
 ·intro k v hv hd hk
  unfold applyF at hv
  split at hv
  ·rename_i e
   rcases List.mem_append.1 hv with hv | hv
   ·exact h.1 k v hv hd hk
   ·obtain rfl := List.mem_singleton.1 hv
    exact good_wr hx a hd (by rw [← e]; exact hk)
  ·exact h.1 k v hv hd hk
 ·unfold applyF at hk
  split at hk
  ·rename_i e
   rw [e]; exact rightE_key hx
  ·exact h.2 k hk
theorem GoodF.apply (a : UInt64) : ∀ (l : List Wr) {f : K25 → List Ver}, GoodF f → (∀ x ∈ l, rightE x = 0) → GoodF (applyL a f l)
 | [], _, h, _ => h
 | x :: l, f, h, hl => by
  unfold applyL
  rw [List.foldl_cons]
  exact GoodF.apply a l (h.step (hl x List.mem_cons_self) a) (fun y hy => hl y (List.mem_cons_of_mem _ hy))
end Go.Proofs.YtcedmfnlkelhkaaGreatDoor

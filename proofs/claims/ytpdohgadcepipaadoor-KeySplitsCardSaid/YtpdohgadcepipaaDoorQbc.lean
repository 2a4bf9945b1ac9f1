/- Layer 6 in plain Lean: the key of right parts is right; texts of keys. -/
import Derived.Test.YtpdohgadcepipaaDoorQab
import Derived.Test.YtpdohgadcepipaaDoorQay
import Derived.Test.YtpdohgadcepipaaDoorQai
import Derived.Test.YtpdohgadcepipaaDoorQaj
import Derived.Handy
namespace Go.Proofs.YtpdohgadcepipaaDoor
set_option maxRecDepth 100000
open Go.RowKit

theorem byteOf_id {x : Int} (h0 : 0 ≤ x) (h : x < 256) : ((byteOf x).toNat : Int) = x := by
  unfold byteOf
  rw [UInt8.toNat_ofNat']
  omega
theorem keyErr_range {k p a : Int} {n t : List UInt8} (h : keyErr k p a n t = 0) : 1 ≤ k ∧ k ≤ 6 ∧ 0 ≤ p ∧ p < 4 ∧ (0 < usedAt k → 0 ≤ a ∧ a < usedAt k) := by
  unfold keyErr at h
  by_cases h1 : k < 1 ∨ 6 < k
  · rw [if_pos h1] at h; exact absurd h (by decide)
  rw [if_neg h1] at h
  by_cases h2 : p < 0 ∨ 4 ≤ p ∨ (0 < usedAt k ∧ (a < 0 ∨ usedAt k ≤ a))
  · rw [if_pos h2] at h; exact absurd h (by decide)
  omega
theorem usedAt_le (k : Int) : usedAt k ≤ 16 := by unfold usedAt; split; omega; split <;> omega
theorem keyErr_same {k p a a' : Int} {n t n' t' : List UInt8} (h1 : 0 < usedAt k → a' = a) (h2 : usedName k = true → n' = n) (h3 : usedTag k = true → t' = t) : keyErr k p a' n' t' = keyErr k p a n t := by
  unfold keyErr
  by_cases u1 : 0 < usedAt k
  · rw [h1 u1]
    by_cases u2 : usedName k = true
    · rw [h2 u2]
      by_cases u3 : usedTag k = true
      · rw [h3 u3]
      · simp [u3]
    · by_cases u3 : usedTag k = true
      · rw [h3 u3]; simp [u2]
      · simp [u2, u3]
  · by_cases u2 : usedName k = true
    · rw [h2 u2]
      by_cases u3 : usedTag k = true
      · rw [h3 u3]; simp [u1]
      · simp [u1, u3]
    · by_cases u3 : usedTag k = true
      · rw [h3 u3]; simp [u1, u2]
      · simp [u1, u2, u3]
theorem keyMade_same {k p a a' : Int} {n t n' t' : List UInt8} (h1 : 0 < usedAt k → a' = a) (h2 : usedName k = true → n' = n) (h3 : usedTag k = true → t' = t) : keyMade k p a' n' t' = keyMade k p a n t := by
  unfold keyMade
  by_cases u1 : 0 < usedAt k <;> by_cases u2 : usedName k = true <;> by_cases u3 : usedTag k = true <;> simp [u1, u2, u3] <;> simp_all
theorem made_parts (k p a : Int) (n t : List UInt8) (hn : n.length = 12) (_ht : t.length = 10) :
    kKind (keyMade k p a n t) = byteOf k ∧ kProj (keyMade k p a n t) = byteOf p ∧ kAt (keyMade k p a n t) = (if 0 < usedAt k then byteOf a else 0) ∧ kName (keyMade k p a n t) = (if usedName k = true then n else zeros 12) ∧ kTag (keyMade k p a n t) = (if usedTag k = true then t else zeros 10) := by
  have hn2 : (if usedName k = true then n else zeros 12).length = 12 := by split <;> simp [hn, zeros]
  unfold keyMade kKind kProj kAt kName kTag
  generalize (if usedName k = true then n else zeros 12) = N at *
  generalize (if usedTag k = true then t else zeros 10) = T at *
  refine ⟨rfl, rfl, rfl, ?_, ?_⟩
  · simp only [List.cons_append, List.nil_append, List.drop_succ_cons, List.drop_zero]
    rw [List.take_append, hn2, List.take_of_length_le (by omega)]; simp
  · simp only [List.cons_append, List.nil_append, List.drop_succ_cons]
    rw [List.drop_append, hn2, List.drop_of_length_le (by omega)]; simp
/-- the key of right parts is right -/
theorem made_right {k p a : Int} {n t : List UInt8} (hn : n.length = 12) (ht : t.length = 10) (h : keyErr k p a n t = 0) : keyRight (keyMade k p a n t) = true := by
  obtain ⟨k1, k6, p0, p4, ha⟩ := keyErr_range h
  obtain ⟨e1, e2, e3, e4, e5⟩ := made_parts k p a n t hn ht
  have hu := usedAt_le k
  unfold keyRight
  rw [e1, e2, e3, e4, e5, byteOf_id (by omega) (by omega), byteOf_id p0 (by omega)]
  have f1 : 0 < usedAt k → (((if 0 < usedAt k then byteOf a else 0 : UInt8).toNat : Nat) : Int) = a := fun u => by rw [if_pos u]; exact byteOf_id (ha u).1 (by have := (ha u).2; omega)
  have f2 : usedName k = true → (if usedName k = true then n else zeros 12) = n := fun u => if_pos u
  have f3 : usedTag k = true → (if usedTag k = true then t else zeros 10) = t := fun u => if_pos u
  unfold keyOf
  rw [keyErr_same f1 f2 f3, keyMade_same f1 f2 f3, h]
  simp
/-- the parts of a right key -/
theorem right_err {k : List UInt8} (h : keyRight k = true) : keyErr (kKind k).toNat (kProj k).toNat (kAt k).toNat (kName k) (kTag k) = 0 := by
  unfold keyRight at h
  rw [Bool.and_eq_true, decide_eq_true_eq] at h
  exact h.1
theorem right_made {k : List UInt8} (h : keyRight k = true) : keyMade (kKind k).toNat (kProj k).toNat (kAt k).toNat (kName k) (kTag k) = k := by
  have h0 := right_err h
  unfold keyRight at h
  rw [Bool.and_eq_true, decide_eq_true_eq, beq_iff_eq] at h
  have := h.2
  unfold keyOf at this
  rwa [if_pos h0] at this
/-- the text of a key -/
def lettersL : List UInt8 := [112, 103, 108, 98, 115, 116]
def keyParts (k : List UInt8) : List (List UInt8) :=
  [byt lettersL ((kKind k).toNat - 1)] :: Lib.decDigits (kProj k).toNat :: ((if 0 < usedAt (kKind k).toNat then [Lib.decDigits (kAt k).toNat] else []) ++ (if usedName (kKind k).toNat = true then [nameText (kName k)] else []) ++ (if usedTag (kKind k).toNat = true then [tagText (kTag k)] else []))
def keyText (k : List UInt8) : List UInt8 := if keyRight k = true then Lib.join (keyParts k) [47] else []
end Go.Proofs.YtpdohgadcepipaaDoor
namespace Go.Proofs.YtpdohgadcepipaaDoor
set_option maxRecDepth 100000
open Go.RowKit

theorem splitOn_ne (c : UInt8) (s : List UInt8) : splitOn c s ≠ [] := by
  cases s with
  | nil => simp [splitOn]
  | cons b l =>
    rw [splitOn]
    split
    · simp
    · split <;> simp
theorem splitOn_one {c : UInt8} : ∀ {x : List UInt8}, c ∉ x → splitOn c x = [x]
  | [], _ => by simp [splitOn]
  | b :: x, h => by
    simp only [List.mem_cons, not_or] at h
    rw [splitOn, if_neg (fun e => h.1 e.symm), splitOn_one h.2]
theorem splitOn_app {c : UInt8} : ∀ {x l : List UInt8}, c ∉ x → splitOn c (x ++ c :: l) = x :: splitOn c l
  | [], l, _ => by rw [List.nil_append, splitOn, if_pos rfl]
  | b :: x, l, h => by
    simp only [List.mem_cons, not_or] at h
    rw [List.cons_append, splitOn, if_neg (fun e => h.1 e.symm), splitOn_app h.2]
theorem join_two (x y : List UInt8) (r : List (List UInt8)) (c : UInt8) : Lib.join (x :: y :: r) [c] = x ++ c :: Lib.join (y :: r) [c] := by
  rw [Lib.join_cons, Lib.join_cons]; simp [Lib.joinTail]
theorem splitOn_join {c : UInt8} : ∀ {ps : List (List UInt8)}, ps ≠ [] → (∀ p ∈ ps, c ∉ p) → splitOn c (Lib.join ps [c]) = ps
  | [], h, _ => absurd rfl h
  | [x], _, h => by rw [Lib.join_one]; exact splitOn_one (h x (by simp))
  | x :: y :: r, _, h => by
    rw [join_two, splitOn_app (h x (by simp)), splitOn_join (by simp) (fun p hp => h p (List.mem_cons_of_mem _ hp))]
theorem mem_split {c b : UInt8} (hcb : b ≠ c) : ∀ {s : List UInt8}, b ∈ s → ∃ p ∈ splitOn c s, b ∈ p
  | [], h => by cases h
  | a :: l, h => by
    rw [splitOn]
    split
    · rename_i e
      rcases List.mem_cons.1 h with h | h
      · exact absurd (h.trans e) hcb
      · obtain ⟨p, hp, hb⟩ := mem_split hcb h
        exact ⟨p, List.mem_cons_of_mem _ hp, hb⟩
    · cases hs : splitOn c l with
      | nil => exact absurd hs (splitOn_ne c l)
      | cons q r =>
        simp only
        rcases List.mem_cons.1 h with h | h
        · exact ⟨a :: q, List.mem_cons_self, by rw [h]; exact List.mem_cons_self⟩
        · obtain ⟨p, hp, hb⟩ := mem_split hcb h
          rw [hs] at hp
          rcases List.mem_cons.1 hp with hp | hp
          · exact ⟨a :: q, List.mem_cons_self, List.mem_cons_of_mem _ (hp ▸ hb)⟩
          · exact ⟨p, List.mem_cons_of_mem _ hp, hb⟩
theorem all_not {f : UInt8 → Bool} {b : UInt8} (hb : f b = false) {p : List UInt8} (h : p.all f = true) : b ∉ p := fun hm => by
  have := List.all_eq_true.1 h b hm
  rw [hb] at this; cases this
theorem region_not {p : List UInt8} (h : regionB p = true) : (47 : UInt8) ∉ p := by
  unfold regionB at h
  simp only [Bool.or_eq_true, Bool.and_eq_true] at h
  rcases h with h | h
  · exact all_not (f := letB) (by decide) h.2
  · exact all_not (f := digB) (by decide) h.2
theorem rg_not {q : List (List UInt8)} (h : rgRest q = []) : ∀ p ∈ q, (47 : UInt8) ∉ p := by
  intro p hp
  cases q with
  | nil => cases hp
  | cons x r =>
    have h : (if regionB x = true then r else x :: r) = [] := h
    split at h
    · rename_i hx
      subst h
      rcases List.mem_cons.1 hp with hp | hp
      · rw [hp]; exact region_not hx
      · cases hp
    · cases h
theorem sc_not {q : List (List UInt8)} (h : rgRest (scRest q) = []) : ∀ p ∈ q, (47 : UInt8) ∉ p := by
  intro p hp
  cases q with
  | nil => cases hp
  | cons x r =>
    have h : rgRest (if scriptB x = true then r else x :: r) = [] := h
    split at h
    · rename_i hx
      rcases List.mem_cons.1 hp with hp | hp
      · rw [hp]
        unfold scriptB at hx
        simp only [Bool.and_eq_true] at hx
        exact all_not (f := letB) (by decide) hx.2
      · exact rg_not h p hp
    · exact rg_not h p hp
theorem tagOpt_not {s t : List UInt8} (h : tagOpt s = some t) : (47 : UInt8) ∉ s := by
  unfold tagOpt at h
  split at h
  · rename_i e; rw [e]; decide
  · intro hm
    obtain ⟨p, hp, hb⟩ := mem_split (c := 45) (by decide) hm
    cases hs : splitOn 45 s with
    | nil => exact splitOn_ne _ _ hs
    | cons q r =>
      rw [hs] at h hp
      have h : (if langB q = true ∧ rgRest (scRest r) = [] then some (padTo 3 (q.map toLow) ++ scOf r ++ rgOf (scRest r)) else none) = some t := h
      split at h
      · rename_i hc
        rcases List.mem_cons.1 hp with hp | hp
        · rw [hp] at hb
          have h1 := hc.1
          unfold langB at h1
          simp only [Bool.and_eq_true] at h1
          exact all_not (f := letB) (by decide) h1.2 hb
        · exact sc_not hc.2 p hp hb
      · cases h
theorem tagText_not (t : List UInt8) : (47 : UInt8) ∉ tagText t := by
  unfold tagText
  split
  · rename_i h
    unfold tagRight at h
    exact tagOpt_not (by simpa using h)
  · simp
theorem nameText_not (n : List UInt8) : (47 : UInt8) ∉ nameText n := by
  unfold nameText
  split
  · rename_i h
    unfold nameRight nameOk at h
    simp only [Bool.and_eq_true] at h
    exact all_not (f := signB) (by decide) h.1.2
  · simp
theorem dec_not : ∀ i < 16, (47 : UInt8) ∉ Lib.decDigits i := by decide +kernel
theorem letter_not : ∀ k < 6, (47 : UInt8) ≠ byt lettersL k := by decide +kernel
theorem nameParse_text {n : List UInt8} (h : nameRight n = true) : nameParse1 (nameText n) = n := by
  unfold nameText
  rw [if_pos h]
  unfold nameRight at h
  simp only [Bool.and_eq_true, beq_iff_eq] at h
  unfold nameParse1
  rw [if_pos h.1, h.2]
theorem tagParse_text {t : List UInt8} (h : tagRight t = true) : tagParse1 (tagText t) = t := by
  unfold tagText
  rw [if_pos h]
  unfold tagRight at h
  rw [beq_iff_eq] at h
  unfold tagParse1
  rw [h]; rfl

/-! what is read of a text -/
def kindL (p : List UInt8) : Int := if p.length = 1 then 1 + Lib.indexByte lettersL (byt p 0) else 0
structure KRead where
  kind : Int
  proj : Int
  at_ : Int
  name : List UInt8
  tag : List UInt8
def keyRead (num : List UInt8 → Int) (ps : List (List UInt8)) : KRead :=
  let kind := kindL (ps.headD [])
  let r1 := ps.tail.tail
  let r2 := if 0 < usedAt kind then r1.tail else r1
  let r3 := if usedName kind = true then r2.tail else r2
  ⟨kind, num (ps.tail.headD []), if 0 < usedAt kind then num (r1.headD []) else 0, if usedName kind = true then nameParse1 (r2.headD []) else zeros 12, if usedTag kind = true then tagParse1 (r3.headD []) else zeros 10⟩
def KRead.err (x : KRead) : Int := keyErr x.kind x.proj x.at_ x.name x.tag
def KRead.key (x : KRead) : List UInt8 := keyOf x.kind x.proj x.at_ x.name x.tag
def keyParse (num : List UInt8 → Int) (s : List UInt8) : Option (List UInt8) :=
  if (keyRead num (splitOn 47 s)).err = 0 ∧ keyText (keyRead num (splitOn 47 s)).key = s then some (keyRead num (splitOn 47 s)).key else none
theorem keyText_parts {k : List UInt8} (h : keyRight k = true) : splitOn 47 (keyText k) = keyParts k := by
  obtain ⟨k1, k6, p0, p4, ha⟩ := keyErr_range (right_err h)
  have hu := usedAt_le (kKind k).toNat
  unfold keyText
  rw [if_pos h]
  apply splitOn_join
  · simp [keyParts]
  · intro p hp
    unfold keyParts at hp
    simp only [List.mem_cons, List.mem_append, List.mem_ite_nil_right, List.not_mem_nil, or_false] at hp
    rcases hp with rfl | rfl | (⟨hc, rfl⟩ | ⟨_, rfl⟩) | ⟨_, rfl⟩
    · rw [List.mem_singleton]; exact letter_not _ (by omega)
    · exact dec_not _ (by omega)
    · exact dec_not _ (by have := ha hc; omega)
    · exact nameText_not _
    · exact tagText_not _
theorem kindL_letter : ∀ k < 6, kindL [byt lettersL k] = k + 1 := by decide +kernel
/-- a right key's text is read as that key -/
theorem parse_text {num : List UInt8 → Int} (hnum : ∀ i < 16, num (Lib.decDigits i) = i) {k : List UInt8} (_hk : k.length = 25) (h : keyRight k = true) : keyParse num (keyText k) = some k := by
  have h0 := right_err h
  have hm := right_made h
  obtain ⟨k1, k6, p0, p4, ha⟩ := keyErr_range h0
  have hu := usedAt_le (kKind k).toNat
  have hk1 : kindL [byt lettersL ((kKind k).toNat - 1)] = (kKind k).toNat := by rw [kindL_letter _ (by omega)]; omega
  have hx : ∃ a n t, (keyRead num (splitOn 47 (keyText k))) = ⟨(kKind k).toNat, (kProj k).toNat, a, n, t⟩ ∧ (0 < usedAt (kKind k).toNat → a = (kAt k).toNat) ∧ (usedName (kKind k).toNat = true → n = kName k) ∧ (usedTag (kKind k).toNat = true → t = kTag k) := by
    rw [keyText_parts h]
    unfold keyRead keyParts
    simp only [List.headD_cons, List.tail_cons, hk1]
    rw [hnum _ (by omega)]
    have hn : usedName (kKind k).toNat = true → nameRight (kName k) = true := fun u => by
      unfold keyErr at h0
      by_cases hr : nameRight (kName k) = true
      · exact hr
      · rw [if_neg (by omega), if_neg (by omega), if_pos ⟨u, by simpa using hr⟩] at h0; exact absurd h0 (by decide)
    have ht : usedTag (kKind k).toNat = true → tagRight (kTag k) = true := fun u => by
      unfold keyErr at h0
      by_cases hr : tagRight (kTag k) = true
      · exact hr
      · rw [if_neg (by omega), if_neg (by omega)] at h0
        split at h0
        · exact absurd h0 (by decide)
        · rw [if_pos ⟨u, .inl (by simpa using hr)⟩] at h0; exact absurd h0 (by decide)
    refine ⟨_, _, _, rfl, ?_, ?_, ?_⟩
    · intro u
      rw [if_pos u, if_pos u]
      simp only [List.cons_append, List.nil_append, List.headD_cons]
      exact hnum _ (by have := ha u; omega)
    · intro u
      rw [if_pos u, if_pos u]
      by_cases v : 0 < usedAt (kKind k).toNat
      · rw [if_pos v, if_pos v]
        simp only [List.cons_append, List.nil_append, List.tail_cons, List.headD_cons]
        exact nameParse_text (hn u)
      · rw [if_neg v, if_neg v]
        simp only [List.cons_append, List.nil_append, List.headD_cons]
        exact nameParse_text (hn u)
    · intro u
      rw [if_pos u, if_pos u]
      by_cases v : 0 < usedAt (kKind k).toNat
      · by_cases x : usedName (kKind k).toNat = true
        · simp only [if_pos v, if_pos x, List.cons_append, List.nil_append, List.tail_cons, List.headD_cons]
          exact tagParse_text (ht u)
        · simp only [if_pos v, if_neg x, List.cons_append, List.nil_append, List.tail_cons, List.headD_cons]
          exact tagParse_text (ht u)
      · by_cases x : usedName (kKind k).toNat = true
        · simp only [if_neg v, if_pos x, List.cons_append, List.nil_append, List.tail_cons, List.headD_cons]
          exact tagParse_text (ht u)
        · simp only [if_neg v, if_neg x, List.nil_append, List.headD_cons]
          exact tagParse_text (ht u)
  obtain ⟨a, n, t, e, h1, h2, h3⟩ := hx
  have he : (keyRead num (splitOn 47 (keyText k))).err = 0 := by rw [e]; show keyErr _ _ _ _ _ = 0; rw [keyErr_same h1 h2 h3]; exact h0
  have hkey : (keyRead num (splitOn 47 (keyText k))).key = k := by
    rw [e]
    show keyOf _ _ _ _ _ = k
    unfold keyOf
    rw [keyErr_same h1 h2 h3, keyMade_same h1 h2 h3, if_pos h0]
    exact hm
  unfold keyParse
  rw [he, hkey, if_pos ⟨rfl, rfl⟩]
/-- what is read has that text -/
theorem parse_some {num : List UInt8 → Int} {s k : List UInt8} (h : keyParse num s = some k) : keyText k = s := by
  unfold keyParse at h
  split at h
  · rename_i hc
    cases h; exact hc.2
  · cases h
end Go.Proofs.YtpdohgadcepipaaDoor
namespace Go.Proofs.YtpdohgadcepipaaDoor
set_option maxRecDepth 100000
open Go.RowKit

theorem nameText_gives (n : List UInt8) (hn : n.length = 12) (w : World) : Gives Tryd.prog 23 #[.agg (row8 n)] w (.string (bs (nameText n))) := by
  have HR := Lib.hid (nameRight_gives n hn)
  have HF := Lib.hid (front_gives n hn)
  unfold nameText
  cases hr : nameRight n
  · rw [hr] at HR
    unfold Gives
    go_enter Tryd.func23, Tryd.ntmps23
    go_wp2_with fail
    refine Gives.use (HR.out _) ?_
    intro xs d
    go_wp2_with fail
    go_ret
    exact ⟨rfl, (by repeat (first | exact below_of_grow _ _ | exact Below.refl _ _ | exact below_more _ _ _ _ | (simp only [← Array.append_assoc]; first | exact below_more _ _ _ _ | exact below_same _ _ _ | exact Below.refl _ _) | exact below_same _ _ _ | (refine Below.alloc ?_ (by first | (simp; done) | (simp; omega)) _) | (refine Below.grow ?_ (by first | (simp; done) | (simp; omega)) _ _) | refine Below.drew ?_ | refine Below.drewN ?_ _ | (refine Below.putF ?_ (by first | (simp; done) | omega | (simp; omega)) _) | (refine Below.setCell ?_ (by first | (simp; done) | (simp; omega)) _)))⟩
  · rw [hr] at HR
    unfold Gives
    go_enter Tryd.func23, Tryd.ntmps23
    go_wp2_with fail
    refine Gives.use (HR.out _) ?_
    intro xs d
    go_wp2_with fail
    refine Gives.use (HF.out _) ?_
    intro xs2 d2
    go_wp2_with fail
    go_ret
    exact ⟨rfl, (by repeat (first | exact below_of_grow _ _ | exact Below.refl _ _ | exact below_more _ _ _ _ | (simp only [← Array.append_assoc]; first | exact below_more _ _ _ _ | exact below_same _ _ _ | exact Below.refl _ _) | exact below_same _ _ _ | (refine Below.alloc ?_ (by first | (simp; done) | (simp; omega)) _) | (refine Below.grow ?_ (by first | (simp; done) | (simp; omega)) _ _) | refine Below.drew ?_ | refine Below.drewN ?_ _ | (refine Below.putF ?_ (by first | (simp; done) | omega | (simp; omega)) _) | (refine Below.setCell ?_ (by first | (simp; done) | (simp; omega)) _)))⟩
theorem tagText_gives (t : List UInt8) (ht : t.length = 10) (w : World) : Gives Tryd.prog 24 #[.agg (row8 t)] w (.string (bs (tagText t))) := by
  have HR := Lib.hid (tagRight_gives t ht)
  have HF := Lib.hid (plain_gives t ht)
  unfold tagText
  cases hr : tagRight t
  · rw [hr] at HR
    unfold Gives
    go_enter Tryd.func24, Tryd.ntmps24
    go_wp2_with fail
    refine Gives.use (HR.out _) ?_
    intro xs d
    go_wp2_with fail
    go_ret
    exact ⟨rfl, (by repeat (first | exact below_of_grow _ _ | exact Below.refl _ _ | exact below_more _ _ _ _ | (simp only [← Array.append_assoc]; first | exact below_more _ _ _ _ | exact below_same _ _ _ | exact Below.refl _ _) | exact below_same _ _ _ | (refine Below.alloc ?_ (by first | (simp; done) | (simp; omega)) _) | (refine Below.grow ?_ (by first | (simp; done) | (simp; omega)) _ _) | refine Below.drew ?_ | refine Below.drewN ?_ _ | (refine Below.putF ?_ (by first | (simp; done) | omega | (simp; omega)) _) | (refine Below.setCell ?_ (by first | (simp; done) | (simp; omega)) _)))⟩
  · rw [hr] at HR
    unfold Gives
    go_enter Tryd.func24, Tryd.ntmps24
    go_wp2_with fail
    refine Gives.use (HR.out _) ?_
    intro xs d
    go_wp2_with fail
    refine Gives.use (HF.out _) ?_
    intro xs2 d2
    go_wp2_with fail
    go_ret
    exact ⟨rfl, (by repeat (first | exact below_of_grow _ _ | exact Below.refl _ _ | exact below_more _ _ _ _ | (simp only [← Array.append_assoc]; first | exact below_more _ _ _ _ | exact below_same _ _ _ | exact Below.refl _ _) | exact below_same _ _ _ | (refine Below.alloc ?_ (by first | (simp; done) | (simp; omega)) _) | (refine Below.grow ?_ (by first | (simp; done) | (simp; omega)) _ _) | refine Below.drew ?_ | refine Below.drewN ?_ _ | (refine Below.putF ?_ (by first | (simp; done) | omega | (simp; omega)) _) | (refine Below.setCell ?_ (by first | (simp; done) | (simp; omega)) _)))⟩
theorem cellsK {w : World} {b : Nat} {c : Array Value} {t : TypeId} (h : w.heap[b]? = some (.cells c t)) (i : Nat) : w.cell? ⟨b, i, none⟩ = c[i]? ∧ w.frozen? ⟨b, i, none⟩ = false := by
  simp [World.cell?, World.frozen?, h]
/-- a slice of strings -/
def strA (l : List UInt8) : Array Value := #[.string (bs l)]
theorem row_str : RowType Tryd.prog 49 9 1 16 := ⟨Tryd.underlying49, by kernel_rfl, by decide, by decide⟩
theorem own_block {w : World} {B g sz : Nat} {e : TypeId} {xs : List (Array Value)} (h : w.heap[g]? = some (.cells (flatA xs).toArray e)) (hB : B ≤ g) (hs : ∀ x ∈ xs, x.size = sz) (hm : xs.length ≤ 100000) : OwnA w B sz e (.slice (some ⟨g, 0, none⟩) xs.length xs.length) xs :=
  ⟨hs, flatA_len hs, .inr ⟨g, xs.length, (flatA xs).toArray, rfl, hB, h, Nat.le_refl _, by unfold maxLen; omega, by simp [flatA_len hs], by rw [List.take_of_length_le (by simp [flatA_len hs])]⟩⟩
theorem allOne_str {l : List (List UInt8)} : ∀ x ∈ l.map strA, allOne x = true := by
  intro x hx
  obtain ⟨p, _, rfl⟩ := List.mem_map.1 hx
  exact allOne_list (l := [.string (bs p)]) (by intro v hv; obtain rfl := List.mem_singleton.1 hv; rfl)
theorem strs_cells {w : World} {B : Nat} {b o cap : Nat} {ps : List (List UInt8)} (h : SlA w B 1 (.slice (some ⟨b, o, none⟩) ps.length cap) (ps.map strA)) : ∀ (j : Nat) x, (ps.map bs)[j]? = some x → w.cell? ⟨b, o + j, none⟩ = some (.string x) := by
  intro j x hx
  obtain ⟨_, a, cap', e, _, _, hc⟩ := h
  rw [List.length_map] at e hc
  simp only [Value.slice.injEq, true_and] at e
  obtain ⟨rfl, rfl⟩ := e
  rw [List.getElem?_map, Option.map_eq_some_iff] at hx
  obtain ⟨p, hp, rfl⟩ := hx
  have hj := (List.getElem?_eq_some_iff.1 hp).1
  obtain ⟨b', o', e, _, hcut⟩ := hc (by omega)
  simp only [Option.some.injEq, Addr.mk.injEq, and_true] at e
  obtain ⟨rfl, rfl⟩ := e
  have hq := hcut j (strA p) (by rw [List.getElem?_map, hp]; rfl)
  rw [Nat.mul_one] at hq
  have := (cut_spec hq).2 0 (by decide)
  simpa [strA] using this
end Go.Proofs.YtpdohgadcepipaaDoor

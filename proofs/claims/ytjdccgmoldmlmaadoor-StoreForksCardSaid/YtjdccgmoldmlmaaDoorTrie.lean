/- Plain: a tree over bits: what it holds, and what an insertion makes of it. -/
import Derived.Test.YtjdccgmoldmlmaaDoorKeyPlain
namespace Go.Proofs.YtjdccgmoldmlmaaDoor
/-- bit i of bytes; the highest of the first one is bit 0 -/
def bitB (b : List UInt8) (i : Nat) : Bool := decide ((byt b (i / 8)).toNat / 2 ^ (7 - i % 8) % 2 = 1)

/-- a tree: leaves with their blocks, keys and things; forks with their blocks and bits -/
inductive CT (κ : Type) where
  | leaf (a : Nat) (k : κ) (c : Nat) : CT κ
  | fork (a bit : Nat) (l r : CT κ) : CT κ

section
variable {κ : Type} (f : κ → List UInt8)
def CT.at_ : CT κ → Nat
  | .leaf a _ _ => a
  | .fork a _ _ _ => a
/-- the leaves, in order -/
def CT.list : CT κ → List (Nat × κ × Nat)
  | .leaf a k c => [(a, k, c)]
  | .fork _ _ l r => l.list ++ r.list
/-- all blocks -/
def CT.foot : CT κ → List Nat
  | .leaf a _ _ => [a]
  | .fork a _ l r => a :: (l.foot ++ r.foot)
/-- the leaf to which bits lead -/
def CT.near (b : List UInt8) : CT κ → Nat × κ × Nat
  | .leaf a k c => (a, k, c)
  | .fork _ bit l r => if bitB b bit then r.near b else l.near b
def CT.depth : CT κ → Nat
  | .leaf _ _ _ => 0
  | .fork _ _ l r => l.depth + r.depth + 1
/-- bits below n are alike -/
def Alike (n : Nat) (x y : List UInt8) : Prop := ∀ i, i < n → bitB x i = bitB y i
def CT.Ok (N : Nat) : CT κ → Prop
  | .leaf _ _ _ => True
  | .fork _ bit l r => bit < N ∧ l.Ok N ∧ r.Ok N ∧ (∀ x ∈ l.list, bitB (f x.2.1) bit = false) ∧ (∀ x ∈ r.list, bitB (f x.2.1) bit = true) ∧
      (∀ x ∈ l.list ++ r.list, ∀ y ∈ l.list ++ r.list, Alike bit (f x.2.1) (f y.2.1))
/-- a new leaf, with a new fork at a bit -/
def CT.ins (a : Nat) (k : κ) (c : Nat) (fa bit : Nat) : CT κ → CT κ
  | .leaf a' k' c' => if bitB (f k) bit then .fork fa bit (.leaf a' k' c') (.leaf a k c) else .fork fa bit (.leaf a k c) (.leaf a' k' c')
  | .fork a' b' l r => if b' < bit then (if bitB (f k) b' then .fork a' b' l (r.ins a k c fa bit) else .fork a' b' (l.ins a k c fa bit) r)
      else if bitB (f k) bit then .fork fa bit (.fork a' b' l r) (.leaf a k c) else .fork fa bit (.leaf a k c) (.fork a' b' l r)

variable {f}
theorem near_mem (b : List UInt8) : ∀ T : CT κ, T.near b ∈ T.list
  | .leaf _ _ _ => by simp [CT.near, CT.list]
  | .fork _ bit l r => by
    unfold CT.near CT.list
    by_cases h : bitB b bit
    · rw [if_pos h]; exact List.mem_append_right _ (near_mem b r)
    · rw [if_neg h]; exact List.mem_append_left _ (near_mem b l)
theorem near_of {N : Nat} : ∀ {T : CT κ}, T.Ok f N → (∀ x ∈ T.list, ∀ y ∈ T.list, f x.2.1 = f y.2.1 → True) → ∀ x ∈ T.list, (T.near (f x.2.1)).2.1 = x.2.1 ∧ T.near (f x.2.1) = x
  | .leaf _ _ _, _, _, x, hx => by
    simp [CT.list] at hx; subst hx; simp [CT.near]
  | .fork _ bit l r, h, _, x, hx => by
    obtain ⟨_, h1, h2, h3, h4, _⟩ := h
    unfold CT.near
    rcases List.mem_append.1 hx with hx | hx
    · rw [if_neg (by rw [h3 x hx]; simp)]; exact near_of h1 (fun _ _ _ _ _ => trivial) x hx
    · rw [if_pos (h4 x hx)]; exact near_of h2 (fun _ _ _ _ _ => trivial) x hx
/-- the leaf of a key that is there -/
theorem near_key {N : Nat} {T : CT κ} (h : T.Ok f N) {x : Nat × κ × Nat} (hx : x ∈ T.list) : T.near (f x.2.1) = x := (near_of h (fun _ _ _ _ _ => trivial) x hx).2
theorem key_once {N : Nat} {T : CT κ} (h : T.Ok f N) {x y : Nat × κ × Nat} (hx : x ∈ T.list) (hy : y ∈ T.list) (e : x.2.1 = y.2.1) : x = y := by
  rw [← near_key h hx, ← near_key h hy, e]

theorem Alike.symm {n : Nat} {x y : List UInt8} (h : Alike n x y) : Alike n y x := fun i hi => (h i hi).symm
theorem Alike.trans {n : Nat} {x y z : List UInt8} (h : Alike n x y) (h' : Alike n y z) : Alike n x z := fun i hi => (h i hi).trans (h' i hi)
theorem Alike.less {n m : Nat} {x y : List UInt8} (h : Alike n x y) (hm : m ≤ n) : Alike m x y := fun i hi => h i (by omega)

theorem ins_list {a : Nat} {k : κ} {c fa bit : Nat} : ∀ T : CT κ, (T.ins f a k c fa bit).list.Perm ((a, k, c) :: T.list)
  | .leaf a' k' c' => by
    unfold CT.ins
    split
    · simp only [CT.list]; exact List.Perm.swap _ _ _
    · simp only [CT.list]; exact List.Perm.refl _
  | .fork a' b' l r => by
    unfold CT.ins
    split
    · split
      · simp only [CT.list]
        exact ((ins_list r).append_left _).trans List.perm_middle
      · simp only [CT.list]
        exact ((ins_list l).append_right _)
    · split
      · simp only [CT.list]
        exact (List.perm_append_comm (l₂ := [(a, k, c)]))
      · simp only [CT.list]; exact List.Perm.refl _
theorem ins_foot {a : Nat} {k : κ} {c fa bit : Nat} : ∀ T : CT κ, (T.ins f a k c fa bit).foot.Perm (a :: fa :: T.foot)
  | .leaf a' k' c' => by
    unfold CT.ins
    split
    · simp only [CT.foot]; exact (List.Perm.cons _ (List.Perm.swap _ _ _)).trans (List.Perm.swap _ _ _)
    · simp only [CT.foot]; exact List.Perm.swap _ _ _
  | .fork a' b' l r => by
    unfold CT.ins
    split
    · split
      · simp only [CT.foot]
        have h : (l.foot ++ (r.ins f a k c fa bit).foot).Perm (a :: fa :: (l.foot ++ r.foot)) := ((ins_foot r).append_left l.foot).trans (List.perm_middle.trans (List.perm_middle.cons a))
        exact (h.cons a').trans ((List.Perm.swap _ _ _).trans ((List.Perm.swap _ _ _).cons a))
      · simp only [CT.foot]
        have h : ((l.ins f a k c fa bit).foot ++ r.foot).Perm (a :: fa :: (l.foot ++ r.foot)) := (ins_foot l).append_right r.foot
        exact (h.cons a').trans ((List.Perm.swap _ _ _).trans ((List.Perm.swap _ _ _).cons a))
    · split
      · simp only [CT.foot]
        exact ((List.perm_append_comm (l₂ := [a])).cons fa).trans (List.Perm.swap _ _ _)
      · simp only [CT.foot]; exact List.Perm.swap _ _ _
/-- behind an insertion where a key parts from its near leaf -/
theorem ins_ok {N : Nat} {a : Nat} {k : κ} {c fa bit : Nat} (hbit : bit < N) : ∀ T : CT κ, T.Ok f N → (∀ i, i < bit → bitB (f k) i = bitB (f (T.near (f k)).2.1) i) → bitB (f k) bit ≠ bitB (f (T.near (f k)).2.1) bit → (T.ins f a k c fa bit).Ok f N
  | .leaf a' k' c', _, h1, h2 => by
    unfold CT.ins
    simp only [CT.near] at h1 h2
    by_cases hb : bitB (f k) bit = true
    · rw [if_pos hb]
      refine ⟨hbit, trivial, trivial, ?_, ?_, ?_⟩
      · intro x hx; simp [CT.list] at hx; subst hx; rw [hb] at h2; simpa using h2
      · intro x hx; simp [CT.list] at hx; subst hx; exact hb
      · intro x hx y hy i hi
        simp [CT.list] at hx hy
        rcases hx with rfl | rfl <;> rcases hy with rfl | rfl <;> simp [h1 i hi]
    · rw [if_neg hb]
      have hb' : bitB (f k) bit = false := by simpa using hb
      refine ⟨hbit, trivial, trivial, ?_, ?_, ?_⟩
      · intro x hx; simp [CT.list] at hx; subst hx; exact hb'
      · intro x hx; simp [CT.list] at hx; subst hx; rw [hb'] at h2; simpa using h2
      · intro x hx y hy i hi
        simp [CT.list] at hx hy
        rcases hx with rfl | rfl <;> rcases hy with rfl | rfl <;> simp [h1 i hi]
  | .fork a' b' l r, hok, h1, h2 => by
    obtain ⟨hb0, hl, hr, h3, h4, h5⟩ := hok
    have hnm := near_mem (f k) (.fork a' b' l r)
    simp only [CT.list] at hnm
    unfold CT.ins
    by_cases hlt : b' < bit
    · rw [if_pos hlt]
      by_cases hs : bitB (f k) b' = true
      · rw [if_pos hs]
        have hnr : (CT.fork a' b' l r).near (f k) = r.near (f k) := by simp [CT.near, hs]
        rw [hnr] at h1 h2
        have ih := ins_ok (a := a) (c := c) (fa := fa) hbit r hr h1 h2
        have hp := ins_list (f := f) (a := a) (k := k) (c := c) (fa := fa) (bit := bit) r
        have hkr : ∀ y ∈ l.list ++ r.list, Alike b' (f k) (f y.2.1) := fun y hy i hi =>
          (h1 i (by omega)).trans (h5 _ (List.mem_append_right _ (near_mem _ r)) y hy i hi)
        refine ⟨hb0, hl, ih, h3, ?_, ?_⟩
        · intro x hx
          rcases List.mem_cons.1 (hp.mem_iff.1 hx) with rfl | hx
          · exact hs
          · exact h4 x hx
        · intro x hx y hy
          have cls : ∀ z, z ∈ l.list ++ (r.ins f a k c fa bit).list → z = (a, k, c) ∨ z ∈ l.list ++ r.list := by
            intro z hz
            rcases List.mem_append.1 hz with hz | hz
            · exact .inr (List.mem_append_left _ hz)
            · rcases List.mem_cons.1 (hp.mem_iff.1 hz) with hz | hz
              · exact .inl hz
              · exact .inr (List.mem_append_right _ hz)
          rcases cls x hx with rfl | hx <;> rcases cls y hy with rfl | hy
          · exact fun _ _ => rfl
          · exact hkr y hy
          · exact (hkr x hx).symm
          · exact h5 x hx y hy
      · rw [if_neg hs]
        have hnl : (CT.fork a' b' l r).near (f k) = l.near (f k) := by simp [CT.near, hs]
        rw [hnl] at h1 h2
        have ih := ins_ok (a := a) (c := c) (fa := fa) hbit l hl h1 h2
        have hp := ins_list (f := f) (a := a) (k := k) (c := c) (fa := fa) (bit := bit) l
        have hkr : ∀ y ∈ l.list ++ r.list, Alike b' (f k) (f y.2.1) := fun y hy i hi =>
          (h1 i (by omega)).trans (h5 _ (List.mem_append_left _ (near_mem _ l)) y hy i hi)
        refine ⟨hb0, ih, hr, ?_, h4, ?_⟩
        · intro x hx
          rcases List.mem_cons.1 (hp.mem_iff.1 hx) with rfl | hx
          · simpa using hs
          · exact h3 x hx
        · intro x hx y hy
          have cls : ∀ z, z ∈ (l.ins f a k c fa bit).list ++ r.list → z = (a, k, c) ∨ z ∈ l.list ++ r.list := by
            intro z hz
            rcases List.mem_append.1 hz with hz | hz
            · rcases List.mem_cons.1 (hp.mem_iff.1 hz) with hz | hz
              · exact .inl hz
              · exact .inr (List.mem_append_left _ hz)
            · exact .inr (List.mem_append_right _ hz)
          rcases cls x hx with rfl | hx <;> rcases cls y hy with rfl | hy
          · exact fun _ _ => rfl
          · exact hkr y hy
          · exact (hkr x hx).symm
          · exact h5 x hx y hy
    · rw [if_neg hlt]
      -- all below agree with the near leaf up to and with 'bit'
      have hne : bit ≠ b' := by
        rintro rfl
        apply h2
        by_cases hs : bitB (f k) bit = true
        · have hnr : (CT.fork a' bit l r).near (f k) = r.near (f k) := by simp [CT.near, hs]
          rw [hnr, h4 _ (near_mem _ r), hs]
        · have hnl : (CT.fork a' bit l r).near (f k) = l.near (f k) := by simp [CT.near, hs]
          rw [hnl, h3 _ (near_mem _ l)]; simpa using hs
      have hlt' : bit < b' := by omega
      have hal : ∀ y ∈ l.list ++ r.list, Alike bit (f k) (f y.2.1) := fun y hy i hi => (h1 i hi).trans (h5 _ hnm y hy i (by omega))
      have hop : ∀ y ∈ l.list ++ r.list, bitB (f y.2.1) bit ≠ bitB (f k) bit := fun y hy e => h2 (e.symm.trans (h5 _ hy _ hnm bit hlt'))
      have h5' : ∀ x ∈ l.list ++ r.list, ∀ y ∈ l.list ++ r.list, Alike bit (f x.2.1) (f y.2.1) := fun x hx y hy => (h5 x hx y hy).less (by omega)
      by_cases hb : bitB (f k) bit = true
      · rw [if_pos hb]
        refine ⟨hbit, ⟨hb0, hl, hr, h3, h4, h5⟩, trivial, ?_, ?_, ?_⟩
        · intro x hx; have := hop x hx; rw [hb] at this; simpa using this
        · intro x hx; simp [CT.list] at hx; subst hx; exact hb
        · intro x hx y hy
          rcases List.mem_append.1 hx with hx | hx <;> rcases List.mem_append.1 hy with hy | hy
          · exact h5' x hx y hy
          · simp [CT.list] at hy; subst hy; exact (hal x hx).symm
          · simp [CT.list] at hx; subst hx; exact hal y hy
          · simp [CT.list] at hx hy; subst hx; subst hy; exact fun _ _ => rfl
      · rw [if_neg hb]
        have hb' : bitB (f k) bit = false := by simpa using hb
        refine ⟨hbit, trivial, ⟨hb0, hl, hr, h3, h4, h5⟩, ?_, ?_, ?_⟩
        · intro x hx; simp [CT.list] at hx; subst hx; exact hb'
        · intro x hx; have := hop x hx; rw [hb'] at this; simpa using this
        · intro x hx y hy
          rcases List.mem_append.1 hx with hx | hx <;> rcases List.mem_append.1 hy with hy | hy
          · simp [CT.list] at hx hy; subst hx; subst hy; exact fun _ _ => rfl
          · simp [CT.list] at hx; subst hx; exact hal y hy
          · simp [CT.list] at hy; subst hy; exact (hal x hx).symm
          · exact h5' x hx y hy
/-- one row of bytes comes before another: at the first bit in which they are unlike -/
def Bef (x y : List UInt8) : Prop := ∃ d, Alike d x y ∧ bitB x d = false ∧ bitB y d = true
theorem list_sorted {N : Nat} : ∀ {T : CT κ}, T.Ok f N → T.list.Pairwise fun x y => Bef (f x.2.1) (f y.2.1)
  | .leaf _ _ _, _ => by simp [CT.list]
  | .fork _ bit l r, ⟨_, hl, hr, h3, h4, h5⟩ => by
    unfold CT.list
    rw [List.pairwise_append]
    exact ⟨list_sorted hl, list_sorted hr, fun x hx y hy => ⟨bit, h5 x (List.mem_append_left _ hx) y (List.mem_append_right _ hy), h3 x hx, h4 y hy⟩⟩
theorem Bef.irrefl (x : List UInt8) : ¬ Bef x x := by rintro ⟨d, _, h1, h2⟩; rw [h1] at h2; cases h2
theorem Bef.trans {x y z : List UInt8} (h : Bef x y) (h' : Bef y z) : Bef x z := by
  obtain ⟨d, h1, h2, h3⟩ := h
  obtain ⟨e, g1, g2, g3⟩ := h'
  rcases Nat.lt_trichotomy d e with hlt | rfl | hlt
  · exact ⟨d, h1.trans (g1.less (by omega)), h2, (g1 d hlt) ▸ h3⟩
  · rw [g2] at h3; cases h3
  · exact ⟨e, (h1.less (by omega)).trans g1, (h1 e hlt).trans g2, g3⟩
theorem Bef.asymm {x y : List UInt8} (h : Bef x y) : ¬ Bef y x := fun h' => Bef.irrefl _ (h.trans h')
end
end Go.Proofs.YtjdccgmoldmlmaaDoor

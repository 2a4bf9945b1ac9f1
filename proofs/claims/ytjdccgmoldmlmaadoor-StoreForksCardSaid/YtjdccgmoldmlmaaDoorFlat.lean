/- Equality of arrays and structs whose cells are bools, whole numbers and strings: one law for all such types, and the texts by which they are keys. -/
import Derived.Test.YtjdccgmoldmlmaaDoorByteRow
import Derived.DeepKeys
namespace Go.Proofs.YtjdccgmoldmlmaaDoor
open Go.RowKit

/-- what a cell may be: 0: a bool; 1: a string; 2 + the kind's number: a whole number -/
def fits (k : TypeDesc) (v : Value) (l : Lit) : Prop :=
  match k, v, l with
  | .bool, .bool a, .bool b => a = b
  | .int q, .int q' n, .int q2 m => q' = q ∧ q2 = q ∧ n = m ∧ (Lit.int q n).wf = true
  | .string, .string s, .string m => m = s.data.toList ∧ s.size ≤ maxLen
  | _, _, _ => False
def contig (P : Program) (total : Nat) : Nat → List Field → Bool
  | o, [] => o == total
  | o, f :: r => f.offset == o && contig P total (o + P.cellsOf f.type) r
/-- do these kinds tell a type's cells? -/
def kindsAt (P : Program) : Nat → TypeId → List TypeDesc → Bool
  | 0, _, _ => false
  | d + 1, t, ks =>
    match P.underlying t with
    | some .bool => (match ks with | [.bool] => true | _ => false)
    | some (.int q) => (match ks with | [.int q'] => q == q' | _ => false)
    | some .string => (match ks with | [.string] => true | _ => false)
    | some (.array n e) => ks.length == P.cellsOf t && P.cellsOf t == n * P.cellsOf e && (List.range n).all fun i => kindsAt P d e ((ks.drop (i * P.cellsOf e)).take (P.cellsOf e))
    | some (.struct fs) => ks.length == P.cellsOf t && fs.all (·.name != "_") && contig P (P.cellsOf t) 0 fs.toList && fs.toList.all fun f => kindsAt P d f.type ((ks.drop f.offset).take (P.cellsOf f.type))
    | _ => false
structure FitAll (ks : List TypeDesc) (cs : List Value) (ls : List Lit) : Prop where
  c : cs.length = ks.length
  l : ls.length = ks.length
  at_ : ∀ (i : Nat) (k : TypeDesc) (v : Value) (m : Lit), ks[i]? = some k → cs[i]? = some v → ls[i]? = some m → fits k v m
theorem FitAll.part {ks : List TypeDesc} {cs : List Value} {ls : List Lit} (h : FitAll ks cs ls) (o n : Nat) : FitAll ((ks.drop o).take n) ((cs.drop o).take n) ((ls.drop o).take n) := by
  refine ⟨by simp [h.c], by simp [h.l], fun i k v m h1 h2 h3 => ?_⟩
  rw [List.getElem?_take] at h1 h2 h3
  split at h1
  · rename_i hi
    rw [if_pos hi, List.getElem?_drop] at h2 h3
    rw [List.getElem?_drop] at h1
    exact h.at_ _ _ _ _ h1 h2 h3
  · cases h1
theorem chunks {α : Type} (m : Nat) : ∀ (n : Nat) (ls : List α), ls.length = n * m → ((List.range n).map fun i => (ls.drop (i * m)).take m).flatten = ls
  | 0, ls, h => by simp at h; simp [h]
  | n + 1, ls, h => by
    rw [List.range_succ, List.map_append, List.flatten_append]
    have h1 : n * m ≤ ls.length := by rw [h, Nat.succ_mul]; omega
    have ih := chunks m n (ls.take (n * m)) (by simp; omega)
    have e : (List.range n).map (fun i => (ls.drop (i * m)).take m) = (List.range n).map (fun i => ((ls.take (n * m)).drop (i * m)).take m) := by
      apply List.map_congr_left
      intro i hi
      rw [List.mem_range] at hi
      have : i * m + m ≤ n * m := by rw [← Nat.succ_mul]; exact Nat.mul_le_mul_right _ hi
      rw [List.drop_take, List.take_take]
      congr 1
      omega
    rw [e, ih]
    simp only [List.map_cons, List.map_nil, List.flatten_cons, List.flatten_nil, List.append_nil]
    rw [List.take_of_length_le (i := m) (by simp; rw [h, Nat.succ_mul]; omega), List.take_append_drop]
theorem fields_flat {α : Type} (P : Program) (ls : List α) : ∀ (fs : List Field) (o : Nat), contig P ls.length o fs = true → o ≤ ls.length → (fs.map fun f => (ls.drop f.offset).take (P.cellsOf f.type)).flatten = ls.drop o
  | [], o, h, _ => by simp [contig] at h; subst h; simp
  | f :: r, o, h, ho => by
    simp only [contig, Bool.and_eq_true, beq_iff_eq] at h
    obtain ⟨h1, h2⟩ := h
    rw [List.map_cons, List.flatten_cons, h1]
    by_cases hl : o + P.cellsOf f.type ≤ ls.length
    · rw [fields_flat P ls r _ h2 hl, ← List.drop_drop, List.take_append_drop]
    · exfalso
      have : ∀ (r : List Field) (o : Nat), ls.length < o → contig P ls.length o r = false := by
        intro r
        induction r with
        | nil => intro o ho; simp [contig]; omega
        | cons g r ih => intro o ho; simp only [contig, Bool.and_eq_false_iff]; right; exact ih _ (by omega)
      rw [this r _ (by omega)] at h2
      cases h2
theorem mapM_some {α β : Type} (f : α → Option β) (g : α → β) : ∀ l : List α, (∀ x ∈ l, f x = some (g x)) → l.mapM f = some (l.map g)
  | [], _ => rfl
  | x :: l, h => by
    rw [List.mapM_cons, h x (by simp), mapM_some f g l fun y hy => h y (by simp [hy])]
    rfl
theorem keyLits_flat {P : Program} : ∀ (d : Nat) (t : TypeId) (ks : List TypeDesc), kindsAt P d t ks = true → ∀ (cs : List Value) (ls : List Lit), FitAll ks cs ls → P.keyLits d t cs = some ls
  | 0, _, _, h, _, _, _ => by cases h
  | d + 1, t, ks, h, cs, ls, hf => by
    have hc := hf.c
    have hl := hf.l
    unfold kindsAt at h
    unfold Program.keyLits
    split at h
    · rename_i hu
      rw [hu]
      split at h
      · match cs, ls, hc, hl with
        | [v], [m], _, _ =>
          have := hf.at_ 0 _ v m rfl rfl rfl
          cases v <;> cases m <;> simp_all [fits]
      · cases h
    · rename_i q hu
      rw [hu]
      split at h
      · rename_i q'
        match cs, ls, hc, hl with
        | [v], [m], _, _ =>
          have hfit := hf.at_ 0 _ v m rfl rfl rfl
          have hq : q = q' := by simpa using h
          subst hq
          cases v <;> cases m <;> first
            | (simp [fits] at hfit; done)
            | (simp only [fits] at hfit
               obtain ⟨rfl, rfl, rfl, hw⟩ := hfit
               simp [hw])
      · cases h
    · rename_i hu
      rw [hu]
      split at h
      · match cs, ls, hc, hl with
        | [v], [m], _, _ =>
          have := hf.at_ 0 _ v m rfl rfl rfl
          cases v <;> cases m <;> simp_all [fits]
      · cases h
    · rename_i n e hu
      rw [hu]
      simp only [Bool.and_eq_true, beq_iff_eq] at h
      obtain ⟨⟨h1, h2⟩, h3⟩ := h
      simp only []
      rw [if_pos (by omega), mapM_some _ (fun i => (ls.drop (i * P.cellsOf e)).take (P.cellsOf e))]
      · simp only [Option.map_some]
        rw [chunks _ n ls (by omega)]
      · intro i hi
        exact keyLits_flat d e _ (List.all_eq_true.1 h3 i hi) _ _ (hf.part _ _)
    · rename_i fs hu
      rw [hu]
      simp only [Bool.and_eq_true, beq_iff_eq] at h
      obtain ⟨⟨⟨h1, h2⟩, h3⟩, h4⟩ := h
      simp only []
      rw [if_pos ⟨by omega, h2⟩, mapM_some _ (fun f => (ls.drop f.offset).take (P.cellsOf f.type))]
      · simp only [Option.map_some]
        have := fields_flat P ls fs.toList 0 (by rw [hl, h1]; exact h3) (Nat.zero_le _)
        rw [this]
        rfl
      · intro f hf2
        exact keyLits_flat d f.type _ (List.all_eq_true.1 h4 f hf2) _ _ (hf.part _ _)
    · cases h

/-- a type with such cells, of the depth m -/
structure FlatType (P : Program) (t : TypeId) (ks : List TypeDesc) : Prop where
  kinds : kindsAt P 6 t ks = true
  key : P.keyTypeAt 6 t = true
  size : P.aggSize t = some ks.length
theorem aggSize_formed {P : Program} {t : TypeId} {n : Nat} {cs : Array Value} (h : P.aggSize t = some n) (hc : cs.size = n) : (Value.agg cs).formed P t = true := by
  unfold Program.aggSize at h
  unfold Value.formed Program.cellsOf
  split at h
  · rename_i fs hu
    simp only [Option.map_eq_some_iff] at h
    obtain ⟨i, hi, rfl⟩ := h
    simp [hu, hi, hc]
  · rename_i m e hu
    simp only [Option.map_eq_some_iff] at h
    obtain ⟨i, hi, rfl⟩ := h
    simp [hu, hi, hc]
  · cases h
/-- equality of two such values: just if their cells read alike -/
theorem flat_eq {P : Program} {t : TypeId} {ks : List TypeDesc} (ht : FlatType P t ks) (w : World) {a b : Array Value} {la lb : List Lit} (ha : FitAll ks a.toList la) (hb : FitAll ks b.toList lb) :
    ∃ r : Bool, (Op.equalIn 10000 t (.agg a) (.agg b)).run P w = .ok r w ∧ (r = true ↔ la = lb) :=
  run_equalIn_deep 9994 6 t ht.key w 6 6 (.agg a) (.agg b) la lb (aggSize_formed ht.size (by simpa using ha.c)) (aggSize_formed ht.size (by simpa using hb.c)) (keyLits_flat 6 t ks ht.kinds _ _ ha) (keyLits_flat 6 t ks ht.kinds _ _ hb)

/-! rows of bytes -/
def byteKinds (n : Nat) : List TypeDesc := List.replicate n (.int .u8)
def byteLits (l : List UInt8) : List Lit := l.map fun b => .int .u8 (b.toNat : Int)
theorem byteLits_inj {a b : List UInt8} (h : byteLits a = byteLits b) : a = b := by
  apply row8_inj.1
  unfold row8
  congr 1
  have := congrArg (List.map fun l : Lit => match l with | .int k n => Value.int k n | _ => .nilIface) h
  simp only [byteLits, List.map_map] at this
  exact this
theorem row8_fit (l : List UInt8) : FitAll (byteKinds l.length) (row8 l).toList (byteLits l) := by
  refine ⟨by simp [row8, byteKinds], by simp [byteLits, byteKinds], fun i k v m h1 h2 h3 => ?_⟩
  simp only [byteKinds, List.getElem?_replicate] at h1
  split at h1
  · rename_i hi
    simp only [Option.some.injEq] at h1
    subst h1
    simp only [row8, List.getElem?_map, List.getElem?_eq_getElem hi, Option.map_some, Option.some.injEq, byteLits] at h2 h3
    subst h2 h3
    refine ⟨rfl, rfl, rfl, ?_⟩
    have := l[i].toNat_lt
    have e1 : IntKind.u8.min = 0 := rfl
    have e2 : IntKind.u8.max = 255 := rfl
    simp only [Lit.wf, e1, e2, Bool.and_eq_true, decide_eq_true_eq]
    omega
  · cases h1
theorem row8_eq {P : Program} {t : TypeId} {a b : List UInt8} (ht : FlatType P t (byteKinds a.length)) (hl : b.length = a.length) (w : World) :
    (Op.equalIn 10000 t (.agg (row8 a)) (.agg (row8 b))).run P w = .ok (a == b) w := by
  have hb := row8_fit b
  rw [hl] at hb
  obtain ⟨r, h1, h2⟩ := flat_eq ht w (row8_fit a) hb
  rw [h1]
  congr 1
  rw [Bool.eq_iff_iff, h2, beq_iff_eq]
  exact ⟨byteLits_inj, fun h => by rw [h]⟩
end Go.Proofs.YtjdccgmoldmlmaaDoor

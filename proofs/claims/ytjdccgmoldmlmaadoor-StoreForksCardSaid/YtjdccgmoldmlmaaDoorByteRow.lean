/- Rows of bytes: arrays and structs whose cells are all bytes, told by a list of bytes. -/
import Derived.Test.YtjdccgmoldmlmaaDoorStr
import Derived.Test.YtjdccgmoldmlmaaDoorKeyPlain
import Derived.Lib.Hide
namespace Go.Proofs.YtjdccgmoldmlmaaDoor
open Go.RowKit

/-- the cells of some bytes -/
def row8 (l : List UInt8) : Array Value := (l.map fun b => Value.int .u8 (b.toNat : Int)).toArray
@[go_sem, simp] theorem row8_size (l : List UInt8) : (row8 l).size = l.length := by simp [row8]
@[go_sem] theorem row8_extract (l : List UInt8) (a b : Nat) : (row8 l).extract a b = row8 ((l.take b).drop a) := by
  apply Array.ext'
  simp [row8, List.extract_eq_take_drop]
  rw [List.drop_take]
theorem row8_get (l : List UInt8) (i : Nat) (h : i < l.length) : (row8 l)[i]? = some (.int .u8 ((byt l i).toNat : Int)) := by
  simp [row8, h, byt_get h]
@[go_sem] theorem row8_get' (l : List UInt8) (i : Nat) (h : i < l.length) : (row8 l)[i]? = some (.int .u8 ((byt l i).toNat : Int)) := row8_get l i h
@[go_sem, simp] theorem row8_getE (l : List UInt8) (i : Nat) (h : i < (row8 l).size) : (row8 l)[i]'h = .int .u8 ((byt l i).toNat : Int) := by
  have h2 : i < l.length := by simpa using h
  have := row8_get l i h2
  rw [Array.getElem?_eq_getElem h] at this
  exact Option.some.inj this
@[go_sem] theorem row8_set (l : List UInt8) (i : Nat) (b : UInt8) : (row8 l).setIfInBounds i (.int .u8 (b.toNat : Int)) = row8 (l.set i b) := by
  apply Array.ext_getElem?
  intro k
  by_cases hk : i = k
  · subst hk
    by_cases h : i < l.length
    · rw [Array.getElem?_setIfInBounds_self_of_lt (by simpa using h)]; simp [row8, h]
    · rw [Array.getElem?_eq_none (by simp; omega), Array.getElem?_eq_none (by simp; omega)]
  · rw [Array.getElem?_setIfInBounds_ne hk]; simp [row8, hk]
theorem row8_one (l : List UInt8) : (row8 l).all (·.oneCell') = true := by
  rw [Array.all_eq_true_iff_forall_mem]
  intro v hv
  simp [row8] at hv
  obtain ⟨b, _, rfl⟩ := hv
  rfl
@[go_sem] theorem run_rowStore_row8 {P : Program} {w : World} {t : TypeId} {n o : Nat} {l : List UInt8} (ht : P.aggSize t = some l.length) (hc : w.there? n o l.length = true) :
    (rowStore t ⟨n, o, none⟩ (.agg (row8 l))).run P w = .ok () (w.lay n o (row8 l)) :=
  run_rowStore (by rw [ht, row8_size]) (by rw [row8_size]; exact hc) (row8_one l)
@[go_sem] theorem take_full (l : List UInt8) (n : Nat) (h : l.length ≤ n) : l.take n = l := List.take_of_length_le h
theorem row8_inj {a b : List UInt8} : row8 a = row8 b ↔ a = b := by
  constructor
  · intro h
    have := congrArg Array.toList h
    simp only [row8, List.toList_toArray] at this
    induction a generalizing b with
    | nil => cases b with
      | nil => rfl
      | cons y b => simp at this
    | cons x a ih =>
      cases b with
      | nil => simp at this
      | cons y b =>
        simp only [List.map_cons, List.cons.injEq, Value.int.injEq, true_and] at this
        have e : x = y := by apply UInt8.toNat_inj.1; omega
        rw [e, ih (by simp [row8, this.2]) this.2]
  · intro h; rw [h]
theorem zeros_row8 (n : Nat) : Array.replicate n (Value.int .u8 0) = row8 (zeros n) := by
  apply Array.ext'
  simp [row8, zeros]
@[go_sem] theorem lit12 : (#[.int .u8 0, .int .u8 0, .int .u8 0, .int .u8 0, .int .u8 0, .int .u8 0, .int .u8 0, .int .u8 0, .int .u8 0, .int .u8 0, .int .u8 0, .int .u8 0] : Array Value) = row8 (zeros 12) := rfl
@[go_sem] theorem lit10 : (#[.int .u8 0, .int .u8 0, .int .u8 0, .int .u8 0, .int .u8 0, .int .u8 0, .int .u8 0, .int .u8 0, .int .u8 0, .int .u8 0] : Array Value) = row8 (zeros 10) := rfl
@[go_sem] theorem lit25 : (#[.int .u8 0, .int .u8 0, .int .u8 0, .int .u8 0, .int .u8 0, .int .u8 0, .int .u8 0, .int .u8 0, .int .u8 0, .int .u8 0, .int .u8 0, .int .u8 0, .int .u8 0, .int .u8 0, .int .u8 0, .int .u8 0, .int .u8 0, .int .u8 0, .int .u8 0, .int .u8 0, .int .u8 0, .int .u8 0, .int .u8 0, .int .u8 0, .int .u8 0] : Array Value) = row8 (zeros 25) := rfl
@[go_sem, simp] theorem zeros_len (n : Nat) : (zeros n).length = n := by simp [zeros]
theorem padTo_len {n : Nat} {s : List UInt8} (h : s.length ≤ n) : (padTo n s).length = n := by simp [padTo]; omega
theorem padTo_set {n k : Nat} {s : List UInt8} (hn : s.length ≤ n) (h : k < s.length) : (padTo n (s.take k)).set k (byt s k) = padTo n (s.take (k + 1)) := by
  have hl : (s.take k).length = k := by simp; omega
  unfold padTo
  rw [List.set_append_right _ _ (by omega), hl, Nat.sub_self]
  have e : zeros (n - k) = 0 :: zeros (n - (k + 1)) := by
    unfold zeros; rw [show n - k = n - (k + 1) + 1 by omega, List.replicate_succ]
  rw [e, List.set_cons_zero, List.take_succ_eq_append_getElem h, List.append_assoc]
  simp only [List.length_append, hl, List.length_cons, List.length_nil]
  rw [byt_get h]
  rfl
theorem padTo_nil (n : Nat) : padTo n [] = zeros n := by simp [padTo]
theorem fill_set (pre q post : List UInt8) (n k : Nat) (hn : q.length ≤ n) (hk : k < q.length) :
    (pre ++ padTo n (q.take k) ++ post).set (pre.length + k) (byt q k) = pre ++ padTo n (q.take (k + 1)) ++ post := by
  have hl : (padTo n (q.take k)).length = n := padTo_len (by simp; omega)
  rw [List.append_assoc, List.set_append_right _ _ (by omega), Nat.add_sub_cancel_left, List.set_append_left _ _ (by omega), padTo_set hn hk, List.append_assoc]
theorem fill_end (pre q : List UInt8) (n k : Nat) (hn : q.length ≤ n) (hk : k < q.length) : (pre ++ padTo n (q.take k)).set (pre.length + k) (byt q k) = pre ++ padTo n (q.take (k + 1)) := by
  have := fill_set pre q [] n k hn hk
  simpa using this
theorem byt_map (f : UInt8 → UInt8) (l : List UInt8) (k : Nat) (h : k < l.length) : byt (l.map f) k = f (byt l k) := by
  rw [← byt_get (by simpa using h), ← byt_get h, List.getElem_map]
theorem takeWhile_len {α : Type} (p : α → Bool) : ∀ l : List α, (l.takeWhile p).length ≤ l.length
  | [] => Nat.le_refl _
  | x :: l => by
    rw [List.takeWhile_cons]
    split
    · have := takeWhile_len p l
      simp only [List.length_cons]; omega
    · simp
theorem fold_splice' (vs : List Value) (o : Nat) : ∀ (c : Array Value) (k : Nat), o + k + vs.length ≤ c.size →
    (vs.zipIdx k).foldl (fun cs (x : Value × Nat) => cs.setIfInBounds (o + x.snd) x.fst) c = spliceA c (o + k) vs.toArray := by
  induction vs with
  | nil =>
    intro c k h
    apply Array.ext_getElem?
    intro j
    rw [spliceA_get (by simpa using h), if_neg (by simp)]
    rfl
  | cons v vs ih =>
    intro c k h
    simp only [List.length_cons] at h
    rw [List.zipIdx_cons, List.foldl_cons, ih _ (k + 1) (by simp; omega)]
    apply Array.ext_getElem?
    intro j
    rw [spliceA_get (by simp; omega), spliceA_get (by simp; omega)]
    simp only [List.size_toArray, List.length_cons, List.getElem?_toArray]
    by_cases h1 : o + k = j
    · subst h1
      rw [if_neg (by omega), if_pos (by omega), Array.getElem?_setIfInBounds_self_of_lt (by omega), Nat.sub_self]
      rfl
    · rw [Array.getElem?_setIfInBounds_ne h1]
      by_cases h2 : o + (k + 1) ≤ j ∧ j < o + (k + 1) + vs.length
      · rw [if_pos h2, if_pos (by omega), show j - (o + k) = (j - (o + (k + 1))) + 1 by omega, List.getElem?_cons_succ]
      · rw [if_neg h2, if_neg (by omega)]
@[go_sem] theorem fold_row8 (c : Array Value) (l : List UInt8) (o n : Nat) (hn : n = l.length) (h : o + l.length ≤ c.size) :
    Array.foldl (fun cs x => cs.setIfInBounds (o + x.snd) x.fst) c (row8 l).zipIdx 0 n = spliceA c o (row8 l) := by
  subst hn
  have := fold_splice' (row8 l).toList o c 0 (by simp [row8]; omega)
  rw [Array.toArray_toList, Nat.add_zero] at this
  rw [← this]
  have e : l.length = (row8 l).zipIdx.size := by simp
  rw [e, ← Array.foldl_toList]
  simp
@[go_sem] theorem fold_full (c vs : Array Value) (n : Nat) (hn : n = vs.size) (h : vs.size = c.size) : Array.foldl (fun cs x => cs.setIfInBounds x.snd x.fst) c vs.zipIdx 0 n = vs := by
  subst hn
  have := fold_splice' vs.toList 0 c 0 (by simp; omega)
  simp only [Nat.zero_add, Array.toArray_toList, splice_full h] at this
  have e : vs.size = vs.zipIdx.size := by simp
  rw [e, ← Array.foldl_toList]
  refine Eq.trans ?_ this
  simp
end Go.Proofs.YtjdccgmoldmlmaaDoor

/- Keys, names and tags as lists of bytes: what the functions of layers 4, 5 and 6 compute, in plain Lean. -/
import Derived.Test.YtcedmfnlkelhkaaGreatDoorQaa
import Derived.Lib.Split
import Derived.Lib.Join
import Derived.Lib.TrimByte
import Derived.Lib.ItoaNum
import Derived.Lib.Hide
import Derived.DeepKeys
import Derived.Lib.SmallJoins
import Derived.Maps.AppendAt
import Derived.OwnWalk
import Derived.Laws.CopyOwn
namespace Go.Proofs.YtcedmfnlkelhkaaGreatDoor
theorem zwQab {p : Prop} (h : p := by (go_simp; go_wp2_with fail; exact ⟨_, rfl, rfl, blw, fun h => by cases h⟩)) : p := h

/-! bytes -/
def lowB (c : UInt8) : Bool := decide (97 ≤ c.toNat) && decide (c.toNat ≤ 122)
def uppB (c : UInt8) : Bool := decide (65 ≤ c.toNat) && decide (c.toNat ≤ 90)
def letB (c : UInt8) : Bool := lowB c || uppB c
def digB (c : UInt8) : Bool := decide (48 ≤ c.toNat) && decide (c.toNat ≤ 57)
def signB (c : UInt8) : Bool := lowB c || digB c || c == 45 || c == 95 || c == 46
def toLow (c : UInt8) : UInt8 := if uppB c = true then c + 32 else c
def toUpp (c : UInt8) : UInt8 := if lowB c = true then c - 32 else c
def zeros (n : Nat) : List UInt8 := List.replicate n 0
def padTo (n : Nat) (s : List UInt8) : List UInt8 := s ++ zeros (n - s.length)

/-! layer 4: names -/
def nameOk (s : List UInt8) : Bool := decide (1 ≤ s.length) && decide (s.length ≤ 12) && lowB (byt s 0) && s.all signB
def nameParse1 (s : List UInt8) : List UInt8 := if nameOk s = true then padTo 12 s else zeros 12
def nameParse2 (s : List UInt8) : Int := if nameOk s = true then 0 else 15
def frontN (n : List UInt8) : List UInt8 := n.takeWhile (· != 0)
def nameRight (n : List UInt8) : Bool := nameOk (frontN n) && padTo 12 (frontN n) == n
def nameText (n : List UInt8) : List UInt8 := if nameRight n = true then frontN n else []

/-! layer 5: tags: three bytes, four, three -/
def rootL : List UInt8 := [114, 111, 111, 116]
def langB (p : List UInt8) : Bool := decide (2 ≤ p.length) && decide (p.length ≤ 3) && p.all letB
def scriptB (p : List UInt8) : Bool := decide (p.length = 4) && p.all letB
def regionB (p : List UInt8) : Bool := (decide (p.length = 2) && p.all letB) || (decide (p.length = 3) && p.all digB)
def title : List UInt8 → List UInt8
 | [] => []
 | c :: r => toUpp (toLow c) :: r.map toLow
def scOf : List (List UInt8) → List UInt8
 | [] => zeros 4
 | p :: _ => if scriptB p = true then title p else zeros 4
def scRest : List (List UInt8) → List (List UInt8)
 | [] => []
 | p :: r => if scriptB p = true then r else p :: r
def rgOf : List (List UInt8) → List UInt8
 | [] => zeros 3
 | p :: _ => if regionB p = true then padTo 3 (p.map toUpp) else zeros 3
def rgRest : List (List UInt8) → List (List UInt8)
 | [] => []
 | p :: r => if regionB p = true then r else p :: r
def tagParts : List (List UInt8) → Option (List UInt8)
 | [] => none
 | p :: r => if langB p = true ∧ rgRest (scRest r) = [] then some (padTo 3 (p.map toLow) ++ scOf r ++ rgOf (scRest r)) else none
/-- the pieces between the bytes c -/
def splitOn (c : UInt8) : List UInt8 → List (List UInt8)
 | [] => [[]]
 | b :: l => if b = c then [] :: splitOn c l else
  match splitOn c l with
  | p :: r => (b :: p) :: r
  | [] => [[b]]
def tagOpt (s : List UInt8) : Option (List UInt8) := if s = rootL then some (zeros 10) else tagParts (splitOn 45 s)
def tagParse1 (s : List UInt8) : List UInt8 := (tagOpt s).getD (zeros 10)
def tagParse2 (s : List UInt8) : Int := if (tagOpt s).isSome = true then 0 else 14
def partT (b : List UInt8) : List UInt8 := Lib.trimRightB b 0
def langT (t : List UInt8) : List UInt8 := t.take 3
def scriptT (t : List UInt8) : List UInt8 := (t.drop 3).take 4
def regionT (t : List UInt8) : List UInt8 := t.drop 7
def dashed (p : List UInt8) : List UInt8 := if p = [] then [] else 45 :: p
def tagPlain (t : List UInt8) : List UInt8 := if t = zeros 10 then rootL else partT (langT t) ++ dashed (partT (scriptT t)) ++ dashed (partT (regionT t))
def tagRight (t : List UInt8) : Bool := tagOpt (tagPlain t) == some t
/-! layer 6: keys: kind, project, at, a name, a tag -/
def usedAt (kind : Int) : Int := if kind = 2 then 16 else if kind = 4 ∨ kind = 5 ∨ kind = 6 then 4 else 0
def usedName (kind : Int) : Bool := decide (kind = 5) || decide (kind = 6)
def usedTag (kind : Int) : Bool := decide (kind = 3) || decide (kind = 6)
def keyErr (kind project at_ : Int) (n t : List UInt8) : Int :=
 if kind < 1 ∨ 6 < kind then 16
 else if project < 0 ∨ 4 ≤ project ∨ (0 < usedAt kind ∧ (at_ < 0 ∨ usedAt kind ≤ at_)) then 5
 else if usedName kind = true ∧ nameRight n = false then 15
 else if usedTag kind = true ∧ (tagRight t = false ∨ t = zeros 10) then 14
 else 0
def byteOf (x : Int) : UInt8 := UInt8.ofNat (x % 256).toNat
def keyMade (kind project at_ : Int) (n t : List UInt8) : List UInt8 :=
 [byteOf kind, byteOf project, if 0 < usedAt kind then byteOf at_ else 0] ++ (if usedName kind = true then n else zeros 12) ++ (if usedTag kind = true then t else zeros 10)
def keyOf (kind project at_ : Int) (n t : List UInt8) : List UInt8 := if keyErr kind project at_ n t = 0 then keyMade kind project at_ n t else zeros 25
def kKind (k : List UInt8) : UInt8 := byt k 0
def kProj (k : List UInt8) : UInt8 := byt k 1
def kAt (k : List UInt8) : UInt8 := byt k 2
def kName (k : List UInt8) : List UInt8 := (k.drop 3).take 12
def kTag (k : List UInt8) : List UInt8 := k.drop 15
def keyRight (k : List UInt8) : Bool :=
 decide (keyErr (kKind k).toNat (kProj k).toNat (kAt k).toNat (kName k) (kTag k) = 0) && keyOf (kKind k).toNat (kProj k).toNat (kAt k).toNat (kName k) (kTag k) == k
def lessL : List UInt8 → List UInt8 → Bool
 | [], [] => false
 | [], _ :: _ => true
 | _ :: _, [] => false
 | a :: x, b :: y => if a = b then lessL x y else decide (a < b)
end Go.Proofs.YtcedmfnlkelhkaaGreatDoor
namespace Go.Proofs.YtcedmfnlkelhkaaGreatDoor
open Go.RowKit

/-- the cells of some bytes -/
def row8 (l : List UInt8) : Array Value := (l.map fun b => Value.int .u8 (b.toNat : Int)).toArray
@[go_sem, simp] theorem row8_size (l : List UInt8) : (row8 l).size = l.length := by simp [row8]
@[go_sem] theorem row8_extract (l : List UInt8) (a b : Nat) : (row8 l).extract a b = row8 ((l.take b).drop a) := by
 apply Array.ext'
 simp [row8, List.extract_eq_take_drop]
 rw [List.drop_take]
theorem row8_get (l : List UInt8) (i : Nat) (h : i < l.length) : (row8 l)[i]? = some (.int .u8 ((byt l i).toNat : Int)) := by
 simp [row8, h, byt_get h]
@[go_sem] theorem row8_get' (l : List UInt8) (i : Nat) (h : i < l.length) : (row8 l)[i]? = some (.int .u8 ((byt l i).toNat : Int)) := row8_get l i h
@[go_sem, simp] theorem row8_getE (l : List UInt8) (i : Nat) (h : i < (row8 l).size) : (row8 l)[i]'h = .int .u8 ((byt l i).toNat : Int) := by
 have h2 : i < l.length := by simpa using h
 have := row8_get l i h2
 rw [Array.getElem?_eq_getElem h] at this
 exact Option.some.inj this
@[go_sem] theorem row8_set (l : List UInt8) (i : Nat) (b : UInt8) : (row8 l).setIfInBounds i (.int .u8 (b.toNat : Int)) = row8 (l.set i b) := by
 apply Array.ext_getElem?
 intro k
 by_cases hk : i = k
 ·subst hk
  by_cases h : i < l.length
  ·rw [Array.getElem?_setIfInBounds_self_of_lt (by simpa using h)]; simp [row8, h]
  ·rw [Array.getElem?_eq_none (by simp; omega), Array.getElem?_eq_none (by simp; omega)]
 ·rw [Array.getElem?_setIfInBounds_ne hk]; simp [row8, hk]
theorem row8_one (l : List UInt8) : (row8 l).all (·.oneCell') = true := by
 rw [Array.all_eq_true_iff_forall_mem]
 intro v hv
 simp [row8] at hv
 obtain ⟨b, _, rfl⟩ := hv
 rfl
@[go_sem] theorem run_rowStore_row8 {P : Program} {w : World} {t : TypeId} {n o : Nat} {l : List UInt8} (ht : P.aggSize t = some l.length) (hc : w.there? n o l.length = true) :
  (rowStore t ⟨n, o, none⟩ (.agg (row8 l))).run P w = .ok () (w.lay n o (row8 l)) :=
 run_rowStore (by rw [ht, row8_size]) (by rw [row8_size]; exact hc) (row8_one l)
@[go_sem] theorem take_full (l : List UInt8) (n : Nat) (h : l.length ≤ n) : l.take n = l := List.take_of_length_le h
theorem row8_inj {a b : List UInt8} : row8 a = row8 b ↔ a = b := by
 constructor
 ·intro h
  have := congrArg Array.toList h
  simp only [row8, List.toList_toArray] at this
  induction a generalizing b with
  | nil => cases b with
   | nil => rfl
   | cons y b => simp at this
  | cons x a ih =>
   cases b with
   | nil => simp at this
   | cons y b =>
    simp only [List.map_cons, List.cons.injEq, Value.int.injEq, true_and] at this
    have e : x = y := by apply UInt8.toNat_inj.1; omega
    rw [e, ih (by simp [row8, this.2]) this.2]
 ·intro h; rw [h]
@[go_sem] theorem lit12 : (#[.int .u8 0, .int .u8 0, .int .u8 0, .int .u8 0, .int .u8 0, .int .u8 0, .int .u8 0, .int .u8 0, .int .u8 0, .int .u8 0, .int .u8 0, .int .u8 0] : Array Value) = row8 (zeros 12) := rfl
@[go_sem] theorem lit10 : (#[.int .u8 0, .int .u8 0, .int .u8 0, .int .u8 0, .int .u8 0, .int .u8 0, .int .u8 0, .int .u8 0, .int .u8 0, .int .u8 0] : Array Value) = row8 (zeros 10) := rfl
@[go_sem] theorem lit25 : (#[.int .u8 0, .int .u8 0, .int .u8 0, .int .u8 0, .int .u8 0, .int .u8 0, .int .u8 0, .int .u8 0, .int .u8 0, .int .u8 0, .int .u8 0, .int .u8 0, .int .u8 0, .int .u8 0, .int .u8 0, .int .u8 0, .int .u8 0, .int .u8 0, .int .u8 0, .int .u8 0, .int .u8 0, .int .u8 0, .int .u8 0, .int .u8 0, .int .u8 0] : Array Value) = row8 (zeros 25) := rfl
@[go_sem, simp] theorem zeros_len (n : Nat) : (zeros n).length = n := by simp [zeros]
theorem padTo_len {n : Nat} {s : List UInt8} (h : s.length ≤ n) : (padTo n s).length = n := by simp [padTo]; omega
theorem padTo_set {n k : Nat} {s : List UInt8} (hn : s.length ≤ n) (h : k < s.length) : (padTo n (s.take k)).set k (byt s k) = padTo n (s.take (k + 1)) := by
 have hl : (s.take k).length = k := by simp; omega
 unfold padTo
 rw [List.set_append_right _ _ (by omega), hl, Nat.sub_self]
 have e : zeros (n - k) = 0 :: zeros (n - (k + 1)) := by
  unfold zeros; rw [show n - k = n - (k + 1) + 1 by omega, List.replicate_succ]
 rw [e, List.set_cons_zero, List.take_succ_eq_append_getElem h, List.append_assoc]
 simp only [List.length_append, hl, List.length_cons, List.length_nil]
 rw [byt_get h]
 rfl
theorem padTo_nil (n : Nat) : padTo n [] = zeros n := by simp [padTo]
theorem fill_set (pre q post : List UInt8) (n k : Nat) (hn : q.length ≤ n) (hk : k < q.length) :
  (pre ++ padTo n (q.take k) ++ post).set (pre.length + k) (byt q k) = pre ++ padTo n (q.take (k + 1)) ++ post := by
 have hl : (padTo n (q.take k)).length = n := padTo_len (by simp; omega)
 rw [List.append_assoc, List.set_append_right _ _ (by omega), Nat.add_sub_cancel_left, List.set_append_left _ _ (by omega), padTo_set hn hk, List.append_assoc]
theorem fill_end (pre q : List UInt8) (n k : Nat) (hn : q.length ≤ n) (hk : k < q.length) : (pre ++ padTo n (q.take k)).set (pre.length + k) (byt q k) = pre ++ padTo n (q.take (k + 1)) := by
 have := fill_set pre q [] n k hn hk
 simpa using this
theorem byt_map (f : UInt8 → UInt8) (l : List UInt8) (k : Nat) (h : k < l.length) : byt (l.map f) k = f (byt l k) := by
 rw [← byt_get (by simpa using h), ← byt_get h, List.getElem_map]
theorem takeWhile_len {α : Type} (p : α → Bool) : ∀ l : List α, (l.takeWhile p).length ≤ l.length
 | [] => Nat.le_refl _
 | x :: l => by
  rw [List.takeWhile_cons]
  split
  ·have := takeWhile_len p l
   simp only [List.length_cons]; omega
  ·simp
theorem fold_splice' (vs : List Value) (o : Nat) : ∀ (c : Array Value) (k : Nat), o + k + vs.length ≤ c.size →
  (vs.zipIdx k).foldl (fun cs (x : Value × Nat) => cs.setIfInBounds (o + x.snd) x.fst) c = spliceA c (o + k) vs.toArray := by
 induction vs with
 | nil =>
  intro c k h
  apply Array.ext_getElem?
  intro j
  rw [spliceA_get (by simpa using h), if_neg (by simp)]
  rfl
 | cons v vs ih =>
  intro c k h
  simp only [List.length_cons] at h
  rw [List.zipIdx_cons, List.foldl_cons, ih _ (k + 1) (by simp; omega)]
  apply Array.ext_getElem?
  intro j
  rw [spliceA_get (by simp; omega), spliceA_get (by simp; omega)]
  simp only [List.size_toArray, List.length_cons, List.getElem?_toArray]
  by_cases h1 : o + k = j
  ·subst h1
   rw [if_neg (by omega), if_pos (by omega), Array.getElem?_setIfInBounds_self_of_lt (by omega), Nat.sub_self]
   rfl
  ·rw [Array.getElem?_setIfInBounds_ne h1]
   by_cases h2 : o + (k + 1) ≤ j ∧ j < o + (k + 1) + vs.length
   ·rw [if_pos h2, if_pos (by omega), show j - (o + k) = (j - (o + (k + 1))) + 1 by omega, List.getElem?_cons_succ]
   ·rw [if_neg h2, if_neg (by omega)]
@[go_sem] theorem fold_row8 (c : Array Value) (l : List UInt8) (o n : Nat) (hn : n = l.length) (h : o + l.length ≤ c.size) :
  Array.foldl (fun cs x => cs.setIfInBounds (o + x.snd) x.fst) c (row8 l).zipIdx 0 n = spliceA c o (row8 l) := by
 subst hn
 have := fold_splice' (row8 l).toList o c 0 (by simp [row8]; omega)
 rw [Array.toArray_toList, Nat.add_zero] at this
 rw [← this]
 have e : l.length = (row8 l).zipIdx.size := by simp
 rw [e, ← Array.foldl_toList]
 simp
@[go_sem] theorem fold_full (c vs : Array Value) (n : Nat) (hn : n = vs.size) (h : vs.size = c.size) : Array.foldl (fun cs x => cs.setIfInBounds x.snd x.fst) c vs.zipIdx 0 n = vs := by
 subst hn
 have := fold_splice' vs.toList 0 c 0 (by simp; omega)
 simp only [Nat.zero_add, Array.toArray_toList, splice_full h] at this
 have e : vs.size = vs.zipIdx.size := by simp
 rw [e, ← Array.foldl_toList]
 refine Eq.trans ?_ this
 simp
end Go.Proofs.YtcedmfnlkelhkaaGreatDoor
namespace Go.Proofs.YtcedmfnlkelhkaaGreatDoor
open Go.RowKit

/-- what a cell may be: 0: a bool; 1: a string; 2 + the kind's number: a whole number -/
def fits (k : TypeDesc) (v : Value) (l : Lit) : Prop :=
 match k, v, l with
 | .bool, .bool a, .bool b => a = b
 | .int q, .int q' n, .int q2 m => q' = q ∧ q2 = q ∧ n = m ∧ (Lit.int q n).wf = true
 | .string, .string s, .string m => m = s.data.toList ∧ s.size ≤ maxLen
 | _, _, _ => False
def contig (P : Program) (total : Nat) : Nat → List Field → Bool
 | o, [] => o == total
 | o, f :: r => f.offset == o && contig P total (o + P.cellsOf f.type) r
/-- do these kinds tell a type's cells? -/
def kindsAt (P : Program) : Nat → TypeId → List TypeDesc → Bool
 | 0, _, _ => false
 | d + 1, t, ks =>
  match P.underlying t with
  | some .bool => (match ks with | [.bool] => true | _ => false)
  | some (.int q) => (match ks with | [.int q'] => q == q' | _ => false)
  | some .string => (match ks with | [.string] => true | _ => false)
  | some (.array n e) => ks.length == P.cellsOf t && P.cellsOf t == n * P.cellsOf e && (List.range n).all fun i => kindsAt P d e ((ks.drop (i * P.cellsOf e)).take (P.cellsOf e))
  | some (.struct fs) => ks.length == P.cellsOf t && fs.all (·.name != "_") && contig P (P.cellsOf t) 0 fs.toList && fs.toList.all fun f => kindsAt P d f.type ((ks.drop f.offset).take (P.cellsOf f.type))
  | _ => false
structure FitAll (ks : List TypeDesc) (cs : List Value) (ls : List Lit) : Prop where
 c : cs.length = ks.length
 l : ls.length = ks.length
 at_ : ∀ (i : Nat) (k : TypeDesc) (v : Value) (m : Lit), ks[i]? = some k → cs[i]? = some v → ls[i]? = some m → fits k v m
theorem FitAll.part {ks : List TypeDesc} {cs : List Value} {ls : List Lit} (h : FitAll ks cs ls) (o n : Nat) : FitAll ((ks.drop o).take n) ((cs.drop o).take n) ((ls.drop o).take n) := by
 refine ⟨by simp [h.c], by simp [h.l], fun i k v m h1 h2 h3 => ?_⟩
 rw [List.getElem?_take] at h1 h2 h3
 split at h1
 ·rename_i hi
  rw [if_pos hi, List.getElem?_drop] at h2 h3
  rw [List.getElem?_drop] at h1
  exact h.at_ _ _ _ _ h1 h2 h3
 ·cases h1
theorem chunks {α : Type} (m : Nat) : ∀ (n : Nat) (ls : List α), ls.length = n * m → ((List.range n).map fun i => (ls.drop (i * m)).take m).flatten = ls
 | 0, ls, h => by simp at h; simp [h]
 | n + 1, ls, h => by
  rw [List.range_succ, List.map_append, List.flatten_append]
  have h1 : n * m ≤ ls.length := by rw [h, Nat.succ_mul]; omega
  have ih := chunks m n (ls.take (n * m)) (by simp; omega)
  have e : (List.range n).map (fun i => (ls.drop (i * m)).take m) = (List.range n).map (fun i => ((ls.take (n * m)).drop (i * m)).take m) := by
   apply List.map_congr_left
   intro i hi
   rw [List.mem_range] at hi
   have : i * m + m ≤ n * m := by rw [← Nat.succ_mul]; exact Nat.mul_le_mul_right _ hi
   rw [List.drop_take, List.take_take]
   congr 1
   omega
  rw [e, ih]
  simp only [List.map_cons, List.map_nil, List.flatten_cons, List.flatten_nil, List.append_nil]
  rw [List.take_of_length_le (i := m) (by simp; rw [h, Nat.succ_mul]; omega), List.take_append_drop]
theorem fields_flat {α : Type} (P : Program) (ls : List α) : ∀ (fs : List Field) (o : Nat), contig P ls.length o fs = true → o ≤ ls.length → (fs.map fun f => (ls.drop f.offset).take (P.cellsOf f.type)).flatten = ls.drop o
 | [], o, h, _ => by simp [contig] at h; subst h; simp
 | f :: r, o, h, ho => by
  simp only [contig, Bool.and_eq_true, beq_iff_eq] at h
  obtain ⟨h1, h2⟩ := h
  rw [List.map_cons, List.flatten_cons, h1]
  by_cases hl : o + P.cellsOf f.type ≤ ls.length
  ·rw [fields_flat P ls r _ h2 hl, ← List.drop_drop, List.take_append_drop]
  ·exfalso
   have : ∀ (r : List Field) (o : Nat), ls.length < o → contig P ls.length o r = false := by
    intro r
    induction r with
    | nil => intro o ho; simp [contig]; omega
    | cons g r ih => intro o ho; simp only [contig, Bool.and_eq_false_iff]; right; exact ih _ (by omega)
   rw [this r _ (by omega)] at h2
   cases h2
theorem mapM_some {α β : Type} (f : α → Option β) (g : α → β) : ∀ l : List α, (∀ x ∈ l, f x = some (g x)) → l.mapM f = some (l.map g)
 | [], _ => rfl
 | x :: l, h => by
  rw [List.mapM_cons, h x (by simp), mapM_some f g l fun y hy => h y (by simp [hy])]
  rfl
theorem keyLits_flat {P : Program} : ∀ (d : Nat) (t : TypeId) (ks : List TypeDesc), kindsAt P d t ks = true → ∀ (cs : List Value) (ls : List Lit), FitAll ks cs ls → P.keyLits d t cs = some ls
 | 0, _, _, h, _, _, _ => by cases h
 | d + 1, t, ks, h, cs, ls, hf => by
  have hc := hf.c
  have hl := hf.l
  unfold kindsAt at h
  unfold Program.keyLits
  split at h
  ·rename_i hu
   rw [hu]
   split at h
   ·match cs, ls, hc, hl with
    | [v], [m], _, _ =>
     have := hf.at_ 0 _ v m rfl rfl rfl
     cases v <;> cases m <;> simp_all [fits]
   ·cases h
  ·rename_i q hu
   rw [hu]
   split at h
   ·rename_i q'
    match cs, ls, hc, hl with
    | [v], [m], _, _ =>
     have hfit := hf.at_ 0 _ v m rfl rfl rfl
     have hq : q = q' := by simpa using h
     subst hq
     cases v <;> cases m <;> first
      | (simp [fits] at hfit; done)
      | (simp only [fits] at hfit
         obtain ⟨rfl, rfl, rfl, hw⟩ := hfit
         simp [hw])
   ·cases h
  ·rename_i hu
   rw [hu]
   split at h
   ·match cs, ls, hc, hl with
    | [v], [m], _, _ =>
     have := hf.at_ 0 _ v m rfl rfl rfl
     cases v <;> cases m <;> simp_all [fits]
   ·cases h
  ·rename_i n e hu
   rw [hu]
   simp only [Bool.and_eq_true, beq_iff_eq] at h
   obtain ⟨⟨h1, h2⟩, h3⟩ := h
   simp only []
   rw [if_pos (by omega), mapM_some _ (fun i => (ls.drop (i * P.cellsOf e)).take (P.cellsOf e))]
   ·simp only [Option.map_some]
    rw [chunks _ n ls (by omega)]
   ·intro i hi
    exact keyLits_flat d e _ (List.all_eq_true.1 h3 i hi) _ _ (hf.part _ _)
  ·rename_i fs hu
   rw [hu]
   simp only [Bool.and_eq_true, beq_iff_eq] at h
   obtain ⟨⟨⟨h1, h2⟩, h3⟩, h4⟩ := h
   simp only []
   rw [if_pos ⟨by omega, h2⟩, mapM_some _ (fun f => (ls.drop f.offset).take (P.cellsOf f.type))]
   ·simp only [Option.map_some]
    have := fields_flat P ls fs.toList 0 (by rw [hl, h1]; exact h3) (Nat.zero_le _)
    rw [this]
    rfl
   ·intro f hf2
    exact keyLits_flat d f.type _ (List.all_eq_true.1 h4 f hf2) _ _ (hf.part _ _)
  ·cases h

/-- a type with such cells, of the depth m -/
structure FlatType (P : Program) (t : TypeId) (ks : List TypeDesc) : Prop where
 kinds : kindsAt P 6 t ks = true
 key : P.keyTypeAt 6 t = true
 size : P.aggSize t = some ks.length
theorem aggSize_formed {P : Program} {t : TypeId} {n : Nat} {cs : Array Value} (h : P.aggSize t = some n) (hc : cs.size = n) : (Value.agg cs).formed P t = true := by
 unfold Program.aggSize at h
 unfold Value.formed Program.cellsOf
 split at h
 ·rename_i fs hu
  simp only [Option.map_eq_some_iff] at h
  obtain ⟨i, hi, rfl⟩ := h
  simp [hu, hi, hc]
 ·rename_i m e hu
  simp only [Option.map_eq_some_iff] at h
  obtain ⟨i, hi, rfl⟩ := h
  simp [hu, hi, hc]
 ·cases h
/-- equality of two such values: just if their cells read alike -/
theorem flat_eq {P : Program} {t : TypeId} {ks : List TypeDesc} (ht : FlatType P t ks) (w : World) {a b : Array Value} {la lb : List Lit} (ha : FitAll ks a.toList la) (hb : FitAll ks b.toList lb) :
  ∃ r : Bool, (Op.equalIn 10000 t (.agg a) (.agg b)).run P w = .ok r w ∧ (r = true ↔ la = lb) :=
 run_equalIn_deep 9994 6 t ht.key w 6 6 (.agg a) (.agg b) la lb (aggSize_formed ht.size (by simpa using ha.c)) (aggSize_formed ht.size (by simpa using hb.c)) (keyLits_flat 6 t ks ht.kinds _ _ ha) (keyLits_flat 6 t ks ht.kinds _ _ hb)

/-! rows of bytes -/
def byteKinds (n : Nat) : List TypeDesc := List.replicate n (.int .u8)
def byteLits (l : List UInt8) : List Lit := l.map fun b => .int .u8 (b.toNat : Int)
theorem byteLits_inj {a b : List UInt8} (h : byteLits a = byteLits b) : a = b := by
 apply row8_inj.1
 unfold row8
 congr 1
 have := congrArg (List.map fun l : Lit => match l with | .int k n => Value.int k n | _ => .nilIface) h
 simp only [byteLits, List.map_map] at this
 exact this
theorem row8_fit (l : List UInt8) : FitAll (byteKinds l.length) (row8 l).toList (byteLits l) := by
 refine ⟨by simp [row8, byteKinds], by simp [byteLits, byteKinds], fun i k v m h1 h2 h3 => ?_⟩
 simp only [byteKinds, List.getElem?_replicate] at h1
 split at h1
 ·rename_i hi
  simp only [Option.some.injEq] at h1
  subst h1
  simp only [row8, List.getElem?_map, List.getElem?_eq_getElem hi, Option.map_some, Option.some.injEq, byteLits] at h2 h3
  subst h2 h3
  refine ⟨rfl, rfl, rfl, ?_⟩
  have := l[i].toNat_lt
  have e1 : IntKind.u8.min = 0 := rfl
  have e2 : IntKind.u8.max = 255 := rfl
  simp only [Lit.wf, e1, e2, Bool.and_eq_true, decide_eq_true_eq]
  omega
 ·cases h1
theorem row8_eq {P : Program} {t : TypeId} {a b : List UInt8} (ht : FlatType P t (byteKinds a.length)) (hl : b.length = a.length) (w : World) :
  (Op.equalIn 10000 t (.agg (row8 a)) (.agg (row8 b))).run P w = .ok (a == b) w := by
 have hb := row8_fit b
 rw [hl] at hb
 obtain ⟨r, h1, h2⟩ := flat_eq ht w (row8_fit a) hb
 rw [h1]
 congr 1
 rw [Bool.eq_iff_iff, h2, beq_iff_eq]
 exact ⟨byteLits_inj, fun h => by rw [h]⟩
end Go.Proofs.YtcedmfnlkelhkaaGreatDoor
namespace Go.Proofs.YtcedmfnlkelhkaaGreatDoor
open Go.RowKit

@[go_sem] theorem agg_name : Tryz.prog.aggSize 56 = some 12 := by kernel_rfl
@[go_sem ↓ high] theorem ld_name (a : Addr) : loadVar 56 a = rowLoad 56 a := rfl
@[go_sem ↓ high] theorem st_name (a : Addr) (v : Value) : storeVar 56 a v = rowStore 56 a v := rfl

theorem flat_name : FlatType Tryz.prog 56 (byteKinds 12) := ⟨by kernel_rfl, by kernel_rfl, agg_name⟩
@[go_sem ↓ high] theorem eq_name (a b : List UInt8) (ha : a.length = 12) (hb : b.length = 12) (w : World) :
  (Op.equalIn 10000 56 (.agg (row8 a)) (.agg (row8 b))).run Tryz.prog w = .ok (a == b) w :=
 row8_eq (by rw [ha]; exact flat_name) (by rw [ha, hb]) w
@[go_sem] theorem agg_tag : Tryz.prog.aggSize 60 = some 10 := by kernel_rfl
@[go_sem ↓ high] theorem ld_tag (a : Addr) : loadVar 60 a = rowLoad 60 a := rfl
@[go_sem ↓ high] theorem st_tag (a : Addr) (v : Value) : storeVar 60 a v = rowStore 60 a v := rfl
theorem flat_tag : FlatType Tryz.prog 60 (byteKinds 10) := ⟨by kernel_rfl, by kernel_rfl, agg_tag⟩
@[go_sem ↓ high] theorem eq_tag (a b : List UInt8) (ha : a.length = 10) (hb : b.length = 10) (w : World) :
  (Op.equalIn 10000 60 (.agg (row8 a)) (.agg (row8 b))).run Tryz.prog w = .ok (a == b) w :=
 row8_eq (by rw [ha]; exact flat_tag) (by rw [ha, hb]) w

@[go_sem] theorem agg_b10 : Tryz.prog.aggSize 71 = some 10 := by kernel_rfl
@[go_sem ↓ high] theorem ld_b10 (a : Addr) : loadVar 71 a = rowLoad 71 a := rfl
@[go_sem ↓ high] theorem st_b10 (a : Addr) (v : Value) : storeVar 71 a v = rowStore 71 a v := rfl
@[go_sem] theorem agg_b25 : Tryz.prog.aggSize 260 = some 25 := by kernel_rfl
@[go_sem ↓ high] theorem ld_b25 (a : Addr) : loadVar 260 a = rowLoad 260 a := rfl
@[go_sem ↓ high] theorem st_b25 (a : Addr) (v : Value) : storeVar 260 a v = rowStore 260 a v := rfl
@[go_sem] theorem agg_key : Tryz.prog.aggSize 132 = some 25 := by kernel_rfl
@[go_sem ↓ high] theorem ld_key (a : Addr) : loadVar 132 a = rowLoad 132 a := rfl
@[go_sem ↓ high] theorem st_key (a : Addr) (v : Value) : storeVar 132 a v = rowStore 132 a v := rfl
theorem flat_key : FlatType Tryz.prog 132 (byteKinds 25) := ⟨by kernel_rfl, by kernel_rfl, agg_key⟩
@[go_sem ↓ high] theorem eq_key (a b : List UInt8) (ha : a.length = 25) (hb : b.length = 25) (w : World) :
  (Op.equalIn 10000 132 (.agg (row8 a)) (.agg (row8 b))).run Tryz.prog w = .ok (a == b) w :=
 row8_eq (by rw [ha]; exact flat_key) (by rw [ha, hb]) w
end Go.Proofs.YtcedmfnlkelhkaaGreatDoor
namespace Go.Proofs.YtcedmfnlkelhkaaGreatDoor
open Go.RowKit

section
variable {w : World} {base size n : Nat} {e : TypeId} {v : Value} {xs : List Value}
/-- an owned row, where every block from 'base' on that stood in w stands in w' as it was -/
theorem own_keep {w' : World} (h : w.ownsRow base e size v n xs) (hk : ∀ g, base ≤ g → g < w.heap.size → v.ownBlock = some g → w'.heap[g]? = w.heap[g]?) : w'.ownsRow base e size v n xs := by
 obtain ⟨h1, h2⟩ := h
 refine ⟨h1, ?_⟩
 rcases h2 with h2 | ⟨g, cap, cur, hv, hg, hh, r⟩
 ·exact .inl h2
 ·have hlt : g < w.heap.size := by
   rcases Nat.lt_or_ge g w.heap.size with h | h
   ·exact h
   ·rw [Array.getElem?_eq_none h] at hh; cases hh
  exact .inr ⟨g, cap, cur, hv, hg, by rw [hk g hg hlt (by rw [hv]; rfl)]; exact hh, r⟩
theorem own_below {w' : World} (h : w.ownsRow base e size v n xs) (hb : Below w.heap.size w w') : w'.ownsRow base e size v n xs :=
 own_keep h fun g _ hlt _ => hb.block g hlt
end

/-- a slice of n elements that can be read: its cells, in blocks below B -/
def Rd (w : World) (B : Nat) (v : Value) (n : Nat) (xs : List Value) : Prop :=
 ∃ a cap, v = .slice a n cap ∧ n ≤ cap ∧ cap ≤ maxLen ∧ (0 < n → ∃ b o, a = some ⟨b, o, none⟩ ∧ b < B ∧ ∀ j u, xs[j]? = some u → w.cell? ⟨b, o + j, none⟩ = some u)
theorem Rd.keep {w w' : World} {B n : Nat} {v : Value} {xs : List Value} (h : Rd w B v n xs) (hb : Below B w w') : Rd w' B v n xs := by
 obtain ⟨a, cap, h1, h2, h3, h4⟩ := h
 refine ⟨a, cap, h1, h2, h3, fun hn => ?_⟩
 obtain ⟨b, o, e, hlt, hc⟩ := h4 hn
 exact ⟨b, o, e, hlt, fun j u hu => by rw [hb.cell (p := ⟨b, o + j, none⟩) hlt]; exact hc j u hu⟩
theorem Rd.more {w : World} {B B' n : Nat} {v : Value} {xs : List Value} (h : Rd w B v n xs) (hB : B ≤ B') : Rd w B' v n xs := by
 obtain ⟨a, cap, h1, h2, h3, h4⟩ := h
 refine ⟨a, cap, h1, h2, h3, fun hn => ?_⟩
 obtain ⟨b, o, e, hlt, hc⟩ := h4 hn
 exact ⟨b, o, e, by omega, hc⟩
/-- what a call owns can be read -/
theorem Rd.of_own {w : World} {base n : Nat} {e : TypeId} {size : Nat} {v : Value} {xs : List Value} (h : w.ownsRow base e size v n xs) : Rd w w.heap.size v n xs := by
 obtain ⟨h1, h2⟩ := h
 rcases h2 with ⟨rfl, rfl⟩ | ⟨g, cap, cur, rfl, hg, hh, hn, hm, hs, hx⟩
 ·exact ⟨none, 0, rfl, Nat.le_refl _, Nat.zero_le _, fun h => by omega⟩
 ·refine ⟨_, cap, rfl, hn, hm, fun _ => ⟨g, 0, rfl, ?_, fun j u hu => ?_⟩⟩
  ·rcases Nat.lt_or_ge g w.heap.size with h | h
   ·exact h
   ·rw [Array.getElem?_eq_none h] at hh; cases hh
  ·rw [← hx, List.getElem?_take] at hu
   split at hu
   ·simp only [World.cell?, hh]
    rw [if_neg (by simp), Nat.zero_add, ← Array.getElem?_toList]; exact hu
   ·cases hu
end Go.Proofs.YtcedmfnlkelhkaaGreatDoor
namespace Go.Proofs.YtcedmfnlkelhkaaGreatDoor
open Go.RowKit

/-- a slice of elements of sz cells each, in blocks below B -/
def SlA (w : World) (B sz : Nat) (v : Value) (xs : List (Array Value)) : Prop :=
 (∀ x ∈ xs, x.size = sz) ∧ ∃ a cap, v = .slice a xs.length cap ∧ xs.length ≤ cap ∧ cap ≤ maxLen ∧
  (0 < xs.length → ∃ b o, a = some ⟨b, o, none⟩ ∧ b < B ∧ ∀ i x, xs[i]? = some x → w.cut? b (o + i * sz) sz = some x)
theorem cut_of_heap {w w' : World} {b : Nat} (h : w'.heap[b]? = w.heap[b]?) (o sz : Nat) : w'.cut? b o sz = w.cut? b o sz := by
 unfold World.cut?; rw [h]
theorem cut_sub {w : World} {b o n i m : Nat} {c : Array Value} (h : w.cut? b o n = some c) (hi : i + m ≤ n) : w.cut? b (o + i) m = some (c.extract i (i + m)) := by
 unfold World.cut? at h ⊢
 split at h
 ·rename_i cs t fr hc
  split at h
  ·rename_i hle
   obtain rfl := Option.some.inj h
   rw [if_pos (by omega)]
   congr 1
   have hs : (cs.extract o (o + n)).size = n := by simp; omega
   apply Array.ext_getElem?
   intro j
   by_cases hj : j < m
   ·rw [Array.getElem?_extract, Array.getElem?_extract, hs, if_pos (by omega), if_pos (by omega), Array.getElem?_extract, if_pos (by omega)]
    congr 1; omega
   ·rw [Array.getElem?_eq_none (by simp; omega), Array.getElem?_eq_none (by simp; omega)]
  ·cases h
 ·cases h
theorem SlA.keep {w w' : World} {B sz : Nat} {v : Value} {xs : List (Array Value)} (h : SlA w B sz v xs) (hk : ∀ b, b < B → w'.heap[b]? = w.heap[b]?) : SlA w' B sz v xs := by
 obtain ⟨h0, a, cap, h1, h2, h3, h4⟩ := h
 refine ⟨h0, a, cap, h1, h2, h3, fun hn => ?_⟩
 obtain ⟨b, o, e, hlt, hc⟩ := h4 hn
 exact ⟨b, o, e, hlt, fun i x hx => by rw [cut_of_heap (hk b hlt)]; exact hc i x hx⟩
theorem SlA.below {w w' : World} {B sz : Nat} {v : Value} {xs : List (Array Value)} (h : SlA w B sz v xs) (hb : Below B w w') : SlA w' B sz v xs := h.keep hb.block
theorem SlA.more {w : World} {B B' sz : Nat} {v : Value} {xs : List (Array Value)} (h : SlA w B sz v xs) (hB : B ≤ B') : SlA w B' sz v xs := by
 obtain ⟨h0, a, cap, h1, h2, h3, h4⟩ := h
 refine ⟨h0, a, cap, h1, h2, h3, fun hn => ?_⟩
 obtain ⟨b, o, e, hlt, hc⟩ := h4 hn
 exact ⟨b, o, e, by omega, hc⟩
theorem SlA.nil (w : World) (B sz : Nat) : SlA w B sz (.slice none 0 0) [] :=
 ⟨fun x hx => by simp at hx, none, 0, rfl, Nat.le_refl _, Nat.zero_le _, fun h => by simp at h⟩

/-- the cells of some rows, one behind the other -/
def flatA (xs : List (Array Value)) : List Value := (xs.map (·.toList)).flatten
theorem flatA_append (xs ys : List (Array Value)) : flatA (xs ++ ys) = flatA xs ++ flatA ys := by simp [flatA]
theorem flatA_len {sz : Nat} : ∀ {xs : List (Array Value)}, (∀ x ∈ xs, x.size = sz) → (flatA xs).length = xs.length * sz
 | [], _ => by simp [flatA]
 | x :: xs, h => by
  have ih := flatA_len (fun y hy => h y (List.mem_cons_of_mem x hy))
  unfold flatA at ih ⊢
  rw [List.map_cons, List.flatten_cons, List.length_append, ih, List.length_cons, Array.length_toList, h x (by simp), Nat.succ_mul, Nat.add_comm]
theorem flatA_get {sz : Nat} : ∀ {xs : List (Array Value)}, (∀ x ∈ xs, x.size = sz) → ∀ (i : Nat) (x : Array Value), xs[i]? = some x → ∀ j, j < sz → (flatA xs)[i * sz + j]? = x[j]?
 | [], _, i, x, h, _, _ => by simp at h
 | y :: xs, h, 0, x, hx, j, hj => by
  simp at hx; subst hx
  have hs := h y (by simp)
  unfold flatA
  rw [List.map_cons, List.flatten_cons, Nat.zero_mul, Nat.zero_add, List.getElem?_append_left (by simp [hs, hj])]
  simp
 | y :: xs, h, i + 1, x, hx, j, hj => by
  have hs := h y (by simp)
  have ih := flatA_get (fun z hz => h z (List.mem_cons_of_mem y hz)) i x (by simpa using hx) j hj
  unfold flatA at ih ⊢
  rw [List.map_cons, List.flatten_cons, List.getElem?_append_right (by simp [hs, Nat.succ_mul]; omega), ← ih]
  congr 1
  simp [hs, Nat.succ_mul]; omega
/-- what a call owns can be read -/
theorem SlA.of_own {w : World} {base sz : Nat} {e : TypeId} {v : Value} {xs : List (Array Value)} (hs : ∀ x ∈ xs, x.size = sz) (h : w.ownsRow base e sz v xs.length (flatA xs)) : SlA w w.heap.size sz v xs := by
 obtain ⟨h1, h2⟩ := h
 refine ⟨hs, ?_⟩
 rcases h2 with ⟨rfl, hn⟩ | ⟨g, cap, cur, rfl, hg, hh, hn, hm, hsz, hx⟩
 ·refine ⟨none, 0, by rw [hn], by omega, Nat.zero_le _, fun h => by omega⟩
 ·have hlt : g < w.heap.size := by
   rcases Nat.lt_or_ge g w.heap.size with h | h
   ·exact h
   ·rw [Array.getElem?_eq_none h] at hh; cases hh
  refine ⟨_, cap, rfl, hn, hm, fun _ => ⟨g, 0, rfl, hlt, fun i x hi => ?_⟩⟩
  have hil : i < xs.length := (List.getElem?_eq_some_iff.1 hi).1
  have hfl := flatA_len hs
  have hle : i * sz + sz ≤ xs.length * sz := by rw [← Nat.succ_mul]; exact Nat.mul_le_mul_right _ hil
  have hcl : (flatA xs).length ≤ cur.size := by rw [← hx, List.length_take]; simp; omega
  unfold World.cut?
  simp only [hh, Nat.zero_add]
  rw [if_pos (by omega)]
  congr 1
  apply Array.ext_getElem?
  intro j
  have hxs : x.size = sz := hs x (List.mem_of_getElem? hi)
  by_cases hj : j < sz
  ·rw [Array.getElem?_extract, if_pos (by omega), ← flatA_get hs i x hi j hj, ← hx, List.getElem?_take, if_pos (by omega), Array.getElem?_toList]
  ·rw [Array.getElem?_eq_none (by rw [Array.size_extract]; omega), Array.getElem?_eq_none (by omega)]

/-- t is a slice type of elements e, of sz cells and so many bytes -/
def RowType (P : Program) (t e : TypeId) (sz bytes : Nat) : Prop :=
 P.underlying t = some (.slice e) ∧ (P.info? e).map (fun i => (i.size, i.bytes, i.zero.map (·.cells.size))) = some (sz, bytes, some sz) ∧ 0 < sz ∧ bytes ≤ 1000000
/-- a row that the call owns, from block B on -/
def OwnA (w : World) (B sz : Nat) (e : TypeId) (v : Value) (xs : List (Array Value)) : Prop := (∀ x ∈ xs, x.size = sz) ∧ w.ownsRow B e sz v xs.length (flatA xs)
theorem OwnA.nil (w : World) (B sz : Nat) (e : TypeId) : OwnA w B sz e (.slice none 0 0) [] := ⟨fun x hx => by simp at hx, World.ownsRow_nil _ _ _ _⟩
theorem OwnA.keep {w w' : World} {B sz : Nat} {e : TypeId} {v : Value} {xs : List (Array Value)} (h : OwnA w B sz e v xs) (hk : ∀ g, v.ownBlock = some g → g < w.heap.size → w'.heap[g]? = w.heap[g]?) : OwnA w' B sz e v xs :=
 ⟨h.1, own_keep h.2 fun g _ hlt hv => hk g hv hlt⟩
theorem OwnA.grow {w : World} {B sz : Nat} {e : TypeId} {v : Value} {xs : List (Array Value)} (h : OwnA w B sz e v xs) (ys : Array Obj) (d : Nat) : OwnA (w.grow ys d) B sz e v xs := h.keep fun _ _ hlt => World.grow_heap _ _ _ hlt
theorem OwnA.alloc {w : World} {B sz : Nat} {e : TypeId} {v : Value} {xs : List (Array Value)} (h : OwnA w B sz e v xs) (o : Obj) : OwnA (w.alloc o) B sz e v xs := h.keep fun _ _ hlt => heap_alloc_old (w := w) o hlt
theorem OwnA.drew {w : World} {B sz : Nat} {e : TypeId} {v : Value} {xs : List (Array Value)} (h : OwnA w B sz e v xs) : OwnA w.drew B sz e v xs := h
theorem OwnA.drewN {w : World} {B sz : Nat} {e : TypeId} {v : Value} {xs : List (Array Value)} (h : OwnA w B sz e v xs) (n : Nat) : OwnA (w.drewN n) B sz e v xs := h
theorem OwnA.below {w w' : World} {B sz : Nat} {e : TypeId} {v : Value} {xs : List (Array Value)} (h : OwnA w B sz e v xs) (hb : Below w.heap.size w w') : OwnA w' B sz e v xs := h.keep fun g _ hlt => hb.block g hlt
theorem OwnA.lt {w : World} {B sz : Nat} {e : TypeId} {v : Value} {xs : List (Array Value)} (h : OwnA w B sz e v xs) : ∀ g, v.ownBlock = some g → B ≤ g ∧ g < w.heap.size := by
 obtain ⟨_, _, h2⟩ := h
 intro g hg
 rcases h2 with ⟨rfl, _⟩ | ⟨g', cap, cur, rfl, hb, hh, _⟩
 ·cases hg
 ·simp only [Value.ownBlock, Option.some.injEq] at hg
  subst hg
  exact ⟨hb, (Array.getElem?_eq_some_iff.1 hh).1⟩
theorem OwnA.sl {w : World} {B sz : Nat} {e : TypeId} {v : Value} {xs : List (Array Value)} (h : OwnA w B sz e v xs) : SlA w w.heap.size sz v xs := SlA.of_own h.1 h.2
/-- the length, whatever it is -/
theorem OwnA.form {w : World} {B sz : Nat} {e : TypeId} {v : Value} {xs : List (Array Value)} (h : OwnA w B sz e v xs) : ∃ a cap, v = .slice a xs.length cap ∧ cap ≤ maxLen ∧ xs.length ≤ cap := by
 obtain ⟨_, a, cap, h1, h2, h3, _⟩ := h.sl
 exact ⟨a, cap, h1, h3, h2⟩

section
variable {P : Program} {w : World} {B sz bytes : Nat} {t e ty : TypeId} {v : Value} {xs : List (Array Value)}
/-- 'append(v, ys...)': the row owns the new ones too; where it lies; what else has turned -/
theorem append_run (R : RowType P t e sz bytes) (h : OwnA w B sz e v xs) {B2 : Nat} {y : Value} {ys : List (Array Value)} (hy : SlA w B2 sz y ys) (h1 : ∀ x ∈ ys, allOne x = true) (hn : xs.length + ys.length ≤ 100000) (hB : B ≤ w.heap.size) :
  ∃ v' w', (Builtin.append_ #[t, t] ty #[v, y]).run P w = .ok v' w' ∧ OwnA w' B sz e v' (xs ++ ys) ∧ w.grownBy w' v.ownBlock ∧ (v'.ownBlock = v.ownBlock ∨ v'.ownBlock = some w.heap.size) := by
 obtain ⟨ht, hi, hsz, hby⟩ := R
 cases hq : P.info? e with
 | none => simp [hq] at hi
 | some i =>
  simp only [hq, Option.map_some, Option.some.injEq, Prod.mk.injEq, Option.map_eq_some_iff] at hi
  obtain ⟨hi1, hi2, z, hz, hz2⟩ := hi
  obtain ⟨hys, a, cap, rfl, hc1, hc2, hc3⟩ := hy
  have hsize : ∀ x ∈ xs ++ ys, x.size = sz := by
   intro x hx
   rcases List.mem_append.1 hx with hx | hx
   ·exact h.1 x hx
   ·exact hys x hx
  have hbytes : (xs.length + ys.length) * bytes ≤ 140737488355328 := Nat.le_trans (Nat.mul_le_mul hn hby) (by decide)
  have hml : xs.length + ys.length ≤ maxLen := by unfold maxLen; omega
  have fin : ∀ (ad : Addr), (∀ j u, (flatA ys)[j]? = some u → w.cell? (ad.add j) = some u) → (cap' : Nat) → ∃ v' w', (Builtin.append_ #[t, t] ty #[v, .slice (some ad) ys.length cap']).run P w = .ok v' w' ∧ OwnA w' B sz e v' (xs ++ ys) ∧ w.grownBy w' v.ownBlock ∧ (v'.ownBlock = v.ownBlock ∨ v'.ownBlock = some w.heap.size) := by
   intro ad hcell cap'
   obtain ⟨v', w', hr, h2, h3, _, h5⟩ := run_append_own_at (P := P) w B t ty e i z sz bytes ht hq hz hi1 hi2 hz2 hsz v xs.length (flatA xs) h.2 ad ys.length cap' (flatA ys) (flatA_len hys) hcell (fun u hu => by
    unfold flatA at hu
    rw [List.mem_flatten] at hu
    obtain ⟨l, hl, hul⟩ := hu
    obtain ⟨x, hx, rfl⟩ := List.mem_map.1 hl
    have := h1 x hx
    unfold allOne at this
    exact (Array.all_eq_true_iff_forall_mem.1 this) u (by simpa using hul)) hml hbytes hB
   exact ⟨v', w', hr, ⟨hsize, by rw [List.length_append, flatA_append]; exact h2⟩, h3, h5⟩
  rcases Nat.eq_zero_or_pos ys.length with h0 | h0
  ·have hnil : ys = [] := List.eq_nil_of_length_eq_zero h0
   subst hnil
   cases a with
   | none =>
    refine ⟨v, w, ?_, by simpa using h, World.grownBy.refl w _, .inl rfl⟩
    rcases h.2.2 with ⟨rfl, hn0⟩ | ⟨g, cap', cur, rfl, _, _, hnc, _⟩
    ·simp [Builtin.append_, run_underlying ht, sizeOf, typeInfo, hq, Builtin.lenOf, Builtin.firstCells]
    ·simp [Builtin.append_, run_underlying ht, sizeOf, typeInfo, hq, Builtin.lenOf, Builtin.firstCells, hnc, storeCells]
   | some ad => exact fin ad (fun j u hu => by simp [flatA] at hu) cap
  ·obtain ⟨b, o, rfl, hlt, hcut⟩ := hc3 h0
   refine fin ⟨b, o, none⟩ (fun j u hu => ?_) cap
   rw [addr_add]
   have hjl : j < ys.length * sz := by rw [← flatA_len hys]; exact (List.getElem?_eq_some_iff.1 hu).1
   have hq1 : j / sz < ys.length := Nat.div_lt_of_lt_mul (by rw [Nat.mul_comm]; exact hjl)
   have hx := List.getElem?_eq_getElem hq1
   have hr := Nat.mod_lt j hsz
   have hdm : j / sz * sz + j % sz = j := by rw [Nat.mul_comm]; exact Nat.div_add_mod j sz
   have h2 := flatA_get hys _ _ hx _ hr
   rw [hdm, hu] at h2
   have := (cut_spec (hcut _ _ hx)).2 _ hr
   rw [Nat.add_assoc, hdm, ← h2] at this
   exact this
theorem wpList_append {ops : Array Oper} {rest : List Oper} {o : Oper} {a : Act} {Q : Exit → Act → World → Prop} (R : RowType P t e sz bytes) (hgd : o.guard = none) (s x : Operand)
  (ho : o.op = .call { callee := .builtin .append, args := #[s, x], argTypes := #[t, t] }) (hs : a.eval s = v) (h : OwnA w B sz e v xs) {y : Value} {ys : List (Array Value)} (hx : a.eval x = y) (hy : ∃ B2, SlA w B2 sz y ys)
  (h1 : ∀ x ∈ ys, allOne x = true) (hn : xs.length + ys.length ≤ 100000) (hB : B ≤ w.heap.size)
  (hK : ∀ v' w', OwnA w' B sz e v' (xs ++ ys) → w.grownBy w' v.ownBlock → (v'.ownBlock = v.ownBlock ∨ v'.ownBlock = some w.heap.size) → wpList P ops Q rest (a.put o.dst v') w') : wpList P ops Q (o :: rest) a w := by
 refine wpList_plain hgd fun K' hK' => ?_
 obtain ⟨B2, hy⟩ := hy
 obtain ⟨v', w', hr, h2, h3, h4⟩ := append_run (ty := o.type) R h hy h1 hn hB
 unfold Oper.wp execOp
 simp only [ho, resolve, invoke, builtin, Sem.run_bind, Sem.run_pure, Result.andThen_ok, List.map_toArray, List.map_cons, List.map_nil, hs, hx, hr]
 exact hK' _ _ (hK v' w' h2 h3 h4)
end
/-- one element in a block of its own -/
theorem sl_one {w : World} {b o c sz : Nat} {y : Array Value} (hc : 1 ≤ c) (hm : c ≤ maxLen) (h : w.cut? b o sz = some y) : SlA w (b + 1) sz (.slice (some ⟨b, o, none⟩) 1 c) [y] := by
 refine ⟨fun x hx => ?_, _, c, rfl, hc, hm, fun _ => ⟨b, o, rfl, by omega, fun i x hx => ?_⟩⟩
 ·simp at hx; subst hx; exact (cut_spec h).1
 ·match i, hx with
  | 0, hx => simp at hx; subst hx; simpa using h

theorem step_append {P : Program} {w : World} {B sz bytes : Nat} {t e : TypeId} {v : Value} {xs : List (Array Value)} {ops : Array Oper} {o : Oper} {a : Act} {K : Act → World → Prop} {Q : Exit → Act → World → Prop} {E : Prop} (R : RowType P t e sz bytes) (hgd : o.guard = none) (s x : Operand)
  (ho : o.op = .call { callee := .builtin .append, args := #[s, x], argTypes := #[t, t] }) (hs : a.eval s = v) (h : OwnA w B sz e v xs) {y : Value} {ys : List (Array Value)} (hx : a.eval x = y) (hy : ∃ B2, SlA w B2 sz y ys)
  (h1 : ∀ x ∈ ys, allOne x = true) (hn : xs.length + ys.length ≤ 100000) (hB : B ≤ w.heap.size)
  (hK : ∀ v' w', OwnA w' B sz e v' (xs ++ ys) → w.grownBy w' v.ownBlock → (v'.ownBlock = v.ownBlock ∨ v'.ownBlock = some w.heap.size) → K (a.put o.dst v') w') :
  if Region.wanted o (yielded ops a.tmps) = true then Oper.wp P o a w K Q else E := by
 rw [if_pos (by simp [Region.wanted, hgd])]
 obtain ⟨B2, hy⟩ := hy
 obtain ⟨v', w', hr, h2, h3, h4⟩ := append_run (ty := o.type) R h hy h1 hn hB
 unfold Oper.wp execOp
 simp only [ho, resolve, invoke, builtin, Sem.run_bind, Sem.run_pure, Result.andThen_ok, List.map_toArray, List.map_cons, List.map_nil, hs, hx, hr]
 exact hK v' w' h2 h3 h4
/-- parts of a slice -/
theorem SlA.form {w : World} {B sz : Nat} {v : Value} {xs : List (Array Value)} (h : SlA w B sz v xs) : ∃ a cap, v = .slice a xs.length cap ∧ xs.length ≤ cap ∧ cap ≤ maxLen := by
 obtain ⟨_, a, cap, h1, h2, h3, _⟩ := h
 exact ⟨a, cap, h1, h2, h3⟩
theorem SlA.take {w : World} {B sz cap n : Nat} {a : Option Addr} {xs : List (Array Value)} (h : SlA w B sz (.slice a xs.length cap) xs) (hn : n ≤ xs.length) : SlA w B sz (.slice a n cap) (xs.take n) := by
 obtain ⟨h0, a', cap', h1, h2, h3, h4⟩ := h
 simp only [Value.slice.injEq, true_and] at h1
 obtain ⟨rfl, rfl⟩ := h1
 have hl : (xs.take n).length = n := by simp; omega
 refine ⟨fun x hx => h0 x (List.mem_of_mem_take hx), a, cap, by rw [hl], by omega, h3, fun hp => ?_⟩
 obtain ⟨b, o, e, hlt, hc⟩ := h4 (by omega)
 refine ⟨b, o, e, hlt, fun i x hx => hc i x ?_⟩
 rw [List.getElem?_take] at hx
 split at hx
 ·exact hx
 ·cases hx
theorem own_empty {w : World} {B g sz : Nat} {e : TypeId} (h : w.heap[g]? = some (.cells #[] e)) (hB : B ≤ g) : OwnA w B sz e (.slice (some ⟨g, 0, none⟩) 0 0) [] :=
 ⟨fun x hx => by simp at hx, by simp [flatA], .inr ⟨g, 0, #[], rfl, hB, h, Nat.le_refl _, Nat.zero_le _, by simp, by simp [flatA]⟩⟩
theorem SlA.drop {w : World} {B sz cap n : Nat} {a : Option Addr} {xs : List (Array Value)} (h : SlA w B sz (.slice a xs.length cap) xs) (hn : n ≤ xs.length) :
  SlA w B sz (.slice (if cap = n then a else a.map fun x => x.add (n * sz)) (xs.length - n) (cap - n)) (xs.drop n) := by
 obtain ⟨h0, a', cap', h1, h2, h3, h4⟩ := h
 simp only [Value.slice.injEq, true_and] at h1
 obtain ⟨rfl, rfl⟩ := h1
 have hl : (xs.drop n).length = xs.length - n := by simp
 refine ⟨fun x hx => h0 x (List.mem_of_mem_drop hx), _, cap - n, by rw [hl], by omega, by omega, fun hp => ?_⟩
 obtain ⟨b, o, e, hlt, hc⟩ := h4 (by omega)
 subst e
 have hne : ¬ cap = n := by omega
 rw [if_neg hne]
 refine ⟨b, o + n * sz, by simp [addr_add], hlt, fun i x hx => ?_⟩
 rw [List.getElem?_drop] at hx
 have := hc (n + i) x hx
 rwa [show o + (n + i) * sz = o + n * sz + i * sz by rw [Nat.add_mul]; omega] at this
theorem heap_al (w : World) (o : Obj) (n : Nat) : (w.alloc o).heap[n]? = if n = w.heap.size then some o else w.heap[n]? := by
 show (w.heap.push o)[n]? = _
 rw [Array.getElem?_push]
theorem SlA.alloc {w : World} {B sz : Nat} {v : Value} {xs : List (Array Value)} (h : SlA w B sz v xs) (o : Obj) (hB : B ≤ w.heap.size) : SlA (w.alloc o) B sz v xs := h.keep fun b hb => heap_alloc_old (w := w) o (by omega)
theorem SlA.grow {w : World} {B sz : Nat} {v : Value} {xs : List (Array Value)} (h : SlA w B sz v xs) (ys : Array Obj) (d : Nat) (hB : B ≤ w.heap.size) : SlA (w.grow ys d) B sz v xs := h.keep fun b hb => World.grow_heap _ _ _ (by omega)
theorem cut_heap {w : World} {b sz : Nat} {c : Array Value} {t : TypeId} (h : w.heap[b]? = some (.cells c t)) (hs : c.size = sz) : w.cut? b 0 sz = some c := by
 unfold World.cut?
 simp only [h]
 rw [if_pos (by omega)]
 congr 1
 apply Array.extract_eq_self_of_le; omega
end Go.Proofs.YtcedmfnlkelhkaaGreatDoor
namespace Go.Proofs.YtcedmfnlkelhkaaGreatDoor
open Go.RowKit

/-- a key: 25 bytes -/
def K25 := { l : List UInt8 // l.length = 25 }
instance : DecidableEq K25 := inferInstanceAs (DecidableEq { l : List UInt8 // l.length = 25 })
@[go_sem, simp] theorem K25.len (k : K25) : k.val.length = 25 := k.property
/-- a text that may be -/
def Txt := { l : List UInt8 // l.length ≤ maxLen }
instance : DecidableEq Txt := inferInstanceAs (DecidableEq { l : List UInt8 // l.length ≤ maxLen })
def Txt.nil : Txt := ⟨[], Nat.zero_le _⟩
structure Rec where
 kind : UInt8
 state : UInt8
 user : UInt8
 parent : UInt8
 mask : UInt8
 gone : Bool
 rev : UInt32
 at_ : UInt64
 text : Txt
instance : DecidableEq Rec := fun a b =>
 if h : a.kind = b.kind ∧ a.state = b.state ∧ a.user = b.user ∧ a.parent = b.parent ∧ a.mask = b.mask ∧ a.gone = b.gone ∧ a.rev = b.rev ∧ a.at_ = b.at_ ∧ a.text = b.text then
  .isTrue (by obtain ⟨h0, h1, h2, h3, h4, h5, h6, h7, h8⟩ := h; cases a; cases b; simp only at *; subst h0 h1 h2 h3 h4 h5 h6 h7 h8; rfl)
 else .isFalse (by rintro rfl; exact h ⟨rfl, rfl, rfl, rfl, rfl, rfl, rfl, rfl, rfl⟩)
def Rec.zero : Rec := ⟨0, 0, 0, 0, 0, false, 0, 0, Txt.nil⟩
structure Cell where
 is_ : Bool
 r : Rec
instance : DecidableEq Cell := fun a b =>
 if h : a.is_ = b.is_ ∧ a.r = b.r then .isTrue (by obtain ⟨h0, h1⟩ := h; cases a; cases b; simp only at *; subst h0 h1; rfl)
 else .isFalse (by rintro rfl; exact h ⟨rfl, rfl⟩)
def Cell.zero : Cell := ⟨false, Rec.zero⟩
structure Ent where
 k : K25
 r : Rec
instance : DecidableEq Ent := fun a b =>
 if h : a.k = b.k ∧ a.r = b.r then .isTrue (by obtain ⟨h0, h1⟩ := h; cases a; cases b; simp only at *; subst h0 h1; rfl)
 else .isFalse (by rintro rfl; exact h ⟨rfl, rfl⟩)
structure Wr where
 k : K25
 dead : Bool
 r : Rec
instance : DecidableEq Wr := fun a b =>
 if h : a.k = b.k ∧ a.dead = b.dead ∧ a.r = b.r then .isTrue (by obtain ⟨h0, h1, h2⟩ := h; cases a; cases b; simp only at *; subst h0 h1 h2; rfl)
 else .isFalse (by rintro rfl; exact h ⟨rfl, rfl, rfl⟩)

/-! the cells: of the program, of the document -/
def recL (r : Rec) : List Value := [.int .u8 r.kind.toNat, .int .u8 r.state.toNat, .int .u8 r.user.toNat, .int .u8 r.parent.toNat, .int .u8 r.mask.toNat, .bool r.gone, .int .u32 r.rev.toNat, .int .u64 r.at_.toNat, .string (bs r.text.val)]
def recDL (r : Rec) : List Value := [.int .i64 r.kind.toNat, .int .i64 r.state.toNat, .int .i64 r.user.toNat, .int .i64 r.parent.toNat, .int .i64 r.mask.toNat, .bool r.gone, .int .u64 r.rev.toNat, .int .u64 r.at_.toNat, .string (bs r.text.val)]
def keyL (k : K25) : List Value := k.val.map fun b => .int .u8 (b.toNat : Int)
def keyDL (k : K25) : List Value := .int .i64 ((byt k.val 0).toNat) :: .int .i64 ((byt k.val 1).toNat) :: .int .i64 ((byt k.val 2).toNat) :: (k.val.drop 3).map fun b => .int .u8 (b.toNat : Int)
def recA (r : Rec) : Array Value := (recL r).toArray
def recD (r : Rec) : Array Value := (recDL r).toArray
def cellA (c : Cell) : Array Value := (.bool c.is_ :: recL c.r).toArray
def cellD (c : Cell) : Array Value := (.bool c.is_ :: recDL c.r).toArray
def entA (e : Ent) : Array Value := (keyL e.k ++ recL e.r).toArray
def entD (e : Ent) : Array Value := (keyDL e.k ++ recDL e.r).toArray
def wrtA (x : Wr) : Array Value := (keyL x.k ++ .bool x.dead :: recL x.r).toArray
def wrtD (x : Wr) : Array Value := (keyDL x.k ++ .bool x.dead :: recDL x.r).toArray
theorem keyL_len (k : K25) : (keyL k).length = 25 := by simp [keyL]
theorem keyDL_len (k : K25) : (keyDL k).length = 25 := by simp [keyDL]
theorem recL_len (r : Rec) : (recL r).length = 9 := rfl
theorem recDL_len (r : Rec) : (recDL r).length = 9 := rfl
@[go_sem, simp] theorem recA_size (r : Rec) : (recA r).size = 9 := id rfl
@[go_sem, simp] theorem recD_size (r : Rec) : (recD r).size = 9 := id rfl
@[go_sem, simp] theorem cellA_size (c : Cell) : (cellA c).size = 10 := id rfl
@[go_sem, simp] theorem cellD_size (c : Cell) : (cellD c).size = 10 := id rfl
@[go_sem, simp] theorem entA_size (e : Ent) : (entA e).size = 34 := by simp [entA, keyL_len, recL_len]
@[go_sem, simp] theorem entD_size (e : Ent) : (entD e).size = 34 := by simp [entD, keyDL_len, recDL_len]
@[go_sem, simp] theorem wrtA_size (x : Wr) : (wrtA x).size = 35 := by simp [wrtA, keyL_len, recL_len]
@[go_sem, simp] theorem wrtD_size (x : Wr) : (wrtD x).size = 35 := by simp [wrtD, keyDL_len, recDL_len]

/-! every value takes one cell -/
theorem one_keyL (k : K25) : ∀ v ∈ keyL k, v.oneCell' = true := by intro v hv; unfold keyL at hv; obtain ⟨b, _, rfl⟩ := List.mem_map.1 hv; rfl
theorem one_keyDL (k : K25) : ∀ v ∈ keyDL k, v.oneCell' = true := by
 intro v hv
 unfold keyDL at hv
 simp only [List.mem_cons] at hv
 rcases hv with rfl | rfl | rfl | hv
 ·rfl
 ·rfl
 ·rfl
 ·obtain ⟨b, _, rfl⟩ := List.mem_map.1 hv; rfl
theorem one_recL (r : Rec) : ∀ v ∈ recL r, v.oneCell' = true := by
 intro v hv
 simp only [recL, List.mem_cons, List.not_mem_nil, or_false] at hv
 rcases hv with rfl | rfl | rfl | rfl | rfl | rfl | rfl | rfl | rfl <;> rfl
theorem one_recDL (r : Rec) : ∀ v ∈ recDL r, v.oneCell' = true := by
 intro v hv
 simp only [recDL, List.mem_cons, List.not_mem_nil, or_false] at hv
 rcases hv with rfl | rfl | rfl | rfl | rfl | rfl | rfl | rfl | rfl <;> rfl
theorem allOne_list {l : List Value} (h : ∀ v ∈ l, v.oneCell' = true) : allOne l.toArray = true := by
 unfold allOne; rw [Array.all_eq_true_iff_forall_mem]; intro v hv; exact h v (by simpa using hv)
@[go_sem] theorem one_recA (r : Rec) : allOne (recA r) = true := allOne_list (one_recL r)
@[go_sem] theorem one_recD (r : Rec) : allOne (recD r) = true := allOne_list (one_recDL r)
@[go_sem] theorem one_cellA (c : Cell) : allOne (cellA c) = true := allOne_list (by intro v hv; rcases List.mem_cons.1 hv with rfl | hv; rfl; exact one_recL _ v hv)
@[go_sem] theorem one_cellD (c : Cell) : allOne (cellD c) = true := allOne_list (by intro v hv; rcases List.mem_cons.1 hv with rfl | hv; rfl; exact one_recDL _ v hv)
@[go_sem] theorem one_entA (e : Ent) : allOne (entA e) = true := allOne_list (by intro v hv; rcases List.mem_append.1 hv with hv | hv; exact one_keyL _ v hv; exact one_recL _ v hv)
@[go_sem] theorem one_entD (e : Ent) : allOne (entD e) = true := allOne_list (by intro v hv; rcases List.mem_append.1 hv with hv | hv; exact one_keyDL _ v hv; exact one_recDL _ v hv)
@[go_sem] theorem one_wrtA (x : Wr) : allOne (wrtA x) = true := allOne_list (by intro v hv; rcases List.mem_append.1 hv with hv | hv; exact one_keyL _ v hv; rcases List.mem_cons.1 hv with rfl | hv; rfl; exact one_recL _ v hv)
@[go_sem] theorem one_wrtD (x : Wr) : allOne (wrtD x) = true := allOne_list (by intro v hv; rcases List.mem_append.1 hv with hv | hv; exact one_keyDL _ v hv; rcases List.mem_cons.1 hv with rfl | hv; rfl; exact one_recDL _ v hv)
/-- a store of a whole row whose values take one cell each -/
@[go_sem] theorem run_rowStore_one {P : Program} {w : World} {t : TypeId} {n o : Nat} {vs : Array Value} (h1 : allOne vs = true) (ht : P.aggSize t = some vs.size) (hc : w.there? n o vs.size = true) :
  (rowStore t ⟨n, o, none⟩ (.agg vs)).run P w = .ok () (w.lay n o vs) := run_rowStore ht hc h1

/-! parts -/
theorem ext_list (l m : List Value) (n : Nat) (h : m.length = n) : ((m ++ l).toArray).extract n (n + l.length) = l.toArray := by
 apply Array.ext'
 simp [List.extract_eq_take_drop, ← h]
theorem ext_front (l m : List Value) (n : Nat) (h : m.length = n) : ((m ++ l).toArray).extract 0 n = m.toArray := by
 apply Array.ext'
 simp [List.extract_eq_take_drop, ← h]
theorem keyL_row (k : K25) : (keyL k).toArray = row8 k.val := rfl
@[go_sem] theorem entA_key (e : Ent) : (entA e).extract 0 25 = row8 e.k.val := ext_front _ _ 25 (keyL_len _)
@[go_sem] theorem entA_rec (e : Ent) : (entA e).extract 25 34 = recA e.r := ext_list _ _ 25 (keyL_len _)
@[go_sem] theorem entA_all (e : Ent) : (entA e).extract 0 34 = entA e := by apply Array.extract_eq_self_of_le; simp
@[go_sem] theorem recA_all (r : Rec) : (recA r).extract 0 9 = recA r := by apply Array.extract_eq_self_of_le; simp
@[go_sem] theorem cellA_all (c : Cell) : (cellA c).extract 0 10 = cellA c := by apply Array.extract_eq_self_of_le; simp
@[go_sem] theorem cellA_rec (c : Cell) : (cellA c).extract 1 10 = recA c.r := ext_list (recL c.r) [.bool c.is_] 1 rfl
@[go_sem] theorem cellA_0 (c : Cell) : (cellA c)[0]? = some (.bool c.is_) := id rfl
@[go_sem, simp] theorem cellA_0E (c : Cell) (h : 0 < (cellA c).size) : (cellA c)[0]'h = .bool c.is_ := id rfl
@[go_sem] theorem wrtA_all (x : Wr) : (wrtA x).extract 0 35 = wrtA x := by apply Array.extract_eq_self_of_le; simp
@[go_sem] theorem wrtA_key (x : Wr) : (wrtA x).extract 0 25 = row8 x.k.val := ext_front _ _ 25 (keyL_len _)
@[go_sem] theorem wrtA_rec (x : Wr) : (wrtA x).extract 26 35 = recA x.r := by
 have := ext_list (recL x.r) (keyL x.k ++ [.bool x.dead]) 26 (by simp [keyL_len])
 rw [List.append_assoc] at this; exact this
@[go_sem] theorem wrtA_25 (x : Wr) : (wrtA x)[25]? = some (.bool x.dead) := by
 unfold wrtA
 rw [List.getElem?_toArray, List.getElem?_append_right (by simp [keyL_len])]; simp [keyL_len]
@[go_sem, simp] theorem wrtA_25E (x : Wr) (h : 25 < (wrtA x).size) : (wrtA x)[25]'h = .bool x.dead := by
 have := wrtA_25 x
 rw [Array.getElem?_eq_getElem h] at this
 exact Option.some.inj this
@[go_sem] theorem entA_33 (e : Ent) : (entA e)[33]? = some (.string (bs e.r.text.val)) := by
 unfold entA
 rw [List.getElem?_toArray, List.getElem?_append_right (by simp [keyL_len])]; simp [keyL_len, recL]
@[go_sem, simp] theorem entA_33E (e : Ent) (h : 33 < (entA e).size) : (entA e)[33]'h = .string (bs e.r.text.val) := by
 have := entA_33 e
 rw [Array.getElem?_eq_getElem h] at this
 exact Option.some.inj this
/-! equality -/
theorem FitAll.cons {k : TypeDesc} {v : Value} {l : Lit} {ks : List TypeDesc} {vs : List Value} {ls : List Lit} (h : fits k v l) (hs : FitAll ks vs ls) : FitAll (k :: ks) (v :: vs) (l :: ls) := by
 refine ⟨by simp [hs.c], by simp [hs.l], fun i q u m h1 h2 h3 => ?_⟩
 cases i with
 | zero => simp at h1 h2 h3; subst h1 h2 h3; exact h
 | succ i => exact hs.at_ i q u m (by simpa using h1) (by simpa using h2) (by simpa using h3)
theorem FitAll.nil : FitAll [] [] [] := ⟨rfl, rfl, fun i _ _ _ h => by simp at h⟩
theorem FitAll.append {ks ks' : List TypeDesc} {vs vs' : List Value} {ls ls' : List Lit} (h : FitAll ks vs ls) (h' : FitAll ks' vs' ls') : FitAll (ks ++ ks') (vs ++ vs') (ls ++ ls') := by
 refine ⟨by simp [h.c, h'.c], by simp [h.l, h'.l], fun i q u m h1 h2 h3 => ?_⟩
 by_cases hi : i < ks.length
 ·rw [List.getElem?_append_left hi] at h1
  rw [List.getElem?_append_left (by rw [h.c]; exact hi)] at h2
  rw [List.getElem?_append_left (by rw [h.l]; exact hi)] at h3
  exact h.at_ i q u m h1 h2 h3
 ·rw [List.getElem?_append_right (by omega)] at h1
  rw [List.getElem?_append_right (by rw [h.c]; omega), h.c] at h2
  rw [List.getElem?_append_right (by rw [h.l]; omega), h.l] at h3
  exact h'.at_ _ q u m h1 h2 h3
theorem fit_u8 (b : UInt8) : fits (.int .u8) (.int .u8 b.toNat) (.int .u8 b.toNat) := by
 refine ⟨rfl, rfl, rfl, ?_⟩
 have := b.toNat_lt
 have e1 : IntKind.u8.min = 0 := rfl
 have e2 : IntKind.u8.max = 255 := rfl
 simp only [Lit.wf, e1, e2, Bool.and_eq_true, decide_eq_true_eq]
 omega
theorem fit_u8i (b : UInt8) : fits (.int .i64) (.int .i64 b.toNat) (.int .i64 b.toNat) := by
 refine ⟨rfl, rfl, rfl, ?_⟩
 have := b.toNat_lt
 have e1 : IntKind.i64.min = -9223372036854775808 := rfl
 have e2 : IntKind.i64.max = 9223372036854775807 := rfl
 simp only [Lit.wf, e1, e2, Bool.and_eq_true, decide_eq_true_eq]
 omega
theorem fit_u32 (b : UInt32) : fits (.int .u32) (.int .u32 b.toNat) (.int .u32 b.toNat) := by
 refine ⟨rfl, rfl, rfl, ?_⟩
 have := b.toNat_lt
 have e1 : IntKind.u32.min = 0 := rfl
 have e2 : IntKind.u32.max = 4294967295 := rfl
 simp only [Lit.wf, e1, e2, Bool.and_eq_true, decide_eq_true_eq]
 omega
theorem fit_u32L (b : UInt32) : fits (.int .u64) (.int .u64 b.toNat) (.int .u64 b.toNat) := by
 refine ⟨rfl, rfl, rfl, ?_⟩
 have := b.toNat_lt
 have e1 : IntKind.u64.min = 0 := rfl
 have e2 : IntKind.u64.max = 18446744073709551615 := rfl
 simp only [Lit.wf, e1, e2, Bool.and_eq_true, decide_eq_true_eq]
 omega
theorem fit_u64 (b : UInt64) : fits (.int .u64) (.int .u64 b.toNat) (.int .u64 b.toNat) := by
 refine ⟨rfl, rfl, rfl, ?_⟩
 have := b.toNat_lt
 have e1 : IntKind.u64.min = 0 := rfl
 have e2 : IntKind.u64.max = 18446744073709551615 := rfl
 simp only [Lit.wf, e1, e2, Bool.and_eq_true, decide_eq_true_eq]
 omega
theorem fit_str (t : Txt) : fits .string (.string (bs t.val)) (.string t.val) := by
 refine ⟨by simp [bs], ?_⟩
 rw [bs_size]; exact t.property
def recKs : List TypeDesc := [.int .u8, .int .u8, .int .u8, .int .u8, .int .u8, .bool, .int .u32, .int .u64, .string]
def recLs (r : Rec) : List Lit := [.int .u8 r.kind.toNat, .int .u8 r.state.toNat, .int .u8 r.user.toNat, .int .u8 r.parent.toNat, .int .u8 r.mask.toNat, .bool r.gone, .int .u32 r.rev.toNat, .int .u64 r.at_.toNat, .string r.text.val]
def recDKs : List TypeDesc := [.int .i64, .int .i64, .int .i64, .int .i64, .int .i64, .bool, .int .u64, .int .u64, .string]
def recDLs (r : Rec) : List Lit := [.int .i64 r.kind.toNat, .int .i64 r.state.toNat, .int .i64 r.user.toNat, .int .i64 r.parent.toNat, .int .i64 r.mask.toNat, .bool r.gone, .int .u64 r.rev.toNat, .int .u64 r.at_.toNat, .string r.text.val]
theorem rec_fit (r : Rec) : FitAll recKs (recL r) (recLs r) :=
 .cons (fit_u8 _) (.cons (fit_u8 _) (.cons (fit_u8 _) (.cons (fit_u8 _) (.cons (fit_u8 _) (.cons (show fits .bool _ _ from rfl) (.cons (fit_u32 _) (.cons (fit_u64 _) (.cons (fit_str _) .nil))))))))
theorem recD_fit (r : Rec) : FitAll recDKs (recDL r) (recDLs r) :=
 .cons (fit_u8i _) (.cons (fit_u8i _) (.cons (fit_u8i _) (.cons (fit_u8i _) (.cons (fit_u8i _) (.cons (show fits .bool _ _ from rfl) (.cons (fit_u32L _) (.cons (fit_u64 _) (.cons (fit_str _) .nil))))))))
def keyLs (k : K25) : List Lit := byteLits k.val
def keyDKs : List TypeDesc := .int .i64 :: .int .i64 :: .int .i64 :: byteKinds 22
def keyDLs (k : K25) : List Lit := .int .i64 (byt k.val 0).toNat :: .int .i64 (byt k.val 1).toNat :: .int .i64 (byt k.val 2).toNat :: byteLits (k.val.drop 3)
theorem key_fit (k : K25) : FitAll (byteKinds 25) (keyL k) (keyLs k) := by
 have := row8_fit k.val
 rw [K25.len] at this
 exact this
theorem keyD_fit (k : K25) : FitAll keyDKs (keyDL k) (keyDLs k) := by
 have := row8_fit (k.val.drop 3)
 rw [List.length_drop, K25.len] at this
 exact .cons (fit_u8i _) (.cons (fit_u8i _) (.cons (fit_u8i _) this))
theorem u8_inj {a b : UInt8} (h : (a.toNat : Int) = b.toNat) : a = b := UInt8.toNat_inj.1 (by omega)
theorem rec_inj {a b : Rec} (h : recLs a = recLs b) : a = b := by
 obtain ⟨a0, a1, a2, a3, a4, a5, a6, a7, ⟨a8, _⟩⟩ := a
 obtain ⟨b0, b1, b2, b3, b4, b5, b6, b7, ⟨b8, _⟩⟩ := b
 simp only [recLs, List.cons.injEq, Lit.int.injEq, Lit.bool.injEq, Lit.string.injEq, true_and, and_true] at h
 obtain ⟨h0, h1, h2, h3, h4, h5, h6, h7, h8⟩ := h
 obtain rfl := u8_inj h0; obtain rfl := u8_inj h1; obtain rfl := u8_inj h2; obtain rfl := u8_inj h3; obtain rfl := u8_inj h4
 obtain rfl : a6 = b6 := UInt32.toNat_inj.1 (by omega)
 obtain rfl : a7 = b7 := UInt64.toNat_inj.1 (by omega)
 subst h5 h8; rfl
theorem recD_inj {a b : Rec} (h : recDLs a = recDLs b) : a = b := by
 obtain ⟨a0, a1, a2, a3, a4, a5, a6, a7, ⟨a8, _⟩⟩ := a
 obtain ⟨b0, b1, b2, b3, b4, b5, b6, b7, ⟨b8, _⟩⟩ := b
 simp only [recDLs, List.cons.injEq, Lit.int.injEq, Lit.bool.injEq, Lit.string.injEq, true_and, and_true] at h
 obtain ⟨h0, h1, h2, h3, h4, h5, h6, h7, h8⟩ := h
 obtain rfl := u8_inj h0; obtain rfl := u8_inj h1; obtain rfl := u8_inj h2; obtain rfl := u8_inj h3; obtain rfl := u8_inj h4
 obtain rfl : a6 = b6 := UInt32.toNat_inj.1 (by omega)
 obtain rfl : a7 = b7 := UInt64.toNat_inj.1 (by omega)
 subst h5 h8; rfl
theorem key_inj {a b : K25} (h : keyLs a = keyLs b) : a = b := Subtype.ext (byteLits_inj h)
theorem K25.split (k : K25) : k.val = byt k.val 0 :: byt k.val 1 :: byt k.val 2 :: k.val.drop 3 := by
 obtain ⟨l, hl⟩ := k
 match l, hl with
 | a :: b :: c :: r, _ => rfl
theorem keyD_inj {a b : K25} (h : keyDLs a = keyDLs b) : a = b := by
 simp only [keyDLs, List.cons.injEq, Lit.int.injEq, true_and] at h
 obtain ⟨h0, h1, h2, h3⟩ := h
 apply Subtype.ext
 rw [K25.split a, K25.split b, u8_inj h0, u8_inj h1, u8_inj h2, byteLits_inj h3]
theorem eq_of_flat {P : Program} {t : TypeId} {ks : List TypeDesc} {α : Type} [DecidableEq α] {f : α → List Value} {g : α → List Lit} (ht : FlatType P t ks) (hf : ∀ a, FitAll ks (f a) (g a)) (hi : ∀ a b, g a = g b → a = b) (a b : α) (w : World) :
  (Op.equalIn 10000 t (.agg (f a).toArray) (.agg (f b).toArray)).run P w = .ok (decide (a = b)) w := by
 obtain ⟨r, h1, h2⟩ := flat_eq ht w (a := (f a).toArray) (b := (f b).toArray) (by simpa using hf a) (by simpa using hf b)
 rw [h1]
 congr 1
 rw [Bool.eq_iff_iff, h2, decide_eq_true_eq]
 exact ⟨hi a b, fun h => by rw [h]⟩
end Go.Proofs.YtcedmfnlkelhkaaGreatDoor
namespace Go.Proofs.YtcedmfnlkelhkaaGreatDoor
open Go.RowKit

def spl (a : List UInt8) (o : Nat) (b : List UInt8) : List UInt8 := (a.take o ++ b ++ a.drop (o + b.length)).take a.length
@[go_sem] theorem splice_row8 (a b : List UInt8) (o : Nat) (h : o + b.length ≤ a.length) : spliceA (row8 a) o (row8 b) = row8 (spl a o b) := by
 unfold spliceA
 rw [row8_extract, row8_extract, row8_size, row8_size]
 apply Array.ext'
 unfold spl
 rw [List.take_of_length_le (l := a.take o ++ b ++ a.drop (o + b.length)) (by simp; omega)]
 simp [row8]
@[go_sem] theorem spl_len (a b : List UInt8) (o : Nat) : (spl a o b).length = a.length := by simp [spl]; omega
end Go.Proofs.YtcedmfnlkelhkaaGreatDoor
namespace Go.Proofs.YtcedmfnlkelhkaaGreatDoor
open Go.RowKit

/-- the number of cells of a slice type's elements -/
def _root_.Go.Program.sliceSize (P : Program) (t : TypeId) : Option Nat := match P.underlying t with | some (.slice e) => (P.info? e).map (·.size) | _ => none
@[go_sem] theorem allOne_row8 (l : List UInt8) : allOne (row8 l) = true := row8_one l
@[go_sem] theorem run_copy_lay {P : Program} {w : World} {dT sT ty : TypeId} {g o dLen dCap a p sLen sCap : Nat} (hs : P.sliceSize dT = some 1)
  (hd : w.there? g o (min sLen dLen) = true) (hr : (w.cut? a p (min sLen dLen)).isSome = true) (h1 : allOne ((w.cut? a p (min sLen dLen)).getD #[]) = true) :
  (Builtin.copy_ #[dT, sT] ty #[.slice (some ⟨g, o, none⟩) dLen dCap, .slice (some ⟨a, p, none⟩) sLen sCap]).run P w = .ok (goInt ((min sLen dLen : Nat) : Int)) (w.lay g o ((w.cut? a p (min sLen dLen)).getD #[])) := by
 obtain ⟨c, t, hg, hl⟩ := there_spec hd
 obtain ⟨cs, hcs⟩ := Option.isSome_iff_exists.1 hr
 rw [hcs] at h1 ⊢
 simp only [Option.getD_some] at h1 ⊢
 obtain ⟨h2, h3⟩ := cut_spec hcs
 unfold Program.sliceSize at hs
 split at hs
 ·rename_i e hu
  have := run_copy_row (P := P) w dT sT ty e g o dLen dCap ⟨a, p, none⟩ sLen sCap c t cs.toList hu hs hg (by simpa using h2) (fun j v hv => by
   rw [addr_add, h3 j (by have := (List.getElem?_eq_some_iff.1 hv).1; simp at this; omega), ← hv]; simp) (by simp; omega) (fun v hv => (Array.all_eq_true_iff_forall_mem.1 (show cs.all (·.oneCell') = true from h1)) v (by simpa using hv))
  rw [this]
  congr 1
  ·simp only [Array.length_toList, h2]
  ·have e2 : (c.toList.take o ++ cs.toList ++ c.toList.drop (o + cs.toList.length)).toArray = spliceA c o cs := by
    apply Array.ext'
    simp [spliceA, List.extract_eq_take_drop]
    rw [List.take_of_length_le]; simp
   rw [e2, lay_setRow hg]
 ·cases hs
@[go_sem] theorem ss_bytes : Tryz.prog.sliceSize 189 = some 1 := by kernel_rfl
theorem tag_spl (t : List UInt8) (h : t.length = 10) : spl (spl (spl (zeros 10) 0 (t.take 3)) 3 ((t.take 7).drop 3)) 7 (t.drop 7) = t := by
 match t, h with
 | [a, b, c, d, e, f, g, i, j, k], _ => rfl
set_option maxRecDepth 100000 in
set_option maxHeartbeats 800000 in
theorem tagBytes_gives (t : List UInt8) (ht : t.length = 10) (w : World) : Gives Tryz.prog 135 #[.agg (row8 t)] w (.agg (row8 t)) := by
 have hs := tag_spl t ht
 have HS := Lib.hid hs
 clear hs
 unfold Gives
 go_enter Tryz.func135, Tryz.ntmps135
 go_wp2_with fail
 apply wp_region_specs (by rfl) [.val _, .val _, .val _] 3 (by rfl) [4, 5, 6] [] [] (by rfl) (by rfl) (by decide) (by decide +kernel) (fun _ _ _ _ _ h => h)
 case hF => intro x; simp only [over, List.foldl_cons, List.foldl_nil, List.setIfInBounds_toArray, List.set_cons_succ, List.set_cons_zero]; exact rfl
 case hops =>
  refine ⟨?o0, ?o1, ?o2, trivial⟩
  case o0 =>
   intro x w1 hH K hK
   obtain ⟨xs, d, rfl⟩ := grow_of_below hH.below
   clear hH
   try simp only [World.grow_drew] at hK ⊢
   try simp only [World.grow_grow] at hK ⊢
   exact zwQab
  case o1 =>
   intro x w1 hH K hK
   obtain ⟨xs, d, rfl⟩ := grow_of_below hH.below
   clear hH
   try simp only [World.grow_drew] at hK ⊢
   try simp only [World.grow_grow] at hK ⊢
   exact zwQab
  case o2 =>
   intro x w1 hH K hK
   have e5 : x 5 = _ := hH.g 1 5
   obtain ⟨xs, d, rfl⟩ := grow_of_below hH.below
   clear hH
   try simp only [World.grow_drew] at hK ⊢
   try simp only [World.grow_grow] at hK ⊢
   simp only [e5] at hK ⊢
   clear e5
   exact zwQab
 case hend =>
  intro x w1 hH
  have e4 : x 4 = _ := hH.t 0 4
  have e5 : x 5 = _ := hH.t 1 5
  have e6 : x 6 = _ := hH.t 2 6
  obtain ⟨xs, d, rfl⟩ := grow_of_below hH.below
  clear hH
  simp only [e4, e5, e6]; clear e4 e5 e6
  simp only [List.drop_succ_cons, List.drop_zero]
  go_wp2_with fail
  apply wp_region_specs (by rfl) [.val _, .val _, .val _] 3 (by rfl) [8, 9, 10] [] [] (by rfl) (by rfl) (by decide) (by decide +kernel) (fun _ _ _ _ _ h => h)
  case hF => intro x; simp only [over, List.foldl_cons, List.foldl_nil, List.setIfInBounds_toArray, List.set_cons_succ, List.set_cons_zero]; exact rfl
  case hops =>
   refine ⟨?o0, ?o1, ?o2, trivial⟩
   case o0 =>
    intro x w1 hH K hK
    obtain ⟨xs, d, rfl⟩ := grow_of_below hH.below
    clear hH
    try simp only [World.grow_drew] at hK ⊢
    try simp only [World.grow_grow] at hK ⊢
    exact zwQab
   case o1 =>
    intro x w1 hH K hK
    obtain ⟨xs, d, rfl⟩ := grow_of_below hH.below
    clear hH
    try simp only [World.grow_drew] at hK ⊢
    try simp only [World.grow_grow] at hK ⊢
    exact zwQab
   case o2 =>
    intro x w1 hH K hK
    have e9 : x 9 = _ := hH.g 1 9
    obtain ⟨xs, d, rfl⟩ := grow_of_below hH.below
    clear hH
    try simp only [World.grow_drew] at hK ⊢
    try simp only [World.grow_grow] at hK ⊢
    simp only [e9] at hK ⊢
    clear e9
    exact zwQab
  case hend =>
   intro x w1 hH
   have e8 : x 8 = _ := hH.t 0 8
   have e9 : x 9 = _ := hH.t 1 9
   have e10 : x 10 = _ := hH.t 2 10
   obtain ⟨xs, d, rfl⟩ := grow_of_below hH.below
   clear hH
   simp only [e8, e9, e10]; clear e8 e9 e10
   simp only [List.drop_succ_cons, List.drop_zero]
   go_wp2_with fail
   apply wp_region_specs (by rfl) [.val _, .val _, .val _] 3 (by rfl) [12, 13, 14] [] [] (by rfl) (by rfl) (by decide) (by decide +kernel) (fun _ _ _ _ _ h => h)
   case hF => intro x; simp only [over, List.foldl_cons, List.foldl_nil, List.setIfInBounds_toArray, List.set_cons_succ, List.set_cons_zero]; exact rfl
   case hops =>
    refine ⟨?o0, ?o1, ?o2, trivial⟩
    case o0 =>
     intro x w1 hH K hK
     obtain ⟨xs, d, rfl⟩ := grow_of_below hH.below
     clear hH
     try simp only [World.grow_drew] at hK ⊢
     try simp only [World.grow_grow] at hK ⊢
     exact zwQab
    case o1 =>
     intro x w1 hH K hK
     obtain ⟨xs, d, rfl⟩ := grow_of_below hH.below
     clear hH
     try simp only [World.grow_drew] at hK ⊢
     try simp only [World.grow_grow] at hK ⊢
     exact zwQab
    case o2 =>
     intro x w1 hH K hK
     have e13 : x 13 = _ := hH.g 1 13
     obtain ⟨xs, d, rfl⟩ := grow_of_below hH.below
     clear hH
     try simp only [World.grow_drew] at hK ⊢
     try simp only [World.grow_grow] at hK ⊢
     simp only [e13] at hK ⊢
     clear e13
     exact zwQab
   case hend =>
    intro x w1 hH
    have e12 : x 12 = _ := hH.t 0 12
    have e13 : x 13 = _ := hH.t 1 13
    have e14 : x 14 = _ := hH.t 2 14
    obtain ⟨xs, d, rfl⟩ := grow_of_below hH.below
    clear hH
    simp only [e12, e13, e14]; clear e12 e13 e14
    simp only [List.drop_succ_cons, List.drop_zero]
    go_wp2_with fail
    refine bodyPost_ret (v := .agg (row8 t)) (results_one Tryz.results135 (ResIs.row rfl agg_b10 ?_)) rfl ⟨rfl, blw⟩
    simp [go_sem, HS.out, ht]

theorem key_spl (k : List UInt8) (h : k.length = 25) : spl (spl ((((zeros 25).set 0 (byt k 0)).set 1 (byt k 1)).set 2 (byt k 2)) 3 ((k.take 15).drop 3)) 15 (k.drop 15) = k := by
 match k, h with
 | [a, b, c, d, e, f, g, i, j, l, m, n, o, p, q, r, s, t, u, v, w, x, y, z, a2], _ => rfl
set_option maxRecDepth 100000 in
set_option maxHeartbeats 800000 in
theorem keyBytes_gives (k : List UInt8) (hk : k.length = 25) (w : World) : Gives Tryz.prog 107 #[.agg (row8 k)] w (.agg (row8 k)) := by
 have hs := key_spl k hk
 have HS := Lib.hid hs
 clear hs
 have ht := tagBytes_gives (k.drop 15) (by simp; omega)
 have HT := Lib.hid ht
 clear ht
 unfold Gives
 go_enter Tryz.func107, Tryz.ntmps107
 go_wp2_with (go_at_call 135; refine Gives.use (HT.out _) ?_; intro xs0 d0)
 apply wp_region_specs (by rfl) [.val _, .val _, .val _] 3 (by rfl) [15, 16, 17] [] [] (by rfl) (by rfl) (by decide) (by decide +kernel) (fun _ _ _ _ _ h => h)
 case hF => intro x; simp only [over, List.foldl_cons, List.foldl_nil, List.setIfInBounds_toArray, List.set_cons_succ, List.set_cons_zero]; exact rfl
 case hops =>
  refine ⟨?o0, ?o1, ?o2, trivial⟩
  case o0 =>
   intro x w1 hH K hK
   obtain ⟨xs, d, rfl⟩ := grow_of_below hH.below
   clear hH
   try simp only [World.grow_drew] at hK ⊢
   try simp only [World.grow_grow] at hK ⊢
   exact zwQab
  case o1 =>
   intro x w1 hH K hK
   obtain ⟨xs, d, rfl⟩ := grow_of_below hH.below
   clear hH
   try simp only [World.grow_drew] at hK ⊢
   try simp only [World.grow_grow] at hK ⊢
   exact zwQab
  case o2 =>
   intro x w1 hH K hK
   have e16 : x 16 = _ := hH.g 1 16
   obtain ⟨xs, d, rfl⟩ := grow_of_below hH.below
   clear hH
   try simp only [World.grow_drew] at hK ⊢
   try simp only [World.grow_grow] at hK ⊢
   simp only [e16] at hK ⊢
   clear e16
   exact zwQab
 case hend =>
  intro x w1 hH
  have e15 : x 15 = _ := hH.t 0 15
  have e16 : x 16 = _ := hH.t 1 16
  have e17 : x 17 = _ := hH.t 2 17
  obtain ⟨xs, d, rfl⟩ := grow_of_below hH.below
  clear hH
  simp only [e15, e16, e17]; clear e15 e16 e17
  simp only [List.drop_succ_cons, List.drop_zero]
  go_wp2_with fail
  apply wp_region_specs (by rfl) [.val _, .val _] 2 (by rfl) [19, 20] [] [] (by rfl) (by rfl) (by decide) (by decide +kernel) (fun _ _ _ _ _ h => h)
  case hF => intro x; simp only [over, List.foldl_cons, List.foldl_nil, List.setIfInBounds_toArray, List.set_cons_succ, List.set_cons_zero]; exact rfl
  case hops =>
   refine ⟨?o0, ?o1, trivial⟩
   case o0 =>
    intro x w1 hH K hK
    obtain ⟨xs, d, rfl⟩ := grow_of_below hH.below
    clear hH
    try simp only [World.grow_drew] at hK ⊢
    try simp only [World.grow_grow] at hK ⊢
    exact zwQab
   case o1 =>
    intro x w1 hH K hK
    obtain ⟨xs, d, rfl⟩ := grow_of_below hH.below
    clear hH
    try simp only [World.grow_drew] at hK ⊢
    try simp only [World.grow_grow] at hK ⊢
    exact zwQab
  case hend =>
   intro x w1 hH
   have e19 : x 19 = _ := hH.t 0 19
   have e20 : x 20 = _ := hH.t 1 20
   obtain ⟨xs, d, rfl⟩ := grow_of_below hH.below
   clear hH
   simp only [e19, e20]; clear e19 e20
   simp only [List.drop_succ_cons, List.drop_zero]
   go_wp2_with fail
   refine bodyPost_ret (v := .agg (row8 k)) (results_one Tryz.results107 (ResIs.row rfl agg_b25 ?_)) rfl ⟨rfl, blw⟩
   simp [go_sem, HS.out, hk]
end Go.Proofs.YtcedmfnlkelhkaaGreatDoor

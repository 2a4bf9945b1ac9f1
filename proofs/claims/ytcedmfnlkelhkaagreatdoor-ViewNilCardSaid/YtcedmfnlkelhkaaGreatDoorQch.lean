/- The document's store in plain Lean: its rows, in order, beside what a store's keys have. -/
import Derived.Test.YtcedmfnlkelhkaaGreatDoorQcb
import Derived.Test.YtcedmfnlkelhkaaGreatDoorQap
import Derived.Test.YtcedmfnlkelhkaaGreatDoorQbt
import Derived.Handy
namespace Go.Proofs.YtcedmfnlkelhkaaGreatDoor
open Go.RowKit

abbrev VR := Value × List Ver
abbrev RD := List (K25 × VR)
def vsR (R : RD) (k : K25) : List Ver := ((lk R k).map (·.2)).getD []
def slR (R : RD) (k : K25) : Value := ((lk R k).map (·.1)).getD (.slice none 0 0)
def liveR (R : RD) : Nat := R.countP fun p => liveB p.2.2
theorem lkD_at {β : Type} : ∀ (D : List (K25 × β)) (k : K25) (i : Nat) (h : i < D.length), (∀ j (h : j < D.length), j < i → D[j].1 ≠ k) → D[i].1 = k → lk D k = some D[i].2
 | a :: D, k, 0, _, _, he => by
  have he : a.1 = k := he
  unfold lk
  rw [List.find?_cons_of_pos (by simpa using he)]
  rfl
 | a :: D, k, i + 1, h, hn, he => by
  have h0 : a.1 ≠ k := hn 0 (by simp) (by omega)
  have ih := lkD_at D k i (by simpa using h) (fun j hj hji => hn (j + 1) (by simp; omega) (by omega)) he
  unfold lk at ih ⊢
  rw [List.find?_cons_of_neg (by simpa using h0), ih]
  rfl
theorem lkD_no {β : Type} (D : List (K25 × β)) (k : K25) (hn : ∀ j (h : j < D.length), D[j].1 ≠ k) : lk D k = none := by
 refine lk_none.2 fun p hp => ?_
 obtain ⟨j, hj, rfl⟩ := List.getElem_of_mem hp
 exact hn j hj
section
variable {β : Type} {R : List (K25 × β)} {k : K25} {y : β}
theorem del_none (h : lk R k = none) : del R k = R := by
 unfold del
 rw [List.filter_eq_self]
 intro p hp
 exact decide_eq_true (lk_none.1 h p hp)
theorem nodup_del (hu : Uniq R) : ((k, y) :: del R k).Nodup := by
 rw [List.nodup_cons]
 refine ⟨fun hm => ?_, (uniq_nodup hu).sublist List.filter_sublist⟩
 have := (List.mem_filter.1 hm).2
 simp at this
theorem perm_cons_del (hu : Uniq R) (h : lk R k = some y) : R.Perm ((k, y) :: del R k) := by
 have hm := (lk_mem hu).1 h
 refine (List.perm_ext_iff_of_nodup (uniq_nodup hu) (nodup_del hu)).2 fun p => ?_
 rw [List.mem_cons]
 unfold del
 rw [List.mem_filter]
 constructor
 ·intro hp
  by_cases e : p.1 = k
  ·left
   obtain ⟨a, b⟩ := p
   simp only at e
   subst e
   have := (lk_mem hu).2 hp
   rw [h] at this
   simp only [Option.some.injEq] at this
   rw [this]
  ·exact .inr ⟨hp, decide_eq_true e⟩
 ·rintro (rfl | ⟨hp, _⟩)
  ·exact hm
  ·exact hp
theorem setA_perm (hs : SA R) : (setA R k y).Perm ((k, y) :: del R k) := by
 refine (List.perm_ext_iff_of_nodup (uniq_nodup (hs.set k y).uniq) (nodup_del hs.uniq)).2 fun p => ?_
 rw [mem_setA p hs, List.mem_cons]
 unfold del
 rw [List.mem_filter]
 simp
theorem lk_setA (hs : SA R) (j : K25) : lk (setA R k y) j = if j = k then some y else lk R j := by
 rw [lk_perm (set_perm hs (List.Perm.refl _) hs.uniq k y) (put_uniq hs.uniq k y), lk_put]
theorem len_setA (R : List (K25 × β)) (k : K25) (y : β) : (setA R k y).length ≤ R.length + 1 := by
 have h1 : (R.takeWhile (ltA k)).length + (R.dropWhile (ltA k)).length = R.length := by rw [← List.length_append, List.takeWhile_append_dropWhile]
 have h2 := List.length_filter_le (fun p : K25 × β => decide (p.1 ≠ k)) (R.dropWhile (ltA k))
 unfold setA
 simp only [List.length_append, List.length_cons]
 omega
end
section
variable {β : Type} {k : K25} {y : β}
theorem setA_cons (a : K25 × β) (X : List (K25 × β)) : setA (a :: X) k y = if ltA k a = true then a :: setA X k y else (k, y) :: (a :: X).filter fun p => decide (p.1 ≠ k) := by
 unfold setA
 rw [List.takeWhile_cons, List.dropWhile_cons]
 split <;> rfl
theorem setA_all : ∀ {X : List (K25 × β)}, X.all (ltA k) = true → setA X k y = X ++ [(k, y)]
 | [], _ => rfl
 | a :: X, h => by
  rw [List.all_cons, Bool.and_eq_true] at h
  rw [setA_cons, if_pos h.1, setA_all h.2]; rfl
theorem setA_snoc_no (r : K25 × β) : ∀ {X : List (K25 × β)}, X.all (ltA k) = false → setA (X ++ [r]) k y = setA X k y ++ if r.1 = k then [] else [r]
 | [], h => by simp at h
 | a :: X, h => by
  rw [List.cons_append, setA_cons, setA_cons]
  cases ha : ltA k a with
  | true =>
   rw [List.all_cons, ha, Bool.true_and] at h
   rw [if_pos rfl, if_pos rfl, setA_snoc_no r h]; rfl
  | false =>
   rw [if_neg (by simp), if_neg (by simp), ← List.cons_append, List.filter_append, List.cons_append]
   congr 2
   by_cases e : r.1 = k <;> simp [e]
theorem setA_snoc_new (r : K25 × β) : ∀ {X : List (K25 × β)}, X.all (ltA k) = true → ltA k r = false → setA (X ++ [r]) k y = X ++ (k, y) :: if r.1 = k then [] else [r]
 | [], _, hr => by
  rw [List.nil_append, setA_cons, if_neg (by simp [hr])]
  by_cases e : r.1 = k <;> simp [e]
 | a :: X, h, hr => by
  rw [List.all_cons, Bool.and_eq_true] at h
  rw [List.cons_append, setA_cons, if_pos h.1, setA_snoc_new r h.2 hr]; rfl
theorem ltA_ne {r : K25 × β} (h : ltA k r = true) : r.1 ≠ k := by
 intro e
 unfold ltA at h
 rw [e, lessL_irrefl] at h
 cases h
/-- what is put behind some of the rows -/
def setI (R : List (K25 × β)) (k : K25) (y : β) (i : Nat) : List (K25 × β) := if (R.take i).all (ltA k) = true then R.take i else setA (R.take i) k y
def putI (R : List (K25 × β)) (k : K25) (i : Nat) : Bool := !(R.take i).all (ltA k)
theorem setI_len (R : List (K25 × β)) (i : Nat) : (setI R k y i).length ≤ R.length + 1 := by
 unfold setI
 split
 ·rw [List.length_take]; omega
 ·have := len_setA (R.take i) k y
  rw [List.length_take] at this; omega
/-- the row is put in its place now -/
theorem setI_now {R : List (K25 × β)} {i : Nat} (hi : i < R.length) (h : putI R k i = false) (hl : ltA k R[i] = false) : putI R k (i + 1) = true ∧ setI R k y (i + 1) = setI R k y i ++ (k, y) :: if R[i].1 = k then [] else [R[i]] := by
 unfold putI at h ⊢
 have h2 : (R.take i).all (ltA k) = true := by simpa using h
 unfold setI
 rw [List.take_succ_eq_append_getElem hi, List.all_append, h2, if_pos rfl, if_neg (by simp [hl]), setA_snoc_new _ h2 hl]
 simp [hl]
/-- it comes later -/
theorem setI_yet {R : List (K25 × β)} {i : Nat} (hi : i < R.length) (h : putI R k i = false) (hl : ltA k R[i] = true) : putI R k (i + 1) = false ∧ R[i].1 ≠ k ∧ setI R k y (i + 1) = setI R k y i ++ [R[i]] := by
 unfold putI at h ⊢
 have h2 : (R.take i).all (ltA k) = true := by simpa using h
 unfold setI
 rw [List.take_succ_eq_append_getElem hi, List.all_append, h2, if_pos rfl, if_pos (by simp [hl])]
 exact ⟨by simp [hl], ltA_ne hl, rfl⟩
theorem setI_done {R : List (K25 × β)} {i : Nat} (hi : i < R.length) (h : putI R k i = true) : putI R k (i + 1) = true ∧ setI R k y (i + 1) = setI R k y i ++ if R[i].1 = k then [] else [R[i]] := by
 unfold putI at h ⊢
 have h2 : (R.take i).all (ltA k) = false := by simpa using h
 unfold setI
 rw [List.take_succ_eq_append_getElem hi, List.all_append, h2, if_neg (by simp), if_neg (by simp), setA_snoc_no _ h2]
 exact ⟨by simp, rfl⟩
theorem setI_end (R : List (K25 × β)) : setA R k y = setI R k y R.length ++ if putI R k R.length = true then [] else [(k, y)] := by
 unfold setI putI
 rw [List.take_length]
 cases h : R.all (ltA k) with
 | true => rw [if_pos rfl, if_neg (by simp), setA_all h]
 | false => rw [if_neg (by simp), if_pos (by simp), List.append_nil]
end
theorem live_set {R : RD} (hs : SA R) (k : K25) (v : Value) (l : List Ver) : liveR (setA R k (v, l)) + (if liveB (vsR R k) = true then 1 else 0) = liveR R + if liveB l = true then 1 else 0 := by
 unfold liveR
 rw [(setA_perm hs).countP_eq, List.countP_cons]
 unfold vsR
 cases h : lk R k with
 | none =>
  rw [del_none h]
  simp [liveB]
 | some y =>
  rw [(perm_cons_del hs.uniq h).countP_eq, List.countP_cons]
  simp only [Option.map_some, Option.getD_some]
  omega
theorem vs_set {R : RD} (hs : SA R) (k : K25) (v : Value) (l : List Ver) (j : K25) : vsR (setA R k (v, l)) j = if j = k then l else vsR R j := by
 unfold vsR
 rw [lk_setA hs]
 split <;> rfl
/-- the document's rows tell what the keys have -/
structure DS (R : RD) (f : K25 → List Ver) (live : Int) : Prop where
 sa : SA R
 vs : ∀ k, vsR R k = f k
 ne : ∀ p ∈ R, p.2.2 ≠ []
 live : (liveR R : Int) = live
theorem DS.nil : DS [] f0 0 := ⟨List.Pairwise.nil, fun _ => rfl, fun p h => by simp at h, rfl⟩
theorem live_snoc (l : List Ver) (v : Ver) : liveB (l ++ [v]) = !v.dead := by unfold liveB; rw [List.getLast?_append]; rfl
theorem DS.step {R : RD} {f : K25 → List Ver} {n : Int} (h : DS R f n) (x : Wr) (a : UInt64) (v : Value) : DS (setA R x.k (v, f x.k ++ [verOf a x])) (applyF a f x) (stepM f n x) := by
 refine ⟨h.sa.set _ _, fun k => ?_, fun p hp => ?_, ?_⟩
 ·rw [vs_set h.sa]
  unfold applyF
  by_cases e : k = x.k
  ·rw [if_pos e, if_pos e, e]
  ·rw [if_neg e, if_neg e, h.vs]
 ·rcases (mem_setA p h.sa).1 hp with rfl | ⟨hp, _⟩
  ·simp
  ·exact h.ne p hp
 ·have h1 := live_set h.sa x.k v (f x.k ++ [verOf a x])
  have h2 := h.live
  rw [h.vs, live_snoc] at h1
  have h3 : (verOf a x).dead = x.dead := rfl
  rw [h3] at h1
  unfold stepM
  cases hl : liveB (f x.k) <;> cases hd : x.dead <;> simp [hl, hd] at h1 ⊢ <;> omega
theorem stepM_add (f : K25 → List Ver) (n m : Int) (x : Wr) : stepM f (n + m) x = n + stepM f m x := by unfold stepM; split <;> split <;> omega
theorem stepM_congr {f g : K25 → List Ver} (n : Int) (x : Wr) (h : f x.k = g x.k) : stepM f n x = stepM g n x := by unfold stepM; rw [h]
/-- one write more of a row -/
theorem DS.next {R : RD} {f : K25 → List Ver} {n : Int} {a : UInt64} {l : List Wr} (hn : (l.map (·.k)).Nodup) {i : Nat} (hi : i < l.length) (h : DS R (applyL a f (l.take i)) (n + moreI f (l.take i))) (v : Value) :
  applyL a f (l.take i) l[i].k = f l[i].k ∧ DS (setA R l[i].k (v, f l[i].k ++ [verOf a l[i]])) (applyL a f (l.take (i + 1))) (n + moreI f (l.take (i + 1))) := by
 have e := applyL_other a (l.take i) f l[i].k (take_keys hn hi)
 refine ⟨e, ?_⟩
 have := h.step l[i] a v
 rw [e, stepM_congr (g := f) _ _ e, stepM_add] at this
 rw [applyL_succ a f l i hi, moreI_succ f l i hi]
 exact this
end Go.Proofs.YtcedmfnlkelhkaaGreatDoor
namespace Go.Proofs.YtcedmfnlkelhkaaGreatDoor
set_option maxRecDepth 100000
open Go.RowKit

def verDL (v : Ver) : List Value := .int .u64 v.at_.toNat :: .bool v.dead :: recDL v.r
def verD (v : Ver) : Array Value := (verDL v).toArray
@[go_sem, simp] theorem verD_size (v : Ver) : (verD v).size = 11 := id rfl
@[go_sem] theorem one_verD (v : Ver) : allOne (verD v) = true := allOne_list (by intro x hx; rcases List.mem_cons.1 hx with rfl | hx; rfl; rcases List.mem_cons.1 hx with rfl | hx; rfl; exact one_recDL _ x hx)
@[go_sem] theorem verD_0 (v : Ver) : (verD v)[0]? = some (.int .u64 v.at_.toNat) := id rfl
@[go_sem] theorem verD_1 (v : Ver) : (verD v)[1]? = some (.bool v.dead) := id rfl
@[go_sem, simp] theorem verD_0E (v : Ver) (h : 0 < (verD v).size) : (verD v)[0]'h = .int .u64 v.at_.toNat := id rfl
@[go_sem, simp] theorem verD_1E (v : Ver) (h : 1 < (verD v).size) : (verD v)[1]'h = .bool v.dead := id rfl
@[go_sem] theorem verD_rec (v : Ver) : (verD v).extract 2 11 = recD v.r := ext_list (recDL v.r) [.int .u64 v.at_.toNat, .bool v.dead] 2 rfl
@[go_sem] theorem verD_all (v : Ver) : (verD v).extract 0 11 = verD v := by apply Array.extract_eq_self_of_le; simp
@[go_sem] theorem agg_verD : Tryz.prog.aggSize 283 = some 11 := by kernel_rfl
@[go_sem ↓ high] theorem ld_verD (a : Addr) : loadVar 283 a = rowLoad 283 a := rfl
@[go_sem ↓ high] theorem st_verD (a : Addr) (v : Value) : storeVar 283 a v = rowStore 283 a v := rfl
theorem row_verD : RowType Tryz.prog 278 283 11 96 := ⟨Tryz.underlying278, by kernel_rfl, by decide, by decide⟩
theorem verD_parts (v : Ver) : #[.int .u64 v.at_.toNat] ++ #[.bool v.dead] ++ recD v.r = verD v := by apply Array.ext'; simp [recD, verD, verDL]
@[go_sem ↓ high] theorem bVerD_eq (f : Nat × Operand → Nat × Value) (p q r' : Nat × Operand) : Instr.build 283 (Array.map f #[p, q, r']) = bldF3 283 (f p) (f q) (f r') := by simp [bldF3]
@[go_sem] theorem bVerD_run (a : UInt64) (b : Bool) (r : Rec) (w : World) : (bldF3 283 (0, .int .u64 a.toNat) (1, .bool b) (2, .agg (recD r))).run Tryz.prog w = .ok (.agg (verD ⟨a, b, r⟩)) w := by
 unfold bldF3
 have := build_three (P := Tryz.prog) (w := w) (n := 1) (m := 1) (k := 9) (a := .int .u64 a.toNat) (b := .bool b) (c := .agg (recD r)) Tryz.zeroValue283 Tryz.underlying283 (by intro w; kernel_rfl) (by simp [Value.cells]) (by simp [Value.cells]) (by simp [Value.cells]) (by rfl)
 rw [this]
 exact congrArg (fun c => Result.ok (Value.agg c) w) (verD_parts ⟨a, b, r⟩)
/-- a row: a key and its versions' slice -/
def rowRL (k : K25) (v : Value) : List Value := keyDL k ++ [v]
def rowRV (k : K25) (v : Value) : Array Value := (rowRL k v).toArray
def rowR (p : K25 × VR) : Array Value := rowRV p.1 p.2.1
@[go_sem, simp] theorem rowRV_size (k : K25) (v : Value) : (rowRV k v).size = 26 := by simp [rowRV, rowRL, keyDL_len]
@[simp] theorem rowR_size (p : K25 × VR) : (rowR p).size = 26 := rowRV_size _ _
@[go_sem] theorem rowRV_all (k : K25) (v : Value) : (rowRV k v).extract 0 26 = rowRV k v := by apply Array.extract_eq_self_of_le; simp
@[go_sem] theorem rowRV_key (k : K25) (v : Value) : (rowRV k v).extract 0 25 = rkey k.val := by rw [rkey_list]; exact ext_front _ _ 25 (keyDL_len _)
@[go_sem] theorem rowRV_25 (k : K25) (v : Value) : (rowRV k v)[25]? = some v := by
 unfold rowRV rowRL
 rw [List.getElem?_toArray, List.getElem?_append_right (by simp [keyDL_len])]; simp [keyDL_len]
@[go_sem, simp] theorem rowRV_25E (k : K25) (v : Value) (h : 25 < (rowRV k v).size) : (rowRV k v)[25]'h = v := by
 have := rowRV_25 k v
 rw [Array.getElem?_eq_getElem h] at this
 exact Option.some.inj this
@[go_sem] theorem one_rowRV (k : K25) (a : Option Addr) (n c : Nat) : allOne (rowRV k (.slice a n c)) = true := allOne_list (by
 intro v hv
 rcases List.mem_append.1 hv with hv | hv
 ·exact one_keyDL _ v hv
 ·simp at hv; subst hv; rfl)
@[go_sem] theorem agg_rowR : Tryz.prog.aggSize 307 = some 26 := by kernel_rfl
@[go_sem ↓ high] theorem ld_rowR (a : Addr) : loadVar 307 a = rowLoad 307 a := rfl
@[go_sem ↓ high] theorem st_rowR (a : Addr) (v : Value) : storeVar 307 a v = rowStore 307 a v := rfl
theorem row_rowR : RowType Tryz.prog 37 307 26 72 := ⟨Tryz.underlying37, by kernel_rfl, by decide, by decide⟩
theorem rowR_parts (k : K25) (v : Value) : rkey k.val ++ #[v] = rowRV k v := by rw [rkey_list]; apply Array.ext'; simp [rowRV, rowRL]
def bldR (t : TypeId) (p q : Nat × Value) : Sem Value := Instr.build t #[p, q]
@[go_sem ↓ high] theorem bRowR_eq (f : Nat × Operand → Nat × Value) (p q : Nat × Operand) : Instr.build 307 (Array.map f #[p, q]) = bldR 307 (f p) (f q) := by simp [bldR]
@[go_sem] theorem bRowR_run (k : K25) (a : Option Addr) (n c : Nat) (w : World) : (bldR 307 (0, .agg (rkey k.val)) (1, .slice a n c)).run Tryz.prog w = .ok (.agg (rowRV k (.slice a n c))) w := by
 unfold bldR
 have := build_two (P := Tryz.prog) (w := w) (n := 25) (m := 1) (a := .agg (rkey k.val)) (b := .slice a n c) Tryz.zeroValue307 Tryz.underlying307 (by intro w; kernel_rfl) (by simp [Value.cells]) (by simp [Value.cells]) rfl
 rw [this]
 exact congrArg (fun c => Result.ok (Value.agg c) w) (rowR_parts k _)
/-- a slice's block is none of these; it is a new one -/
def Off (S : List Nat) (v : Value) : Prop := ∀ b o n c, v = .slice (some ⟨b, o, none⟩) n c → 0 < n → b ∉ S
def FromN (N : Nat) (v : Value) : Prop := ∀ b o n c, v = .slice (some ⟨b, o, none⟩) n c → 0 < n → N ≤ b
theorem FromN.off {N : Nat} {v : Value} (h : FromN N v) {S : List Nat} (hS : ∀ b ∈ S, b < N) : Off S v := fun b o n c e hn hb => absurd (hS b hb) (Nat.not_lt.2 (h b o n c e hn))
theorem FromN.mono {N M : Nat} {v : Value} (h : FromN N v) (hM : M ≤ N) : FromN M v := fun b o n c e hn => Nat.le_trans hM (h b o n c e hn)
theorem OwnA.fromN {w : World} {B sz : Nat} {e : TypeId} {v : Value} {xs : List (Array Value)} (h : OwnA w B sz e v xs) : FromN B v := fun b _ _ _ e _ => (h.lt b (by rw [e]; rfl)).1
/-- what is off some old blocks stays so -/
def OffD (N : Nat) (v : Value) (R : RD) (v' : Value) (R' : RD) : Prop := ∀ S : List Nat, (∀ b ∈ S, b < N) → Off S v → (∀ p ∈ R, Off S p.2.1) → Off S v' ∧ ∀ p ∈ R', Off S p.2.1
theorem OffD.refl (N : Nat) (v : Value) (R : RD) : OffD N v R v R := fun _ _ h1 h2 => ⟨h1, h2⟩
theorem OffD.mono {N M : Nat} {v v' : Value} {R R' : RD} (h : OffD N v R v' R') (hM : M ≤ N) : OffD M v R v' R' := fun S hS => h S (fun b hb => Nat.lt_of_lt_of_le (hS b hb) hM)
/-- the document's rows lie there -/
structure DocAt (w : World) (B : Nat) (v : Value) (R : RD) : Prop where
 sl : SlA w B 26 v (R.map rowR)
 vs : ∀ p ∈ R, SlA w B 11 p.2.1 (p.2.2.map verD)
section
variable {w w' : World} {B B' : Nat} {v : Value} {R : RD}
theorem DocAt.below (h : DocAt w B v R) (hb : Below B w w') : DocAt w' B v R := ⟨h.sl.below hb, fun p hp => (h.vs p hp).below hb⟩
theorem DocAt.more (h : DocAt w B v R) (hB : B ≤ B') : DocAt w B' v R := ⟨h.sl.more hB, fun p hp => (h.vs p hp).more hB⟩
theorem DocAt.up (h : DocAt w w.heap.size v R) (hb : Below w.heap.size w w') : DocAt w' w'.heap.size v R := (h.below hb).more hb.size
theorem DocAt.nil (w : World) (B : Nat) : DocAt w B (.slice none 0 0) [] := ⟨SlA.nil _ _ _, fun p hp => by simp at hp⟩
/-- a key's versions -/
theorem DocAt.lk (h : DocAt w B v R) (k : K25) : SlA w B 11 (slR R k) ((vsR R k).map verD) := by
 unfold slR vsR
 cases hl : Go.Proofs.YtcedmfnlkelhkaaGreatDoor.lk R k with
 | none => exact SlA.nil _ _ _
 | some y =>
  have hm : (k, y) ∈ R := by
   unfold Go.Proofs.YtcedmfnlkelhkaaGreatDoor.lk at hl
   simp only [Option.map_eq_some_iff] at hl
   obtain ⟨q, hq, rfl⟩ := hl
   have h3 : q.1 = k := by simpa using List.find?_some hq
   rw [← h3]; exact List.mem_of_find?_eq_some hq
  exact h.vs _ hm
theorem DocAt.one (h : DocAt w B v R) : ∀ x ∈ R.map rowR, allOne x = true := by
 intro x hx
 obtain ⟨p, hp, rfl⟩ := List.mem_map.1 hx
 obtain ⟨a, c, e, _⟩ := (h.vs p hp).form
 unfold rowR
 rw [e]
 exact one_rowRV _ _ _ _
end
end Go.Proofs.YtcedmfnlkelhkaaGreatDoor

/- The rule for a region that draws its order, by a list of what each operation gives; a block that is known whole. -/
import Derived.Test.YtjdccgmoldmlmaaDoorFree
namespace Go.Proofs.YtjdccgmoldmlmaaDoor
open Go.RowKit

/-- the world with block b, one from B on, holding o -/
def _root_.Go.World.putF (w : World) (_B b : Nat) (o : Obj) : World := { w with heap := w.heap.setIfInBounds b o }

section
variable {w : World} {B b : Nat}
@[go_sem, simp] theorem _root_.Go.World.putF_size (o : Obj) : (w.putF B b o).heap.size = w.heap.size := by simp [World.putF]
theorem _root_.Go.World.putF_self {o : Obj} (h : w.heap[b]? = some o) : w.putF B b o = w := by
  have : w.heap.setIfInBounds b o = w.heap := by
    apply Array.ext_getElem?
    intro k
    by_cases hk : b = k
    · subst hk; rw [h]
      have : b < w.heap.size := by
        rcases Nat.lt_or_ge b w.heap.size with hlt | hge
        · exact hlt
        · rw [Array.getElem?_eq_none hge] at h; cases h
      rw [Array.getElem?_setIfInBounds_self_of_lt this]
    · rw [Array.getElem?_setIfInBounds_ne hk]
  simp [World.putF, this]
theorem _root_.Go.World.putF_heap_ne (o : Obj) {n : Nat} (h : n ≠ b) : (w.putF B b o).heap[n]? = w.heap[n]? := by
  simp only [World.putF]; rw [Array.getElem?_setIfInBounds_ne (fun e => h e.symm)]
theorem _root_.Go.World.putF_heap_eq (o : Obj) (h : b < w.heap.size) : (w.putF B b o).heap[b]? = some o := by
  simp only [World.putF]; rw [Array.getElem?_setIfInBounds_self_of_lt h]
@[go_sem] theorem _root_.Go.World.cell?_putF_hit (c : Array Value) (t : TypeId) (i : Nat) (h : b < w.heap.size) : (w.putF B b (.cells c t)).cell? ⟨b, i, none⟩ = c[i]? := by
  simp [World.cell?, World.putF_heap_eq _ h]
@[go_sem] theorem _root_.Go.World.frozen?_putF_hit (c : Array Value) (t : TypeId) (i : Nat) (h : b < w.heap.size) : (w.putF B b (.cells c t)).frozen? ⟨b, i, none⟩ = false := by
  simp [World.frozen?, World.putF_heap_eq _ h]
@[go_sem] theorem _root_.Go.World.cell?_putF_old (o : Obj) (n i : Nat) (h1 : n < B) (h2 : B ≤ b) : (w.putF B b o).cell? ⟨n, i, none⟩ = w.cell? ⟨n, i, none⟩ := by
  simp [World.cell?, World.putF_heap_ne (w := w) (B := B) o (show n ≠ b by omega)]
@[go_sem] theorem _root_.Go.World.frozen?_putF_old (o : Obj) (n i : Nat) (h1 : n < B) (h2 : B ≤ b) : (w.putF B b o).frozen? ⟨n, i, none⟩ = w.frozen? ⟨n, i, none⟩ := by
  simp [World.frozen?, World.putF_heap_ne (w := w) (B := B) o (show n ≠ b by omega)]
@[go_sem] theorem _root_.Go.World.cell?_putF_miss (o : Obj) (n i : Nat) (h : n ≠ b) : (w.putF B b o).cell? ⟨n, i, none⟩ = w.cell? ⟨n, i, none⟩ := by
  simp [World.cell?, World.putF_heap_ne (w := w) (B := B) o h]
@[go_sem] theorem _root_.Go.World.frozen?_putF_miss (o : Obj) (n i : Nat) (h : n ≠ b) : (w.putF B b o).frozen? ⟨n, i, none⟩ = w.frozen? ⟨n, i, none⟩ := by
  simp [World.frozen?, World.putF_heap_ne (w := w) (B := B) o h]
theorem _root_.Go.World.setCell_putF_ne (o : Obj) (n i : Nat) (v : Value) (h : n ≠ b) : (w.putF B b o).setCell ⟨n, i, none⟩ v = (w.setCell ⟨n, i, none⟩ v).putF B b o := by
  unfold World.setCell World.putF
  simp only
  congr 1
  apply Array.ext_getElem?
  intro k
  by_cases hk : b = k
  · subst hk
    rw [Array.getElem?_modify, if_neg h]
    by_cases hb : b < w.heap.size
    · rw [Array.getElem?_setIfInBounds_self_of_lt hb, Array.getElem?_setIfInBounds_self_of_lt (by simpa using hb)]
    · rw [Array.getElem?_eq_none (by simp; omega), Array.getElem?_eq_none (by simp; omega)]
  · rw [Array.getElem?_setIfInBounds_ne hk, Array.getElem?_modify, Array.getElem?_modify, Array.getElem?_setIfInBounds_ne hk]
@[go_sem] theorem _root_.Go.World.setCell_putF_old (o : Obj) (n i : Nat) (v : Value) (h1 : n < B) (h2 : B ≤ b) : (w.putF B b o).setCell ⟨n, i, none⟩ v = (w.setCell ⟨n, i, none⟩ v).putF B b o :=
  World.setCell_putF_ne o n i v (by omega)
@[go_sem] theorem _root_.Go.World.setCell_putF_miss (o : Obj) (n i : Nat) (v : Value) (h : n ≠ b) : (w.putF B b o).setCell ⟨n, i, none⟩ v = (w.setCell ⟨n, i, none⟩ v).putF B b o :=
  World.setCell_putF_ne o n i v h
@[go_sem] theorem _root_.Go.World.setCell_putF_hit (c : Array Value) (t : TypeId) (i : Nat) (v : Value) (h : b < w.heap.size) :
    (w.putF B b (.cells c t)).setCell ⟨b, i, none⟩ v = w.putF B b (.cells (c.setIfInBounds i v) t) := by
  unfold World.setCell World.putF
  simp only
  congr 1
  apply Array.ext_getElem?
  intro k
  by_cases hk : b = k
  · subst hk
    rw [Array.getElem?_modify, if_pos rfl, Array.getElem?_setIfInBounds_self_of_lt h, Array.getElem?_setIfInBounds_self_of_lt h]
    rfl
  · rw [Array.getElem?_modify, if_neg hk, Array.getElem?_setIfInBounds_ne hk, Array.getElem?_setIfInBounds_ne hk]
@[go_sem] theorem _root_.Go.World.putF_drew (o : Obj) : (w.putF B b o).drew = w.drew.putF B b o := rfl
theorem _root_.Go.RowKit.Below.putF {B' : Nat} {a : World} (h : Below B' a w) (hb : B' ≤ b) (o : Obj) : Below B' a (w.putF B b o) :=
  h.trans ⟨rfl, rfl, rfl, by simp, fun k hk => World.putF_heap_ne o (by omega)⟩
end

/-- what an operation gives -/
structure Spec where
  R : Nat → Value → World → Prop
  stays : ∀ B v w w', R B v w → Below w.heap.size w w' → R B v w'
  pureVal : Option Value
  pureOk : ∀ v, pureVal = some v → ∀ B w, R B v w
  isNew : Bool
/-- a value -/
def Spec.val (v : Value) : Spec := ⟨fun _ u _ => u = v, fun _ _ _ _ h _ => h, none, fun _ h => (by cases h), false⟩
/-- a value, in whatever world -/
def Spec.pure (v : Value) : Spec := ⟨fun _ u _ => u = v, fun _ _ _ _ h _ => h, some v, fun _ h _ _ => (by cases h; rfl), false⟩
/-- a new block -/
def Spec.new (o : Obj) : Spec := ⟨fun B u w => ∃ b, u = .pointer (some ⟨b, 0, none⟩) ∧ B ≤ b ∧ b < w.heap.size ∧ w.heap[b]? = some o,
  fun _ _ _ _ ⟨b, h1, h2, h3, h4⟩ hb => ⟨b, h1, h2, Nat.lt_of_lt_of_le h3 hb.size, (by rw [hb.block b h3]; exact h4)⟩, none, fun _ h => (by cases h), true⟩
/-- something that stays true -/
def Spec.rel (R : Value → World → Prop) : Spec := ⟨fun _ u w => ∀ w', Below w.heap.size w w' → R u w', fun _ _ _ _ h hb w'' h2 => h w'' (hb.trans (h2.mono hb.size)), none, fun _ h => (by cases h), false⟩
def puresOf (l : List Spec) : List Nat := (List.range l.length).filter fun i => ((l[i]?).map fun s => s.pureVal.isSome).getD false
def newsOf (l : List Spec) : List Nat := (List.range l.length).filter fun i => ((l[i]?).map (·.isNew)).getD false
def RS (B : Nat) (l : List Spec) (i : Nat) (v : Value) (w : World) : Prop := match l[i]? with | some s => s.R B v w | none => True
/-- what an operation must leave, by its spec -/
def LeftS (B : Nat) (s : Spec) (fr : Array Value) (df : List Deferred) (d : Option Nat) (w : World) (a' : Act) (w' : World) : Prop :=
  ∃ v, (⟨fr, df⟩ : Act).put d v = a' ∧ s.R B v w' ∧ Below w.heap.size w w' ∧ (s.isNew = true → ∃ b, v = .pointer (some ⟨b, 0, none⟩) ∧ w.heap.size ≤ b ∧ b < w'.heap.size)
/-- the obligations, one for each operation -/
def Obl1 (P : Program) (ops : Array Oper) (Q : Exit → Act → World → Prop) (w0 : World) (F : (Nat → Value) → Array Value) (df : List Deferred) (ds news : List Nat) (n : Nat) (all : List Spec) (i : Nat) (o : Oper) (s : Spec) : Prop :=
  match s.pureVal with
  | some v => ∀ x w1, Held ops n ds news (RS w0.heap.size all) w0 (fun j => j ∈ past ops 4 i) x w1 → Yields P ops o v ⟨F x, df⟩
  | none => ∀ x w1, Held ops n ds news (RS w0.heap.size all) w0 (fun j => j ∈ past ops 4 i) x w1 →
      ∀ K : Act → World → Prop, (∀ a' w', LeftS w0.heap.size s (F x) df o.dst w1 a' w' → K a' w') →
      if Region.wanted o (yielded ops (F x)) = true then o.wp P ⟨F x, df⟩ w1 K Q else K ((⟨F x, df⟩ : Act).put o.dst undef) w1
def Obl (P : Program) (ops : Array Oper) (Q : Exit → Act → World → Prop) (w0 : World) (F : (Nat → Value) → Array Value) (df : List Deferred) (ds news : List Nat) (n : Nat) (all : List Spec) : Nat → List Oper → List Spec → Prop
  | i, o :: l, s :: ss => Obl1 P ops Q w0 F df ds news n all i o s ∧ Obl P ops Q w0 F df ds news n all (i + 1) l ss
  | _, _, _ => True

theorem Obl.at_ {P : Program} {ops : Array Oper} {Q : Exit → Act → World → Prop} {w0 : World} {F : (Nat → Value) → Array Value} {df : List Deferred} {ds news : List Nat} {n : Nat} {all : List Spec} :
    ∀ (l : List Oper) (ss : List Spec) (k : Nat), Obl P ops Q w0 F df ds news n all k l ss → ∀ i o s, l[i]? = some o → ss[i]? = some s → Obl1 P ops Q w0 F df ds news n all (k + i) o s
  | o :: l, s :: ss, k, h, 0, o', s', ho, hs => by
    simp at ho hs; subst ho; subst hs; exact h.1
  | o :: l, s :: ss, k, h, i + 1, o', s', ho, hs => by
    have := Obl.at_ l ss (k + 1) h.2 i o' s' (by simpa using ho) (by simpa using hs)
    simpa [Nat.add_assoc, Nat.add_comm 1 i] using this
  | [], _, _, _, _, _, _, ho, _ => by simp at ho
  | _ :: _, [], _, _, _, _, _, _, hs => by simp at hs

theorem mem_puresOf {l : List Spec} {i : Nat} (h : i ∈ puresOf l) : ∃ s v, l[i]? = some s ∧ s.pureVal = some v := by
  unfold puresOf at h
  rw [List.mem_filter] at h
  obtain ⟨_, h2⟩ := h
  cases hs : l[i]? with
  | none => simp [hs] at h2
  | some s =>
    rw [hs] at h2
    simp only [Option.map_some, Option.getD_some] at h2
    obtain ⟨v, hv⟩ := Option.isSome_iff_exists.1 h2
    exact ⟨s, v, rfl, hv⟩
theorem not_mem_puresOf {l : List Spec} {i : Nat} (hi : i < l.length) (h : i ∉ puresOf l) : ∀ s, l[i]? = some s → s.pureVal = none := by
  intro s hs
  cases hv : s.pureVal with
  | none => rfl
  | some v =>
    refine (h ?_).elim
    unfold puresOf
    rw [List.mem_filter, hs]
    refine ⟨List.mem_range.2 hi, ?_⟩
    simp [hv]

theorem wp_region_specs {P : Program} {ops : Array Oper} {Q : Exit → Act → World → Prop} {rid : Nat} {a : Act} {w : World} (hm : P.follows .mixedOrders = true) (specs : List Spec) (n : Nat) (hn : specs.length = n) (ds news pures : List Nat) (hnews : newsOf specs = news)
    (hpures : puresOf specs = pures) (hpn : ∀ i ∈ news, i ∉ pures) (hck : preCheck ops n ds pures = true)
    (hQ : ∀ (s : Nat) v c a w, Q (.panic c) (a.put (some s) v) w → Q (.panic c) a w)
    (F : (Nat → Value) → Array Value) (hF : ∀ x, over a.tmps ds x = F x)
    (hops : Obl P ops Q w.drew F a.defers ds news n specs 0 ops.toList specs)
    (hend : ∀ x w1, Held ops n ds news (RS w.drew.heap.size specs) w.drew (fun _ => True) x w1 → wpList P ops Q (ops.toList.drop n) ⟨F x, a.defers⟩ w1) :
    (Code.region rid ops true).wp P Q a w := by
  subst hn; subst hnews; subst hpures
  refine wp_region_free hm specs.length ds (newsOf specs) (puresOf specs) (RS w.drew.heap.size specs) hck hQ ?_ ?_ ?_ ?_
  · intro i v w1 w2 h hb
    unfold RS at *
    split
    · rename_i s hs; rw [hs] at h; exact s.stays _ v w1 w2 h hb
    · trivial
  · intro i hip
    obtain ⟨s, v, hs, hv⟩ := mem_puresOf hip
    refine ⟨fun hm => hpn i hm hip, fun o ho x w1 hH => ?_⟩
    have := hops.at_ _ _ _ i o _ (by simpa using ho) hs
    rw [Nat.zero_add] at this
    unfold Obl1 at this
    rw [hv] at this
    refine ⟨v, ?_, ?_⟩
    · rw [hF]; exact this x w1 hH
    · unfold RS; rw [hs]; exact s.pureOk v hv _ _
  · intro i hi hip o ho x w1 hH K hK
    have hs : specs[i]? = some specs[i] := List.getElem?_eq_getElem hi
    have hnp := not_mem_puresOf hi hip _ hs
    have key := hops.at_ _ _ _ i o specs[i] (by simpa using ho) hs
    rw [Nat.zero_add] at key
    unfold Obl1 at key
    rw [hnp] at key
    have key2 := key x w1 hH
    rw [hF]
    refine key2 K ?_
    rintro a' w' ⟨v, rfl, hR, hB, hN⟩
    refine hK _ _ ⟨v, ?_, ?_, hB, fun hmem => hN ?_⟩
    · rw [← hF]; unfold dstOf; rw [ho]; rfl
    · unfold RS; rw [hs]; exact hR
    · unfold newsOf at hmem
      rw [List.mem_filter, hs] at hmem
      simpa using hmem.2
  · intro x w1 hH
    rw [hF]
    exact hend x w1 hH
theorem left_new {B b : Nat} {o : Obj} {fr : Array Value} {df : List Deferred} {d : Option Nat} {w : World} {a' : Act} (he : (⟨fr, df⟩ : Act).put d (.pointer (some ⟨b, 0, none⟩)) = a') (hb : b = w.heap.size) (hB : B ≤ w.heap.size) :
    LeftS B (.new o) fr df d w a' (w.alloc o) := by
  subst hb
  have hs : (w.alloc o).heap.size = w.heap.size + 1 := by simp
  refine ⟨_, he, ⟨_, rfl, hB, by omega, ?_⟩, (Below.refl _ _).alloc (Nat.le_refl _) _, fun _ => ⟨_, rfl, Nat.le_refl _, by omega⟩⟩
  show (w.heap.push o)[w.heap.size]? = some o
  simp
/-- blocks that are known are written into the world's spelling -/
theorem new_known1 {P : Program} {ops : Array Oper} {Q : Exit → Act → World → Prop} {l : List Oper} {a : Act} {w : World} {B b1 : Nat} {o1 : Obj} (h1 : w.heap[b1]? = some o1) (_ : B ≤ b1) (_ : b1 < w.heap.size)
    (hk : wpList P ops Q l a (w.putF B b1 o1)) : wpList P ops Q l a w := by rw [World.putF_self h1] at hk; exact hk
theorem new_known2 {P : Program} {ops : Array Oper} {Q : Exit → Act → World → Prop} {l : List Oper} {a : Act} {w : World} {B b1 b2 : Nat} {o1 o2 : Obj} (h1 : w.heap[b1]? = some o1) (_ : B ≤ b1) (_ : b1 < w.heap.size) (h2 : w.heap[b2]? = some o2) (_ : B ≤ b2) (_ : b2 < w.heap.size)
    (hk : wpList P ops Q l a ((w.putF B b1 o1).putF B b2 o2)) : wpList P ops Q l a w := by rw [World.putF_self h1, World.putF_self h2] at hk; exact hk
theorem new_known3 {P : Program} {ops : Array Oper} {Q : Exit → Act → World → Prop} {l : List Oper} {a : Act} {w : World} {B b1 b2 b3 : Nat} {o1 o2 o3 : Obj} (h1 : w.heap[b1]? = some o1) (_ : B ≤ b1) (_ : b1 < w.heap.size) (h2 : w.heap[b2]? = some o2) (_ : B ≤ b2) (_ : b2 < w.heap.size) (h3 : w.heap[b3]? = some o3) (_ : B ≤ b3) (_ : b3 < w.heap.size)
    (hk : wpList P ops Q l a (((w.putF B b1 o1).putF B b2 o2).putF B b3 o3)) : wpList P ops Q l a w := by rw [World.putF_self h1, World.putF_self h2, World.putF_self h3] at hk; exact hk
theorem new_known4 {P : Program} {ops : Array Oper} {Q : Exit → Act → World → Prop} {l : List Oper} {a : Act} {w : World} {B b1 b2 b3 b4 : Nat} {o1 o2 o3 o4 : Obj} (h1 : w.heap[b1]? = some o1) (_ : B ≤ b1) (_ : b1 < w.heap.size) (h2 : w.heap[b2]? = some o2) (_ : B ≤ b2) (_ : b2 < w.heap.size) (h3 : w.heap[b3]? = some o3) (_ : B ≤ b3) (_ : b3 < w.heap.size) (h4 : w.heap[b4]? = some o4) (_ : B ≤ b4) (_ : b4 < w.heap.size)
    (hk : wpList P ops Q l a ((((w.putF B b1 o1).putF B b2 o2).putF B b3 o3).putF B b4 o4)) : wpList P ops Q l a w := by rw [World.putF_self h1, World.putF_self h2, World.putF_self h3, World.putF_self h4] at hk; exact hk
theorem new_known5 {P : Program} {ops : Array Oper} {Q : Exit → Act → World → Prop} {l : List Oper} {a : Act} {w : World} {B b1 b2 b3 b4 b5 : Nat} {o1 o2 o3 o4 o5 : Obj} (h1 : w.heap[b1]? = some o1) (_ : B ≤ b1) (_ : b1 < w.heap.size) (h2 : w.heap[b2]? = some o2) (_ : B ≤ b2) (_ : b2 < w.heap.size) (h3 : w.heap[b3]? = some o3) (_ : B ≤ b3) (_ : b3 < w.heap.size) (h4 : w.heap[b4]? = some o4) (_ : B ≤ b4) (_ : b4 < w.heap.size) (h5 : w.heap[b5]? = some o5) (_ : B ≤ b5) (_ : b5 < w.heap.size)
    (hk : wpList P ops Q l a (((((w.putF B b1 o1).putF B b2 o2).putF B b3 o3).putF B b4 o4).putF B b5 o5)) : wpList P ops Q l a w := by rw [World.putF_self h1, World.putF_self h2, World.putF_self h3, World.putF_self h4, World.putF_self h5] at hk; exact hk
theorem new_known6 {P : Program} {ops : Array Oper} {Q : Exit → Act → World → Prop} {l : List Oper} {a : Act} {w : World} {B b1 b2 b3 b4 b5 b6 : Nat} {o1 o2 o3 o4 o5 o6 : Obj} (h1 : w.heap[b1]? = some o1) (_ : B ≤ b1) (_ : b1 < w.heap.size) (h2 : w.heap[b2]? = some o2) (_ : B ≤ b2) (_ : b2 < w.heap.size) (h3 : w.heap[b3]? = some o3) (_ : B ≤ b3) (_ : b3 < w.heap.size) (h4 : w.heap[b4]? = some o4) (_ : B ≤ b4) (_ : b4 < w.heap.size) (h5 : w.heap[b5]? = some o5) (_ : B ≤ b5) (_ : b5 < w.heap.size) (h6 : w.heap[b6]? = some o6) (_ : B ≤ b6) (_ : b6 < w.heap.size)
    (hk : wpList P ops Q l a ((((((w.putF B b1 o1).putF B b2 o2).putF B b3 o3).putF B b4 o4).putF B b5 o5).putF B b6 o6)) : wpList P ops Q l a w := by rw [World.putF_self h1, World.putF_self h2, World.putF_self h3, World.putF_self h4, World.putF_self h5, World.putF_self h6] at hk; exact hk
theorem new_known7 {P : Program} {ops : Array Oper} {Q : Exit → Act → World → Prop} {l : List Oper} {a : Act} {w : World} {B b1 b2 b3 b4 b5 b6 b7 : Nat} {o1 o2 o3 o4 o5 o6 o7 : Obj} (h1 : w.heap[b1]? = some o1) (_ : B ≤ b1) (_ : b1 < w.heap.size) (h2 : w.heap[b2]? = some o2) (_ : B ≤ b2) (_ : b2 < w.heap.size) (h3 : w.heap[b3]? = some o3) (_ : B ≤ b3) (_ : b3 < w.heap.size) (h4 : w.heap[b4]? = some o4) (_ : B ≤ b4) (_ : b4 < w.heap.size) (h5 : w.heap[b5]? = some o5) (_ : B ≤ b5) (_ : b5 < w.heap.size) (h6 : w.heap[b6]? = some o6) (_ : B ≤ b6) (_ : b6 < w.heap.size) (h7 : w.heap[b7]? = some o7) (_ : B ≤ b7) (_ : b7 < w.heap.size)
    (hk : wpList P ops Q l a (((((((w.putF B b1 o1).putF B b2 o2).putF B b3 o3).putF B b4 o4).putF B b5 o5).putF B b6 o6).putF B b7 o7)) : wpList P ops Q l a w := by rw [World.putF_self h1, World.putF_self h2, World.putF_self h3, World.putF_self h4, World.putF_self h5, World.putF_self h6, World.putF_self h7] at hk; exact hk
theorem new_known8 {P : Program} {ops : Array Oper} {Q : Exit → Act → World → Prop} {l : List Oper} {a : Act} {w : World} {B b1 b2 b3 b4 b5 b6 b7 b8 : Nat} {o1 o2 o3 o4 o5 o6 o7 o8 : Obj} (h1 : w.heap[b1]? = some o1) (_ : B ≤ b1) (_ : b1 < w.heap.size) (h2 : w.heap[b2]? = some o2) (_ : B ≤ b2) (_ : b2 < w.heap.size) (h3 : w.heap[b3]? = some o3) (_ : B ≤ b3) (_ : b3 < w.heap.size) (h4 : w.heap[b4]? = some o4) (_ : B ≤ b4) (_ : b4 < w.heap.size) (h5 : w.heap[b5]? = some o5) (_ : B ≤ b5) (_ : b5 < w.heap.size) (h6 : w.heap[b6]? = some o6) (_ : B ≤ b6) (_ : b6 < w.heap.size) (h7 : w.heap[b7]? = some o7) (_ : B ≤ b7) (_ : b7 < w.heap.size) (h8 : w.heap[b8]? = some o8) (_ : B ≤ b8) (_ : b8 < w.heap.size)
    (hk : wpList P ops Q l a ((((((((w.putF B b1 o1).putF B b2 o2).putF B b3 o3).putF B b4 o4).putF B b5 o5).putF B b6 o6).putF B b7 o7).putF B b8 o8)) : wpList P ops Q l a w := by rw [World.putF_self h1, World.putF_self h2, World.putF_self h3, World.putF_self h4, World.putF_self h5, World.putF_self h6, World.putF_self h7, World.putF_self h8] at hk; exact hk
end Go.Proofs.YtjdccgmoldmlmaaDoor

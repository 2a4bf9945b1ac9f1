/- Slices of structs: what can be read of them; rows that a call owns and appends to. -/
import Derived.Test.YtjdccgmoldmlmaaDoorOwn
import Derived.Test.YtjdccgmoldmlmaaDoorFlat
import Derived.Maps.AppendAt
import Derived.OwnWalk
namespace Go.Proofs.YtjdccgmoldmlmaaDoor
open Go.RowKit

/-- a slice of elements of sz cells each, in blocks below B -/
def SlA (w : World) (B sz : Nat) (v : Value) (xs : List (Array Value)) : Prop :=
  (∀ x ∈ xs, x.size = sz) ∧ ∃ a cap, v = .slice a xs.length cap ∧ xs.length ≤ cap ∧ cap ≤ maxLen ∧
    (0 < xs.length → ∃ b o, a = some ⟨b, o, none⟩ ∧ b < B ∧ ∀ i x, xs[i]? = some x → w.cut? b (o + i * sz) sz = some x)
theorem cut_of_heap {w w' : World} {b : Nat} (h : w'.heap[b]? = w.heap[b]?) (o sz : Nat) : w'.cut? b o sz = w.cut? b o sz := by
  unfold World.cut?; rw [h]
theorem cut_sub {w : World} {b o n i m : Nat} {c : Array Value} (h : w.cut? b o n = some c) (hi : i + m ≤ n) : w.cut? b (o + i) m = some (c.extract i (i + m)) := by
  unfold World.cut? at h ⊢
  split at h
  · rename_i cs t fr hc
    split at h
    · rename_i hle
      obtain rfl := Option.some.inj h
      rw [if_pos (by omega)]
      congr 1
      have hs : (cs.extract o (o + n)).size = n := by simp; omega
      apply Array.ext_getElem?
      intro j
      by_cases hj : j < m
      · rw [Array.getElem?_extract, Array.getElem?_extract, hs, if_pos (by omega), if_pos (by omega), Array.getElem?_extract, if_pos (by omega)]
        congr 1; omega
      · rw [Array.getElem?_eq_none (by simp; omega), Array.getElem?_eq_none (by simp; omega)]
    · cases h
  · cases h
theorem SlA.keep {w w' : World} {B sz : Nat} {v : Value} {xs : List (Array Value)} (h : SlA w B sz v xs) (hk : ∀ b, b < B → w'.heap[b]? = w.heap[b]?) : SlA w' B sz v xs := by
  obtain ⟨h0, a, cap, h1, h2, h3, h4⟩ := h
  refine ⟨h0, a, cap, h1, h2, h3, fun hn => ?_⟩
  obtain ⟨b, o, e, hlt, hc⟩ := h4 hn
  exact ⟨b, o, e, hlt, fun i x hx => by rw [cut_of_heap (hk b hlt)]; exact hc i x hx⟩
theorem SlA.below {w w' : World} {B sz : Nat} {v : Value} {xs : List (Array Value)} (h : SlA w B sz v xs) (hb : Below B w w') : SlA w' B sz v xs := h.keep hb.block
theorem SlA.more {w : World} {B B' sz : Nat} {v : Value} {xs : List (Array Value)} (h : SlA w B sz v xs) (hB : B ≤ B') : SlA w B' sz v xs := by
  obtain ⟨h0, a, cap, h1, h2, h3, h4⟩ := h
  refine ⟨h0, a, cap, h1, h2, h3, fun hn => ?_⟩
  obtain ⟨b, o, e, hlt, hc⟩ := h4 hn
  exact ⟨b, o, e, by omega, hc⟩
theorem SlA.nil (w : World) (B sz : Nat) : SlA w B sz (.slice none 0 0) [] :=
  ⟨fun x hx => by simp at hx, none, 0, rfl, Nat.le_refl _, Nat.zero_le _, fun h => by simp at h⟩

/-- the cells of some rows, one behind the other -/
def flatA (xs : List (Array Value)) : List Value := (xs.map (·.toList)).flatten
theorem flatA_append (xs ys : List (Array Value)) : flatA (xs ++ ys) = flatA xs ++ flatA ys := by simp [flatA]
theorem flatA_one (x : Array Value) : flatA [x] = x.toList := by simp [flatA]
theorem flatA_len {sz : Nat} : ∀ {xs : List (Array Value)}, (∀ x ∈ xs, x.size = sz) → (flatA xs).length = xs.length * sz
  | [], _ => by simp [flatA]
  | x :: xs, h => by
    have ih := flatA_len (fun y hy => h y (List.mem_cons_of_mem x hy))
    unfold flatA at ih ⊢
    rw [List.map_cons, List.flatten_cons, List.length_append, ih, List.length_cons, Array.length_toList, h x (by simp), Nat.succ_mul, Nat.add_comm]
theorem flatA_get {sz : Nat} : ∀ {xs : List (Array Value)}, (∀ x ∈ xs, x.size = sz) → ∀ (i : Nat) (x : Array Value), xs[i]? = some x → ∀ j, j < sz → (flatA xs)[i * sz + j]? = x[j]?
  | [], _, i, x, h, _, _ => by simp at h
  | y :: xs, h, 0, x, hx, j, hj => by
    simp at hx; subst hx
    have hs := h y (by simp)
    unfold flatA
    rw [List.map_cons, List.flatten_cons, Nat.zero_mul, Nat.zero_add, List.getElem?_append_left (by simp [hs, hj])]
    simp
  | y :: xs, h, i + 1, x, hx, j, hj => by
    have hs := h y (by simp)
    have ih := flatA_get (fun z hz => h z (List.mem_cons_of_mem y hz)) i x (by simpa using hx) j hj
    unfold flatA at ih ⊢
    rw [List.map_cons, List.flatten_cons, List.getElem?_append_right (by simp [hs, Nat.succ_mul]; omega), ← ih]
    congr 1
    simp [hs, Nat.succ_mul]; omega
/-- what a call owns can be read -/
theorem SlA.of_own {w : World} {base sz : Nat} {e : TypeId} {v : Value} {xs : List (Array Value)} (hs : ∀ x ∈ xs, x.size = sz) (h : w.ownsRow base e sz v xs.length (flatA xs)) : SlA w w.heap.size sz v xs := by
  obtain ⟨h1, h2⟩ := h
  refine ⟨hs, ?_⟩
  rcases h2 with ⟨rfl, hn⟩ | ⟨g, cap, cur, rfl, hg, hh, hn, hm, hsz, hx⟩
  · refine ⟨none, 0, by rw [hn], by omega, Nat.zero_le _, fun h => by omega⟩
  · have hlt : g < w.heap.size := by
      rcases Nat.lt_or_ge g w.heap.size with h | h
      · exact h
      · rw [Array.getElem?_eq_none h] at hh; cases hh
    refine ⟨_, cap, rfl, hn, hm, fun _ => ⟨g, 0, rfl, hlt, fun i x hi => ?_⟩⟩
    have hil : i < xs.length := (List.getElem?_eq_some_iff.1 hi).1
    have hfl := flatA_len hs
    have hle : i * sz + sz ≤ xs.length * sz := by rw [← Nat.succ_mul]; exact Nat.mul_le_mul_right _ hil
    have hcl : (flatA xs).length ≤ cur.size := by rw [← hx, List.length_take]; simp; omega
    unfold World.cut?
    simp only [hh, Nat.zero_add]
    rw [if_pos (by omega)]
    congr 1
    apply Array.ext_getElem?
    intro j
    have hxs : x.size = sz := hs x (List.mem_of_getElem? hi)
    by_cases hj : j < sz
    · rw [Array.getElem?_extract, if_pos (by omega), ← flatA_get hs i x hi j hj, ← hx, List.getElem?_take, if_pos (by omega), Array.getElem?_toList]
    · rw [Array.getElem?_eq_none (by rw [Array.size_extract]; omega), Array.getElem?_eq_none (by omega)]

/-- t is a slice type of elements e, of sz cells and so many bytes -/
def RowType (P : Program) (t e : TypeId) (sz bytes : Nat) : Prop :=
  P.underlying t = some (.slice e) ∧ (P.info? e).map (fun i => (i.size, i.bytes, i.zero.map (·.cells.size))) = some (sz, bytes, some sz) ∧ 0 < sz ∧ bytes ≤ 1000000
/-- a row that the call owns, from block B on -/
def OwnA (w : World) (B sz : Nat) (e : TypeId) (v : Value) (xs : List (Array Value)) : Prop := (∀ x ∈ xs, x.size = sz) ∧ w.ownsRow B e sz v xs.length (flatA xs)
theorem OwnA.nil (w : World) (B sz : Nat) (e : TypeId) : OwnA w B sz e (.slice none 0 0) [] := ⟨fun x hx => by simp at hx, World.ownsRow_nil _ _ _ _⟩
theorem OwnA.keep {w w' : World} {B sz : Nat} {e : TypeId} {v : Value} {xs : List (Array Value)} (h : OwnA w B sz e v xs) (hk : ∀ g, v.ownBlock = some g → g < w.heap.size → w'.heap[g]? = w.heap[g]?) : OwnA w' B sz e v xs :=
  ⟨h.1, own_keep h.2 fun g _ hlt hv => hk g hv hlt⟩
theorem OwnA.grow {w : World} {B sz : Nat} {e : TypeId} {v : Value} {xs : List (Array Value)} (h : OwnA w B sz e v xs) (ys : Array Obj) (d : Nat) : OwnA (w.grow ys d) B sz e v xs := h.keep fun _ _ hlt => World.grow_heap _ _ _ hlt
theorem OwnA.alloc {w : World} {B sz : Nat} {e : TypeId} {v : Value} {xs : List (Array Value)} (h : OwnA w B sz e v xs) (o : Obj) : OwnA (w.alloc o) B sz e v xs := h.keep fun _ _ hlt => heap_alloc_old (w := w) o hlt
theorem OwnA.drew {w : World} {B sz : Nat} {e : TypeId} {v : Value} {xs : List (Array Value)} (h : OwnA w B sz e v xs) : OwnA w.drew B sz e v xs := h
theorem OwnA.drewN {w : World} {B sz : Nat} {e : TypeId} {v : Value} {xs : List (Array Value)} (h : OwnA w B sz e v xs) (n : Nat) : OwnA (w.drewN n) B sz e v xs := h
theorem OwnA.below {w w' : World} {B sz : Nat} {e : TypeId} {v : Value} {xs : List (Array Value)} (h : OwnA w B sz e v xs) (hb : Below w.heap.size w w') : OwnA w' B sz e v xs := h.keep fun g _ hlt => hb.block g hlt
theorem OwnA.lt {w : World} {B sz : Nat} {e : TypeId} {v : Value} {xs : List (Array Value)} (h : OwnA w B sz e v xs) : ∀ g, v.ownBlock = some g → B ≤ g ∧ g < w.heap.size := by
  obtain ⟨_, _, h2⟩ := h
  intro g hg
  rcases h2 with ⟨rfl, _⟩ | ⟨g', cap, cur, rfl, hb, hh, _⟩
  · cases hg
  · simp only [Value.ownBlock, Option.some.injEq] at hg
    subst hg
    exact ⟨hb, (Array.getElem?_eq_some_iff.1 hh).1⟩
theorem OwnA.sl {w : World} {B sz : Nat} {e : TypeId} {v : Value} {xs : List (Array Value)} (h : OwnA w B sz e v xs) : SlA w w.heap.size sz v xs := SlA.of_own h.1 h.2
/-- the length, whatever it is -/
theorem OwnA.form {w : World} {B sz : Nat} {e : TypeId} {v : Value} {xs : List (Array Value)} (h : OwnA w B sz e v xs) : ∃ a cap, v = .slice a xs.length cap ∧ cap ≤ maxLen ∧ xs.length ≤ cap := by
  obtain ⟨_, a, cap, h1, h2, h3, _⟩ := h.sl
  exact ⟨a, cap, h1, h3, h2⟩

section
variable {P : Program} {w : World} {B sz bytes : Nat} {t e ty : TypeId} {v : Value} {xs : List (Array Value)}
/-- 'append(v, ys...)': the row owns the new ones too; where it lies; what else has turned -/
theorem append_run (R : RowType P t e sz bytes) (h : OwnA w B sz e v xs) {B2 : Nat} {y : Value} {ys : List (Array Value)} (hy : SlA w B2 sz y ys) (h1 : ∀ x ∈ ys, allOne x = true) (hn : xs.length + ys.length ≤ 100000) (hB : B ≤ w.heap.size) :
    ∃ v' w', (Builtin.append_ #[t, t] ty #[v, y]).run P w = .ok v' w' ∧ OwnA w' B sz e v' (xs ++ ys) ∧ w.grownBy w' v.ownBlock ∧ (v'.ownBlock = v.ownBlock ∨ v'.ownBlock = some w.heap.size) := by
  obtain ⟨ht, hi, hsz, hby⟩ := R
  cases hq : P.info? e with
  | none => simp [hq] at hi
  | some i =>
    simp only [hq, Option.map_some, Option.some.injEq, Prod.mk.injEq, Option.map_eq_some_iff] at hi
    obtain ⟨hi1, hi2, z, hz, hz2⟩ := hi
    obtain ⟨hys, a, cap, rfl, hc1, hc2, hc3⟩ := hy
    have hsize : ∀ x ∈ xs ++ ys, x.size = sz := by
      intro x hx
      rcases List.mem_append.1 hx with hx | hx
      · exact h.1 x hx
      · exact hys x hx
    have hbytes : (xs.length + ys.length) * bytes ≤ 140737488355328 := Nat.le_trans (Nat.mul_le_mul hn hby) (by decide)
    have hml : xs.length + ys.length ≤ maxLen := by unfold maxLen; omega
    have fin : ∀ (ad : Addr), (∀ j u, (flatA ys)[j]? = some u → w.cell? (ad.add j) = some u) → (cap' : Nat) → ∃ v' w', (Builtin.append_ #[t, t] ty #[v, .slice (some ad) ys.length cap']).run P w = .ok v' w' ∧ OwnA w' B sz e v' (xs ++ ys) ∧ w.grownBy w' v.ownBlock ∧ (v'.ownBlock = v.ownBlock ∨ v'.ownBlock = some w.heap.size) := by
      intro ad hcell cap'
      obtain ⟨v', w', hr, h2, h3, _, h5⟩ := run_append_own_at (P := P) w B t ty e i z sz bytes ht hq hz hi1 hi2 hz2 hsz v xs.length (flatA xs) h.2 ad ys.length cap' (flatA ys) (flatA_len hys) hcell (fun u hu => by
        unfold flatA at hu
        rw [List.mem_flatten] at hu
        obtain ⟨l, hl, hul⟩ := hu
        obtain ⟨x, hx, rfl⟩ := List.mem_map.1 hl
        have := h1 x hx
        unfold allOne at this
        exact (Array.all_eq_true_iff_forall_mem.1 this) u (by simpa using hul)) hml hbytes hB
      exact ⟨v', w', hr, ⟨hsize, by rw [List.length_append, flatA_append]; exact h2⟩, h3, h5⟩
    rcases Nat.eq_zero_or_pos ys.length with h0 | h0
    · have hnil : ys = [] := List.eq_nil_of_length_eq_zero h0
      subst hnil
      cases a with
      | none =>
        refine ⟨v, w, ?_, by simpa using h, World.grownBy.refl w _, .inl rfl⟩
        rcases h.2.2 with ⟨rfl, hn0⟩ | ⟨g, cap', cur, rfl, _, _, hnc, _⟩
        · simp [Builtin.append_, run_underlying ht, sizeOf, typeInfo, hq, Builtin.lenOf, Builtin.firstCells]
        · simp [Builtin.append_, run_underlying ht, sizeOf, typeInfo, hq, Builtin.lenOf, Builtin.firstCells, hnc, storeCells]
      | some ad => exact fin ad (fun j u hu => by simp [flatA] at hu) cap
    · obtain ⟨b, o, rfl, hlt, hcut⟩ := hc3 h0
      refine fin ⟨b, o, none⟩ (fun j u hu => ?_) cap
      rw [addr_add]
      have hjl : j < ys.length * sz := by rw [← flatA_len hys]; exact (List.getElem?_eq_some_iff.1 hu).1
      have hq1 : j / sz < ys.length := Nat.div_lt_of_lt_mul (by rw [Nat.mul_comm]; exact hjl)
      have hx := List.getElem?_eq_getElem hq1
      have hr := Nat.mod_lt j hsz
      have hdm : j / sz * sz + j % sz = j := by rw [Nat.mul_comm]; exact Nat.div_add_mod j sz
      have h2 := flatA_get hys _ _ hx _ hr
      rw [hdm, hu] at h2
      have := (cut_spec (hcut _ _ hx)).2 _ hr
      rw [Nat.add_assoc, hdm, ← h2] at this
      exact this
theorem wpList_append {ops : Array Oper} {rest : List Oper} {o : Oper} {a : Act} {Q : Exit → Act → World → Prop} (R : RowType P t e sz bytes) (hgd : o.guard = none) (s x : Operand)
    (ho : o.op = .call { callee := .builtin .append, args := #[s, x], argTypes := #[t, t] }) (hs : a.eval s = v) (h : OwnA w B sz e v xs) {y : Value} {ys : List (Array Value)} (hx : a.eval x = y) (hy : ∃ B2, SlA w B2 sz y ys)
    (h1 : ∀ x ∈ ys, allOne x = true) (hn : xs.length + ys.length ≤ 100000) (hB : B ≤ w.heap.size)
    (hK : ∀ v' w', OwnA w' B sz e v' (xs ++ ys) → w.grownBy w' v.ownBlock → (v'.ownBlock = v.ownBlock ∨ v'.ownBlock = some w.heap.size) → wpList P ops Q rest (a.put o.dst v') w') : wpList P ops Q (o :: rest) a w := by
  refine wpList_plain hgd fun K' hK' => ?_
  obtain ⟨B2, hy⟩ := hy
  obtain ⟨v', w', hr, h2, h3, h4⟩ := append_run (ty := o.type) R h hy h1 hn hB
  unfold Oper.wp execOp
  simp only [ho, resolve, invoke, builtin, Sem.run_bind, Sem.run_pure, Result.andThen_ok, List.map_toArray, List.map_cons, List.map_nil, hs, hx, hr]
  exact hK' _ _ (hK v' w' h2 h3 h4)
end
/-- one element in a block of its own -/
theorem sl_one {w : World} {b o c sz : Nat} {y : Array Value} (hc : 1 ≤ c) (hm : c ≤ maxLen) (h : w.cut? b o sz = some y) : SlA w (b + 1) sz (.slice (some ⟨b, o, none⟩) 1 c) [y] := by
  refine ⟨fun x hx => ?_, _, c, rfl, hc, hm, fun _ => ⟨b, o, rfl, by omega, fun i x hx => ?_⟩⟩
  · simp at hx; subst hx; exact (cut_spec h).1
  · match i, hx with
    | 0, hx => simp at hx; subst hx; simpa using h

theorem step_append {P : Program} {w : World} {B sz bytes : Nat} {t e : TypeId} {v : Value} {xs : List (Array Value)} {ops : Array Oper} {o : Oper} {a : Act} {K : Act → World → Prop} {Q : Exit → Act → World → Prop} {E : Prop} (R : RowType P t e sz bytes) (hgd : o.guard = none) (s x : Operand)
    (ho : o.op = .call { callee := .builtin .append, args := #[s, x], argTypes := #[t, t] }) (hs : a.eval s = v) (h : OwnA w B sz e v xs) {y : Value} {ys : List (Array Value)} (hx : a.eval x = y) (hy : ∃ B2, SlA w B2 sz y ys)
    (h1 : ∀ x ∈ ys, allOne x = true) (hn : xs.length + ys.length ≤ 100000) (hB : B ≤ w.heap.size)
    (hK : ∀ v' w', OwnA w' B sz e v' (xs ++ ys) → w.grownBy w' v.ownBlock → (v'.ownBlock = v.ownBlock ∨ v'.ownBlock = some w.heap.size) → K (a.put o.dst v') w') :
    if Region.wanted o (yielded ops a.tmps) = true then Oper.wp P o a w K Q else E := by
  rw [if_pos (by simp [Region.wanted, hgd])]
  obtain ⟨B2, hy⟩ := hy
  obtain ⟨v', w', hr, h2, h3, h4⟩ := append_run (ty := o.type) R h hy h1 hn hB
  unfold Oper.wp execOp
  simp only [ho, resolve, invoke, builtin, Sem.run_bind, Sem.run_pure, Result.andThen_ok, List.map_toArray, List.map_cons, List.map_nil, hs, hx, hr]
  exact hK v' w' h2 h3 h4
/-- parts of a slice -/
theorem SlA.form {w : World} {B sz : Nat} {v : Value} {xs : List (Array Value)} (h : SlA w B sz v xs) : ∃ a cap, v = .slice a xs.length cap ∧ xs.length ≤ cap ∧ cap ≤ maxLen := by
  obtain ⟨_, a, cap, h1, h2, h3, _⟩ := h
  exact ⟨a, cap, h1, h2, h3⟩
theorem SlA.take {w : World} {B sz cap n : Nat} {a : Option Addr} {xs : List (Array Value)} (h : SlA w B sz (.slice a xs.length cap) xs) (hn : n ≤ xs.length) : SlA w B sz (.slice a n cap) (xs.take n) := by
  obtain ⟨h0, a', cap', h1, h2, h3, h4⟩ := h
  simp only [Value.slice.injEq, true_and] at h1
  obtain ⟨rfl, rfl⟩ := h1
  have hl : (xs.take n).length = n := by simp; omega
  refine ⟨fun x hx => h0 x (List.mem_of_mem_take hx), a, cap, by rw [hl], by omega, h3, fun hp => ?_⟩
  obtain ⟨b, o, e, hlt, hc⟩ := h4 (by omega)
  refine ⟨b, o, e, hlt, fun i x hx => hc i x ?_⟩
  rw [List.getElem?_take] at hx
  split at hx
  · exact hx
  · cases hx
theorem own_empty {w : World} {B g sz : Nat} {e : TypeId} (h : w.heap[g]? = some (.cells #[] e)) (hB : B ≤ g) : OwnA w B sz e (.slice (some ⟨g, 0, none⟩) 0 0) [] :=
  ⟨fun x hx => by simp at hx, by simp [flatA], .inr ⟨g, 0, #[], rfl, hB, h, Nat.le_refl _, Nat.zero_le _, by simp, by simp [flatA]⟩⟩
theorem SlA.drop {w : World} {B sz cap n : Nat} {a : Option Addr} {xs : List (Array Value)} (h : SlA w B sz (.slice a xs.length cap) xs) (hn : n ≤ xs.length) :
    SlA w B sz (.slice (if cap = n then a else a.map fun x => x.add (n * sz)) (xs.length - n) (cap - n)) (xs.drop n) := by
  obtain ⟨h0, a', cap', h1, h2, h3, h4⟩ := h
  simp only [Value.slice.injEq, true_and] at h1
  obtain ⟨rfl, rfl⟩ := h1
  have hl : (xs.drop n).length = xs.length - n := by simp
  refine ⟨fun x hx => h0 x (List.mem_of_mem_drop hx), _, cap - n, by rw [hl], by omega, by omega, fun hp => ?_⟩
  obtain ⟨b, o, e, hlt, hc⟩ := h4 (by omega)
  subst e
  have hne : ¬ cap = n := by omega
  rw [if_neg hne]
  refine ⟨b, o + n * sz, by simp [addr_add], hlt, fun i x hx => ?_⟩
  rw [List.getElem?_drop] at hx
  have := hc (n + i) x hx
  rwa [show o + (n + i) * sz = o + n * sz + i * sz by rw [Nat.add_mul]; omega] at this
theorem heap_al (w : World) (o : Obj) (n : Nat) : (w.alloc o).heap[n]? = if n = w.heap.size then some o else w.heap[n]? := by
  show (w.heap.push o)[n]? = _
  rw [Array.getElem?_push]
theorem SlA.alloc {w : World} {B sz : Nat} {v : Value} {xs : List (Array Value)} (h : SlA w B sz v xs) (o : Obj) (hB : B ≤ w.heap.size) : SlA (w.alloc o) B sz v xs := h.keep fun b hb => heap_alloc_old (w := w) o (by omega)
theorem SlA.grow {w : World} {B sz : Nat} {v : Value} {xs : List (Array Value)} (h : SlA w B sz v xs) (ys : Array Obj) (d : Nat) (hB : B ≤ w.heap.size) : SlA (w.grow ys d) B sz v xs := h.keep fun b hb => World.grow_heap _ _ _ (by omega)
theorem cut_heap {w : World} {b sz : Nat} {c : Array Value} {t : TypeId} (h : w.heap[b]? = some (.cells c t)) (hs : c.size = sz) : w.cut? b 0 sz = some c := by
  unfold World.cut?
  simp only [h]
  rw [if_pos (by omega)]
  congr 1
  apply Array.extract_eq_self_of_le; omega
end Go.Proofs.YtjdccgmoldmlmaaDoor

/- Layer 11: the tree in memory; a bit of bytes; the leaf to which bits lead; a key's leaf and thing. -/
import Derived.Test.YtjdccgmoldmlmaaDoorTrie
import Derived.Test.YtjdccgmoldmlmaaDoorCopy
import Derived.Test.YtjdccgmoldmlmaaDoorEnt
import Derived.Handy
namespace Go.Proofs.YtjdccgmoldmlmaaDoor
set_option maxRecDepth 100000
open Go.RowKit

theorem lt_of_heap {w : World} {t : Nat} {o : Obj} (h : w.heap[t]? = some o) : t < w.heap.size := (Array.getElem?_eq_some_iff.1 h).1
/-- a pointer to the front of a block -/
def pt (b : Nat) : Value := .pointer (some ⟨b, 0, none⟩)
/-- a node's cells -/
def nodeC (leaf : Bool) (k b : List UInt8) (th : Value) (bit : Int) (p q : Value) : Array Value :=
  (.bool leaf :: ((k.map fun x => Value.int .u8 (x.toNat : Int)) ++ ((b.map fun x => Value.int .u8 (x.toNat : Int)) ++ [th, .int .i64 bit, p, q]))).toArray
section
variable {leaf : Bool} {k b : List UInt8} {th p q : Value} {bit : Int}
theorem nodeC_get (hk : k.length = 25) (hb : b.length = 25) : (nodeC leaf k b th bit p q)[0]? = some (.bool leaf) ∧ (nodeC leaf k b th bit p q)[51]? = some th ∧ (nodeC leaf k b th bit p q)[52]? = some (.int .i64 bit) ∧
    (nodeC leaf k b th bit p q)[53]? = some p ∧ (nodeC leaf k b th bit p q)[54]? = some q := by
  unfold nodeC
  refine ⟨rfl, ?_, ?_, ?_, ?_⟩
  all_goals
    rw [List.getElem?_toArray, List.getElem?_cons_succ, List.getElem?_append_right (by simp [hk]), List.getElem?_append_right (by simp [hk, hb])]
    simp [hk, hb]
theorem nodeC_size (hk : k.length = 25) (hb : b.length = 25) : (nodeC leaf k b th bit p q).size = 55 := by
  simp [nodeC, hk, hb]
theorem nodeC_key (hk : k.length = 25) : (nodeC leaf k b th bit p q).extract 1 26 = row8 k := by
  apply Array.ext'
  simp [nodeC, row8, List.extract_eq_take_drop, ← hk]
theorem nodeC_bytes (hk : k.length = 25) (hb : b.length = 25) : (nodeC leaf k b th bit p q).extract 26 51 = row8 b := by
  apply Array.ext'
  simp only [nodeC, row8, List.extract_eq_take_drop, Array.toList_extract]
  rw [List.drop_succ_cons, List.drop_append_of_le_length (by simp [hk]), List.drop_of_length_le (by simp [hk]), List.nil_append]
  rw [List.take_append_of_le_length (by simp [hb])]
  rw [List.take_of_length_le (by simp [hb])]
end
/-- a node at block a -/
def NodeAt (w : World) (a : Nat) (leaf : Bool) (k b : List UInt8) (th : Value) (bit : Int) (p q : Value) : Prop :=
  w.heap[a]? = some (.cells (nodeC leaf k b th bit p q) 81)
section
variable {w : World} {a : Nat} {leaf : Bool} {k b : List UInt8} {th p q : Value} {bit : Int}
theorem NodeAt.cells (h : NodeAt w a leaf k b th bit p q) (hk : k.length = 25) (hb : b.length = 25) :
    w.cell? ⟨a, 0, none⟩ = some (.bool leaf) ∧ w.cell? ⟨a, 51, none⟩ = some th ∧ w.cell? ⟨a, 52, none⟩ = some (.int .i64 bit) ∧ w.cell? ⟨a, 53, none⟩ = some p ∧ w.cell? ⟨a, 54, none⟩ = some q := by
  obtain ⟨h0, h1, h2, h3, h4⟩ := nodeC_get (leaf := leaf) (k := k) (b := b) (th := th) (p := p) (q := q) (bit := bit) hk hb
  unfold NodeAt at h
  simp only [World.cell?, h]
  exact ⟨h0, h1, h2, h3, h4⟩
theorem NodeAt.key (h : NodeAt w a leaf k b th bit p q) (hk : k.length = 25) (hb : b.length = 25) : w.cut? a 1 25 = some (row8 k) := by
  unfold NodeAt at h
  unfold World.cut?
  simp only [h]
  rw [if_pos (by rw [nodeC_size hk hb]; omega), nodeC_key hk]
theorem NodeAt.bytes (h : NodeAt w a leaf k b th bit p q) (hk : k.length = 25) (hb : b.length = 25) : w.cut? a 26 25 = some (row8 b) := by
  unfold NodeAt at h
  unfold World.cut?
  simp only [h]
  rw [if_pos (by rw [nodeC_size hk hb]; omega), nodeC_bytes hk hb]
end
/-- a tree lies in memory -/
def CT.At (w : World) : CT K25 → Prop
  | .leaf a k c => NodeAt w a true k.val k.val (pt c) 0 (.pointer none) (.pointer none)
  | .fork a bit l r => NodeAt w a false (zeros 25) (zeros 25) (.pointer none) bit (pt l.at_) (pt r.at_) ∧ l.At w ∧ r.At w
theorem CT.At.keep {w w' : World} : ∀ {T : CT K25}, T.At w → (∀ b ∈ T.foot, w'.heap[b]? = w.heap[b]?) → T.At w'
  | .leaf a k c, h, hk => (hk a (by simp [CT.foot])).trans h
  | .fork a bit l r, ⟨h1, h2, h3⟩, hk => ⟨(hk a (by simp [CT.foot])).trans h1, h2.keep fun b hb => hk b (by simp [CT.foot, hb]), h3.keep fun b hb => hk b (by simp [CT.foot, hb])⟩
theorem CT.At.lt {w : World} : ∀ {T : CT K25}, T.At w → ∀ b ∈ T.foot, b < w.heap.size
  | .leaf a k c, h, b, hb => by simp [CT.foot] at hb; subst hb; exact lt_of_heap h
  | .fork a bit l r, ⟨h1, h2, h3⟩, b, hb => by
    simp only [CT.foot, List.mem_cons, List.mem_append] at hb
    rcases hb with rfl | hb | hb
    · exact lt_of_heap h1
    · exact h2.lt b hb
    · exact h3.lt b hb
theorem CT.At.leaf {w : World} : ∀ {T : CT K25}, T.At w → ∀ x ∈ T.list, NodeAt w x.1 true x.2.1.val x.2.1.val (pt x.2.2) 0 (.pointer none) (.pointer none)
  | .leaf a k c, h, x, hx => by simp [CT.list] at hx; subst hx; exact h
  | .fork a bit l r, ⟨_, h2, h3⟩, x, hx => by
    rcases List.mem_append.1 hx with hx | hx
    · exact h2.leaf x hx
    · exact h3.leaf x hx
/-- the first node -/
theorem CT.At.root {w : World} : ∀ {T : CT K25}, T.At w → T.at_ < w.heap.size
  | .leaf a k c, h => lt_of_heap h
  | .fork a bit l r, h => lt_of_heap h.1
def rootV : Option (CT K25) → Value
  | none => .pointer none
  | some T => pt T.at_
def keyBytes (k : K25) : List UInt8 := k.val
/-- at t lies a tree -/
def TreeAt (w : World) (t : Nat) (R : Option (CT K25)) (n : Int) : Prop :=
  w.heap[t]? = some (.cells #[rootV R, .int .i64 n] 72) ∧ ∀ T, R = some T → T.At w ∧ T.Ok keyBytes 200
def optP : Option Nat → Value
  | none => .pointer none
  | some a => pt a
def nearR (R : Option (CT K25)) (b : List UInt8) : Option Nat := R.map fun T => (T.near b).1
def findR (R : Option (CT K25)) (k : K25) : Option Nat := R.bind fun T => if (T.near k.val).2.1 = k then some (T.near k.val).1 else none
def getR (R : Option (CT K25)) (k : K25) : Option Nat := R.bind fun T => if (T.near k.val).2.1 = k then some (T.near k.val).2.2 else none
theorem TreeAt.keep {w w' : World} {t : Nat} {R : Option (CT K25)} {n : Int} (h : TreeAt w t R n) (hb : Below w.heap.size w w') : TreeAt w' t R n :=
  ⟨(hb.block _ (lt_of_heap h.1)).trans h.1, fun T hT => ⟨(h.2 T hT).1.keep fun b hb' => hb.block b ((h.2 T hT).1.lt b hb'), (h.2 T hT).2⟩⟩

theorem side_sh : ∀ bit < 200, min (IntKind.u64.wrap (wrap64 (7 - bits BinOp.and IntKind.i64 ((bit : Nat) : Int) 7))).toNat 8 = 7 - bit % 8 := by decide +kernel
theorem side_and : ∀ y < 256, bits BinOp.and IntKind.i64 (wrap64 ((y : Nat) : Int)) 1 = ((y % 2 : Nat) : Int) := by decide +kernel
/-- which side: 0 or 1 -/
def sideI (b : List UInt8) (bit : Nat) : Int := if bitB b bit then 1 else 0
theorem sideI_eq (b : List UInt8) (bit : Nat) (h : bit < 200) : bits BinOp.and IntKind.i64 (wrap64 ((byt b (bit / 8)).toNat / 2 ^ min (IntKind.u64.wrap (wrap64 (7 - bits BinOp.and IntKind.i64 (bit : Int) 7))).toNat 8)) 1 = sideI b bit := by
  rw [side_sh bit h]
  have hx := (byt b (bit / 8)).toNat_lt
  have e : ((byt b (bit / 8)).toNat : Int) / 2 ^ (7 - bit % 8) = (((byt b (bit / 8)).toNat / 2 ^ (7 - bit % 8) : Nat) : Int) := by
    rw [Int.natCast_ediv]; simp
  rw [e, side_and _ (Nat.lt_of_le_of_lt (Nat.div_le_self _ _) (by omega))]
  unfold sideI bitB
  by_cases hb : (byt b (bit / 8)).toNat / 2 ^ (7 - bit % 8) % 2 = 1
  · simp [hb]
  · simp [hb]; omega
theorem side_gives (b : List UInt8) (hb : b.length = 25) (bit : Nat) (hbit : bit < 200) (w : World) : Gives Tryd.prog 26 #[.agg (row8 b), .int .i64 bit] w (.int .i64 (sideI b bit)) := by
  have hg : (row8 b)[bit / 8]? = some (.int .u8 ((byt b (bit / 8)).toNat : Int)) := row8_get b _ (by omega)
  have he := sideI_eq b bit hbit
  have HE := Lib.hid he
  clear he
  unfold Gives
  go_enter Tryd.func26, Tryd.ntmps26
  go_wp2_with fail
  rw [HE.out]
  go_ret
  exact ⟨rfl, (by repeat (first | exact below_of_grow _ _ | exact Below.refl _ _ | exact below_more _ _ _ _ | (simp only [← Array.append_assoc]; first | exact below_more _ _ _ _ | exact below_same _ _ _ | exact Below.refl _ _) | exact below_same _ _ _ | (refine Below.alloc ?_ (by first | (simp; done) | (simp; omega)) _) | (refine Below.grow ?_ (by first | (simp; done) | (simp; omega)) _ _) | refine Below.drew ?_ | refine Below.drewN ?_ _ | (refine Below.putF ?_ (by first | (simp; done) | omega | (simp; omega)) _) | (refine Below.setCell ?_ (by first | (simp; done) | (simp; omega)) _)))⟩
theorem pt_inj {a b : Nat} (h : pt a = pt b) : a = b := by
  simp only [pt, Option.some.injEq, Value.pointer.injEq, Addr.mk.injEq, and_true] at h; exact h
theorem at_leaf (a : Nat) (k : K25) (c : Nat) : (CT.leaf a k c).at_ = a := rfl
theorem at_fork (a bit : Nat) (l r : CT K25) : (CT.fork a bit l r).at_ = a := rfl
/-- how deep a tree is, is told by the memory -/
theorem At.depth_eq {w : World} : ∀ {X Y : CT K25}, X.At w → Y.At w → X.at_ = Y.at_ → X.depth = Y.depth
  | .leaf a k c, .leaf a' k' c', _, _, _ => rfl
  | .leaf a k c, .fork a' bit l r, hX, hY, e => by
    simp only [CT.at_] at e; subst e
    have h1 := (NodeAt.cells hX k.property k.property).1
    have h2 := (NodeAt.cells hY.1 (by simp [zeros]) (by simp [zeros])).1
    rw [h1] at h2; cases h2
  | .fork a' bit l r, .leaf a k c, hX, hY, e => by
    simp only [CT.at_] at e; subst e
    have h1 := (NodeAt.cells hX.1 (by simp [zeros]) (by simp [zeros])).1
    have h2 := (NodeAt.cells hY k.property k.property).1
    rw [h1] at h2; cases h2
  | .fork a bit l r, .fork a' bit' l' r', hX, hY, e => by
    simp only [CT.at_] at e; subst e
    obtain ⟨_, _, _, h3, h4⟩ := NodeAt.cells hX.1 (by simp [zeros]) (by simp [zeros])
    obtain ⟨_, _, _, g3, g4⟩ := NodeAt.cells hY.1 (by simp [zeros]) (by simp [zeros])
    rw [h3] at g3; rw [h4] at g4
    simp only [pt, Option.some.injEq, Value.pointer.injEq, Addr.mk.injEq, and_true] at g3 g4
    unfold CT.depth
    rw [At.depth_eq hX.2.1 hY.2.1 g3, At.depth_eq hX.2.2 hY.2.2 g4]
open Classical in
noncomputable def depthAt (w : World) (v : Value) : Nat := if h : ∃ X : CT K25, v = pt X.at_ ∧ X.At w then (Classical.choose h).depth else 0
theorem depthAt_eq {w : World} {X : CT K25} (h : X.At w) : depthAt w (.pointer (some ⟨X.at_, 0, none⟩)) = X.depth := by
  have hex : ∃ Y : CT K25, Value.pointer (some ⟨X.at_, 0, none⟩) = pt Y.at_ ∧ Y.At w := ⟨X, rfl, h⟩
  unfold depthAt
  rw [dif_pos hex]
  obtain ⟨h1, h2⟩ := Classical.choose_spec hex
  exact (At.depth_eq h h2 (pt_inj h1)).symm
/-- the leaf to which bits lead -/
theorem near_gives (b : List UInt8) (hb : b.length = 25) (t : Nat) (R : Option (CT K25)) (n : Int) (w : World) (h : TreeAt w t R n) : Gives Tryd.prog 24 #[.pointer (some ⟨t, 0, none⟩), .agg (row8 b)] w (optP (nearR R b)) := by
  have hlt := lt_of_heap h.1
  have hc : w.cell? ⟨t, 0, none⟩ = some (rootV R) := by simp [World.cell?, h.1]
  cases R with
  | none =>
    simp only [rootV, nearR, optP, Option.map_none] at *
    clear h
    unfold Gives
    go_enter Tryd.func24, Tryd.ntmps24
    go_wp2_with fail
    go_loopw [5] (fun s5 wr => s5 = .pointer none ∧ wr = w.alloc (.cells (row8 b) 78)) (fun _ _ => 0)
    case atStart => exact ⟨rfl, rfl⟩
    case round =>
      obtain ⟨rfl, rfl⟩ := hrel
      go_wp2_with fail
      go_ret
      exact ⟨rfl, (by repeat (first | exact below_of_grow _ _ | exact Below.refl _ _ | exact below_more _ _ _ _ | (simp only [← Array.append_assoc]; first | exact below_more _ _ _ _ | exact below_same _ _ _ | exact Below.refl _ _) | exact below_same _ _ _ | (refine Below.alloc ?_ (by first | (simp; done) | (simp; omega)) _) | (refine Below.grow ?_ (by first | (simp; done) | (simp; omega)) _ _) | refine Below.drew ?_ | refine Below.drewN ?_ _ | (refine Below.putF ?_ (by first | (simp; done) | omega | (simp; omega)) _) | (refine Below.setCell ?_ (by first | (simp; done) | (simp; omega)) _)))⟩
  | some T =>
    obtain ⟨hT, hO⟩ := h.2 T rfl
    have HS := Lib.hid (side_gives b hb)
    simp only [rootV, nearR, optP, Option.map_some, pt] at *
    clear h
    obtain ⟨r, hr⟩ : ∃ r, r = (T.near b).1 := ⟨_, rfl⟩
    rw [← hr]
    have hlr := hT.root
    have H0 := Lib.hid (And.intro hT (And.intro hO hr))
    clear hT hO hr
    obtain ⟨ra, hra⟩ : ∃ ra, ra = T.at_ := ⟨_, rfl⟩
    rw [← hra] at hc hlr
    have HA := Lib.hid hra
    clear hra
    unfold Gives
    go_enter Tryd.func24, Tryd.ntmps24
    go_wp2_with fail
    go_loopw [5] (fun s5 wr => ∃ (X : CT K25) (xs : Array Obj) (d : Nat), s5 = .pointer (some ⟨X.at_, 0, none⟩) ∧ X.At w ∧ X.Ok keyBytes 200 ∧ (X.near b).1 = r ∧ wr = (w.alloc (.cells (row8 b) 78)).grow xs d)
      (fun s5 wr => depthAt w s5)
    case atStart => exact ⟨T, #[], (w.alloc (.cells (row8 b) 78)).drawn, by rw [← HA.out], H0.out.1, H0.out.2.1, H0.out.2.2.symm, World.grow_nil.symm⟩
    case round =>
      obtain ⟨X, xs, d, rfl, hX, hXO, hXr, rfl⟩ := hrel
      cases X with
      | leaf a k c =>
        rw [at_leaf]
        simp only [CT.near] at hXr
        subst hXr
        have hc0 := (NodeAt.cells hX k.property k.property).1
        have hla := lt_of_heap hX
        clear hX hXO
        go_wp2_with fail
        go_ret
        exact ⟨rfl, (by repeat (first | exact below_of_grow _ _ | exact Below.refl _ _ | exact below_more _ _ _ _ | (simp only [← Array.append_assoc]; first | exact below_more _ _ _ _ | exact below_same _ _ _ | exact Below.refl _ _) | exact below_same _ _ _ | (refine Below.alloc ?_ (by first | (simp; done) | (simp; omega)) _) | (refine Below.grow ?_ (by first | (simp; done) | (simp; omega)) _ _) | refine Below.drew ?_ | refine Below.drewN ?_ _ | (refine Below.putF ?_ (by first | (simp; done) | omega | (simp; omega)) _) | (refine Below.setCell ?_ (by first | (simp; done) | (simp; omega)) _)))⟩
      | fork a bit l r' =>
        obtain ⟨hn, hL, hRt⟩ := hX
        obtain ⟨hb200, hLO, hRO, _⟩ := hXO
        obtain ⟨hc0, _, hc2, hc3, hc4⟩ := NodeAt.cells hn (by simp [zeros]) (by simp [zeros])
        have hla := lt_of_heap hn
        have hdl := depthAt_eq hL
        have hdr := depthAt_eq hRt
        have hda : depthAt w (.pointer (some ⟨a, 0, none⟩)) = l.depth + r'.depth + 1 := depthAt_eq (X := .fork a bit l r') ⟨hn, hL, hRt⟩
        have HB := Lib.hid hXr
        rw [at_fork]
        simp only [pt] at hc3 hc4
        clear hXr hn
        have HL := Lib.hid (And.intro hL hLO)
        have HR := Lib.hid (And.intro hRt hRO)
        clear hL hLO hRt hRO
        have HD := Lib.hid (And.intro hdl (And.intro hdr hda))
        clear hdl hdr hda
        by_cases hs : bitB b bit = true
        · have hsd : sideI b bit = 1 := by simp [sideI, hs]
          have HS1 := Lib.hid (HS.out bit hb200)
          rw [hsd] at HS1
          clear HS hsd
          have hnx : (r'.near b).1 = r := by have := HB.out; simpa only [CT.near, if_pos hs] using this
          go_wp2_with fail
          apply wp_region_specs (by rfl) [.val _, .val _, .val _, .val _, .val _, .val _, .val _, .val _, .val _, .val _, .val _] 11 (by rfl) [19, 20, 21, 22, 23, 24, 25, 26, 27, 28, 29] [] [] (by rfl) (by rfl) (by decide) (by decide +kernel) (fun _ _ _ _ _ h => h)
          case hF => intro x; simp only [over, List.foldl_cons, List.foldl_nil, List.setIfInBounds_toArray, List.set_cons_succ, List.set_cons_zero]; exact rfl
          case hops =>
            refine ⟨?o0, ?o1, ?o2, ?o3, ?o4, ?o5, ?o6, ?o7, ?o8, ?o9, ?o10, trivial⟩
            case o0 =>
              intro x w1 hH K hK
              obtain ⟨xs, d, rfl⟩ := grow_of_below hH.below
              clear hH
              try simp only [World.grow_drew] at hK ⊢
              try simp only [World.grow_grow] at hK ⊢
              go_simp
              go_wp2_with fail
              exact ⟨_, rfl, rfl, (by repeat (first | exact below_of_grow _ _ | exact Below.refl _ _ | exact below_more _ _ _ _ | (simp only [← Array.append_assoc]; first | exact below_more _ _ _ _ | exact below_same _ _ _ | exact Below.refl _ _) | exact below_same _ _ _ | (refine Below.alloc ?_ (by first | (simp; done) | (simp; omega)) _) | (refine Below.grow ?_ (by first | (simp; done) | (simp; omega)) _ _) | refine Below.drew ?_ | refine Below.drewN ?_ _ | (refine Below.putF ?_ (by first | (simp; done) | omega | (simp; omega)) _) | (refine Below.setCell ?_ (by first | (simp; done) | (simp; omega)) _))), fun h => by cases h⟩
            case o1 =>
              intro x w1 hH K hK
              obtain ⟨xs, d, rfl⟩ := grow_of_below hH.below
              clear hH
              try simp only [World.grow_drew] at hK ⊢
              try simp only [World.grow_grow] at hK ⊢
              go_simp
              go_wp2_with fail
              exact ⟨_, rfl, rfl, (by repeat (first | exact below_of_grow _ _ | exact Below.refl _ _ | exact below_more _ _ _ _ | (simp only [← Array.append_assoc]; first | exact below_more _ _ _ _ | exact below_same _ _ _ | exact Below.refl _ _) | exact below_same _ _ _ | (refine Below.alloc ?_ (by first | (simp; done) | (simp; omega)) _) | (refine Below.grow ?_ (by first | (simp; done) | (simp; omega)) _ _) | refine Below.drew ?_ | refine Below.drewN ?_ _ | (refine Below.putF ?_ (by first | (simp; done) | omega | (simp; omega)) _) | (refine Below.setCell ?_ (by first | (simp; done) | (simp; omega)) _))), fun h => by cases h⟩
            case o2 =>
              intro x w1 hH K hK
              obtain ⟨xs, d, rfl⟩ := grow_of_below hH.below
              clear hH
              try simp only [World.grow_drew] at hK ⊢
              try simp only [World.grow_grow] at hK ⊢
              go_simp
              go_wp2_with fail
              exact ⟨_, rfl, rfl, (by repeat (first | exact below_of_grow _ _ | exact Below.refl _ _ | exact below_more _ _ _ _ | (simp only [← Array.append_assoc]; first | exact below_more _ _ _ _ | exact below_same _ _ _ | exact Below.refl _ _) | exact below_same _ _ _ | (refine Below.alloc ?_ (by first | (simp; done) | (simp; omega)) _) | (refine Below.grow ?_ (by first | (simp; done) | (simp; omega)) _ _) | refine Below.drew ?_ | refine Below.drewN ?_ _ | (refine Below.putF ?_ (by first | (simp; done) | omega | (simp; omega)) _) | (refine Below.setCell ?_ (by first | (simp; done) | (simp; omega)) _))), fun h => by cases h⟩
            case o3 =>
              intro x w1 hH K hK
              have e21 : x 21 = _ := hH.holds 2 (by decide) (by decide +kernel) 21 rfl
              obtain ⟨xs, d, rfl⟩ := grow_of_below hH.below
              clear hH
              try simp only [World.grow_drew] at hK ⊢
              try simp only [World.grow_grow] at hK ⊢
              simp only [e21] at hK ⊢
              clear e21
              go_simp
              go_wp2_with fail
              exact ⟨_, rfl, rfl, (by repeat (first | exact below_of_grow _ _ | exact Below.refl _ _ | exact below_more _ _ _ _ | (simp only [← Array.append_assoc]; first | exact below_more _ _ _ _ | exact below_same _ _ _ | exact Below.refl _ _) | exact below_same _ _ _ | (refine Below.alloc ?_ (by first | (simp; done) | (simp; omega)) _) | (refine Below.grow ?_ (by first | (simp; done) | (simp; omega)) _ _) | refine Below.drew ?_ | refine Below.drewN ?_ _ | (refine Below.putF ?_ (by first | (simp; done) | omega | (simp; omega)) _) | (refine Below.setCell ?_ (by first | (simp; done) | (simp; omega)) _))), fun h => by cases h⟩
            case o4 =>
              intro x w1 hH K hK
              have e22 : x 22 = _ := hH.holds 3 (by decide) (by decide +kernel) 22 rfl
              obtain ⟨xs, d, rfl⟩ := grow_of_below hH.below
              clear hH
              try simp only [World.grow_drew] at hK ⊢
              try simp only [World.grow_grow] at hK ⊢
              simp only [e22] at hK ⊢
              clear e22
              go_simp
              go_wp2_with fail
              exact ⟨_, rfl, rfl, (by repeat (first | exact below_of_grow _ _ | exact Below.refl _ _ | exact below_more _ _ _ _ | (simp only [← Array.append_assoc]; first | exact below_more _ _ _ _ | exact below_same _ _ _ | exact Below.refl _ _) | exact below_same _ _ _ | (refine Below.alloc ?_ (by first | (simp; done) | (simp; omega)) _) | (refine Below.grow ?_ (by first | (simp; done) | (simp; omega)) _ _) | refine Below.drew ?_ | refine Below.drewN ?_ _ | (refine Below.putF ?_ (by first | (simp; done) | omega | (simp; omega)) _) | (refine Below.setCell ?_ (by first | (simp; done) | (simp; omega)) _))), fun h => by cases h⟩
            case o5 =>
              intro x w1 hH K hK
              have e23 : x 23 = _ := hH.holds 4 (by decide) (by decide +kernel) 23 rfl
              obtain ⟨xs, d, rfl⟩ := grow_of_below hH.below
              clear hH
              try simp only [World.grow_drew] at hK ⊢
              try simp only [World.grow_grow] at hK ⊢
              simp only [e23] at hK ⊢
              clear e23
              go_simp
              go_wp2_with fail
              exact ⟨_, rfl, rfl, (by repeat (first | exact below_of_grow _ _ | exact Below.refl _ _ | exact below_more _ _ _ _ | (simp only [← Array.append_assoc]; first | exact below_more _ _ _ _ | exact below_same _ _ _ | exact Below.refl _ _) | exact below_same _ _ _ | (refine Below.alloc ?_ (by first | (simp; done) | (simp; omega)) _) | (refine Below.grow ?_ (by first | (simp; done) | (simp; omega)) _ _) | refine Below.drew ?_ | refine Below.drewN ?_ _ | (refine Below.putF ?_ (by first | (simp; done) | omega | (simp; omega)) _) | (refine Below.setCell ?_ (by first | (simp; done) | (simp; omega)) _))), fun h => by cases h⟩
            case o6 =>
              intro x w1 hH K hK
              have e20 : x 20 = _ := hH.holds 1 (by decide) (by decide +kernel) 20 rfl
              have e24 : x 24 = _ := hH.holds 5 (by decide) (by decide +kernel) 24 rfl
              obtain ⟨xs, d, rfl⟩ := grow_of_below hH.below
              clear hH
              try simp only [World.grow_drew] at hK ⊢
              try simp only [World.grow_grow] at hK ⊢
              simp only [e20, e24] at hK ⊢
              clear e20 e24
              go_simp
              go_wp2_with (refine Gives.use (HS1.out _) ?_; intro ys e)
              exact ⟨_, rfl, rfl, (by first | exact below_more _ _ _ _ | exact (by repeat (first | exact below_of_grow _ _ | exact Below.refl _ _ | exact below_more _ _ _ _ | (simp only [← Array.append_assoc]; first | exact below_more _ _ _ _ | exact below_same _ _ _ | exact Below.refl _ _) | exact below_same _ _ _ | (refine Below.alloc ?_ (by first | (simp; done) | (simp; omega)) _) | (refine Below.grow ?_ (by first | (simp; done) | (simp; omega)) _ _) | refine Below.drew ?_ | refine Below.drewN ?_ _ | (refine Below.putF ?_ (by first | (simp; done) | omega | (simp; omega)) _) | (refine Below.setCell ?_ (by first | (simp; done) | (simp; omega)) _)))), fun h => by cases h⟩
            case o7 =>
              intro x w1 hH K hK
              have e19 : x 19 = _ := hH.holds 0 (by decide) (by decide +kernel) 19 rfl
              obtain ⟨xs, d, rfl⟩ := grow_of_below hH.below
              clear hH
              try simp only [World.grow_drew] at hK ⊢
              try simp only [World.grow_grow] at hK ⊢
              simp only [e19] at hK ⊢
              clear e19
              go_simp
              go_wp2_with fail
              exact ⟨_, rfl, rfl, (by repeat (first | exact below_of_grow _ _ | exact Below.refl _ _ | exact below_more _ _ _ _ | (simp only [← Array.append_assoc]; first | exact below_more _ _ _ _ | exact below_same _ _ _ | exact Below.refl _ _) | exact below_same _ _ _ | (refine Below.alloc ?_ (by first | (simp; done) | (simp; omega)) _) | (refine Below.grow ?_ (by first | (simp; done) | (simp; omega)) _ _) | refine Below.drew ?_ | refine Below.drewN ?_ _ | (refine Below.putF ?_ (by first | (simp; done) | omega | (simp; omega)) _) | (refine Below.setCell ?_ (by first | (simp; done) | (simp; omega)) _))), fun h => by cases h⟩
            case o8 =>
              intro x w1 hH K hK
              have e26 : x 26 = _ := hH.holds 7 (by decide) (by decide +kernel) 26 rfl
              obtain ⟨xs, d, rfl⟩ := grow_of_below hH.below
              clear hH
              try simp only [World.grow_drew] at hK ⊢
              try simp only [World.grow_grow] at hK ⊢
              simp only [e26] at hK ⊢
              clear e26
              go_simp
              go_wp2_with fail
              exact ⟨_, rfl, rfl, (by repeat (first | exact below_of_grow _ _ | exact Below.refl _ _ | exact below_more _ _ _ _ | (simp only [← Array.append_assoc]; first | exact below_more _ _ _ _ | exact below_same _ _ _ | exact Below.refl _ _) | exact below_same _ _ _ | (refine Below.alloc ?_ (by first | (simp; done) | (simp; omega)) _) | (refine Below.grow ?_ (by first | (simp; done) | (simp; omega)) _ _) | refine Below.drew ?_ | refine Below.drewN ?_ _ | (refine Below.putF ?_ (by first | (simp; done) | omega | (simp; omega)) _) | (refine Below.setCell ?_ (by first | (simp; done) | (simp; omega)) _))), fun h => by cases h⟩
            case o9 =>
              intro x w1 hH K hK
              have e25 : x 25 = _ := hH.holds 6 (by decide) (by decide +kernel) 25 rfl
              have e27 : x 27 = _ := hH.holds 8 (by decide) (by decide +kernel) 27 rfl
              obtain ⟨xs, d, rfl⟩ := grow_of_below hH.below
              clear hH
              try simp only [World.grow_drew] at hK ⊢
              try simp only [World.grow_grow] at hK ⊢
              simp only [e25, e27] at hK ⊢
              clear e25 e27
              go_simp
              go_wp2_with fail
              exact ⟨_, rfl, rfl, (by repeat (first | exact below_of_grow _ _ | exact Below.refl _ _ | exact below_more _ _ _ _ | (simp only [← Array.append_assoc]; first | exact below_more _ _ _ _ | exact below_same _ _ _ | exact Below.refl _ _) | exact below_same _ _ _ | (refine Below.alloc ?_ (by first | (simp; done) | (simp; omega)) _) | (refine Below.grow ?_ (by first | (simp; done) | (simp; omega)) _ _) | refine Below.drew ?_ | refine Below.drewN ?_ _ | (refine Below.putF ?_ (by first | (simp; done) | omega | (simp; omega)) _) | (refine Below.setCell ?_ (by first | (simp; done) | (simp; omega)) _))), fun h => by cases h⟩
            case o10 =>
              intro x w1 hH K hK
              have e28 : x 28 = _ := hH.holds 9 (by decide) (by decide +kernel) 28 rfl
              obtain ⟨xs, d, rfl⟩ := grow_of_below hH.below
              clear hH
              try simp only [World.grow_drew] at hK ⊢
              try simp only [World.grow_grow] at hK ⊢
              simp only [e28] at hK ⊢
              clear e28
              go_simp
              go_wp2_with fail
              exact ⟨_, rfl, rfl, (by repeat (first | exact below_of_grow _ _ | exact Below.refl _ _ | exact below_more _ _ _ _ | (simp only [← Array.append_assoc]; first | exact below_more _ _ _ _ | exact below_same _ _ _ | exact Below.refl _ _) | exact below_same _ _ _ | (refine Below.alloc ?_ (by first | (simp; done) | (simp; omega)) _) | (refine Below.grow ?_ (by first | (simp; done) | (simp; omega)) _ _) | refine Below.drew ?_ | refine Below.drewN ?_ _ | (refine Below.putF ?_ (by first | (simp; done) | omega | (simp; omega)) _) | (refine Below.setCell ?_ (by first | (simp; done) | (simp; omega)) _))), fun h => by cases h⟩
          case hend =>
            intro x w1 hH
            have e19 : x 19 = _ := hH.holds 0 (by decide) trivial 19 rfl
            have e20 : x 20 = _ := hH.holds 1 (by decide) trivial 20 rfl
            have e21 : x 21 = _ := hH.holds 2 (by decide) trivial 21 rfl
            have e22 : x 22 = _ := hH.holds 3 (by decide) trivial 22 rfl
            have e23 : x 23 = _ := hH.holds 4 (by decide) trivial 23 rfl
            have e24 : x 24 = _ := hH.holds 5 (by decide) trivial 24 rfl
            have e25 : x 25 = _ := hH.holds 6 (by decide) trivial 25 rfl
            have e26 : x 26 = _ := hH.holds 7 (by decide) trivial 26 rfl
            have e27 : x 27 = _ := hH.holds 8 (by decide) trivial 27 rfl
            have e28 : x 28 = _ := hH.holds 9 (by decide) trivial 28 rfl
            have e29 : x 29 = _ := hH.holds 10 (by decide) trivial 29 rfl
            obtain ⟨xs, d, rfl⟩ := grow_of_below hH.below
            clear hH
            simp only [e19, e20, e21, e22, e23, e24, e25, e26, e27, e28, e29]; clear e19 e20 e21 e22 e23 e24 e25 e26 e27 e28 e29
            simp only [List.drop_succ_cons, List.drop_zero]
            go_wp2_with fail
            go_roundw
            case rel => exact ⟨r', _, _, rfl, HR.out.1, HR.out.2, hnx, by rw [World.grow_drew, World.grow_grow]⟩
            case measure => rw [HD.out.2.1, HD.out.2.2]; omega
        · have hsd : sideI b bit = 0 := by simp [sideI, hs]
          have HS1 := Lib.hid (HS.out bit hb200)
          rw [hsd] at HS1
          clear HS hsd
          have hnx : (l.near b).1 = r := by have := HB.out; simpa only [CT.near, if_neg hs] using this
          go_wp2_with fail
          apply wp_region_specs (by rfl) [.val _, .val _, .val _, .val _, .val _, .val _, .val _, .val _, .val _, .val _, .val _] 11 (by rfl) [19, 20, 21, 22, 23, 24, 25, 26, 27, 28, 29] [] [] (by rfl) (by rfl) (by decide) (by decide +kernel) (fun _ _ _ _ _ h => h)
          case hF => intro x; simp only [over, List.foldl_cons, List.foldl_nil, List.setIfInBounds_toArray, List.set_cons_succ, List.set_cons_zero]; exact rfl
          case hops =>
            refine ⟨?o0, ?o1, ?o2, ?o3, ?o4, ?o5, ?o6, ?o7, ?o8, ?o9, ?o10, trivial⟩
            case o0 =>
              intro x w1 hH K hK
              obtain ⟨xs, d, rfl⟩ := grow_of_below hH.below
              clear hH
              try simp only [World.grow_drew] at hK ⊢
              try simp only [World.grow_grow] at hK ⊢
              go_simp
              go_wp2_with fail
              exact ⟨_, rfl, rfl, (by repeat (first | exact below_of_grow _ _ | exact Below.refl _ _ | exact below_more _ _ _ _ | (simp only [← Array.append_assoc]; first | exact below_more _ _ _ _ | exact below_same _ _ _ | exact Below.refl _ _) | exact below_same _ _ _ | (refine Below.alloc ?_ (by first | (simp; done) | (simp; omega)) _) | (refine Below.grow ?_ (by first | (simp; done) | (simp; omega)) _ _) | refine Below.drew ?_ | refine Below.drewN ?_ _ | (refine Below.putF ?_ (by first | (simp; done) | omega | (simp; omega)) _) | (refine Below.setCell ?_ (by first | (simp; done) | (simp; omega)) _))), fun h => by cases h⟩
            case o1 =>
              intro x w1 hH K hK
              obtain ⟨xs, d, rfl⟩ := grow_of_below hH.below
              clear hH
              try simp only [World.grow_drew] at hK ⊢
              try simp only [World.grow_grow] at hK ⊢
              go_simp
              go_wp2_with fail
              exact ⟨_, rfl, rfl, (by repeat (first | exact below_of_grow _ _ | exact Below.refl _ _ | exact below_more _ _ _ _ | (simp only [← Array.append_assoc]; first | exact below_more _ _ _ _ | exact below_same _ _ _ | exact Below.refl _ _) | exact below_same _ _ _ | (refine Below.alloc ?_ (by first | (simp; done) | (simp; omega)) _) | (refine Below.grow ?_ (by first | (simp; done) | (simp; omega)) _ _) | refine Below.drew ?_ | refine Below.drewN ?_ _ | (refine Below.putF ?_ (by first | (simp; done) | omega | (simp; omega)) _) | (refine Below.setCell ?_ (by first | (simp; done) | (simp; omega)) _))), fun h => by cases h⟩
            case o2 =>
              intro x w1 hH K hK
              obtain ⟨xs, d, rfl⟩ := grow_of_below hH.below
              clear hH
              try simp only [World.grow_drew] at hK ⊢
              try simp only [World.grow_grow] at hK ⊢
              go_simp
              go_wp2_with fail
              exact ⟨_, rfl, rfl, (by repeat (first | exact below_of_grow _ _ | exact Below.refl _ _ | exact below_more _ _ _ _ | (simp only [← Array.append_assoc]; first | exact below_more _ _ _ _ | exact below_same _ _ _ | exact Below.refl _ _) | exact below_same _ _ _ | (refine Below.alloc ?_ (by first | (simp; done) | (simp; omega)) _) | (refine Below.grow ?_ (by first | (simp; done) | (simp; omega)) _ _) | refine Below.drew ?_ | refine Below.drewN ?_ _ | (refine Below.putF ?_ (by first | (simp; done) | omega | (simp; omega)) _) | (refine Below.setCell ?_ (by first | (simp; done) | (simp; omega)) _))), fun h => by cases h⟩
            case o3 =>
              intro x w1 hH K hK
              have e21 : x 21 = _ := hH.holds 2 (by decide) (by decide +kernel) 21 rfl
              obtain ⟨xs, d, rfl⟩ := grow_of_below hH.below
              clear hH
              try simp only [World.grow_drew] at hK ⊢
              try simp only [World.grow_grow] at hK ⊢
              simp only [e21] at hK ⊢
              clear e21
              go_simp
              go_wp2_with fail
              exact ⟨_, rfl, rfl, (by repeat (first | exact below_of_grow _ _ | exact Below.refl _ _ | exact below_more _ _ _ _ | (simp only [← Array.append_assoc]; first | exact below_more _ _ _ _ | exact below_same _ _ _ | exact Below.refl _ _) | exact below_same _ _ _ | (refine Below.alloc ?_ (by first | (simp; done) | (simp; omega)) _) | (refine Below.grow ?_ (by first | (simp; done) | (simp; omega)) _ _) | refine Below.drew ?_ | refine Below.drewN ?_ _ | (refine Below.putF ?_ (by first | (simp; done) | omega | (simp; omega)) _) | (refine Below.setCell ?_ (by first | (simp; done) | (simp; omega)) _))), fun h => by cases h⟩
            case o4 =>
              intro x w1 hH K hK
              have e22 : x 22 = _ := hH.holds 3 (by decide) (by decide +kernel) 22 rfl
              obtain ⟨xs, d, rfl⟩ := grow_of_below hH.below
              clear hH
              try simp only [World.grow_drew] at hK ⊢
              try simp only [World.grow_grow] at hK ⊢
              simp only [e22] at hK ⊢
              clear e22
              go_simp
              go_wp2_with fail
              exact ⟨_, rfl, rfl, (by repeat (first | exact below_of_grow _ _ | exact Below.refl _ _ | exact below_more _ _ _ _ | (simp only [← Array.append_assoc]; first | exact below_more _ _ _ _ | exact below_same _ _ _ | exact Below.refl _ _) | exact below_same _ _ _ | (refine Below.alloc ?_ (by first | (simp; done) | (simp; omega)) _) | (refine Below.grow ?_ (by first | (simp; done) | (simp; omega)) _ _) | refine Below.drew ?_ | refine Below.drewN ?_ _ | (refine Below.putF ?_ (by first | (simp; done) | omega | (simp; omega)) _) | (refine Below.setCell ?_ (by first | (simp; done) | (simp; omega)) _))), fun h => by cases h⟩
            case o5 =>
              intro x w1 hH K hK
              have e23 : x 23 = _ := hH.holds 4 (by decide) (by decide +kernel) 23 rfl
              obtain ⟨xs, d, rfl⟩ := grow_of_below hH.below
              clear hH
              try simp only [World.grow_drew] at hK ⊢
              try simp only [World.grow_grow] at hK ⊢
              simp only [e23] at hK ⊢
              clear e23
              go_simp
              go_wp2_with fail
              exact ⟨_, rfl, rfl, (by repeat (first | exact below_of_grow _ _ | exact Below.refl _ _ | exact below_more _ _ _ _ | (simp only [← Array.append_assoc]; first | exact below_more _ _ _ _ | exact below_same _ _ _ | exact Below.refl _ _) | exact below_same _ _ _ | (refine Below.alloc ?_ (by first | (simp; done) | (simp; omega)) _) | (refine Below.grow ?_ (by first | (simp; done) | (simp; omega)) _ _) | refine Below.drew ?_ | refine Below.drewN ?_ _ | (refine Below.putF ?_ (by first | (simp; done) | omega | (simp; omega)) _) | (refine Below.setCell ?_ (by first | (simp; done) | (simp; omega)) _))), fun h => by cases h⟩
            case o6 =>
              intro x w1 hH K hK
              have e20 : x 20 = _ := hH.holds 1 (by decide) (by decide +kernel) 20 rfl
              have e24 : x 24 = _ := hH.holds 5 (by decide) (by decide +kernel) 24 rfl
              obtain ⟨xs, d, rfl⟩ := grow_of_below hH.below
              clear hH
              try simp only [World.grow_drew] at hK ⊢
              try simp only [World.grow_grow] at hK ⊢
              simp only [e20, e24] at hK ⊢
              clear e20 e24
              go_simp
              go_wp2_with (refine Gives.use (HS1.out _) ?_; intro ys e)
              exact ⟨_, rfl, rfl, (by first | exact below_more _ _ _ _ | exact (by repeat (first | exact below_of_grow _ _ | exact Below.refl _ _ | exact below_more _ _ _ _ | (simp only [← Array.append_assoc]; first | exact below_more _ _ _ _ | exact below_same _ _ _ | exact Below.refl _ _) | exact below_same _ _ _ | (refine Below.alloc ?_ (by first | (simp; done) | (simp; omega)) _) | (refine Below.grow ?_ (by first | (simp; done) | (simp; omega)) _ _) | refine Below.drew ?_ | refine Below.drewN ?_ _ | (refine Below.putF ?_ (by first | (simp; done) | omega | (simp; omega)) _) | (refine Below.setCell ?_ (by first | (simp; done) | (simp; omega)) _)))), fun h => by cases h⟩
            case o7 =>
              intro x w1 hH K hK
              have e19 : x 19 = _ := hH.holds 0 (by decide) (by decide +kernel) 19 rfl
              obtain ⟨xs, d, rfl⟩ := grow_of_below hH.below
              clear hH
              try simp only [World.grow_drew] at hK ⊢
              try simp only [World.grow_grow] at hK ⊢
              simp only [e19] at hK ⊢
              clear e19
              go_simp
              go_wp2_with fail
              exact ⟨_, rfl, rfl, (by repeat (first | exact below_of_grow _ _ | exact Below.refl _ _ | exact below_more _ _ _ _ | (simp only [← Array.append_assoc]; first | exact below_more _ _ _ _ | exact below_same _ _ _ | exact Below.refl _ _) | exact below_same _ _ _ | (refine Below.alloc ?_ (by first | (simp; done) | (simp; omega)) _) | (refine Below.grow ?_ (by first | (simp; done) | (simp; omega)) _ _) | refine Below.drew ?_ | refine Below.drewN ?_ _ | (refine Below.putF ?_ (by first | (simp; done) | omega | (simp; omega)) _) | (refine Below.setCell ?_ (by first | (simp; done) | (simp; omega)) _))), fun h => by cases h⟩
            case o8 =>
              intro x w1 hH K hK
              have e26 : x 26 = _ := hH.holds 7 (by decide) (by decide +kernel) 26 rfl
              obtain ⟨xs, d, rfl⟩ := grow_of_below hH.below
              clear hH
              try simp only [World.grow_drew] at hK ⊢
              try simp only [World.grow_grow] at hK ⊢
              simp only [e26] at hK ⊢
              clear e26
              go_simp
              go_wp2_with fail
              exact ⟨_, rfl, rfl, (by repeat (first | exact below_of_grow _ _ | exact Below.refl _ _ | exact below_more _ _ _ _ | (simp only [← Array.append_assoc]; first | exact below_more _ _ _ _ | exact below_same _ _ _ | exact Below.refl _ _) | exact below_same _ _ _ | (refine Below.alloc ?_ (by first | (simp; done) | (simp; omega)) _) | (refine Below.grow ?_ (by first | (simp; done) | (simp; omega)) _ _) | refine Below.drew ?_ | refine Below.drewN ?_ _ | (refine Below.putF ?_ (by first | (simp; done) | omega | (simp; omega)) _) | (refine Below.setCell ?_ (by first | (simp; done) | (simp; omega)) _))), fun h => by cases h⟩
            case o9 =>
              intro x w1 hH K hK
              have e25 : x 25 = _ := hH.holds 6 (by decide) (by decide +kernel) 25 rfl
              have e27 : x 27 = _ := hH.holds 8 (by decide) (by decide +kernel) 27 rfl
              obtain ⟨xs, d, rfl⟩ := grow_of_below hH.below
              clear hH
              try simp only [World.grow_drew] at hK ⊢
              try simp only [World.grow_grow] at hK ⊢
              simp only [e25, e27] at hK ⊢
              clear e25 e27
              go_simp
              go_wp2_with fail
              exact ⟨_, rfl, rfl, (by repeat (first | exact below_of_grow _ _ | exact Below.refl _ _ | exact below_more _ _ _ _ | (simp only [← Array.append_assoc]; first | exact below_more _ _ _ _ | exact below_same _ _ _ | exact Below.refl _ _) | exact below_same _ _ _ | (refine Below.alloc ?_ (by first | (simp; done) | (simp; omega)) _) | (refine Below.grow ?_ (by first | (simp; done) | (simp; omega)) _ _) | refine Below.drew ?_ | refine Below.drewN ?_ _ | (refine Below.putF ?_ (by first | (simp; done) | omega | (simp; omega)) _) | (refine Below.setCell ?_ (by first | (simp; done) | (simp; omega)) _))), fun h => by cases h⟩
            case o10 =>
              intro x w1 hH K hK
              have e28 : x 28 = _ := hH.holds 9 (by decide) (by decide +kernel) 28 rfl
              obtain ⟨xs, d, rfl⟩ := grow_of_below hH.below
              clear hH
              try simp only [World.grow_drew] at hK ⊢
              try simp only [World.grow_grow] at hK ⊢
              simp only [e28] at hK ⊢
              clear e28
              go_simp
              go_wp2_with fail
              exact ⟨_, rfl, rfl, (by repeat (first | exact below_of_grow _ _ | exact Below.refl _ _ | exact below_more _ _ _ _ | (simp only [← Array.append_assoc]; first | exact below_more _ _ _ _ | exact below_same _ _ _ | exact Below.refl _ _) | exact below_same _ _ _ | (refine Below.alloc ?_ (by first | (simp; done) | (simp; omega)) _) | (refine Below.grow ?_ (by first | (simp; done) | (simp; omega)) _ _) | refine Below.drew ?_ | refine Below.drewN ?_ _ | (refine Below.putF ?_ (by first | (simp; done) | omega | (simp; omega)) _) | (refine Below.setCell ?_ (by first | (simp; done) | (simp; omega)) _))), fun h => by cases h⟩
          case hend =>
            intro x w1 hH
            have e19 : x 19 = _ := hH.holds 0 (by decide) trivial 19 rfl
            have e20 : x 20 = _ := hH.holds 1 (by decide) trivial 20 rfl
            have e21 : x 21 = _ := hH.holds 2 (by decide) trivial 21 rfl
            have e22 : x 22 = _ := hH.holds 3 (by decide) trivial 22 rfl
            have e23 : x 23 = _ := hH.holds 4 (by decide) trivial 23 rfl
            have e24 : x 24 = _ := hH.holds 5 (by decide) trivial 24 rfl
            have e25 : x 25 = _ := hH.holds 6 (by decide) trivial 25 rfl
            have e26 : x 26 = _ := hH.holds 7 (by decide) trivial 26 rfl
            have e27 : x 27 = _ := hH.holds 8 (by decide) trivial 27 rfl
            have e28 : x 28 = _ := hH.holds 9 (by decide) trivial 28 rfl
            have e29 : x 29 = _ := hH.holds 10 (by decide) trivial 29 rfl
            obtain ⟨xs, d, rfl⟩ := grow_of_below hH.below
            clear hH
            simp only [e19, e20, e21, e22, e23, e24, e25, e26, e27, e28, e29]; clear e19 e20 e21 e22 e23 e24 e25 e26 e27 e28 e29
            simp only [List.drop_succ_cons, List.drop_zero]
            go_wp2_with fail
            go_roundw
            case rel => exact ⟨l, _, _, rfl, HL.out.1, HL.out.2, hnx, by rw [World.grow_drew, World.grow_grow]⟩
            case measure => rw [HD.out.1, HD.out.2.2]; omega
end Go.Proofs.YtjdccgmoldmlmaaDoor

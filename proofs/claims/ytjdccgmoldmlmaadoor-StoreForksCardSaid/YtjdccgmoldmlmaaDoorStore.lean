/- Layer 14: a store in memory; what another key, another version make of it. -/
import Derived.Test.YtjdccgmoldmlmaaDoorPut
import Derived.Test.YtjdccgmoldmlmaaDoorPutV
import Derived.Test.YtjdccgmoldmlmaaDoorSeen
namespace Go.Proofs.YtjdccgmoldmlmaaDoor
set_option maxRecDepth 100000
open Go.RowKit

/-- a store's shape: its tree's block, the tree, the chains by their blocks, its last time, how many keys it takes for live -/
structure SG where
  t : Nat
  R : Option (CT K25)
  n : Int
  last : UInt64
  live : Int
  g : Nat → Value × List Ver
def leavesR : Option (CT K25) → List (Nat × K25 × Nat)
  | none => []
  | some T => T.list
def SG.chains (G : SG) : List Nat := (leavesR G.R).map (·.2.2)
def ownL (g : Nat → Value × List Ver) (cs : List Nat) : List Nat := (cs.map fun c => (g c).1.ownBlock.toList).flatten
def SG.blocks (s : Nat) (G : SG) : List Nat := s :: G.t :: (footR G.R ++ (G.chains ++ ownL G.g G.chains))
structure StoreAt (w : World) (B s : Nat) (G : SG) : Prop where
  store : StoreC w s G.t G.last.toNat G.live
  tree : TreeAt w G.t G.R G.n
  chain : ∀ c ∈ G.chains, ChainAt w B c (G.g c).1 (G.g c).2
  nodup : (G.blocks s).Nodup
  low : ∀ b ∈ G.blocks s, B ≤ b
  size : B ≤ w.heap.size
def versG (G : SG) (k : K25) : List Ver := match getR G.R k with | none => [] | some c => (G.g c).2

theorem OkR.get {T : CT K25} (h : T.Ok keyBytes 200) (k : K25) (c : Nat) : getR (some T) k = some c ↔ ∃ a, (a, k, c) ∈ T.list := by
  constructor
  · intro e
    unfold getR at e
    simp only [Option.bind_some] at e
    have hm := near_mem k.val T
    generalize T.near k.val = x at e hm
    obtain ⟨a, k', c'⟩ := x
    simp only at e
    split at e
    · rename_i he
      obtain rfl := Option.some.inj e
      subst he
      exact ⟨a, hm⟩
    · cases e
  · rintro ⟨a, ha⟩
    have hn : T.near k.val = (a, k, c) := near_key h ha
    unfold getR
    simp only [Option.bind_some, hn, if_true]
theorem find_none (R : Option (CT K25)) (k : K25) : findR R k = none ↔ getR R k = none := by
  cases R with
  | none => exact ⟨fun _ => rfl, fun _ => rfl⟩
  | some T =>
    unfold findR getR
    simp only [Option.bind_some]
    split <;> simp
theorem get_mem {R : Option (CT K25)} {k : K25} {c : Nat} (h : getR R k = some c) : c ∈ (leavesR R).map (·.2.2) := by
  cases R with
  | none => cases h
  | some T =>
    unfold getR at h
    simp only [Option.bind_some] at h
    split at h
    · obtain rfl := Option.some.inj h
      exact List.mem_map.2 ⟨_, near_mem k.val T, rfl⟩
    · cases h
theorem put_list (R : Option (CT K25)) (k : K25) (c a fa : Nat) : (putR R k c a fa).list.Perm ((a, k, c) :: leavesR R) := by
  cases R with
  | none => exact List.Perm.refl _
  | some T => exact ins_list T
theorem put_foot (R : Option (CT K25)) (k : K25) (c a fa : Nat) : ∃ l, (l = [a] ∨ l = [a, fa]) ∧ (putR R k c a fa).foot.Perm (l ++ footR R) := by
  cases R with
  | none => exact ⟨[a], .inl rfl, List.Perm.refl _⟩
  | some T => exact ⟨[a, fa], .inr rfl, ins_foot T⟩
theorem put_get {R : Option (CT K25)} {k : K25} {c a fa : Nat} (h : (putR R k c a fa).Ok keyBytes 200) (hR : ∀ T, R = some T → T.Ok keyBytes 200) (hn : getR R k = none) (j : K25) :
    getR (some (putR R k c a fa)) j = if j = k then some c else getR R j := by
  have hp := put_list R k c a fa
  by_cases hj : j = k
  · rw [if_pos hj, OkR.get h]
    exact ⟨a, hp.mem_iff.2 (by rw [hj]; exact List.mem_cons_self)⟩
  · rw [if_neg hj]
    have key : ∀ d, getR (some (putR R k c a fa)) j = some d ↔ getR R j = some d := by
      intro d
      rw [OkR.get h]
      constructor
      · rintro ⟨b, hb⟩
        rcases List.mem_cons.1 (hp.mem_iff.1 hb) with e | hb
        · exact absurd (congrArg (fun x : Nat × K25 × Nat => x.2.1) e) hj
        · cases R with
          | none => simp [leavesR] at hb
          | some T => exact (OkR.get (hR T rfl) j d).2 ⟨b, hb⟩
      · intro e
        cases R with
        | none => cases e
        | some T =>
          obtain ⟨b, hb⟩ := (OkR.get (hR T rfl) j d).1 e
          exact ⟨b, hp.mem_iff.2 (List.mem_cons_of_mem _ hb)⟩
    cases h1 : getR R j with
    | none =>
      cases h2 : getR (some (putR R k c a fa)) j with
      | none => rfl
      | some d => rw [(key d).1 h2] at h1; cases h1
    | some d => exact (key d).2 h1
theorem ownL_congr {g g' : Nat → Value × List Ver} {cs : List Nat} (h : ∀ c ∈ cs, g c = g' c) : ownL g cs = ownL g' cs := by
  unfold ownL
  congr 1
  exact List.map_congr_left fun c hc => by rw [h c hc]
def updG (g : Nat → Value × List Ver) (c : Nat) (x : Value × List Ver) : Nat → Value × List Ver := fun d => if d = c then x else g d
theorem updG_same (g : Nat → Value × List Ver) (c : Nat) (x : Value × List Ver) : updG g c x c = x := if_pos rfl
theorem updG_other (g : Nat → Value × List Ver) {c d : Nat} (x : Value × List Ver) (h : d ≠ c) : updG g c x d = g d := if_neg h
section
variable {w w' : World} {B s : Nat} {G : SG}
theorem StoreAt.keepAll (h : StoreAt w B s G) (hk : ∀ b ∈ G.blocks s, w'.heap[b]? = w.heap[b]?) (hs : w.heap.size ≤ w'.heap.size) : StoreAt w' B s G := by
  have inn : ∀ {b}, b ∈ footR G.R ++ (G.chains ++ ownL G.g G.chains) → b ∈ G.blocks s := fun hb => List.mem_cons_of_mem _ (List.mem_cons_of_mem _ hb)
  refine ⟨(hk s List.mem_cons_self).trans h.store, ⟨(hk G.t (List.mem_cons_of_mem _ List.mem_cons_self)).trans h.tree.1, fun T hT => ⟨(h.tree.2 T hT).1.keep fun b hb => hk b (inn (List.mem_append_left _ (by rw [hT]; exact hb))), (h.tree.2 T hT).2⟩⟩, fun c hc => ?_, h.nodup, h.low, Nat.le_trans h.size hs⟩
  refine ⟨(hk c (inn (List.mem_append_right _ (List.mem_append_left _ hc)))).trans (h.chain c hc).1, (h.chain c hc).2.keep fun b hb _ => hk b (inn (List.mem_append_right _ (List.mem_append_right _ ?_)))⟩
  exact List.mem_flatten.2 ⟨_, List.mem_map.2 ⟨c, hc, rfl⟩, by rw [hb]; simp⟩
theorem StoreAt.lt (h : StoreAt w B s G) : ∀ b ∈ G.blocks s, b < w.heap.size := by
  intro b hb
  unfold SG.blocks at hb
  rcases List.mem_cons.1 hb with rfl | hb
  · exact lt_of_heap h.store
  · rcases List.mem_cons.1 hb with rfl | hb
    · exact lt_of_heap h.tree.1
    · rcases List.mem_append.1 hb with hb | hb
      · cases hR : G.R with
        | none => rw [hR] at hb; simp [footR] at hb
        | some T => rw [hR] at hb; exact (h.tree.2 T hR).1.lt b hb
      · rcases List.mem_append.1 hb with hb | hb
        · exact lt_of_heap (h.chain b hb).1
        · obtain ⟨l, hl, hbl⟩ := List.mem_flatten.1 hb
          obtain ⟨c, hc, rfl⟩ := List.mem_map.1 hl
          exact ((h.chain c hc).2.lt b (by simpa using hbl)).2
theorem StoreAt.keep (h : StoreAt w B s G) (hb : Below w.heap.size w w') : StoreAt w' B s G := h.keepAll (fun b hbm => hb.block b (h.lt b hbm)) hb.size
theorem optP_eq (o : Option Nat) : optP o = .pointer (optA o) := by cases o <;> rfl
/-- a key's chain, as the chains' functions take it -/
theorem StoreAt.chainV (h : StoreAt w B s G) (k : K25) : ChainV w w.heap.size (getR G.R k) (versG G k) := by
  unfold versG
  cases hg : getR G.R k with
  | none => rfl
  | some c =>
    have hc := h.chain c (get_mem hg)
    exact ⟨lt_of_heap hc.1, _, hc.1, hc.2.sl⟩
end
end Go.Proofs.YtjdccgmoldmlmaaDoor

/- Layer 17: a buffer in memory; its writes in order, in plain Lean. -/
import Derived.Test.YtfmphfidloobkaaGreatDoorQak
import Derived.Test.YtfmphfidloobkaaGreatDoorQaq
import Derived.Test.YtfmphfidloobkaaGreatDoorQad
import Derived.Test.YtfmphfidloobkaaGreatDoorQbl
import Derived.Handy
namespace Go.Proofs.YtfmphfidloobkaaGreatDoor
set_option maxRecDepth 100000
open Go.RowKit

def ekB (k : K25) : Value := .agg (row8 k.val)
def evWr (x : Wr) : Value := .agg (wrtA x)
abbrev MW := List (K25 × Wr)
abbrev MG := List (K25 × Bool)
abbrev MP := List (K25 × Int)
/-- a map that may be nil -/
def MapO {β : Type} (ev : β → Value) (w : World) (o : Option Nat) (L : List (K25 × β)) : Prop := (o = none ∧ L = []) ∨ ∃ m, o = some m ∧ MapIs ekB ev (fun _ => True) w m L
theorem MapO.keep {β : Type} {ev : β → Value} {w w' : World} {o : Option Nat} {L : List (K25 × β)} (h : MapO ev w o L) (hk : ∀ m, o = some m → w'.heap[m]? = w.heap[m]?) : MapO ev w' o L := by
  rcases h with h | ⟨m, h, hm⟩
  · exact .inl h
  · exact .inr ⟨m, h, hm.keep (hk m h)⟩
theorem MapO.lt {β : Type} {ev : β → Value} {w : World} {o : Option Nat} {L : List (K25 × β)} (h : MapO ev w o L) : ∀ m ∈ o.toList, m < w.heap.size := by
  intro m hm
  rcases h with ⟨rfl, _⟩ | ⟨b, rfl, hb⟩
  · simp at hm
  · simp at hm; subst hm; exact hb.lt
theorem MapO.uniq {β : Type} {ev : β → Value} {w : World} {o : Option Nat} {L : List (K25 × β)} (h : MapO ev w o L) : Uniq L := by
  rcases h with ⟨_, rfl⟩ | ⟨b, _, hb⟩
  · exact List.nodup_nil
  · exact hb.uniq
/-- what is known of a buffer: its maps' blocks, its prefixes; writes, guards, prefixes -/
structure BG where
  m1 : Option Nat
  m2 : Option Nat
  pv : Value
  W : MW
  G : MG
  P : MP
def BG.blocks (b : Nat) (g : BG) : List Nat := b :: (g.m1.toList ++ (g.m2.toList ++ g.pv.ownBlock.toList))
def prefP (p : K25 × Int) : Array Value := prefA p.1 p.2
/-- each write lies by its own key -/
def KeyOk (L : MW) : Prop := ∀ p ∈ L, p.2.k = p.1
structure BufAt (w : World) (B b : Nat) (g : BG) : Prop where
  cells : w.heap[b]? = some (.cells #[.map g.m1, .map g.m2, g.pv] 96)
  w1 : MapO evWr w g.m1 g.W
  w2 : MapO evB w g.m2 g.G
  own : OwnA w B 26 102 g.pv (g.P.map prefP)
  nodup : (g.blocks b).Nodup
  low : ∀ x ∈ g.blocks b, B ≤ x
  keys : KeyOk g.W
def emptyB : BG := ⟨none, none, .slice none 0 0, [], [], []⟩
section
variable {w w' : World} {B b : Nat} {g : BG}
theorem BufAt.lt (h : BufAt w B b g) : ∀ x ∈ g.blocks b, x < w.heap.size := by
  intro x hx
  unfold BG.blocks at hx
  simp only [List.mem_cons, List.mem_append] at hx
  rcases hx with rfl | hx | hx | hx
  · exact (Array.getElem?_eq_some_iff.1 h.cells).1
  · exact h.w1.lt x hx
  · exact h.w2.lt x hx
  · exact (h.own.lt x (by simpa using hx)).2
theorem BufAt.keepAll (h : BufAt w B b g) (hk : ∀ x ∈ g.blocks b, w'.heap[x]? = w.heap[x]?) : BufAt w' B b g := by
  refine ⟨(hk b (by simp [BG.blocks])).trans h.cells, h.w1.keep fun m e => hk m (by simp [BG.blocks, e]), h.w2.keep fun m e => hk m (by simp [BG.blocks, e]), h.own.keep fun x e _ => hk x (by simp [BG.blocks, e]), h.nodup, h.low, h.keys⟩
theorem BufAt.keep (h : BufAt w B b g) (hb : Below w.heap.size w w') : BufAt w' B b g := h.keepAll fun x hx => hb.block x (h.lt x hx)
theorem BufAt.size (h : BufAt w B b g) : B ≤ w.heap.size := Nat.le_trans (h.low b (by simp [BG.blocks])) (Nat.le_of_lt (h.lt b (by simp [BG.blocks])))
theorem BufAt.less (h : BufAt w B b g) {B' : Nat} (hB : B' ≤ B) : BufAt w B' b g :=
  ⟨h.cells, h.w1, h.w2, ⟨h.own.1, by
    obtain ⟨h1, h2⟩ := h.own.2
    refine ⟨h1, h2.imp id ?_⟩
    rintro ⟨q, c, u, e1, e2, r⟩
    exact ⟨q, c, u, e1, by omega, r⟩⟩, h.nodup, fun x hx => Nat.le_trans hB (h.low x hx), h.keys⟩
theorem bufNew (w : World) : BufAt (w.alloc (.cells #[.map none, .map none, .slice none 0 0] 96)) w.heap.size w.heap.size emptyB := by
  refine ⟨_root_.Go.heap_alloc_new w _, .inl ⟨rfl, rfl⟩, .inl ⟨rfl, rfl⟩, OwnA.nil _ _ _ _, ?_, ?_, fun p hp => by simp [emptyB] at hp⟩
  · simp [BG.blocks, emptyB, Value.ownBlock]
  · intro x hx; simp [BG.blocks, emptyB, Value.ownBlock] at hx; omega
end
/-- what has turned: the buffer's blocks; its new ones are new -/
def BEvo (b : Nat) (w : World) (g : BG) (w' : World) (g' : BG) : Prop := But (g.blocks b) w w' ∧ ∀ x ∈ g'.blocks b, x ∈ g.blocks b ∨ w.heap.size ≤ x
theorem BEvo.refl (b : Nat) (w : World) (g : BG) : BEvo b w g w g := ⟨But.refl _ _, fun _ h => .inl h⟩
theorem BEvo.trans {b : Nat} {w w' w'' : World} {g g' g'' : BG} (h : BEvo b w g w' g') (h' : BEvo b w' g' w'' g'') : BEvo b w g w'' g'' := by
  refine ⟨⟨h'.1.os.trans h.1.os, h'.1.tape.trans h.1.tape, h'.1.output.trans h.1.output, Nat.le_trans h.1.size h'.1.size, fun x hx hn => ?_⟩, fun x hx => ?_⟩
  · refine (h'.1.same x (Nat.lt_of_lt_of_le hx h.1.size) (fun hm => ?_)).trans (h.1.same x hx hn)
    rcases h.2 x hm with h1 | h1
    · exact hn h1
    · omega
  · rcases h'.2 x hx with h1 | h1
    · exact h.2 x h1
    · exact .inr (Nat.le_trans h.1.size h1)
theorem BEvo.grow {b : Nat} {w w' : World} (g : BG) (h : Below w.heap.size w w') : BEvo b w g w' g := ⟨But.of_below h _, fun _ h => .inl h⟩
theorem BEvo.below {w w' : World} {B b : Nat} {g g' : BG} (h : BEvo b w g w' g') (hs : BufAt w B b g) : Below B w w' := h.1.below hs.low hs.size

/-! the order of keys -/
/-- what tells the order of two things by their keys -/
def cfK {α : Type} (f : α → K25) (x y : α) : Int := if f x = f y then 0 else if lessL (f x).val (f y).val = true then -1 else 1
theorem kLess_ntrans (x y z : K25) (h1 : lessL x.val y.val = false) (h2 : lessL y.val z.val = false) : lessL x.val z.val = false := by
  cases h3 : lessL x.val z.val with
  | false => rfl
  | true =>
    exfalso
    by_cases hyx : kLt y x
    · have := lessL_trans _ _ _ hyx h3; rw [h2] at this; cases this
    · have hxy : ¬ kLt x y := by unfold kLt; rw [h1]; decide
      have := k_total hxy hyx
      rw [this] at h3; rw [h2] at h3; cases h3
/-- things in the order of their keys -/
def sortK {α : Type} (f : α → K25) (l : List α) : List α := l.mergeSort fun x y => !lessL (f y).val (f x).val
theorem sortK_perm {α : Type} (f : α → K25) (l : List α) : (sortK f l).Perm l := List.mergeSort_perm _ _
theorem sortK_len {α : Type} (f : α → K25) (l : List α) : (sortK f l).length = l.length := (sortK_perm f l).length_eq
theorem strictK {α : Type} {f : α → K25} {l : List α} (hn : (l.map f).Nodup) (h : l.Pairwise fun x y => lessL (f y).val (f x).val = false) : l.Pairwise fun x y => kLt (f x) (f y) := by
  have hn2 : l.Pairwise fun x y => f x ≠ f y := List.pairwise_map.1 hn
  refine (h.and hn2).imp ?_
  rintro x y ⟨h1, h2⟩
  by_cases h3 : kLt (f x) (f y)
  · exact h3
  · exact absurd (k_total h3 (fun h => by unfold kLt at h; rw [h1] at h; cases h)) h2
theorem sortK_sorted {α : Type} (f : α → K25) (l : List α) : (sortK f l).Pairwise fun x y => lessL (f y).val (f x).val = false := by
  have h := List.pairwise_mergeSort (le := fun x y : α => !lessL (f y).val (f x).val) (fun a b c h1 h2 => ?_) (fun a b => ?_) l
  · exact h.imp fun h => by simpa using h
  · simp only [Bool.not_eq_true'] at *
    exact kLess_ntrans _ _ _ h2 h1
  · cases h1 : lessL (f b).val (f a).val with
    | false => simp
    | true =>
      cases h2 : lessL (f a).val (f b).val with
      | false => simp
      | true => have := lessL_trans _ _ _ h1 h2; rw [lessL_irrefl] at this; cases this
theorem sortK_unique {α : Type} {f : α → K25} {l m : List α} (hn : (m.map f).Nodup) (hp : l.Perm m) (h : l.Pairwise fun x y => lessL (f y).val (f x).val = false) : l = sortK f m := by
  have h1 : (l.map f).Nodup := (hp.map f).nodup_iff.2 hn
  have h2 : ((sortK f m).map f).Nodup := ((sortK_perm f m).map f).nodup_iff.2 hn
  exact List.Perm.eq_of_pairwise (le := fun x y : α => kLt (f x) (f y)) (fun a b _ _ h1 h2 => (kLt_irrefl _ (kLt_trans h1 h2)).elim) (strictK h1 h) (strictK h2 (sortK_sorted f m)) (hp.trans (sortK_perm f m).symm)
theorem sortK_same {α : Type} {f : α → K25} {l m : List α} (hn : (m.map f).Nodup) (hp : l.Perm m) : sortK f l = sortK f m :=
  sortK_unique hn ((sortK_perm f l).trans hp) (sortK_sorted f l)
/-- a buffer's writes, in order -/
def writesB (L : MW) : List Wr := sortK (·.k) (L.map (·.2))
theorem writes_nodup {L : MW} (hu : Uniq L) (hk : KeyOk L) : ((L.map (·.2)).map (·.k)).Nodup := by
  have e : (L.map (·.2)).map (·.k) = L.map (·.1) := by
    rw [List.map_map]
    exact List.map_congr_left fun p hp => hk p hp
  rw [e]; exact hu
/-- writes, up to the first error; how many; the error -/
def putL : MW → List Wr → MW × Int × Int
  | L, [] => (L, 0, 0)
  | L, x :: xs => if checkE [x] = 0 then (if lk L x.k = none ∧ L.length = 16 then (L, 0, 2) else ((putL (put L x.k x) xs).1, (putL (put L x.k x) xs).2.1 + 1, (putL (put L x.k x) xs).2.2)) else (L, 0, checkE [x])
theorem KeyOk.put {L : MW} (h : KeyOk L) (x : Wr) : KeyOk (put L x.k x) := by
  intro p hp
  unfold Go.Proofs.YtfmphfidloobkaaGreatDoor.put at hp
  split at hp
  · obtain ⟨q, hq, rfl⟩ := List.mem_map.1 hp
    split
    · rfl
    · exact h q hq
  · rcases List.mem_append.1 hp with hp | hp
    · exact h p hp
    · simp at hp; subst hp; rfl
theorem put_len {L : MW} (k : K25) (x : Wr) : (put L k x).length = if k ∈ L.map (·.1) then L.length else L.length + 1 := by
  unfold put
  split
  · simp
  · simp
end Go.Proofs.YtfmphfidloobkaaGreatDoor
set_option maxRecDepth 100000
namespace Go.Proofs.YtfmphfidloobkaaGreatDoor
open Go.RowKit
@[go_sem] theorem agg_entB : Tryz.prog.aggSize 208 = some 34 := by kernel_rfl
@[go_sem ↓ high] theorem ld_entB (a : Addr) : loadVar 208 a = rowLoad 208 a := rfl
@[go_sem ↓ high] theorem st_entB (a : Addr) (v : Value) : storeVar 208 a v = rowStore 208 a v := rfl
end Go.Proofs.YtfmphfidloobkaaGreatDoor
namespace Go.Proofs.YtfmphfidloobkaaGreatDoor.Dr
open Go.RowKit

set_option maxRecDepth 100000 in
theorem ofWrites_gives (x : Wr) (w : World) : Gives Tryz.prog 87 #[.agg (wrtA x)] w (.agg (row8 x.k.val)) := by
  have hl := x.k.len
  unfold Gives
  go_enter Tryz.func87, Tryz.ntmps87
  go_wp2_with fail
  exact bodyPost_ret (v := .agg (row8 x.k.val)) (results_one Tryz.results87 (ResIs.row rfl agg_key (by simp [go_sem, hl]))) rfl ⟨rfl, ⟨(by repeat (first | exact below_of_grow _ _ | exact Go.RowKit.Below.refl _ _ | exact below_more _ _ _ _ | (simp only [← Array.append_assoc]; first | exact below_more _ _ _ _ | exact below_same _ _ _ | exact Go.RowKit.Below.refl _ _) | exact below_same _ _ _ | (refine Go.RowKit.Below.alloc ?_ (by first | (simp; done) | (simp; omega)) _) | (refine Go.RowKit.Below.grow ?_ (by first | (simp; done) | (simp; omega)) _ _) | refine Go.RowKit.Below.drew ?_ | refine Go.RowKit.Below.drewN ?_ _ | (refine Go.RowKit.Below.putF ?_ (by first | (simp; done) | omega | (simp; omega)) _) | (refine Go.RowKit.Below.setCell ?_ (by first | (simp; done) | (simp; omega)) _))), (by first | (simp; done) | (simp; omega) | omega)⟩⟩
set_option maxRecDepth 100000 in
set_option maxHeartbeats 4000000 in
theorem cmpWrites_gives (x y : Wr) (b : Nat) (w : World) (hb : w.cell? ⟨b, 0, none⟩ = some (.func (.func 87) #[] #[])) (hlt : b < w.heap.size) : Gives Tryz.prog 122 #[.agg (wrtA x), .agg (wrtA y), .pointer (some ⟨b, 0, none⟩)] w (.int .i64 (cfK (fun x : Wr => x.k) x y)) := by
  have hcf : cfK (fun x : Wr => x.k) x y = if (x.k.val == y.k.val) = true then 0 else if lessL (x.k.val) (y.k.val) = true then -1 else 1 := by
    unfold cfK
    by_cases h : x.k = y.k
    · rw [if_pos (show (fun x : Wr => x.k) x = (fun x : Wr => x.k) y from h), if_pos (show (x.k.val == y.k.val) = true from by rw [beq_iff_eq]; exact congrArg Subtype.val h)]
    · rw [if_neg (show ¬ (fun x : Wr => x.k) x = (fun x : Wr => x.k) y from h), if_neg (show ¬ (x.k.val == y.k.val) = true from by rw [beq_iff_eq]; exact fun e => h (Subtype.ext e))]
  have HX := Lib.hid (ofWrites_gives x)
  have HY := Lib.hid (ofWrites_gives y)
  have hll := keyLess_gives (x.k.val) (y.k.val) x.k.len y.k.len
  have hlx := x.k.len
  have hly := y.k.len
  rw [hcf]
  clear hcf
  cases he : (x.k.val == y.k.val) with
  | true =>
    rw [if_pos rfl]
    clear hll
    unfold Gives
    go_enter Tryz.func122, Tryz.ntmps122
    go_wp2_with fail
    apply wp_region_specs (by rfl) [.val _, .val _, .val _, .val _, .val _, .val _, .new _, .new _] 8 (by rfl) [8, 9, 10, 11, 12, 13, 6, 7] [6, 7] [] (by rfl) (by rfl) (by decide) (by decide +kernel) (fun _ _ _ _ _ h => h)
    case hF => intro x; simp only [over, List.foldl_cons, List.foldl_nil, List.setIfInBounds_toArray, List.set_cons_succ, List.set_cons_zero]; exact rfl
    case hops =>
      refine ⟨?o0, ?o1, ?o2, ?o3, ?o4, ?o5, ?o6, ?o7, trivial⟩
      case o0 =>
        intro x w1 hH K hK
        obtain ⟨xs, d, rfl⟩ := grow_of_below hH.below
        clear hH
        try simp only [World.grow_drew] at hK ⊢
        try simp only [World.grow_grow] at hK ⊢
        go_simp
        go_wp2_with fail
        exact ⟨_, rfl, rfl, ⟨(by repeat (first | exact below_of_grow _ _ | exact Go.RowKit.Below.refl _ _ | exact below_more _ _ _ _ | (simp only [← Array.append_assoc]; first | exact below_more _ _ _ _ | exact below_same _ _ _ | exact Go.RowKit.Below.refl _ _) | exact below_same _ _ _ | (refine Go.RowKit.Below.alloc ?_ (by first | (simp; done) | (simp; omega)) _) | (refine Go.RowKit.Below.grow ?_ (by first | (simp; done) | (simp; omega)) _ _) | refine Go.RowKit.Below.drew ?_ | refine Go.RowKit.Below.drewN ?_ _ | (refine Go.RowKit.Below.putF ?_ (by first | (simp; done) | omega | (simp; omega)) _) | (refine Go.RowKit.Below.setCell ?_ (by first | (simp; done) | (simp; omega)) _))), (by first | (simp; done) | (simp; omega) | omega)⟩, fun h => by cases h⟩
      case o1 =>
        intro x w1 hH K hK
        obtain ⟨xs, d, rfl⟩ := grow_of_below hH.below
        clear hH
        try simp only [World.grow_drew] at hK ⊢
        try simp only [World.grow_grow] at hK ⊢
        go_simp
        go_wp2_with fail
        exact ⟨_, rfl, rfl, ⟨(by repeat (first | exact below_of_grow _ _ | exact Go.RowKit.Below.refl _ _ | exact below_more _ _ _ _ | (simp only [← Array.append_assoc]; first | exact below_more _ _ _ _ | exact below_same _ _ _ | exact Go.RowKit.Below.refl _ _) | exact below_same _ _ _ | (refine Go.RowKit.Below.alloc ?_ (by first | (simp; done) | (simp; omega)) _) | (refine Go.RowKit.Below.grow ?_ (by first | (simp; done) | (simp; omega)) _ _) | refine Go.RowKit.Below.drew ?_ | refine Go.RowKit.Below.drewN ?_ _ | (refine Go.RowKit.Below.putF ?_ (by first | (simp; done) | omega | (simp; omega)) _) | (refine Go.RowKit.Below.setCell ?_ (by first | (simp; done) | (simp; omega)) _))), (by first | (simp; done) | (simp; omega) | omega)⟩, fun h => by cases h⟩
      case o2 =>
        intro x w1 hH K hK
        have e8 : x 8 = _ := hH.holds 0 (by decide) (by decide +kernel) 8 rfl
        have e9 : x 9 = _ := hH.holds 1 (by decide) (by decide +kernel) 9 rfl
        obtain ⟨xs, d, rfl⟩ := grow_of_below hH.below
        clear hH
        try simp only [World.grow_drew] at hK ⊢
        try simp only [World.grow_grow] at hK ⊢
        simp only [e8, e9] at hK ⊢
        clear e8 e9
        go_simp
        go_wp2_with (refine Gives.use (HX.out _) ?_; intro ys e)
        exact ⟨_, rfl, rfl, ⟨(by repeat (first | exact below_of_grow _ _ | exact Go.RowKit.Below.refl _ _ | exact below_more _ _ _ _ | (simp only [← Array.append_assoc]; first | exact below_more _ _ _ _ | exact below_same _ _ _ | exact Go.RowKit.Below.refl _ _) | exact below_same _ _ _ | (refine Go.RowKit.Below.alloc ?_ (by first | (simp; done) | (simp; omega)) _) | (refine Go.RowKit.Below.grow ?_ (by first | (simp; done) | (simp; omega)) _ _) | refine Go.RowKit.Below.drew ?_ | refine Go.RowKit.Below.drewN ?_ _ | (refine Go.RowKit.Below.putF ?_ (by first | (simp; done) | omega | (simp; omega)) _) | (refine Go.RowKit.Below.setCell ?_ (by first | (simp; done) | (simp; omega)) _))), (by first | (simp; done) | (simp; omega) | omega)⟩, fun h => by cases h⟩
      case o3 =>
        intro x w1 hH K hK
        obtain ⟨xs, d, rfl⟩ := grow_of_below hH.below
        clear hH
        try simp only [World.grow_drew] at hK ⊢
        try simp only [World.grow_grow] at hK ⊢
        go_simp
        go_wp2_with fail
        exact ⟨_, rfl, rfl, ⟨(by repeat (first | exact below_of_grow _ _ | exact Go.RowKit.Below.refl _ _ | exact below_more _ _ _ _ | (simp only [← Array.append_assoc]; first | exact below_more _ _ _ _ | exact below_same _ _ _ | exact Go.RowKit.Below.refl _ _) | exact below_same _ _ _ | (refine Go.RowKit.Below.alloc ?_ (by first | (simp; done) | (simp; omega)) _) | (refine Go.RowKit.Below.grow ?_ (by first | (simp; done) | (simp; omega)) _ _) | refine Go.RowKit.Below.drew ?_ | refine Go.RowKit.Below.drewN ?_ _ | (refine Go.RowKit.Below.putF ?_ (by first | (simp; done) | omega | (simp; omega)) _) | (refine Go.RowKit.Below.setCell ?_ (by first | (simp; done) | (simp; omega)) _))), (by first | (simp; done) | (simp; omega) | omega)⟩, fun h => by cases h⟩
      case o4 =>
        intro x w1 hH K hK
        obtain ⟨xs, d, rfl⟩ := grow_of_below hH.below
        clear hH
        try simp only [World.grow_drew] at hK ⊢
        try simp only [World.grow_grow] at hK ⊢
        go_simp
        go_wp2_with fail
        exact ⟨_, rfl, rfl, ⟨(by repeat (first | exact below_of_grow _ _ | exact Go.RowKit.Below.refl _ _ | exact below_more _ _ _ _ | (simp only [← Array.append_assoc]; first | exact below_more _ _ _ _ | exact below_same _ _ _ | exact Go.RowKit.Below.refl _ _) | exact below_same _ _ _ | (refine Go.RowKit.Below.alloc ?_ (by first | (simp; done) | (simp; omega)) _) | (refine Go.RowKit.Below.grow ?_ (by first | (simp; done) | (simp; omega)) _ _) | refine Go.RowKit.Below.drew ?_ | refine Go.RowKit.Below.drewN ?_ _ | (refine Go.RowKit.Below.putF ?_ (by first | (simp; done) | omega | (simp; omega)) _) | (refine Go.RowKit.Below.setCell ?_ (by first | (simp; done) | (simp; omega)) _))), (by first | (simp; done) | (simp; omega) | omega)⟩, fun h => by cases h⟩
      case o5 =>
        intro x w1 hH K hK
        have e11 : x 11 = _ := hH.holds 3 (by decide) (by decide +kernel) 11 rfl
        have e12 : x 12 = _ := hH.holds 4 (by decide) (by decide +kernel) 12 rfl
        obtain ⟨xs, d, rfl⟩ := grow_of_below hH.below
        clear hH
        try simp only [World.grow_drew] at hK ⊢
        try simp only [World.grow_grow] at hK ⊢
        simp only [e11, e12] at hK ⊢
        clear e11 e12
        go_simp
        go_wp2_with (refine Gives.use (HY.out _) ?_; intro ys e)
        exact ⟨_, rfl, rfl, ⟨(by repeat (first | exact below_of_grow _ _ | exact Go.RowKit.Below.refl _ _ | exact below_more _ _ _ _ | (simp only [← Array.append_assoc]; first | exact below_more _ _ _ _ | exact below_same _ _ _ | exact Go.RowKit.Below.refl _ _) | exact below_same _ _ _ | (refine Go.RowKit.Below.alloc ?_ (by first | (simp; done) | (simp; omega)) _) | (refine Go.RowKit.Below.grow ?_ (by first | (simp; done) | (simp; omega)) _ _) | refine Go.RowKit.Below.drew ?_ | refine Go.RowKit.Below.drewN ?_ _ | (refine Go.RowKit.Below.putF ?_ (by first | (simp; done) | omega | (simp; omega)) _) | (refine Go.RowKit.Below.setCell ?_ (by first | (simp; done) | (simp; omega)) _))), (by first | (simp; done) | (simp; omega) | omega)⟩, fun h => by cases h⟩
      case o6 =>
        intro x w1 hH K hK
        obtain ⟨xs, d, rfl⟩ := grow_of_below hH.below
        clear hH
        try simp only [World.grow_drew] at hK ⊢
        try simp only [World.grow_grow] at hK ⊢
        go_simp
        go_wp2_with fail
        exact left_new rfl (by simp) (by first | (simp; done) | (simp; omega))
      case o7 =>
        intro x w1 hH K hK
        obtain ⟨xs, d, rfl⟩ := grow_of_below hH.below
        clear hH
        try simp only [World.grow_drew] at hK ⊢
        try simp only [World.grow_grow] at hK ⊢
        go_simp
        go_wp2_with fail
        exact left_new rfl (by simp) (by first | (simp; done) | (simp; omega))
    case hend =>
      intro x w1 hH
      have e8 : x 8 = _ := hH.holds 0 (by decide) trivial 8 rfl
      have e9 : x 9 = _ := hH.holds 1 (by decide) trivial 9 rfl
      have e10 : x 10 = _ := hH.holds 2 (by decide) trivial 10 rfl
      have e11 : x 11 = _ := hH.holds 3 (by decide) trivial 11 rfl
      have e12 : x 12 = _ := hH.holds 4 (by decide) trivial 12 rfl
      have e13 : x 13 = _ := hH.holds 5 (by decide) trivial 13 rfl
      obtain ⟨b6, e6, l6, u6, o6⟩ := hH.holds 6 (by decide) trivial 6 rfl
      obtain ⟨b7, e7, l7, u7, o7⟩ := hH.holds 7 (by decide) trivial 7 rfl
      have n6_7 : b6 ≠ b7 := fun h => hH.apart 6 (by decide) 7 (by decide) (by decide) (by decide) trivial trivial (by decide) 6 7 rfl rfl (by rw [e6, e7, h])
      have n7_6 := n6_7.symm
      obtain ⟨xs, d, rfl⟩ := grow_of_below hH.below
      clear hH
      simp only [e8, e9, e10, e11, e12, e13, e6, e7]; clear e8 e9 e10 e11 e12 e13 e6 e7
      refine new_known2 o6 l6 u6 o7 l7 u7 ?_
      clear o6 o7
      simp [go_sem] at l6 u6 l7 u7
      simp only [List.drop_succ_cons, List.drop_zero]
      go_wp2_with fail
      go_ret
      exact ⟨rfl, ⟨(by repeat (first | exact below_of_grow _ _ | exact Go.RowKit.Below.refl _ _ | exact below_more _ _ _ _ | (simp only [← Array.append_assoc]; first | exact below_more _ _ _ _ | exact below_same _ _ _ | exact Go.RowKit.Below.refl _ _) | exact below_same _ _ _ | (refine Go.RowKit.Below.alloc ?_ (by first | (simp; done) | (simp; omega)) _) | (refine Go.RowKit.Below.grow ?_ (by first | (simp; done) | (simp; omega)) _ _) | refine Go.RowKit.Below.drew ?_ | refine Go.RowKit.Below.drewN ?_ _ | (refine Go.RowKit.Below.putF ?_ (by first | (simp; done) | omega | (simp; omega)) _) | (refine Go.RowKit.Below.setCell ?_ (by first | (simp; done) | (simp; omega)) _))), (by first | (simp; done) | (simp; omega) | omega)⟩⟩
  | false =>
    rw [if_neg (by decide)]
    cases hl : lessL (x.k.val) (y.k.val) with
    | true =>
      rw [if_pos rfl]
      rw [hl] at hll
      have HLL := Lib.hid hll
      clear hll hl
      unfold Gives
      go_enter Tryz.func122, Tryz.ntmps122
      go_wp2_with fail
      apply wp_region_specs (by rfl) [.val _, .val _, .val _, .val _, .val _, .val _, .new _, .new _] 8 (by rfl) [8, 9, 10, 11, 12, 13, 6, 7] [6, 7] [] (by rfl) (by rfl) (by decide) (by decide +kernel) (fun _ _ _ _ _ h => h)
      case hF => intro x; simp only [over, List.foldl_cons, List.foldl_nil, List.setIfInBounds_toArray, List.set_cons_succ, List.set_cons_zero]; exact rfl
      case hops =>
        refine ⟨?o0, ?o1, ?o2, ?o3, ?o4, ?o5, ?o6, ?o7, trivial⟩
        case o0 =>
          intro x w1 hH K hK
          obtain ⟨xs, d, rfl⟩ := grow_of_below hH.below
          clear hH
          try simp only [World.grow_drew] at hK ⊢
          try simp only [World.grow_grow] at hK ⊢
          go_simp
          go_wp2_with fail
          exact ⟨_, rfl, rfl, ⟨(by repeat (first | exact below_of_grow _ _ | exact Go.RowKit.Below.refl _ _ | exact below_more _ _ _ _ | (simp only [← Array.append_assoc]; first | exact below_more _ _ _ _ | exact below_same _ _ _ | exact Go.RowKit.Below.refl _ _) | exact below_same _ _ _ | (refine Go.RowKit.Below.alloc ?_ (by first | (simp; done) | (simp; omega)) _) | (refine Go.RowKit.Below.grow ?_ (by first | (simp; done) | (simp; omega)) _ _) | refine Go.RowKit.Below.drew ?_ | refine Go.RowKit.Below.drewN ?_ _ | (refine Go.RowKit.Below.putF ?_ (by first | (simp; done) | omega | (simp; omega)) _) | (refine Go.RowKit.Below.setCell ?_ (by first | (simp; done) | (simp; omega)) _))), (by first | (simp; done) | (simp; omega) | omega)⟩, fun h => by cases h⟩
        case o1 =>
          intro x w1 hH K hK
          obtain ⟨xs, d, rfl⟩ := grow_of_below hH.below
          clear hH
          try simp only [World.grow_drew] at hK ⊢
          try simp only [World.grow_grow] at hK ⊢
          go_simp
          go_wp2_with fail
          exact ⟨_, rfl, rfl, ⟨(by repeat (first | exact below_of_grow _ _ | exact Go.RowKit.Below.refl _ _ | exact below_more _ _ _ _ | (simp only [← Array.append_assoc]; first | exact below_more _ _ _ _ | exact below_same _ _ _ | exact Go.RowKit.Below.refl _ _) | exact below_same _ _ _ | (refine Go.RowKit.Below.alloc ?_ (by first | (simp; done) | (simp; omega)) _) | (refine Go.RowKit.Below.grow ?_ (by first | (simp; done) | (simp; omega)) _ _) | refine Go.RowKit.Below.drew ?_ | refine Go.RowKit.Below.drewN ?_ _ | (refine Go.RowKit.Below.putF ?_ (by first | (simp; done) | omega | (simp; omega)) _) | (refine Go.RowKit.Below.setCell ?_ (by first | (simp; done) | (simp; omega)) _))), (by first | (simp; done) | (simp; omega) | omega)⟩, fun h => by cases h⟩
        case o2 =>
          intro x w1 hH K hK
          have e8 : x 8 = _ := hH.holds 0 (by decide) (by decide +kernel) 8 rfl
          have e9 : x 9 = _ := hH.holds 1 (by decide) (by decide +kernel) 9 rfl
          obtain ⟨xs, d, rfl⟩ := grow_of_below hH.below
          clear hH
          try simp only [World.grow_drew] at hK ⊢
          try simp only [World.grow_grow] at hK ⊢
          simp only [e8, e9] at hK ⊢
          clear e8 e9
          go_simp
          go_wp2_with (refine Gives.use (HX.out _) ?_; intro ys e)
          exact ⟨_, rfl, rfl, ⟨(by repeat (first | exact below_of_grow _ _ | exact Go.RowKit.Below.refl _ _ | exact below_more _ _ _ _ | (simp only [← Array.append_assoc]; first | exact below_more _ _ _ _ | exact below_same _ _ _ | exact Go.RowKit.Below.refl _ _) | exact below_same _ _ _ | (refine Go.RowKit.Below.alloc ?_ (by first | (simp; done) | (simp; omega)) _) | (refine Go.RowKit.Below.grow ?_ (by first | (simp; done) | (simp; omega)) _ _) | refine Go.RowKit.Below.drew ?_ | refine Go.RowKit.Below.drewN ?_ _ | (refine Go.RowKit.Below.putF ?_ (by first | (simp; done) | omega | (simp; omega)) _) | (refine Go.RowKit.Below.setCell ?_ (by first | (simp; done) | (simp; omega)) _))), (by first | (simp; done) | (simp; omega) | omega)⟩, fun h => by cases h⟩
        case o3 =>
          intro x w1 hH K hK
          obtain ⟨xs, d, rfl⟩ := grow_of_below hH.below
          clear hH
          try simp only [World.grow_drew] at hK ⊢
          try simp only [World.grow_grow] at hK ⊢
          go_simp
          go_wp2_with fail
          exact ⟨_, rfl, rfl, ⟨(by repeat (first | exact below_of_grow _ _ | exact Go.RowKit.Below.refl _ _ | exact below_more _ _ _ _ | (simp only [← Array.append_assoc]; first | exact below_more _ _ _ _ | exact below_same _ _ _ | exact Go.RowKit.Below.refl _ _) | exact below_same _ _ _ | (refine Go.RowKit.Below.alloc ?_ (by first | (simp; done) | (simp; omega)) _) | (refine Go.RowKit.Below.grow ?_ (by first | (simp; done) | (simp; omega)) _ _) | refine Go.RowKit.Below.drew ?_ | refine Go.RowKit.Below.drewN ?_ _ | (refine Go.RowKit.Below.putF ?_ (by first | (simp; done) | omega | (simp; omega)) _) | (refine Go.RowKit.Below.setCell ?_ (by first | (simp; done) | (simp; omega)) _))), (by first | (simp; done) | (simp; omega) | omega)⟩, fun h => by cases h⟩
        case o4 =>
          intro x w1 hH K hK
          obtain ⟨xs, d, rfl⟩ := grow_of_below hH.below
          clear hH
          try simp only [World.grow_drew] at hK ⊢
          try simp only [World.grow_grow] at hK ⊢
          go_simp
          go_wp2_with fail
          exact ⟨_, rfl, rfl, ⟨(by repeat (first | exact below_of_grow _ _ | exact Go.RowKit.Below.refl _ _ | exact below_more _ _ _ _ | (simp only [← Array.append_assoc]; first | exact below_more _ _ _ _ | exact below_same _ _ _ | exact Go.RowKit.Below.refl _ _) | exact below_same _ _ _ | (refine Go.RowKit.Below.alloc ?_ (by first | (simp; done) | (simp; omega)) _) | (refine Go.RowKit.Below.grow ?_ (by first | (simp; done) | (simp; omega)) _ _) | refine Go.RowKit.Below.drew ?_ | refine Go.RowKit.Below.drewN ?_ _ | (refine Go.RowKit.Below.putF ?_ (by first | (simp; done) | omega | (simp; omega)) _) | (refine Go.RowKit.Below.setCell ?_ (by first | (simp; done) | (simp; omega)) _))), (by first | (simp; done) | (simp; omega) | omega)⟩, fun h => by cases h⟩
        case o5 =>
          intro x w1 hH K hK
          have e11 : x 11 = _ := hH.holds 3 (by decide) (by decide +kernel) 11 rfl
          have e12 : x 12 = _ := hH.holds 4 (by decide) (by decide +kernel) 12 rfl
          obtain ⟨xs, d, rfl⟩ := grow_of_below hH.below
          clear hH
          try simp only [World.grow_drew] at hK ⊢
          try simp only [World.grow_grow] at hK ⊢
          simp only [e11, e12] at hK ⊢
          clear e11 e12
          go_simp
          go_wp2_with (refine Gives.use (HY.out _) ?_; intro ys e)
          exact ⟨_, rfl, rfl, ⟨(by repeat (first | exact below_of_grow _ _ | exact Go.RowKit.Below.refl _ _ | exact below_more _ _ _ _ | (simp only [← Array.append_assoc]; first | exact below_more _ _ _ _ | exact below_same _ _ _ | exact Go.RowKit.Below.refl _ _) | exact below_same _ _ _ | (refine Go.RowKit.Below.alloc ?_ (by first | (simp; done) | (simp; omega)) _) | (refine Go.RowKit.Below.grow ?_ (by first | (simp; done) | (simp; omega)) _ _) | refine Go.RowKit.Below.drew ?_ | refine Go.RowKit.Below.drewN ?_ _ | (refine Go.RowKit.Below.putF ?_ (by first | (simp; done) | omega | (simp; omega)) _) | (refine Go.RowKit.Below.setCell ?_ (by first | (simp; done) | (simp; omega)) _))), (by first | (simp; done) | (simp; omega) | omega)⟩, fun h => by cases h⟩
        case o6 =>
          intro x w1 hH K hK
          obtain ⟨xs, d, rfl⟩ := grow_of_below hH.below
          clear hH
          try simp only [World.grow_drew] at hK ⊢
          try simp only [World.grow_grow] at hK ⊢
          go_simp
          go_wp2_with fail
          exact left_new rfl (by simp) (by first | (simp; done) | (simp; omega))
        case o7 =>
          intro x w1 hH K hK
          obtain ⟨xs, d, rfl⟩ := grow_of_below hH.below
          clear hH
          try simp only [World.grow_drew] at hK ⊢
          try simp only [World.grow_grow] at hK ⊢
          go_simp
          go_wp2_with fail
          exact left_new rfl (by simp) (by first | (simp; done) | (simp; omega))
      case hend =>
        intro x w1 hH
        have e8 : x 8 = _ := hH.holds 0 (by decide) trivial 8 rfl
        have e9 : x 9 = _ := hH.holds 1 (by decide) trivial 9 rfl
        have e10 : x 10 = _ := hH.holds 2 (by decide) trivial 10 rfl
        have e11 : x 11 = _ := hH.holds 3 (by decide) trivial 11 rfl
        have e12 : x 12 = _ := hH.holds 4 (by decide) trivial 12 rfl
        have e13 : x 13 = _ := hH.holds 5 (by decide) trivial 13 rfl
        obtain ⟨b6, e6, l6, u6, o6⟩ := hH.holds 6 (by decide) trivial 6 rfl
        obtain ⟨b7, e7, l7, u7, o7⟩ := hH.holds 7 (by decide) trivial 7 rfl
        have n6_7 : b6 ≠ b7 := fun h => hH.apart 6 (by decide) 7 (by decide) (by decide) (by decide) trivial trivial (by decide) 6 7 rfl rfl (by rw [e6, e7, h])
        have n7_6 := n6_7.symm
        obtain ⟨xs, d, rfl⟩ := grow_of_below hH.below
        clear hH
        simp only [e8, e9, e10, e11, e12, e13, e6, e7]; clear e8 e9 e10 e11 e12 e13 e6 e7
        refine new_known2 o6 l6 u6 o7 l7 u7 ?_
        clear o6 o7
        simp [go_sem] at l6 u6 l7 u7
        simp only [List.drop_succ_cons, List.drop_zero]
        go_wp2_with fail
        refine Gives.use (HLL.out _) ?_
        intro ys e
        go_wp2_with fail
        go_ret
        exact ⟨rfl, ⟨(by repeat (first | exact below_of_grow _ _ | exact Go.RowKit.Below.refl _ _ | exact below_more _ _ _ _ | (simp only [← Array.append_assoc]; first | exact below_more _ _ _ _ | exact below_same _ _ _ | exact Go.RowKit.Below.refl _ _) | exact below_same _ _ _ | (refine Go.RowKit.Below.alloc ?_ (by first | (simp; done) | (simp; omega)) _) | (refine Go.RowKit.Below.grow ?_ (by first | (simp; done) | (simp; omega)) _ _) | refine Go.RowKit.Below.drew ?_ | refine Go.RowKit.Below.drewN ?_ _ | (refine Go.RowKit.Below.putF ?_ (by first | (simp; done) | omega | (simp; omega)) _) | (refine Go.RowKit.Below.setCell ?_ (by first | (simp; done) | (simp; omega)) _))), (by first | (simp; done) | (simp; omega) | omega)⟩⟩
    | false =>
      rw [if_neg (by decide)]
      rw [hl] at hll
      have HLL := Lib.hid hll
      clear hll hl
      unfold Gives
      go_enter Tryz.func122, Tryz.ntmps122
      go_wp2_with fail
      apply wp_region_specs (by rfl) [.val _, .val _, .val _, .val _, .val _, .val _, .new _, .new _] 8 (by rfl) [8, 9, 10, 11, 12, 13, 6, 7] [6, 7] [] (by rfl) (by rfl) (by decide) (by decide +kernel) (fun _ _ _ _ _ h => h)
      case hF => intro x; simp only [over, List.foldl_cons, List.foldl_nil, List.setIfInBounds_toArray, List.set_cons_succ, List.set_cons_zero]; exact rfl
      case hops =>
        refine ⟨?o0, ?o1, ?o2, ?o3, ?o4, ?o5, ?o6, ?o7, trivial⟩
        case o0 =>
          intro x w1 hH K hK
          obtain ⟨xs, d, rfl⟩ := grow_of_below hH.below
          clear hH
          try simp only [World.grow_drew] at hK ⊢
          try simp only [World.grow_grow] at hK ⊢
          go_simp
          go_wp2_with fail
          exact ⟨_, rfl, rfl, ⟨(by repeat (first | exact below_of_grow _ _ | exact Go.RowKit.Below.refl _ _ | exact below_more _ _ _ _ | (simp only [← Array.append_assoc]; first | exact below_more _ _ _ _ | exact below_same _ _ _ | exact Go.RowKit.Below.refl _ _) | exact below_same _ _ _ | (refine Go.RowKit.Below.alloc ?_ (by first | (simp; done) | (simp; omega)) _) | (refine Go.RowKit.Below.grow ?_ (by first | (simp; done) | (simp; omega)) _ _) | refine Go.RowKit.Below.drew ?_ | refine Go.RowKit.Below.drewN ?_ _ | (refine Go.RowKit.Below.putF ?_ (by first | (simp; done) | omega | (simp; omega)) _) | (refine Go.RowKit.Below.setCell ?_ (by first | (simp; done) | (simp; omega)) _))), (by first | (simp; done) | (simp; omega) | omega)⟩, fun h => by cases h⟩
        case o1 =>
          intro x w1 hH K hK
          obtain ⟨xs, d, rfl⟩ := grow_of_below hH.below
          clear hH
          try simp only [World.grow_drew] at hK ⊢
          try simp only [World.grow_grow] at hK ⊢
          go_simp
          go_wp2_with fail
          exact ⟨_, rfl, rfl, ⟨(by repeat (first | exact below_of_grow _ _ | exact Go.RowKit.Below.refl _ _ | exact below_more _ _ _ _ | (simp only [← Array.append_assoc]; first | exact below_more _ _ _ _ | exact below_same _ _ _ | exact Go.RowKit.Below.refl _ _) | exact below_same _ _ _ | (refine Go.RowKit.Below.alloc ?_ (by first | (simp; done) | (simp; omega)) _) | (refine Go.RowKit.Below.grow ?_ (by first | (simp; done) | (simp; omega)) _ _) | refine Go.RowKit.Below.drew ?_ | refine Go.RowKit.Below.drewN ?_ _ | (refine Go.RowKit.Below.putF ?_ (by first | (simp; done) | omega | (simp; omega)) _) | (refine Go.RowKit.Below.setCell ?_ (by first | (simp; done) | (simp; omega)) _))), (by first | (simp; done) | (simp; omega) | omega)⟩, fun h => by cases h⟩
        case o2 =>
          intro x w1 hH K hK
          have e8 : x 8 = _ := hH.holds 0 (by decide) (by decide +kernel) 8 rfl
          have e9 : x 9 = _ := hH.holds 1 (by decide) (by decide +kernel) 9 rfl
          obtain ⟨xs, d, rfl⟩ := grow_of_below hH.below
          clear hH
          try simp only [World.grow_drew] at hK ⊢
          try simp only [World.grow_grow] at hK ⊢
          simp only [e8, e9] at hK ⊢
          clear e8 e9
          go_simp
          go_wp2_with (refine Gives.use (HX.out _) ?_; intro ys e)
          exact ⟨_, rfl, rfl, ⟨(by repeat (first | exact below_of_grow _ _ | exact Go.RowKit.Below.refl _ _ | exact below_more _ _ _ _ | (simp only [← Array.append_assoc]; first | exact below_more _ _ _ _ | exact below_same _ _ _ | exact Go.RowKit.Below.refl _ _) | exact below_same _ _ _ | (refine Go.RowKit.Below.alloc ?_ (by first | (simp; done) | (simp; omega)) _) | (refine Go.RowKit.Below.grow ?_ (by first | (simp; done) | (simp; omega)) _ _) | refine Go.RowKit.Below.drew ?_ | refine Go.RowKit.Below.drewN ?_ _ | (refine Go.RowKit.Below.putF ?_ (by first | (simp; done) | omega | (simp; omega)) _) | (refine Go.RowKit.Below.setCell ?_ (by first | (simp; done) | (simp; omega)) _))), (by first | (simp; done) | (simp; omega) | omega)⟩, fun h => by cases h⟩
        case o3 =>
          intro x w1 hH K hK
          obtain ⟨xs, d, rfl⟩ := grow_of_below hH.below
          clear hH
          try simp only [World.grow_drew] at hK ⊢
          try simp only [World.grow_grow] at hK ⊢
          go_simp
          go_wp2_with fail
          exact ⟨_, rfl, rfl, ⟨(by repeat (first | exact below_of_grow _ _ | exact Go.RowKit.Below.refl _ _ | exact below_more _ _ _ _ | (simp only [← Array.append_assoc]; first | exact below_more _ _ _ _ | exact below_same _ _ _ | exact Go.RowKit.Below.refl _ _) | exact below_same _ _ _ | (refine Go.RowKit.Below.alloc ?_ (by first | (simp; done) | (simp; omega)) _) | (refine Go.RowKit.Below.grow ?_ (by first | (simp; done) | (simp; omega)) _ _) | refine Go.RowKit.Below.drew ?_ | refine Go.RowKit.Below.drewN ?_ _ | (refine Go.RowKit.Below.putF ?_ (by first | (simp; done) | omega | (simp; omega)) _) | (refine Go.RowKit.Below.setCell ?_ (by first | (simp; done) | (simp; omega)) _))), (by first | (simp; done) | (simp; omega) | omega)⟩, fun h => by cases h⟩
        case o4 =>
          intro x w1 hH K hK
          obtain ⟨xs, d, rfl⟩ := grow_of_below hH.below
          clear hH
          try simp only [World.grow_drew] at hK ⊢
          try simp only [World.grow_grow] at hK ⊢
          go_simp
          go_wp2_with fail
          exact ⟨_, rfl, rfl, ⟨(by repeat (first | exact below_of_grow _ _ | exact Go.RowKit.Below.refl _ _ | exact below_more _ _ _ _ | (simp only [← Array.append_assoc]; first | exact below_more _ _ _ _ | exact below_same _ _ _ | exact Go.RowKit.Below.refl _ _) | exact below_same _ _ _ | (refine Go.RowKit.Below.alloc ?_ (by first | (simp; done) | (simp; omega)) _) | (refine Go.RowKit.Below.grow ?_ (by first | (simp; done) | (simp; omega)) _ _) | refine Go.RowKit.Below.drew ?_ | refine Go.RowKit.Below.drewN ?_ _ | (refine Go.RowKit.Below.putF ?_ (by first | (simp; done) | omega | (simp; omega)) _) | (refine Go.RowKit.Below.setCell ?_ (by first | (simp; done) | (simp; omega)) _))), (by first | (simp; done) | (simp; omega) | omega)⟩, fun h => by cases h⟩
        case o5 =>
          intro x w1 hH K hK
          have e11 : x 11 = _ := hH.holds 3 (by decide) (by decide +kernel) 11 rfl
          have e12 : x 12 = _ := hH.holds 4 (by decide) (by decide +kernel) 12 rfl
          obtain ⟨xs, d, rfl⟩ := grow_of_below hH.below
          clear hH
          try simp only [World.grow_drew] at hK ⊢
          try simp only [World.grow_grow] at hK ⊢
          simp only [e11, e12] at hK ⊢
          clear e11 e12
          go_simp
          go_wp2_with (refine Gives.use (HY.out _) ?_; intro ys e)
          exact ⟨_, rfl, rfl, ⟨(by repeat (first | exact below_of_grow _ _ | exact Go.RowKit.Below.refl _ _ | exact below_more _ _ _ _ | (simp only [← Array.append_assoc]; first | exact below_more _ _ _ _ | exact below_same _ _ _ | exact Go.RowKit.Below.refl _ _) | exact below_same _ _ _ | (refine Go.RowKit.Below.alloc ?_ (by first | (simp; done) | (simp; omega)) _) | (refine Go.RowKit.Below.grow ?_ (by first | (simp; done) | (simp; omega)) _ _) | refine Go.RowKit.Below.drew ?_ | refine Go.RowKit.Below.drewN ?_ _ | (refine Go.RowKit.Below.putF ?_ (by first | (simp; done) | omega | (simp; omega)) _) | (refine Go.RowKit.Below.setCell ?_ (by first | (simp; done) | (simp; omega)) _))), (by first | (simp; done) | (simp; omega) | omega)⟩, fun h => by cases h⟩
        case o6 =>
          intro x w1 hH K hK
          obtain ⟨xs, d, rfl⟩ := grow_of_below hH.below
          clear hH
          try simp only [World.grow_drew] at hK ⊢
          try simp only [World.grow_grow] at hK ⊢
          go_simp
          go_wp2_with fail
          exact left_new rfl (by simp) (by first | (simp; done) | (simp; omega))
        case o7 =>
          intro x w1 hH K hK
          obtain ⟨xs, d, rfl⟩ := grow_of_below hH.below
          clear hH
          try simp only [World.grow_drew] at hK ⊢
          try simp only [World.grow_grow] at hK ⊢
          go_simp
          go_wp2_with fail
          exact left_new rfl (by simp) (by first | (simp; done) | (simp; omega))
      case hend =>
        intro x w1 hH
        have e8 : x 8 = _ := hH.holds 0 (by decide) trivial 8 rfl
        have e9 : x 9 = _ := hH.holds 1 (by decide) trivial 9 rfl
        have e10 : x 10 = _ := hH.holds 2 (by decide) trivial 10 rfl
        have e11 : x 11 = _ := hH.holds 3 (by decide) trivial 11 rfl
        have e12 : x 12 = _ := hH.holds 4 (by decide) trivial 12 rfl
        have e13 : x 13 = _ := hH.holds 5 (by decide) trivial 13 rfl
        obtain ⟨b6, e6, l6, u6, o6⟩ := hH.holds 6 (by decide) trivial 6 rfl
        obtain ⟨b7, e7, l7, u7, o7⟩ := hH.holds 7 (by decide) trivial 7 rfl
        have n6_7 : b6 ≠ b7 := fun h => hH.apart 6 (by decide) 7 (by decide) (by decide) (by decide) trivial trivial (by decide) 6 7 rfl rfl (by rw [e6, e7, h])
        have n7_6 := n6_7.symm
        obtain ⟨xs, d, rfl⟩ := grow_of_below hH.below
        clear hH
        simp only [e8, e9, e10, e11, e12, e13, e6, e7]; clear e8 e9 e10 e11 e12 e13 e6 e7
        refine new_known2 o6 l6 u6 o7 l7 u7 ?_
        clear o6 o7
        simp [go_sem] at l6 u6 l7 u7
        simp only [List.drop_succ_cons, List.drop_zero]
        go_wp2_with fail
        refine Gives.use (HLL.out _) ?_
        intro ys e
        go_wp2_with fail
        go_ret
        exact ⟨rfl, ⟨(by repeat (first | exact below_of_grow _ _ | exact Go.RowKit.Below.refl _ _ | exact below_more _ _ _ _ | (simp only [← Array.append_assoc]; first | exact below_more _ _ _ _ | exact below_same _ _ _ | exact Go.RowKit.Below.refl _ _) | exact below_same _ _ _ | (refine Go.RowKit.Below.alloc ?_ (by first | (simp; done) | (simp; omega)) _) | (refine Go.RowKit.Below.grow ?_ (by first | (simp; done) | (simp; omega)) _ _) | refine Go.RowKit.Below.drew ?_ | refine Go.RowKit.Below.drewN ?_ _ | (refine Go.RowKit.Below.putF ?_ (by first | (simp; done) | omega | (simp; omega)) _) | (refine Go.RowKit.Below.setCell ?_ (by first | (simp; done) | (simp; omega)) _))), (by first | (simp; done) | (simp; omega) | omega)⟩⟩
set_option maxRecDepth 100000 in
theorem ofGuards_gives (x : K25) (w : World) : Gives Tryz.prog 85 #[.agg (row8 x.val)] w (.agg (row8 x.val)) := by
  have hl := x.len
  unfold Gives
  go_enter Tryz.func85, Tryz.ntmps85
  go_wp2_with fail
  exact bodyPost_ret (v := .agg (row8 x.val)) (results_one Tryz.results85 (ResIs.row rfl agg_key (by simp [go_sem, hl]))) rfl ⟨rfl, ⟨(by repeat (first | exact below_of_grow _ _ | exact Go.RowKit.Below.refl _ _ | exact below_more _ _ _ _ | (simp only [← Array.append_assoc]; first | exact below_more _ _ _ _ | exact below_same _ _ _ | exact Go.RowKit.Below.refl _ _) | exact below_same _ _ _ | (refine Go.RowKit.Below.alloc ?_ (by first | (simp; done) | (simp; omega)) _) | (refine Go.RowKit.Below.grow ?_ (by first | (simp; done) | (simp; omega)) _ _) | refine Go.RowKit.Below.drew ?_ | refine Go.RowKit.Below.drewN ?_ _ | (refine Go.RowKit.Below.putF ?_ (by first | (simp; done) | omega | (simp; omega)) _) | (refine Go.RowKit.Below.setCell ?_ (by first | (simp; done) | (simp; omega)) _))), (by first | (simp; done) | (simp; omega) | omega)⟩⟩
set_option maxRecDepth 100000 in
set_option maxHeartbeats 4000000 in
theorem cmpGuards_gives (x y : K25) (b : Nat) (w : World) (hb : w.cell? ⟨b, 0, none⟩ = some (.func (.func 85) #[] #[])) (hlt : b < w.heap.size) : Gives Tryz.prog 120 #[.agg (row8 x.val), .agg (row8 y.val), .pointer (some ⟨b, 0, none⟩)] w (.int .i64 (cfK (fun x : K25 => x) x y)) := by
  have hcf : cfK (fun x : K25 => x) x y = if (x.val == y.val) = true then 0 else if lessL (x.val) (y.val) = true then -1 else 1 := by
    unfold cfK
    by_cases h : x = y
    · rw [if_pos (show (fun x : K25 => x) x = (fun x : K25 => x) y from h), if_pos (show (x.val == y.val) = true from by rw [beq_iff_eq]; exact congrArg Subtype.val h)]
    · rw [if_neg (show ¬ (fun x : K25 => x) x = (fun x : K25 => x) y from h), if_neg (show ¬ (x.val == y.val) = true from by rw [beq_iff_eq]; exact fun e => h (Subtype.ext e))]
  have HX := Lib.hid (ofGuards_gives x)
  have HY := Lib.hid (ofGuards_gives y)
  have hll := keyLess_gives (x.val) (y.val) x.len y.len
  have hlx := x.len
  have hly := y.len
  rw [hcf]
  clear hcf
  cases he : (x.val == y.val) with
  | true =>
    rw [if_pos rfl]
    clear hll
    unfold Gives
    go_enter Tryz.func120, Tryz.ntmps120
    go_wp2_with fail
    apply wp_region_specs (by rfl) [.val _, .val _, .val _, .val _, .val _, .val _, .new _, .new _] 8 (by rfl) [8, 9, 10, 11, 12, 13, 6, 7] [6, 7] [] (by rfl) (by rfl) (by decide) (by decide +kernel) (fun _ _ _ _ _ h => h)
    case hF => intro x; simp only [over, List.foldl_cons, List.foldl_nil, List.setIfInBounds_toArray, List.set_cons_succ, List.set_cons_zero]; exact rfl
    case hops =>
      refine ⟨?o0, ?o1, ?o2, ?o3, ?o4, ?o5, ?o6, ?o7, trivial⟩
      case o0 =>
        intro x w1 hH K hK
        obtain ⟨xs, d, rfl⟩ := grow_of_below hH.below
        clear hH
        try simp only [World.grow_drew] at hK ⊢
        try simp only [World.grow_grow] at hK ⊢
        go_simp
        go_wp2_with fail
        exact ⟨_, rfl, rfl, ⟨(by repeat (first | exact below_of_grow _ _ | exact Go.RowKit.Below.refl _ _ | exact below_more _ _ _ _ | (simp only [← Array.append_assoc]; first | exact below_more _ _ _ _ | exact below_same _ _ _ | exact Go.RowKit.Below.refl _ _) | exact below_same _ _ _ | (refine Go.RowKit.Below.alloc ?_ (by first | (simp; done) | (simp; omega)) _) | (refine Go.RowKit.Below.grow ?_ (by first | (simp; done) | (simp; omega)) _ _) | refine Go.RowKit.Below.drew ?_ | refine Go.RowKit.Below.drewN ?_ _ | (refine Go.RowKit.Below.putF ?_ (by first | (simp; done) | omega | (simp; omega)) _) | (refine Go.RowKit.Below.setCell ?_ (by first | (simp; done) | (simp; omega)) _))), (by first | (simp; done) | (simp; omega) | omega)⟩, fun h => by cases h⟩
      case o1 =>
        intro x w1 hH K hK
        obtain ⟨xs, d, rfl⟩ := grow_of_below hH.below
        clear hH
        try simp only [World.grow_drew] at hK ⊢
        try simp only [World.grow_grow] at hK ⊢
        go_simp
        go_wp2_with fail
        exact ⟨_, rfl, rfl, ⟨(by repeat (first | exact below_of_grow _ _ | exact Go.RowKit.Below.refl _ _ | exact below_more _ _ _ _ | (simp only [← Array.append_assoc]; first | exact below_more _ _ _ _ | exact below_same _ _ _ | exact Go.RowKit.Below.refl _ _) | exact below_same _ _ _ | (refine Go.RowKit.Below.alloc ?_ (by first | (simp; done) | (simp; omega)) _) | (refine Go.RowKit.Below.grow ?_ (by first | (simp; done) | (simp; omega)) _ _) | refine Go.RowKit.Below.drew ?_ | refine Go.RowKit.Below.drewN ?_ _ | (refine Go.RowKit.Below.putF ?_ (by first | (simp; done) | omega | (simp; omega)) _) | (refine Go.RowKit.Below.setCell ?_ (by first | (simp; done) | (simp; omega)) _))), (by first | (simp; done) | (simp; omega) | omega)⟩, fun h => by cases h⟩
      case o2 =>
        intro x w1 hH K hK
        have e8 : x 8 = _ := hH.holds 0 (by decide) (by decide +kernel) 8 rfl
        have e9 : x 9 = _ := hH.holds 1 (by decide) (by decide +kernel) 9 rfl
        obtain ⟨xs, d, rfl⟩ := grow_of_below hH.below
        clear hH
        try simp only [World.grow_drew] at hK ⊢
        try simp only [World.grow_grow] at hK ⊢
        simp only [e8, e9] at hK ⊢
        clear e8 e9
        go_simp
        go_wp2_with (refine Gives.use (HX.out _) ?_; intro ys e)
        exact ⟨_, rfl, rfl, ⟨(by repeat (first | exact below_of_grow _ _ | exact Go.RowKit.Below.refl _ _ | exact below_more _ _ _ _ | (simp only [← Array.append_assoc]; first | exact below_more _ _ _ _ | exact below_same _ _ _ | exact Go.RowKit.Below.refl _ _) | exact below_same _ _ _ | (refine Go.RowKit.Below.alloc ?_ (by first | (simp; done) | (simp; omega)) _) | (refine Go.RowKit.Below.grow ?_ (by first | (simp; done) | (simp; omega)) _ _) | refine Go.RowKit.Below.drew ?_ | refine Go.RowKit.Below.drewN ?_ _ | (refine Go.RowKit.Below.putF ?_ (by first | (simp; done) | omega | (simp; omega)) _) | (refine Go.RowKit.Below.setCell ?_ (by first | (simp; done) | (simp; omega)) _))), (by first | (simp; done) | (simp; omega) | omega)⟩, fun h => by cases h⟩
      case o3 =>
        intro x w1 hH K hK
        obtain ⟨xs, d, rfl⟩ := grow_of_below hH.below
        clear hH
        try simp only [World.grow_drew] at hK ⊢
        try simp only [World.grow_grow] at hK ⊢
        go_simp
        go_wp2_with fail
        exact ⟨_, rfl, rfl, ⟨(by repeat (first | exact below_of_grow _ _ | exact Go.RowKit.Below.refl _ _ | exact below_more _ _ _ _ | (simp only [← Array.append_assoc]; first | exact below_more _ _ _ _ | exact below_same _ _ _ | exact Go.RowKit.Below.refl _ _) | exact below_same _ _ _ | (refine Go.RowKit.Below.alloc ?_ (by first | (simp; done) | (simp; omega)) _) | (refine Go.RowKit.Below.grow ?_ (by first | (simp; done) | (simp; omega)) _ _) | refine Go.RowKit.Below.drew ?_ | refine Go.RowKit.Below.drewN ?_ _ | (refine Go.RowKit.Below.putF ?_ (by first | (simp; done) | omega | (simp; omega)) _) | (refine Go.RowKit.Below.setCell ?_ (by first | (simp; done) | (simp; omega)) _))), (by first | (simp; done) | (simp; omega) | omega)⟩, fun h => by cases h⟩
      case o4 =>
        intro x w1 hH K hK
        obtain ⟨xs, d, rfl⟩ := grow_of_below hH.below
        clear hH
        try simp only [World.grow_drew] at hK ⊢
        try simp only [World.grow_grow] at hK ⊢
        go_simp
        go_wp2_with fail
        exact ⟨_, rfl, rfl, ⟨(by repeat (first | exact below_of_grow _ _ | exact Go.RowKit.Below.refl _ _ | exact below_more _ _ _ _ | (simp only [← Array.append_assoc]; first | exact below_more _ _ _ _ | exact below_same _ _ _ | exact Go.RowKit.Below.refl _ _) | exact below_same _ _ _ | (refine Go.RowKit.Below.alloc ?_ (by first | (simp; done) | (simp; omega)) _) | (refine Go.RowKit.Below.grow ?_ (by first | (simp; done) | (simp; omega)) _ _) | refine Go.RowKit.Below.drew ?_ | refine Go.RowKit.Below.drewN ?_ _ | (refine Go.RowKit.Below.putF ?_ (by first | (simp; done) | omega | (simp; omega)) _) | (refine Go.RowKit.Below.setCell ?_ (by first | (simp; done) | (simp; omega)) _))), (by first | (simp; done) | (simp; omega) | omega)⟩, fun h => by cases h⟩
      case o5 =>
        intro x w1 hH K hK
        have e11 : x 11 = _ := hH.holds 3 (by decide) (by decide +kernel) 11 rfl
        have e12 : x 12 = _ := hH.holds 4 (by decide) (by decide +kernel) 12 rfl
        obtain ⟨xs, d, rfl⟩ := grow_of_below hH.below
        clear hH
        try simp only [World.grow_drew] at hK ⊢
        try simp only [World.grow_grow] at hK ⊢
        simp only [e11, e12] at hK ⊢
        clear e11 e12
        go_simp
        go_wp2_with (refine Gives.use (HY.out _) ?_; intro ys e)
        exact ⟨_, rfl, rfl, ⟨(by repeat (first | exact below_of_grow _ _ | exact Go.RowKit.Below.refl _ _ | exact below_more _ _ _ _ | (simp only [← Array.append_assoc]; first | exact below_more _ _ _ _ | exact below_same _ _ _ | exact Go.RowKit.Below.refl _ _) | exact below_same _ _ _ | (refine Go.RowKit.Below.alloc ?_ (by first | (simp; done) | (simp; omega)) _) | (refine Go.RowKit.Below.grow ?_ (by first | (simp; done) | (simp; omega)) _ _) | refine Go.RowKit.Below.drew ?_ | refine Go.RowKit.Below.drewN ?_ _ | (refine Go.RowKit.Below.putF ?_ (by first | (simp; done) | omega | (simp; omega)) _) | (refine Go.RowKit.Below.setCell ?_ (by first | (simp; done) | (simp; omega)) _))), (by first | (simp; done) | (simp; omega) | omega)⟩, fun h => by cases h⟩
      case o6 =>
        intro x w1 hH K hK
        obtain ⟨xs, d, rfl⟩ := grow_of_below hH.below
        clear hH
        try simp only [World.grow_drew] at hK ⊢
        try simp only [World.grow_grow] at hK ⊢
        go_simp
        go_wp2_with fail
        exact left_new rfl (by simp) (by first | (simp; done) | (simp; omega))
      case o7 =>
        intro x w1 hH K hK
        obtain ⟨xs, d, rfl⟩ := grow_of_below hH.below
        clear hH
        try simp only [World.grow_drew] at hK ⊢
        try simp only [World.grow_grow] at hK ⊢
        go_simp
        go_wp2_with fail
        exact left_new rfl (by simp) (by first | (simp; done) | (simp; omega))
    case hend =>
      intro x w1 hH
      have e8 : x 8 = _ := hH.holds 0 (by decide) trivial 8 rfl
      have e9 : x 9 = _ := hH.holds 1 (by decide) trivial 9 rfl
      have e10 : x 10 = _ := hH.holds 2 (by decide) trivial 10 rfl
      have e11 : x 11 = _ := hH.holds 3 (by decide) trivial 11 rfl
      have e12 : x 12 = _ := hH.holds 4 (by decide) trivial 12 rfl
      have e13 : x 13 = _ := hH.holds 5 (by decide) trivial 13 rfl
      obtain ⟨b6, e6, l6, u6, o6⟩ := hH.holds 6 (by decide) trivial 6 rfl
      obtain ⟨b7, e7, l7, u7, o7⟩ := hH.holds 7 (by decide) trivial 7 rfl
      have n6_7 : b6 ≠ b7 := fun h => hH.apart 6 (by decide) 7 (by decide) (by decide) (by decide) trivial trivial (by decide) 6 7 rfl rfl (by rw [e6, e7, h])
      have n7_6 := n6_7.symm
      obtain ⟨xs, d, rfl⟩ := grow_of_below hH.below
      clear hH
      simp only [e8, e9, e10, e11, e12, e13, e6, e7]; clear e8 e9 e10 e11 e12 e13 e6 e7
      refine new_known2 o6 l6 u6 o7 l7 u7 ?_
      clear o6 o7
      simp [go_sem] at l6 u6 l7 u7
      simp only [List.drop_succ_cons, List.drop_zero]
      go_wp2_with fail
      go_ret
      exact ⟨rfl, ⟨(by repeat (first | exact below_of_grow _ _ | exact Go.RowKit.Below.refl _ _ | exact below_more _ _ _ _ | (simp only [← Array.append_assoc]; first | exact below_more _ _ _ _ | exact below_same _ _ _ | exact Go.RowKit.Below.refl _ _) | exact below_same _ _ _ | (refine Go.RowKit.Below.alloc ?_ (by first | (simp; done) | (simp; omega)) _) | (refine Go.RowKit.Below.grow ?_ (by first | (simp; done) | (simp; omega)) _ _) | refine Go.RowKit.Below.drew ?_ | refine Go.RowKit.Below.drewN ?_ _ | (refine Go.RowKit.Below.putF ?_ (by first | (simp; done) | omega | (simp; omega)) _) | (refine Go.RowKit.Below.setCell ?_ (by first | (simp; done) | (simp; omega)) _))), (by first | (simp; done) | (simp; omega) | omega)⟩⟩
  | false =>
    rw [if_neg (by decide)]
    cases hl : lessL (x.val) (y.val) with
    | true =>
      rw [if_pos rfl]
      rw [hl] at hll
      have HLL := Lib.hid hll
      clear hll hl
      unfold Gives
      go_enter Tryz.func120, Tryz.ntmps120
      go_wp2_with fail
      apply wp_region_specs (by rfl) [.val _, .val _, .val _, .val _, .val _, .val _, .new _, .new _] 8 (by rfl) [8, 9, 10, 11, 12, 13, 6, 7] [6, 7] [] (by rfl) (by rfl) (by decide) (by decide +kernel) (fun _ _ _ _ _ h => h)
      case hF => intro x; simp only [over, List.foldl_cons, List.foldl_nil, List.setIfInBounds_toArray, List.set_cons_succ, List.set_cons_zero]; exact rfl
      case hops =>
        refine ⟨?o0, ?o1, ?o2, ?o3, ?o4, ?o5, ?o6, ?o7, trivial⟩
        case o0 =>
          intro x w1 hH K hK
          obtain ⟨xs, d, rfl⟩ := grow_of_below hH.below
          clear hH
          try simp only [World.grow_drew] at hK ⊢
          try simp only [World.grow_grow] at hK ⊢
          go_simp
          go_wp2_with fail
          exact ⟨_, rfl, rfl, ⟨(by repeat (first | exact below_of_grow _ _ | exact Go.RowKit.Below.refl _ _ | exact below_more _ _ _ _ | (simp only [← Array.append_assoc]; first | exact below_more _ _ _ _ | exact below_same _ _ _ | exact Go.RowKit.Below.refl _ _) | exact below_same _ _ _ | (refine Go.RowKit.Below.alloc ?_ (by first | (simp; done) | (simp; omega)) _) | (refine Go.RowKit.Below.grow ?_ (by first | (simp; done) | (simp; omega)) _ _) | refine Go.RowKit.Below.drew ?_ | refine Go.RowKit.Below.drewN ?_ _ | (refine Go.RowKit.Below.putF ?_ (by first | (simp; done) | omega | (simp; omega)) _) | (refine Go.RowKit.Below.setCell ?_ (by first | (simp; done) | (simp; omega)) _))), (by first | (simp; done) | (simp; omega) | omega)⟩, fun h => by cases h⟩
        case o1 =>
          intro x w1 hH K hK
          obtain ⟨xs, d, rfl⟩ := grow_of_below hH.below
          clear hH
          try simp only [World.grow_drew] at hK ⊢
          try simp only [World.grow_grow] at hK ⊢
          go_simp
          go_wp2_with fail
          exact ⟨_, rfl, rfl, ⟨(by repeat (first | exact below_of_grow _ _ | exact Go.RowKit.Below.refl _ _ | exact below_more _ _ _ _ | (simp only [← Array.append_assoc]; first | exact below_more _ _ _ _ | exact below_same _ _ _ | exact Go.RowKit.Below.refl _ _) | exact below_same _ _ _ | (refine Go.RowKit.Below.alloc ?_ (by first | (simp; done) | (simp; omega)) _) | (refine Go.RowKit.Below.grow ?_ (by first | (simp; done) | (simp; omega)) _ _) | refine Go.RowKit.Below.drew ?_ | refine Go.RowKit.Below.drewN ?_ _ | (refine Go.RowKit.Below.putF ?_ (by first | (simp; done) | omega | (simp; omega)) _) | (refine Go.RowKit.Below.setCell ?_ (by first | (simp; done) | (simp; omega)) _))), (by first | (simp; done) | (simp; omega) | omega)⟩, fun h => by cases h⟩
        case o2 =>
          intro x w1 hH K hK
          have e8 : x 8 = _ := hH.holds 0 (by decide) (by decide +kernel) 8 rfl
          have e9 : x 9 = _ := hH.holds 1 (by decide) (by decide +kernel) 9 rfl
          obtain ⟨xs, d, rfl⟩ := grow_of_below hH.below
          clear hH
          try simp only [World.grow_drew] at hK ⊢
          try simp only [World.grow_grow] at hK ⊢
          simp only [e8, e9] at hK ⊢
          clear e8 e9
          go_simp
          go_wp2_with (refine Gives.use (HX.out _) ?_; intro ys e)
          exact ⟨_, rfl, rfl, ⟨(by repeat (first | exact below_of_grow _ _ | exact Go.RowKit.Below.refl _ _ | exact below_more _ _ _ _ | (simp only [← Array.append_assoc]; first | exact below_more _ _ _ _ | exact below_same _ _ _ | exact Go.RowKit.Below.refl _ _) | exact below_same _ _ _ | (refine Go.RowKit.Below.alloc ?_ (by first | (simp; done) | (simp; omega)) _) | (refine Go.RowKit.Below.grow ?_ (by first | (simp; done) | (simp; omega)) _ _) | refine Go.RowKit.Below.drew ?_ | refine Go.RowKit.Below.drewN ?_ _ | (refine Go.RowKit.Below.putF ?_ (by first | (simp; done) | omega | (simp; omega)) _) | (refine Go.RowKit.Below.setCell ?_ (by first | (simp; done) | (simp; omega)) _))), (by first | (simp; done) | (simp; omega) | omega)⟩, fun h => by cases h⟩
        case o3 =>
          intro x w1 hH K hK
          obtain ⟨xs, d, rfl⟩ := grow_of_below hH.below
          clear hH
          try simp only [World.grow_drew] at hK ⊢
          try simp only [World.grow_grow] at hK ⊢
          go_simp
          go_wp2_with fail
          exact ⟨_, rfl, rfl, ⟨(by repeat (first | exact below_of_grow _ _ | exact Go.RowKit.Below.refl _ _ | exact below_more _ _ _ _ | (simp only [← Array.append_assoc]; first | exact below_more _ _ _ _ | exact below_same _ _ _ | exact Go.RowKit.Below.refl _ _) | exact below_same _ _ _ | (refine Go.RowKit.Below.alloc ?_ (by first | (simp; done) | (simp; omega)) _) | (refine Go.RowKit.Below.grow ?_ (by first | (simp; done) | (simp; omega)) _ _) | refine Go.RowKit.Below.drew ?_ | refine Go.RowKit.Below.drewN ?_ _ | (refine Go.RowKit.Below.putF ?_ (by first | (simp; done) | omega | (simp; omega)) _) | (refine Go.RowKit.Below.setCell ?_ (by first | (simp; done) | (simp; omega)) _))), (by first | (simp; done) | (simp; omega) | omega)⟩, fun h => by cases h⟩
        case o4 =>
          intro x w1 hH K hK
          obtain ⟨xs, d, rfl⟩ := grow_of_below hH.below
          clear hH
          try simp only [World.grow_drew] at hK ⊢
          try simp only [World.grow_grow] at hK ⊢
          go_simp
          go_wp2_with fail
          exact ⟨_, rfl, rfl, ⟨(by repeat (first | exact below_of_grow _ _ | exact Go.RowKit.Below.refl _ _ | exact below_more _ _ _ _ | (simp only [← Array.append_assoc]; first | exact below_more _ _ _ _ | exact below_same _ _ _ | exact Go.RowKit.Below.refl _ _) | exact below_same _ _ _ | (refine Go.RowKit.Below.alloc ?_ (by first | (simp; done) | (simp; omega)) _) | (refine Go.RowKit.Below.grow ?_ (by first | (simp; done) | (simp; omega)) _ _) | refine Go.RowKit.Below.drew ?_ | refine Go.RowKit.Below.drewN ?_ _ | (refine Go.RowKit.Below.putF ?_ (by first | (simp; done) | omega | (simp; omega)) _) | (refine Go.RowKit.Below.setCell ?_ (by first | (simp; done) | (simp; omega)) _))), (by first | (simp; done) | (simp; omega) | omega)⟩, fun h => by cases h⟩
        case o5 =>
          intro x w1 hH K hK
          have e11 : x 11 = _ := hH.holds 3 (by decide) (by decide +kernel) 11 rfl
          have e12 : x 12 = _ := hH.holds 4 (by decide) (by decide +kernel) 12 rfl
          obtain ⟨xs, d, rfl⟩ := grow_of_below hH.below
          clear hH
          try simp only [World.grow_drew] at hK ⊢
          try simp only [World.grow_grow] at hK ⊢
          simp only [e11, e12] at hK ⊢
          clear e11 e12
          go_simp
          go_wp2_with (refine Gives.use (HY.out _) ?_; intro ys e)
          exact ⟨_, rfl, rfl, ⟨(by repeat (first | exact below_of_grow _ _ | exact Go.RowKit.Below.refl _ _ | exact below_more _ _ _ _ | (simp only [← Array.append_assoc]; first | exact below_more _ _ _ _ | exact below_same _ _ _ | exact Go.RowKit.Below.refl _ _) | exact below_same _ _ _ | (refine Go.RowKit.Below.alloc ?_ (by first | (simp; done) | (simp; omega)) _) | (refine Go.RowKit.Below.grow ?_ (by first | (simp; done) | (simp; omega)) _ _) | refine Go.RowKit.Below.drew ?_ | refine Go.RowKit.Below.drewN ?_ _ | (refine Go.RowKit.Below.putF ?_ (by first | (simp; done) | omega | (simp; omega)) _) | (refine Go.RowKit.Below.setCell ?_ (by first | (simp; done) | (simp; omega)) _))), (by first | (simp; done) | (simp; omega) | omega)⟩, fun h => by cases h⟩
        case o6 =>
          intro x w1 hH K hK
          obtain ⟨xs, d, rfl⟩ := grow_of_below hH.below
          clear hH
          try simp only [World.grow_drew] at hK ⊢
          try simp only [World.grow_grow] at hK ⊢
          go_simp
          go_wp2_with fail
          exact left_new rfl (by simp) (by first | (simp; done) | (simp; omega))
        case o7 =>
          intro x w1 hH K hK
          obtain ⟨xs, d, rfl⟩ := grow_of_below hH.below
          clear hH
          try simp only [World.grow_drew] at hK ⊢
          try simp only [World.grow_grow] at hK ⊢
          go_simp
          go_wp2_with fail
          exact left_new rfl (by simp) (by first | (simp; done) | (simp; omega))
      case hend =>
        intro x w1 hH
        have e8 : x 8 = _ := hH.holds 0 (by decide) trivial 8 rfl
        have e9 : x 9 = _ := hH.holds 1 (by decide) trivial 9 rfl
        have e10 : x 10 = _ := hH.holds 2 (by decide) trivial 10 rfl
        have e11 : x 11 = _ := hH.holds 3 (by decide) trivial 11 rfl
        have e12 : x 12 = _ := hH.holds 4 (by decide) trivial 12 rfl
        have e13 : x 13 = _ := hH.holds 5 (by decide) trivial 13 rfl
        obtain ⟨b6, e6, l6, u6, o6⟩ := hH.holds 6 (by decide) trivial 6 rfl
        obtain ⟨b7, e7, l7, u7, o7⟩ := hH.holds 7 (by decide) trivial 7 rfl
        have n6_7 : b6 ≠ b7 := fun h => hH.apart 6 (by decide) 7 (by decide) (by decide) (by decide) trivial trivial (by decide) 6 7 rfl rfl (by rw [e6, e7, h])
        have n7_6 := n6_7.symm
        obtain ⟨xs, d, rfl⟩ := grow_of_below hH.below
        clear hH
        simp only [e8, e9, e10, e11, e12, e13, e6, e7]; clear e8 e9 e10 e11 e12 e13 e6 e7
        refine new_known2 o6 l6 u6 o7 l7 u7 ?_
        clear o6 o7
        simp [go_sem] at l6 u6 l7 u7
        simp only [List.drop_succ_cons, List.drop_zero]
        go_wp2_with fail
        refine Gives.use (HLL.out _) ?_
        intro ys e
        go_wp2_with fail
        go_ret
        exact ⟨rfl, ⟨(by repeat (first | exact below_of_grow _ _ | exact Go.RowKit.Below.refl _ _ | exact below_more _ _ _ _ | (simp only [← Array.append_assoc]; first | exact below_more _ _ _ _ | exact below_same _ _ _ | exact Go.RowKit.Below.refl _ _) | exact below_same _ _ _ | (refine Go.RowKit.Below.alloc ?_ (by first | (simp; done) | (simp; omega)) _) | (refine Go.RowKit.Below.grow ?_ (by first | (simp; done) | (simp; omega)) _ _) | refine Go.RowKit.Below.drew ?_ | refine Go.RowKit.Below.drewN ?_ _ | (refine Go.RowKit.Below.putF ?_ (by first | (simp; done) | omega | (simp; omega)) _) | (refine Go.RowKit.Below.setCell ?_ (by first | (simp; done) | (simp; omega)) _))), (by first | (simp; done) | (simp; omega) | omega)⟩⟩
    | false =>
      rw [if_neg (by decide)]
      rw [hl] at hll
      have HLL := Lib.hid hll
      clear hll hl
      unfold Gives
      go_enter Tryz.func120, Tryz.ntmps120
      go_wp2_with fail
      apply wp_region_specs (by rfl) [.val _, .val _, .val _, .val _, .val _, .val _, .new _, .new _] 8 (by rfl) [8, 9, 10, 11, 12, 13, 6, 7] [6, 7] [] (by rfl) (by rfl) (by decide) (by decide +kernel) (fun _ _ _ _ _ h => h)
      case hF => intro x; simp only [over, List.foldl_cons, List.foldl_nil, List.setIfInBounds_toArray, List.set_cons_succ, List.set_cons_zero]; exact rfl
      case hops =>
        refine ⟨?o0, ?o1, ?o2, ?o3, ?o4, ?o5, ?o6, ?o7, trivial⟩
        case o0 =>
          intro x w1 hH K hK
          obtain ⟨xs, d, rfl⟩ := grow_of_below hH.below
          clear hH
          try simp only [World.grow_drew] at hK ⊢
          try simp only [World.grow_grow] at hK ⊢
          go_simp
          go_wp2_with fail
          exact ⟨_, rfl, rfl, ⟨(by repeat (first | exact below_of_grow _ _ | exact Go.RowKit.Below.refl _ _ | exact below_more _ _ _ _ | (simp only [← Array.append_assoc]; first | exact below_more _ _ _ _ | exact below_same _ _ _ | exact Go.RowKit.Below.refl _ _) | exact below_same _ _ _ | (refine Go.RowKit.Below.alloc ?_ (by first | (simp; done) | (simp; omega)) _) | (refine Go.RowKit.Below.grow ?_ (by first | (simp; done) | (simp; omega)) _ _) | refine Go.RowKit.Below.drew ?_ | refine Go.RowKit.Below.drewN ?_ _ | (refine Go.RowKit.Below.putF ?_ (by first | (simp; done) | omega | (simp; omega)) _) | (refine Go.RowKit.Below.setCell ?_ (by first | (simp; done) | (simp; omega)) _))), (by first | (simp; done) | (simp; omega) | omega)⟩, fun h => by cases h⟩
        case o1 =>
          intro x w1 hH K hK
          obtain ⟨xs, d, rfl⟩ := grow_of_below hH.below
          clear hH
          try simp only [World.grow_drew] at hK ⊢
          try simp only [World.grow_grow] at hK ⊢
          go_simp
          go_wp2_with fail
          exact ⟨_, rfl, rfl, ⟨(by repeat (first | exact below_of_grow _ _ | exact Go.RowKit.Below.refl _ _ | exact below_more _ _ _ _ | (simp only [← Array.append_assoc]; first | exact below_more _ _ _ _ | exact below_same _ _ _ | exact Go.RowKit.Below.refl _ _) | exact below_same _ _ _ | (refine Go.RowKit.Below.alloc ?_ (by first | (simp; done) | (simp; omega)) _) | (refine Go.RowKit.Below.grow ?_ (by first | (simp; done) | (simp; omega)) _ _) | refine Go.RowKit.Below.drew ?_ | refine Go.RowKit.Below.drewN ?_ _ | (refine Go.RowKit.Below.putF ?_ (by first | (simp; done) | omega | (simp; omega)) _) | (refine Go.RowKit.Below.setCell ?_ (by first | (simp; done) | (simp; omega)) _))), (by first | (simp; done) | (simp; omega) | omega)⟩, fun h => by cases h⟩
        case o2 =>
          intro x w1 hH K hK
          have e8 : x 8 = _ := hH.holds 0 (by decide) (by decide +kernel) 8 rfl
          have e9 : x 9 = _ := hH.holds 1 (by decide) (by decide +kernel) 9 rfl
          obtain ⟨xs, d, rfl⟩ := grow_of_below hH.below
          clear hH
          try simp only [World.grow_drew] at hK ⊢
          try simp only [World.grow_grow] at hK ⊢
          simp only [e8, e9] at hK ⊢
          clear e8 e9
          go_simp
          go_wp2_with (refine Gives.use (HX.out _) ?_; intro ys e)
          exact ⟨_, rfl, rfl, ⟨(by repeat (first | exact below_of_grow _ _ | exact Go.RowKit.Below.refl _ _ | exact below_more _ _ _ _ | (simp only [← Array.append_assoc]; first | exact below_more _ _ _ _ | exact below_same _ _ _ | exact Go.RowKit.Below.refl _ _) | exact below_same _ _ _ | (refine Go.RowKit.Below.alloc ?_ (by first | (simp; done) | (simp; omega)) _) | (refine Go.RowKit.Below.grow ?_ (by first | (simp; done) | (simp; omega)) _ _) | refine Go.RowKit.Below.drew ?_ | refine Go.RowKit.Below.drewN ?_ _ | (refine Go.RowKit.Below.putF ?_ (by first | (simp; done) | omega | (simp; omega)) _) | (refine Go.RowKit.Below.setCell ?_ (by first | (simp; done) | (simp; omega)) _))), (by first | (simp; done) | (simp; omega) | omega)⟩, fun h => by cases h⟩
        case o3 =>
          intro x w1 hH K hK
          obtain ⟨xs, d, rfl⟩ := grow_of_below hH.below
          clear hH
          try simp only [World.grow_drew] at hK ⊢
          try simp only [World.grow_grow] at hK ⊢
          go_simp
          go_wp2_with fail
          exact ⟨_, rfl, rfl, ⟨(by repeat (first | exact below_of_grow _ _ | exact Go.RowKit.Below.refl _ _ | exact below_more _ _ _ _ | (simp only [← Array.append_assoc]; first | exact below_more _ _ _ _ | exact below_same _ _ _ | exact Go.RowKit.Below.refl _ _) | exact below_same _ _ _ | (refine Go.RowKit.Below.alloc ?_ (by first | (simp; done) | (simp; omega)) _) | (refine Go.RowKit.Below.grow ?_ (by first | (simp; done) | (simp; omega)) _ _) | refine Go.RowKit.Below.drew ?_ | refine Go.RowKit.Below.drewN ?_ _ | (refine Go.RowKit.Below.putF ?_ (by first | (simp; done) | omega | (simp; omega)) _) | (refine Go.RowKit.Below.setCell ?_ (by first | (simp; done) | (simp; omega)) _))), (by first | (simp; done) | (simp; omega) | omega)⟩, fun h => by cases h⟩
        case o4 =>
          intro x w1 hH K hK
          obtain ⟨xs, d, rfl⟩ := grow_of_below hH.below
          clear hH
          try simp only [World.grow_drew] at hK ⊢
          try simp only [World.grow_grow] at hK ⊢
          go_simp
          go_wp2_with fail
          exact ⟨_, rfl, rfl, ⟨(by repeat (first | exact below_of_grow _ _ | exact Go.RowKit.Below.refl _ _ | exact below_more _ _ _ _ | (simp only [← Array.append_assoc]; first | exact below_more _ _ _ _ | exact below_same _ _ _ | exact Go.RowKit.Below.refl _ _) | exact below_same _ _ _ | (refine Go.RowKit.Below.alloc ?_ (by first | (simp; done) | (simp; omega)) _) | (refine Go.RowKit.Below.grow ?_ (by first | (simp; done) | (simp; omega)) _ _) | refine Go.RowKit.Below.drew ?_ | refine Go.RowKit.Below.drewN ?_ _ | (refine Go.RowKit.Below.putF ?_ (by first | (simp; done) | omega | (simp; omega)) _) | (refine Go.RowKit.Below.setCell ?_ (by first | (simp; done) | (simp; omega)) _))), (by first | (simp; done) | (simp; omega) | omega)⟩, fun h => by cases h⟩
        case o5 =>
          intro x w1 hH K hK
          have e11 : x 11 = _ := hH.holds 3 (by decide) (by decide +kernel) 11 rfl
          have e12 : x 12 = _ := hH.holds 4 (by decide) (by decide +kernel) 12 rfl
          obtain ⟨xs, d, rfl⟩ := grow_of_below hH.below
          clear hH
          try simp only [World.grow_drew] at hK ⊢
          try simp only [World.grow_grow] at hK ⊢
          simp only [e11, e12] at hK ⊢
          clear e11 e12
          go_simp
          go_wp2_with (refine Gives.use (HY.out _) ?_; intro ys e)
          exact ⟨_, rfl, rfl, ⟨(by repeat (first | exact below_of_grow _ _ | exact Go.RowKit.Below.refl _ _ | exact below_more _ _ _ _ | (simp only [← Array.append_assoc]; first | exact below_more _ _ _ _ | exact below_same _ _ _ | exact Go.RowKit.Below.refl _ _) | exact below_same _ _ _ | (refine Go.RowKit.Below.alloc ?_ (by first | (simp; done) | (simp; omega)) _) | (refine Go.RowKit.Below.grow ?_ (by first | (simp; done) | (simp; omega)) _ _) | refine Go.RowKit.Below.drew ?_ | refine Go.RowKit.Below.drewN ?_ _ | (refine Go.RowKit.Below.putF ?_ (by first | (simp; done) | omega | (simp; omega)) _) | (refine Go.RowKit.Below.setCell ?_ (by first | (simp; done) | (simp; omega)) _))), (by first | (simp; done) | (simp; omega) | omega)⟩, fun h => by cases h⟩
        case o6 =>
          intro x w1 hH K hK
          obtain ⟨xs, d, rfl⟩ := grow_of_below hH.below
          clear hH
          try simp only [World.grow_drew] at hK ⊢
          try simp only [World.grow_grow] at hK ⊢
          go_simp
          go_wp2_with fail
          exact left_new rfl (by simp) (by first | (simp; done) | (simp; omega))
        case o7 =>
          intro x w1 hH K hK
          obtain ⟨xs, d, rfl⟩ := grow_of_below hH.below
          clear hH
          try simp only [World.grow_drew] at hK ⊢
          try simp only [World.grow_grow] at hK ⊢
          go_simp
          go_wp2_with fail
          exact left_new rfl (by simp) (by first | (simp; done) | (simp; omega))
      case hend =>
        intro x w1 hH
        have e8 : x 8 = _ := hH.holds 0 (by decide) trivial 8 rfl
        have e9 : x 9 = _ := hH.holds 1 (by decide) trivial 9 rfl
        have e10 : x 10 = _ := hH.holds 2 (by decide) trivial 10 rfl
        have e11 : x 11 = _ := hH.holds 3 (by decide) trivial 11 rfl
        have e12 : x 12 = _ := hH.holds 4 (by decide) trivial 12 rfl
        have e13 : x 13 = _ := hH.holds 5 (by decide) trivial 13 rfl
        obtain ⟨b6, e6, l6, u6, o6⟩ := hH.holds 6 (by decide) trivial 6 rfl
        obtain ⟨b7, e7, l7, u7, o7⟩ := hH.holds 7 (by decide) trivial 7 rfl
        have n6_7 : b6 ≠ b7 := fun h => hH.apart 6 (by decide) 7 (by decide) (by decide) (by decide) trivial trivial (by decide) 6 7 rfl rfl (by rw [e6, e7, h])
        have n7_6 := n6_7.symm
        obtain ⟨xs, d, rfl⟩ := grow_of_below hH.below
        clear hH
        simp only [e8, e9, e10, e11, e12, e13, e6, e7]; clear e8 e9 e10 e11 e12 e13 e6 e7
        refine new_known2 o6 l6 u6 o7 l7 u7 ?_
        clear o6 o7
        simp [go_sem] at l6 u6 l7 u7
        simp only [List.drop_succ_cons, List.drop_zero]
        go_wp2_with fail
        refine Gives.use (HLL.out _) ?_
        intro ys e
        go_wp2_with fail
        go_ret
        exact ⟨rfl, ⟨(by repeat (first | exact below_of_grow _ _ | exact Go.RowKit.Below.refl _ _ | exact below_more _ _ _ _ | (simp only [← Array.append_assoc]; first | exact below_more _ _ _ _ | exact below_same _ _ _ | exact Go.RowKit.Below.refl _ _) | exact below_same _ _ _ | (refine Go.RowKit.Below.alloc ?_ (by first | (simp; done) | (simp; omega)) _) | (refine Go.RowKit.Below.grow ?_ (by first | (simp; done) | (simp; omega)) _ _) | refine Go.RowKit.Below.drew ?_ | refine Go.RowKit.Below.drewN ?_ _ | (refine Go.RowKit.Below.putF ?_ (by first | (simp; done) | omega | (simp; omega)) _) | (refine Go.RowKit.Below.setCell ?_ (by first | (simp; done) | (simp; omega)) _))), (by first | (simp; done) | (simp; omega) | omega)⟩⟩
set_option maxRecDepth 100000 in
theorem ofOver_gives (x : Ent) (w : World) : Gives Tryz.prog 118 #[.agg (entA x)] w (.agg (row8 x.k.val)) := by
  have hl := x.k.len
  unfold Gives
  go_enter Tryz.func118, Tryz.ntmps118
  go_wp2_with fail
  exact bodyPost_ret (v := .agg (row8 x.k.val)) (results_one Tryz.results118 (ResIs.row rfl agg_key (by simp [go_sem, hl]))) rfl ⟨rfl, ⟨(by repeat (first | exact below_of_grow _ _ | exact Go.RowKit.Below.refl _ _ | exact below_more _ _ _ _ | (simp only [← Array.append_assoc]; first | exact below_more _ _ _ _ | exact below_same _ _ _ | exact Go.RowKit.Below.refl _ _) | exact below_same _ _ _ | (refine Go.RowKit.Below.alloc ?_ (by first | (simp; done) | (simp; omega)) _) | (refine Go.RowKit.Below.grow ?_ (by first | (simp; done) | (simp; omega)) _ _) | refine Go.RowKit.Below.drew ?_ | refine Go.RowKit.Below.drewN ?_ _ | (refine Go.RowKit.Below.putF ?_ (by first | (simp; done) | omega | (simp; omega)) _) | (refine Go.RowKit.Below.setCell ?_ (by first | (simp; done) | (simp; omega)) _))), (by first | (simp; done) | (simp; omega) | omega)⟩⟩
set_option maxRecDepth 100000 in
set_option maxHeartbeats 4000000 in
theorem cmpOver_gives (x y : Ent) (b : Nat) (w : World) (hb : w.cell? ⟨b, 0, none⟩ = some (.func (.func 118) #[] #[])) (hlt : b < w.heap.size) : Gives Tryz.prog 147 #[.agg (entA x), .agg (entA y), .pointer (some ⟨b, 0, none⟩)] w (.int .i64 (cfK (fun x : Ent => x.k) x y)) := by
  have hcf : cfK (fun x : Ent => x.k) x y = if (x.k.val == y.k.val) = true then 0 else if lessL (x.k.val) (y.k.val) = true then -1 else 1 := by
    unfold cfK
    by_cases h : x.k = y.k
    · rw [if_pos (show (fun x : Ent => x.k) x = (fun x : Ent => x.k) y from h), if_pos (show (x.k.val == y.k.val) = true from by rw [beq_iff_eq]; exact congrArg Subtype.val h)]
    · rw [if_neg (show ¬ (fun x : Ent => x.k) x = (fun x : Ent => x.k) y from h), if_neg (show ¬ (x.k.val == y.k.val) = true from by rw [beq_iff_eq]; exact fun e => h (Subtype.ext e))]
  have HX := Lib.hid (ofOver_gives x)
  have HY := Lib.hid (ofOver_gives y)
  have hll := keyLess_gives (x.k.val) (y.k.val) x.k.len y.k.len
  have hlx := x.k.len
  have hly := y.k.len
  rw [hcf]
  clear hcf
  cases he : (x.k.val == y.k.val) with
  | true =>
    rw [if_pos rfl]
    clear hll
    unfold Gives
    go_enter Tryz.func147, Tryz.ntmps147
    go_wp2_with fail
    apply wp_region_specs (by rfl) [.val _, .val _, .val _, .val _, .val _, .val _, .new _, .new _] 8 (by rfl) [8, 9, 10, 11, 12, 13, 6, 7] [6, 7] [] (by rfl) (by rfl) (by decide) (by decide +kernel) (fun _ _ _ _ _ h => h)
    case hF => intro x; simp only [over, List.foldl_cons, List.foldl_nil, List.setIfInBounds_toArray, List.set_cons_succ, List.set_cons_zero]; exact rfl
    case hops =>
      refine ⟨?o0, ?o1, ?o2, ?o3, ?o4, ?o5, ?o6, ?o7, trivial⟩
      case o0 =>
        intro x w1 hH K hK
        obtain ⟨xs, d, rfl⟩ := grow_of_below hH.below
        clear hH
        try simp only [World.grow_drew] at hK ⊢
        try simp only [World.grow_grow] at hK ⊢
        go_simp
        go_wp2_with fail
        exact ⟨_, rfl, rfl, ⟨(by repeat (first | exact below_of_grow _ _ | exact Go.RowKit.Below.refl _ _ | exact below_more _ _ _ _ | (simp only [← Array.append_assoc]; first | exact below_more _ _ _ _ | exact below_same _ _ _ | exact Go.RowKit.Below.refl _ _) | exact below_same _ _ _ | (refine Go.RowKit.Below.alloc ?_ (by first | (simp; done) | (simp; omega)) _) | (refine Go.RowKit.Below.grow ?_ (by first | (simp; done) | (simp; omega)) _ _) | refine Go.RowKit.Below.drew ?_ | refine Go.RowKit.Below.drewN ?_ _ | (refine Go.RowKit.Below.putF ?_ (by first | (simp; done) | omega | (simp; omega)) _) | (refine Go.RowKit.Below.setCell ?_ (by first | (simp; done) | (simp; omega)) _))), (by first | (simp; done) | (simp; omega) | omega)⟩, fun h => by cases h⟩
      case o1 =>
        intro x w1 hH K hK
        obtain ⟨xs, d, rfl⟩ := grow_of_below hH.below
        clear hH
        try simp only [World.grow_drew] at hK ⊢
        try simp only [World.grow_grow] at hK ⊢
        go_simp
        go_wp2_with fail
        exact ⟨_, rfl, rfl, ⟨(by repeat (first | exact below_of_grow _ _ | exact Go.RowKit.Below.refl _ _ | exact below_more _ _ _ _ | (simp only [← Array.append_assoc]; first | exact below_more _ _ _ _ | exact below_same _ _ _ | exact Go.RowKit.Below.refl _ _) | exact below_same _ _ _ | (refine Go.RowKit.Below.alloc ?_ (by first | (simp; done) | (simp; omega)) _) | (refine Go.RowKit.Below.grow ?_ (by first | (simp; done) | (simp; omega)) _ _) | refine Go.RowKit.Below.drew ?_ | refine Go.RowKit.Below.drewN ?_ _ | (refine Go.RowKit.Below.putF ?_ (by first | (simp; done) | omega | (simp; omega)) _) | (refine Go.RowKit.Below.setCell ?_ (by first | (simp; done) | (simp; omega)) _))), (by first | (simp; done) | (simp; omega) | omega)⟩, fun h => by cases h⟩
      case o2 =>
        intro x w1 hH K hK
        have e8 : x 8 = _ := hH.holds 0 (by decide) (by decide +kernel) 8 rfl
        have e9 : x 9 = _ := hH.holds 1 (by decide) (by decide +kernel) 9 rfl
        obtain ⟨xs, d, rfl⟩ := grow_of_below hH.below
        clear hH
        try simp only [World.grow_drew] at hK ⊢
        try simp only [World.grow_grow] at hK ⊢
        simp only [e8, e9] at hK ⊢
        clear e8 e9
        go_simp
        go_wp2_with (refine Gives.use (HX.out _) ?_; intro ys e)
        exact ⟨_, rfl, rfl, ⟨(by repeat (first | exact below_of_grow _ _ | exact Go.RowKit.Below.refl _ _ | exact below_more _ _ _ _ | (simp only [← Array.append_assoc]; first | exact below_more _ _ _ _ | exact below_same _ _ _ | exact Go.RowKit.Below.refl _ _) | exact below_same _ _ _ | (refine Go.RowKit.Below.alloc ?_ (by first | (simp; done) | (simp; omega)) _) | (refine Go.RowKit.Below.grow ?_ (by first | (simp; done) | (simp; omega)) _ _) | refine Go.RowKit.Below.drew ?_ | refine Go.RowKit.Below.drewN ?_ _ | (refine Go.RowKit.Below.putF ?_ (by first | (simp; done) | omega | (simp; omega)) _) | (refine Go.RowKit.Below.setCell ?_ (by first | (simp; done) | (simp; omega)) _))), (by first | (simp; done) | (simp; omega) | omega)⟩, fun h => by cases h⟩
      case o3 =>
        intro x w1 hH K hK
        obtain ⟨xs, d, rfl⟩ := grow_of_below hH.below
        clear hH
        try simp only [World.grow_drew] at hK ⊢
        try simp only [World.grow_grow] at hK ⊢
        go_simp
        go_wp2_with fail
        exact ⟨_, rfl, rfl, ⟨(by repeat (first | exact below_of_grow _ _ | exact Go.RowKit.Below.refl _ _ | exact below_more _ _ _ _ | (simp only [← Array.append_assoc]; first | exact below_more _ _ _ _ | exact below_same _ _ _ | exact Go.RowKit.Below.refl _ _) | exact below_same _ _ _ | (refine Go.RowKit.Below.alloc ?_ (by first | (simp; done) | (simp; omega)) _) | (refine Go.RowKit.Below.grow ?_ (by first | (simp; done) | (simp; omega)) _ _) | refine Go.RowKit.Below.drew ?_ | refine Go.RowKit.Below.drewN ?_ _ | (refine Go.RowKit.Below.putF ?_ (by first | (simp; done) | omega | (simp; omega)) _) | (refine Go.RowKit.Below.setCell ?_ (by first | (simp; done) | (simp; omega)) _))), (by first | (simp; done) | (simp; omega) | omega)⟩, fun h => by cases h⟩
      case o4 =>
        intro x w1 hH K hK
        obtain ⟨xs, d, rfl⟩ := grow_of_below hH.below
        clear hH
        try simp only [World.grow_drew] at hK ⊢
        try simp only [World.grow_grow] at hK ⊢
        go_simp
        go_wp2_with fail
        exact ⟨_, rfl, rfl, ⟨(by repeat (first | exact below_of_grow _ _ | exact Go.RowKit.Below.refl _ _ | exact below_more _ _ _ _ | (simp only [← Array.append_assoc]; first | exact below_more _ _ _ _ | exact below_same _ _ _ | exact Go.RowKit.Below.refl _ _) | exact below_same _ _ _ | (refine Go.RowKit.Below.alloc ?_ (by first | (simp; done) | (simp; omega)) _) | (refine Go.RowKit.Below.grow ?_ (by first | (simp; done) | (simp; omega)) _ _) | refine Go.RowKit.Below.drew ?_ | refine Go.RowKit.Below.drewN ?_ _ | (refine Go.RowKit.Below.putF ?_ (by first | (simp; done) | omega | (simp; omega)) _) | (refine Go.RowKit.Below.setCell ?_ (by first | (simp; done) | (simp; omega)) _))), (by first | (simp; done) | (simp; omega) | omega)⟩, fun h => by cases h⟩
      case o5 =>
        intro x w1 hH K hK
        have e11 : x 11 = _ := hH.holds 3 (by decide) (by decide +kernel) 11 rfl
        have e12 : x 12 = _ := hH.holds 4 (by decide) (by decide +kernel) 12 rfl
        obtain ⟨xs, d, rfl⟩ := grow_of_below hH.below
        clear hH
        try simp only [World.grow_drew] at hK ⊢
        try simp only [World.grow_grow] at hK ⊢
        simp only [e11, e12] at hK ⊢
        clear e11 e12
        go_simp
        go_wp2_with (refine Gives.use (HY.out _) ?_; intro ys e)
        exact ⟨_, rfl, rfl, ⟨(by repeat (first | exact below_of_grow _ _ | exact Go.RowKit.Below.refl _ _ | exact below_more _ _ _ _ | (simp only [← Array.append_assoc]; first | exact below_more _ _ _ _ | exact below_same _ _ _ | exact Go.RowKit.Below.refl _ _) | exact below_same _ _ _ | (refine Go.RowKit.Below.alloc ?_ (by first | (simp; done) | (simp; omega)) _) | (refine Go.RowKit.Below.grow ?_ (by first | (simp; done) | (simp; omega)) _ _) | refine Go.RowKit.Below.drew ?_ | refine Go.RowKit.Below.drewN ?_ _ | (refine Go.RowKit.Below.putF ?_ (by first | (simp; done) | omega | (simp; omega)) _) | (refine Go.RowKit.Below.setCell ?_ (by first | (simp; done) | (simp; omega)) _))), (by first | (simp; done) | (simp; omega) | omega)⟩, fun h => by cases h⟩
      case o6 =>
        intro x w1 hH K hK
        obtain ⟨xs, d, rfl⟩ := grow_of_below hH.below
        clear hH
        try simp only [World.grow_drew] at hK ⊢
        try simp only [World.grow_grow] at hK ⊢
        go_simp
        go_wp2_with fail
        exact left_new rfl (by simp) (by first | (simp; done) | (simp; omega))
      case o7 =>
        intro x w1 hH K hK
        obtain ⟨xs, d, rfl⟩ := grow_of_below hH.below
        clear hH
        try simp only [World.grow_drew] at hK ⊢
        try simp only [World.grow_grow] at hK ⊢
        go_simp
        go_wp2_with fail
        exact left_new rfl (by simp) (by first | (simp; done) | (simp; omega))
    case hend =>
      intro x w1 hH
      have e8 : x 8 = _ := hH.holds 0 (by decide) trivial 8 rfl
      have e9 : x 9 = _ := hH.holds 1 (by decide) trivial 9 rfl
      have e10 : x 10 = _ := hH.holds 2 (by decide) trivial 10 rfl
      have e11 : x 11 = _ := hH.holds 3 (by decide) trivial 11 rfl
      have e12 : x 12 = _ := hH.holds 4 (by decide) trivial 12 rfl
      have e13 : x 13 = _ := hH.holds 5 (by decide) trivial 13 rfl
      obtain ⟨b6, e6, l6, u6, o6⟩ := hH.holds 6 (by decide) trivial 6 rfl
      obtain ⟨b7, e7, l7, u7, o7⟩ := hH.holds 7 (by decide) trivial 7 rfl
      have n6_7 : b6 ≠ b7 := fun h => hH.apart 6 (by decide) 7 (by decide) (by decide) (by decide) trivial trivial (by decide) 6 7 rfl rfl (by rw [e6, e7, h])
      have n7_6 := n6_7.symm
      obtain ⟨xs, d, rfl⟩ := grow_of_below hH.below
      clear hH
      simp only [e8, e9, e10, e11, e12, e13, e6, e7]; clear e8 e9 e10 e11 e12 e13 e6 e7
      refine new_known2 o6 l6 u6 o7 l7 u7 ?_
      clear o6 o7
      simp [go_sem] at l6 u6 l7 u7
      simp only [List.drop_succ_cons, List.drop_zero]
      go_wp2_with fail
      go_ret
      exact ⟨rfl, ⟨(by repeat (first | exact below_of_grow _ _ | exact Go.RowKit.Below.refl _ _ | exact below_more _ _ _ _ | (simp only [← Array.append_assoc]; first | exact below_more _ _ _ _ | exact below_same _ _ _ | exact Go.RowKit.Below.refl _ _) | exact below_same _ _ _ | (refine Go.RowKit.Below.alloc ?_ (by first | (simp; done) | (simp; omega)) _) | (refine Go.RowKit.Below.grow ?_ (by first | (simp; done) | (simp; omega)) _ _) | refine Go.RowKit.Below.drew ?_ | refine Go.RowKit.Below.drewN ?_ _ | (refine Go.RowKit.Below.putF ?_ (by first | (simp; done) | omega | (simp; omega)) _) | (refine Go.RowKit.Below.setCell ?_ (by first | (simp; done) | (simp; omega)) _))), (by first | (simp; done) | (simp; omega) | omega)⟩⟩
  | false =>
    rw [if_neg (by decide)]
    cases hl : lessL (x.k.val) (y.k.val) with
    | true =>
      rw [if_pos rfl]
      rw [hl] at hll
      have HLL := Lib.hid hll
      clear hll hl
      unfold Gives
      go_enter Tryz.func147, Tryz.ntmps147
      go_wp2_with fail
      apply wp_region_specs (by rfl) [.val _, .val _, .val _, .val _, .val _, .val _, .new _, .new _] 8 (by rfl) [8, 9, 10, 11, 12, 13, 6, 7] [6, 7] [] (by rfl) (by rfl) (by decide) (by decide +kernel) (fun _ _ _ _ _ h => h)
      case hF => intro x; simp only [over, List.foldl_cons, List.foldl_nil, List.setIfInBounds_toArray, List.set_cons_succ, List.set_cons_zero]; exact rfl
      case hops =>
        refine ⟨?o0, ?o1, ?o2, ?o3, ?o4, ?o5, ?o6, ?o7, trivial⟩
        case o0 =>
          intro x w1 hH K hK
          obtain ⟨xs, d, rfl⟩ := grow_of_below hH.below
          clear hH
          try simp only [World.grow_drew] at hK ⊢
          try simp only [World.grow_grow] at hK ⊢
          go_simp
          go_wp2_with fail
          exact ⟨_, rfl, rfl, ⟨(by repeat (first | exact below_of_grow _ _ | exact Go.RowKit.Below.refl _ _ | exact below_more _ _ _ _ | (simp only [← Array.append_assoc]; first | exact below_more _ _ _ _ | exact below_same _ _ _ | exact Go.RowKit.Below.refl _ _) | exact below_same _ _ _ | (refine Go.RowKit.Below.alloc ?_ (by first | (simp; done) | (simp; omega)) _) | (refine Go.RowKit.Below.grow ?_ (by first | (simp; done) | (simp; omega)) _ _) | refine Go.RowKit.Below.drew ?_ | refine Go.RowKit.Below.drewN ?_ _ | (refine Go.RowKit.Below.putF ?_ (by first | (simp; done) | omega | (simp; omega)) _) | (refine Go.RowKit.Below.setCell ?_ (by first | (simp; done) | (simp; omega)) _))), (by first | (simp; done) | (simp; omega) | omega)⟩, fun h => by cases h⟩
        case o1 =>
          intro x w1 hH K hK
          obtain ⟨xs, d, rfl⟩ := grow_of_below hH.below
          clear hH
          try simp only [World.grow_drew] at hK ⊢
          try simp only [World.grow_grow] at hK ⊢
          go_simp
          go_wp2_with fail
          exact ⟨_, rfl, rfl, ⟨(by repeat (first | exact below_of_grow _ _ | exact Go.RowKit.Below.refl _ _ | exact below_more _ _ _ _ | (simp only [← Array.append_assoc]; first | exact below_more _ _ _ _ | exact below_same _ _ _ | exact Go.RowKit.Below.refl _ _) | exact below_same _ _ _ | (refine Go.RowKit.Below.alloc ?_ (by first | (simp; done) | (simp; omega)) _) | (refine Go.RowKit.Below.grow ?_ (by first | (simp; done) | (simp; omega)) _ _) | refine Go.RowKit.Below.drew ?_ | refine Go.RowKit.Below.drewN ?_ _ | (refine Go.RowKit.Below.putF ?_ (by first | (simp; done) | omega | (simp; omega)) _) | (refine Go.RowKit.Below.setCell ?_ (by first | (simp; done) | (simp; omega)) _))), (by first | (simp; done) | (simp; omega) | omega)⟩, fun h => by cases h⟩
        case o2 =>
          intro x w1 hH K hK
          have e8 : x 8 = _ := hH.holds 0 (by decide) (by decide +kernel) 8 rfl
          have e9 : x 9 = _ := hH.holds 1 (by decide) (by decide +kernel) 9 rfl
          obtain ⟨xs, d, rfl⟩ := grow_of_below hH.below
          clear hH
          try simp only [World.grow_drew] at hK ⊢
          try simp only [World.grow_grow] at hK ⊢
          simp only [e8, e9] at hK ⊢
          clear e8 e9
          go_simp
          go_wp2_with (refine Gives.use (HX.out _) ?_; intro ys e)
          exact ⟨_, rfl, rfl, ⟨(by repeat (first | exact below_of_grow _ _ | exact Go.RowKit.Below.refl _ _ | exact below_more _ _ _ _ | (simp only [← Array.append_assoc]; first | exact below_more _ _ _ _ | exact below_same _ _ _ | exact Go.RowKit.Below.refl _ _) | exact below_same _ _ _ | (refine Go.RowKit.Below.alloc ?_ (by first | (simp; done) | (simp; omega)) _) | (refine Go.RowKit.Below.grow ?_ (by first | (simp; done) | (simp; omega)) _ _) | refine Go.RowKit.Below.drew ?_ | refine Go.RowKit.Below.drewN ?_ _ | (refine Go.RowKit.Below.putF ?_ (by first | (simp; done) | omega | (simp; omega)) _) | (refine Go.RowKit.Below.setCell ?_ (by first | (simp; done) | (simp; omega)) _))), (by first | (simp; done) | (simp; omega) | omega)⟩, fun h => by cases h⟩
        case o3 =>
          intro x w1 hH K hK
          obtain ⟨xs, d, rfl⟩ := grow_of_below hH.below
          clear hH
          try simp only [World.grow_drew] at hK ⊢
          try simp only [World.grow_grow] at hK ⊢
          go_simp
          go_wp2_with fail
          exact ⟨_, rfl, rfl, ⟨(by repeat (first | exact below_of_grow _ _ | exact Go.RowKit.Below.refl _ _ | exact below_more _ _ _ _ | (simp only [← Array.append_assoc]; first | exact below_more _ _ _ _ | exact below_same _ _ _ | exact Go.RowKit.Below.refl _ _) | exact below_same _ _ _ | (refine Go.RowKit.Below.alloc ?_ (by first | (simp; done) | (simp; omega)) _) | (refine Go.RowKit.Below.grow ?_ (by first | (simp; done) | (simp; omega)) _ _) | refine Go.RowKit.Below.drew ?_ | refine Go.RowKit.Below.drewN ?_ _ | (refine Go.RowKit.Below.putF ?_ (by first | (simp; done) | omega | (simp; omega)) _) | (refine Go.RowKit.Below.setCell ?_ (by first | (simp; done) | (simp; omega)) _))), (by first | (simp; done) | (simp; omega) | omega)⟩, fun h => by cases h⟩
        case o4 =>
          intro x w1 hH K hK
          obtain ⟨xs, d, rfl⟩ := grow_of_below hH.below
          clear hH
          try simp only [World.grow_drew] at hK ⊢
          try simp only [World.grow_grow] at hK ⊢
          go_simp
          go_wp2_with fail
          exact ⟨_, rfl, rfl, ⟨(by repeat (first | exact below_of_grow _ _ | exact Go.RowKit.Below.refl _ _ | exact below_more _ _ _ _ | (simp only [← Array.append_assoc]; first | exact below_more _ _ _ _ | exact below_same _ _ _ | exact Go.RowKit.Below.refl _ _) | exact below_same _ _ _ | (refine Go.RowKit.Below.alloc ?_ (by first | (simp; done) | (simp; omega)) _) | (refine Go.RowKit.Below.grow ?_ (by first | (simp; done) | (simp; omega)) _ _) | refine Go.RowKit.Below.drew ?_ | refine Go.RowKit.Below.drewN ?_ _ | (refine Go.RowKit.Below.putF ?_ (by first | (simp; done) | omega | (simp; omega)) _) | (refine Go.RowKit.Below.setCell ?_ (by first | (simp; done) | (simp; omega)) _))), (by first | (simp; done) | (simp; omega) | omega)⟩, fun h => by cases h⟩
        case o5 =>
          intro x w1 hH K hK
          have e11 : x 11 = _ := hH.holds 3 (by decide) (by decide +kernel) 11 rfl
          have e12 : x 12 = _ := hH.holds 4 (by decide) (by decide +kernel) 12 rfl
          obtain ⟨xs, d, rfl⟩ := grow_of_below hH.below
          clear hH
          try simp only [World.grow_drew] at hK ⊢
          try simp only [World.grow_grow] at hK ⊢
          simp only [e11, e12] at hK ⊢
          clear e11 e12
          go_simp
          go_wp2_with (refine Gives.use (HY.out _) ?_; intro ys e)
          exact ⟨_, rfl, rfl, ⟨(by repeat (first | exact below_of_grow _ _ | exact Go.RowKit.Below.refl _ _ | exact below_more _ _ _ _ | (simp only [← Array.append_assoc]; first | exact below_more _ _ _ _ | exact below_same _ _ _ | exact Go.RowKit.Below.refl _ _) | exact below_same _ _ _ | (refine Go.RowKit.Below.alloc ?_ (by first | (simp; done) | (simp; omega)) _) | (refine Go.RowKit.Below.grow ?_ (by first | (simp; done) | (simp; omega)) _ _) | refine Go.RowKit.Below.drew ?_ | refine Go.RowKit.Below.drewN ?_ _ | (refine Go.RowKit.Below.putF ?_ (by first | (simp; done) | omega | (simp; omega)) _) | (refine Go.RowKit.Below.setCell ?_ (by first | (simp; done) | (simp; omega)) _))), (by first | (simp; done) | (simp; omega) | omega)⟩, fun h => by cases h⟩
        case o6 =>
          intro x w1 hH K hK
          obtain ⟨xs, d, rfl⟩ := grow_of_below hH.below
          clear hH
          try simp only [World.grow_drew] at hK ⊢
          try simp only [World.grow_grow] at hK ⊢
          go_simp
          go_wp2_with fail
          exact left_new rfl (by simp) (by first | (simp; done) | (simp; omega))
        case o7 =>
          intro x w1 hH K hK
          obtain ⟨xs, d, rfl⟩ := grow_of_below hH.below
          clear hH
          try simp only [World.grow_drew] at hK ⊢
          try simp only [World.grow_grow] at hK ⊢
          go_simp
          go_wp2_with fail
          exact left_new rfl (by simp) (by first | (simp; done) | (simp; omega))
      case hend =>
        intro x w1 hH
        have e8 : x 8 = _ := hH.holds 0 (by decide) trivial 8 rfl
        have e9 : x 9 = _ := hH.holds 1 (by decide) trivial 9 rfl
        have e10 : x 10 = _ := hH.holds 2 (by decide) trivial 10 rfl
        have e11 : x 11 = _ := hH.holds 3 (by decide) trivial 11 rfl
        have e12 : x 12 = _ := hH.holds 4 (by decide) trivial 12 rfl
        have e13 : x 13 = _ := hH.holds 5 (by decide) trivial 13 rfl
        obtain ⟨b6, e6, l6, u6, o6⟩ := hH.holds 6 (by decide) trivial 6 rfl
        obtain ⟨b7, e7, l7, u7, o7⟩ := hH.holds 7 (by decide) trivial 7 rfl
        have n6_7 : b6 ≠ b7 := fun h => hH.apart 6 (by decide) 7 (by decide) (by decide) (by decide) trivial trivial (by decide) 6 7 rfl rfl (by rw [e6, e7, h])
        have n7_6 := n6_7.symm
        obtain ⟨xs, d, rfl⟩ := grow_of_below hH.below
        clear hH
        simp only [e8, e9, e10, e11, e12, e13, e6, e7]; clear e8 e9 e10 e11 e12 e13 e6 e7
        refine new_known2 o6 l6 u6 o7 l7 u7 ?_
        clear o6 o7
        simp [go_sem] at l6 u6 l7 u7
        simp only [List.drop_succ_cons, List.drop_zero]
        go_wp2_with fail
        refine Gives.use (HLL.out _) ?_
        intro ys e
        go_wp2_with fail
        go_ret
        exact ⟨rfl, ⟨(by repeat (first | exact below_of_grow _ _ | exact Go.RowKit.Below.refl _ _ | exact below_more _ _ _ _ | (simp only [← Array.append_assoc]; first | exact below_more _ _ _ _ | exact below_same _ _ _ | exact Go.RowKit.Below.refl _ _) | exact below_same _ _ _ | (refine Go.RowKit.Below.alloc ?_ (by first | (simp; done) | (simp; omega)) _) | (refine Go.RowKit.Below.grow ?_ (by first | (simp; done) | (simp; omega)) _ _) | refine Go.RowKit.Below.drew ?_ | refine Go.RowKit.Below.drewN ?_ _ | (refine Go.RowKit.Below.putF ?_ (by first | (simp; done) | omega | (simp; omega)) _) | (refine Go.RowKit.Below.setCell ?_ (by first | (simp; done) | (simp; omega)) _))), (by first | (simp; done) | (simp; omega) | omega)⟩⟩
    | false =>
      rw [if_neg (by decide)]
      rw [hl] at hll
      have HLL := Lib.hid hll
      clear hll hl
      unfold Gives
      go_enter Tryz.func147, Tryz.ntmps147
      go_wp2_with fail
      apply wp_region_specs (by rfl) [.val _, .val _, .val _, .val _, .val _, .val _, .new _, .new _] 8 (by rfl) [8, 9, 10, 11, 12, 13, 6, 7] [6, 7] [] (by rfl) (by rfl) (by decide) (by decide +kernel) (fun _ _ _ _ _ h => h)
      case hF => intro x; simp only [over, List.foldl_cons, List.foldl_nil, List.setIfInBounds_toArray, List.set_cons_succ, List.set_cons_zero]; exact rfl
      case hops =>
        refine ⟨?o0, ?o1, ?o2, ?o3, ?o4, ?o5, ?o6, ?o7, trivial⟩
        case o0 =>
          intro x w1 hH K hK
          obtain ⟨xs, d, rfl⟩ := grow_of_below hH.below
          clear hH
          try simp only [World.grow_drew] at hK ⊢
          try simp only [World.grow_grow] at hK ⊢
          go_simp
          go_wp2_with fail
          exact ⟨_, rfl, rfl, ⟨(by repeat (first | exact below_of_grow _ _ | exact Go.RowKit.Below.refl _ _ | exact below_more _ _ _ _ | (simp only [← Array.append_assoc]; first | exact below_more _ _ _ _ | exact below_same _ _ _ | exact Go.RowKit.Below.refl _ _) | exact below_same _ _ _ | (refine Go.RowKit.Below.alloc ?_ (by first | (simp; done) | (simp; omega)) _) | (refine Go.RowKit.Below.grow ?_ (by first | (simp; done) | (simp; omega)) _ _) | refine Go.RowKit.Below.drew ?_ | refine Go.RowKit.Below.drewN ?_ _ | (refine Go.RowKit.Below.putF ?_ (by first | (simp; done) | omega | (simp; omega)) _) | (refine Go.RowKit.Below.setCell ?_ (by first | (simp; done) | (simp; omega)) _))), (by first | (simp; done) | (simp; omega) | omega)⟩, fun h => by cases h⟩
        case o1 =>
          intro x w1 hH K hK
          obtain ⟨xs, d, rfl⟩ := grow_of_below hH.below
          clear hH
          try simp only [World.grow_drew] at hK ⊢
          try simp only [World.grow_grow] at hK ⊢
          go_simp
          go_wp2_with fail
          exact ⟨_, rfl, rfl, ⟨(by repeat (first | exact below_of_grow _ _ | exact Go.RowKit.Below.refl _ _ | exact below_more _ _ _ _ | (simp only [← Array.append_assoc]; first | exact below_more _ _ _ _ | exact below_same _ _ _ | exact Go.RowKit.Below.refl _ _) | exact below_same _ _ _ | (refine Go.RowKit.Below.alloc ?_ (by first | (simp; done) | (simp; omega)) _) | (refine Go.RowKit.Below.grow ?_ (by first | (simp; done) | (simp; omega)) _ _) | refine Go.RowKit.Below.drew ?_ | refine Go.RowKit.Below.drewN ?_ _ | (refine Go.RowKit.Below.putF ?_ (by first | (simp; done) | omega | (simp; omega)) _) | (refine Go.RowKit.Below.setCell ?_ (by first | (simp; done) | (simp; omega)) _))), (by first | (simp; done) | (simp; omega) | omega)⟩, fun h => by cases h⟩
        case o2 =>
          intro x w1 hH K hK
          have e8 : x 8 = _ := hH.holds 0 (by decide) (by decide +kernel) 8 rfl
          have e9 : x 9 = _ := hH.holds 1 (by decide) (by decide +kernel) 9 rfl
          obtain ⟨xs, d, rfl⟩ := grow_of_below hH.below
          clear hH
          try simp only [World.grow_drew] at hK ⊢
          try simp only [World.grow_grow] at hK ⊢
          simp only [e8, e9] at hK ⊢
          clear e8 e9
          go_simp
          go_wp2_with (refine Gives.use (HX.out _) ?_; intro ys e)
          exact ⟨_, rfl, rfl, ⟨(by repeat (first | exact below_of_grow _ _ | exact Go.RowKit.Below.refl _ _ | exact below_more _ _ _ _ | (simp only [← Array.append_assoc]; first | exact below_more _ _ _ _ | exact below_same _ _ _ | exact Go.RowKit.Below.refl _ _) | exact below_same _ _ _ | (refine Go.RowKit.Below.alloc ?_ (by first | (simp; done) | (simp; omega)) _) | (refine Go.RowKit.Below.grow ?_ (by first | (simp; done) | (simp; omega)) _ _) | refine Go.RowKit.Below.drew ?_ | refine Go.RowKit.Below.drewN ?_ _ | (refine Go.RowKit.Below.putF ?_ (by first | (simp; done) | omega | (simp; omega)) _) | (refine Go.RowKit.Below.setCell ?_ (by first | (simp; done) | (simp; omega)) _))), (by first | (simp; done) | (simp; omega) | omega)⟩, fun h => by cases h⟩
        case o3 =>
          intro x w1 hH K hK
          obtain ⟨xs, d, rfl⟩ := grow_of_below hH.below
          clear hH
          try simp only [World.grow_drew] at hK ⊢
          try simp only [World.grow_grow] at hK ⊢
          go_simp
          go_wp2_with fail
          exact ⟨_, rfl, rfl, ⟨(by repeat (first | exact below_of_grow _ _ | exact Go.RowKit.Below.refl _ _ | exact below_more _ _ _ _ | (simp only [← Array.append_assoc]; first | exact below_more _ _ _ _ | exact below_same _ _ _ | exact Go.RowKit.Below.refl _ _) | exact below_same _ _ _ | (refine Go.RowKit.Below.alloc ?_ (by first | (simp; done) | (simp; omega)) _) | (refine Go.RowKit.Below.grow ?_ (by first | (simp; done) | (simp; omega)) _ _) | refine Go.RowKit.Below.drew ?_ | refine Go.RowKit.Below.drewN ?_ _ | (refine Go.RowKit.Below.putF ?_ (by first | (simp; done) | omega | (simp; omega)) _) | (refine Go.RowKit.Below.setCell ?_ (by first | (simp; done) | (simp; omega)) _))), (by first | (simp; done) | (simp; omega) | omega)⟩, fun h => by cases h⟩
        case o4 =>
          intro x w1 hH K hK
          obtain ⟨xs, d, rfl⟩ := grow_of_below hH.below
          clear hH
          try simp only [World.grow_drew] at hK ⊢
          try simp only [World.grow_grow] at hK ⊢
          go_simp
          go_wp2_with fail
          exact ⟨_, rfl, rfl, ⟨(by repeat (first | exact below_of_grow _ _ | exact Go.RowKit.Below.refl _ _ | exact below_more _ _ _ _ | (simp only [← Array.append_assoc]; first | exact below_more _ _ _ _ | exact below_same _ _ _ | exact Go.RowKit.Below.refl _ _) | exact below_same _ _ _ | (refine Go.RowKit.Below.alloc ?_ (by first | (simp; done) | (simp; omega)) _) | (refine Go.RowKit.Below.grow ?_ (by first | (simp; done) | (simp; omega)) _ _) | refine Go.RowKit.Below.drew ?_ | refine Go.RowKit.Below.drewN ?_ _ | (refine Go.RowKit.Below.putF ?_ (by first | (simp; done) | omega | (simp; omega)) _) | (refine Go.RowKit.Below.setCell ?_ (by first | (simp; done) | (simp; omega)) _))), (by first | (simp; done) | (simp; omega) | omega)⟩, fun h => by cases h⟩
        case o5 =>
          intro x w1 hH K hK
          have e11 : x 11 = _ := hH.holds 3 (by decide) (by decide +kernel) 11 rfl
          have e12 : x 12 = _ := hH.holds 4 (by decide) (by decide +kernel) 12 rfl
          obtain ⟨xs, d, rfl⟩ := grow_of_below hH.below
          clear hH
          try simp only [World.grow_drew] at hK ⊢
          try simp only [World.grow_grow] at hK ⊢
          simp only [e11, e12] at hK ⊢
          clear e11 e12
          go_simp
          go_wp2_with (refine Gives.use (HY.out _) ?_; intro ys e)
          exact ⟨_, rfl, rfl, ⟨(by repeat (first | exact below_of_grow _ _ | exact Go.RowKit.Below.refl _ _ | exact below_more _ _ _ _ | (simp only [← Array.append_assoc]; first | exact below_more _ _ _ _ | exact below_same _ _ _ | exact Go.RowKit.Below.refl _ _) | exact below_same _ _ _ | (refine Go.RowKit.Below.alloc ?_ (by first | (simp; done) | (simp; omega)) _) | (refine Go.RowKit.Below.grow ?_ (by first | (simp; done) | (simp; omega)) _ _) | refine Go.RowKit.Below.drew ?_ | refine Go.RowKit.Below.drewN ?_ _ | (refine Go.RowKit.Below.putF ?_ (by first | (simp; done) | omega | (simp; omega)) _) | (refine Go.RowKit.Below.setCell ?_ (by first | (simp; done) | (simp; omega)) _))), (by first | (simp; done) | (simp; omega) | omega)⟩, fun h => by cases h⟩
        case o6 =>
          intro x w1 hH K hK
          obtain ⟨xs, d, rfl⟩ := grow_of_below hH.below
          clear hH
          try simp only [World.grow_drew] at hK ⊢
          try simp only [World.grow_grow] at hK ⊢
          go_simp
          go_wp2_with fail
          exact left_new rfl (by simp) (by first | (simp; done) | (simp; omega))
        case o7 =>
          intro x w1 hH K hK
          obtain ⟨xs, d, rfl⟩ := grow_of_below hH.below
          clear hH
          try simp only [World.grow_drew] at hK ⊢
          try simp only [World.grow_grow] at hK ⊢
          go_simp
          go_wp2_with fail
          exact left_new rfl (by simp) (by first | (simp; done) | (simp; omega))
      case hend =>
        intro x w1 hH
        have e8 : x 8 = _ := hH.holds 0 (by decide) trivial 8 rfl
        have e9 : x 9 = _ := hH.holds 1 (by decide) trivial 9 rfl
        have e10 : x 10 = _ := hH.holds 2 (by decide) trivial 10 rfl
        have e11 : x 11 = _ := hH.holds 3 (by decide) trivial 11 rfl
        have e12 : x 12 = _ := hH.holds 4 (by decide) trivial 12 rfl
        have e13 : x 13 = _ := hH.holds 5 (by decide) trivial 13 rfl
        obtain ⟨b6, e6, l6, u6, o6⟩ := hH.holds 6 (by decide) trivial 6 rfl
        obtain ⟨b7, e7, l7, u7, o7⟩ := hH.holds 7 (by decide) trivial 7 rfl
        have n6_7 : b6 ≠ b7 := fun h => hH.apart 6 (by decide) 7 (by decide) (by decide) (by decide) trivial trivial (by decide) 6 7 rfl rfl (by rw [e6, e7, h])
        have n7_6 := n6_7.symm
        obtain ⟨xs, d, rfl⟩ := grow_of_below hH.below
        clear hH
        simp only [e8, e9, e10, e11, e12, e13, e6, e7]; clear e8 e9 e10 e11 e12 e13 e6 e7
        refine new_known2 o6 l6 u6 o7 l7 u7 ?_
        clear o6 o7
        simp [go_sem] at l6 u6 l7 u7
        simp only [List.drop_succ_cons, List.drop_zero]
        go_wp2_with fail
        refine Gives.use (HLL.out _) ?_
        intro ys e
        go_wp2_with fail
        go_ret
        exact ⟨rfl, ⟨(by repeat (first | exact below_of_grow _ _ | exact Go.RowKit.Below.refl _ _ | exact below_more _ _ _ _ | (simp only [← Array.append_assoc]; first | exact below_more _ _ _ _ | exact below_same _ _ _ | exact Go.RowKit.Below.refl _ _) | exact below_same _ _ _ | (refine Go.RowKit.Below.alloc ?_ (by first | (simp; done) | (simp; omega)) _) | (refine Go.RowKit.Below.grow ?_ (by first | (simp; done) | (simp; omega)) _ _) | refine Go.RowKit.Below.drew ?_ | refine Go.RowKit.Below.drewN ?_ _ | (refine Go.RowKit.Below.putF ?_ (by first | (simp; done) | omega | (simp; omega)) _) | (refine Go.RowKit.Below.setCell ?_ (by first | (simp; done) | (simp; omega)) _))), (by first | (simp; done) | (simp; omega) | omega)⟩⟩
end Go.Proofs.YtfmphfidloobkaaGreatDoor.Dr

/- Layer 22's law RoleMore, for every input: who made a project may all, a grant with more rights lets no less be done, and without a grant a user may nothing that needs a right; the Go function returns true, and each argument reads behind the call as it read before. Condition: the tables that the row lists (tied to the program's text by the card); the proof does not use what they hold. -/
import Derived.Test.YtfgpcflegodlmaaGreatDoorQas
import Derived.Test.YtfgpcflegodlmaaGreatDoorQal
import Derived.Test.YtfgpcflegodlmaaGreatDoorQar
import Derived.BigRegion
import Derived.Deep.CutBlock
import Derived.Handy
import Derived.Test.YtfgpcflegodlmaaGreatDoorCards
import Derived.Test.YtfgpcflegodlmaaGreatDoorTie
import Derived.ProofKit
import Derived.LaidMore
import Derived.Lay
import Derived.OpenShut
import Derived.ShutString
namespace Go.Proofs.YtfgpcflegodlmaaGreatDoor
set_option maxRecDepth 100000
open Go.RowKit

@[go_sem ↓ high] theorem bKey2_eq (f : Nat × Operand → Nat × Value) (p q : Nat × Operand) : Instr.build 44 (Array.map f #[p, q]) = bld2 44 (f p) (f q) := by simp [bld2]
@[go_sem] theorem bKey2_run (a : UInt8) (w : World) : (bld2 44 (0, .int .u8 1) (1, .int .u8 a.toNat)).run Tryz.prog w = .ok (.agg (row8 (keyK 1 a 0).val)) w := by
  unfold bld2
  refine build_of (zero := .agg (row8 (zeros 25))) (places := #[(0, 1), (1, 1), (2, 1), (3, 12), (15, 10)]) (by intro w; exact (Tryz.zeroValue44 w).trans rfl) Tryz.underlying44 (by intro w; kernel_rfl) ?_
  rfl
def bldK3 (t : TypeId) (p q r : Nat × Value) : Sem Value := Instr.build t #[p, q, r]
@[go_sem ↓ high] theorem bKey3_eq (f : Nat × Operand → Nat × Value) (p q r : Nat × Operand) : Instr.build 44 (Array.map f #[p, q, r]) = bldK3 44 (f p) (f q) (f r) := by simp [bldK3]
@[go_sem] theorem bKey3_run (a b : UInt8) (w : World) : (bldK3 44 (0, .int .u8 2) (1, .int .u8 a.toNat) (2, .int .u8 b.toNat)).run Tryz.prog w = .ok (.agg (row8 (keyK 2 a b).val)) w := by
  unfold bldK3
  refine build_of (zero := .agg (row8 (zeros 25))) (places := #[(0, 1), (1, 1), (2, 1), (3, 12), (15, 10)]) (by intro w; exact (Tryz.zeroValue44 w).trans rfl) Tryz.underlying44 (by intro w; kernel_rfl) ?_
  rfl
@[go_sem] theorem bRecP_run (a : UInt8) (w : World) : (bld2 55 (0, .int .u8 1) (2, .int .u8 a.toNat)).run Tryz.prog w = .ok (.agg (recA (recP a))) w := by
  unfold bld2
  refine build_of (zero := .agg (recA Rec.zero)) (places := #[(0, 1), (1, 1), (2, 1), (3, 1), (4, 1), (5, 1), (6, 1), (7, 1), (8, 1)]) (by intro w; exact (Tryz.zeroValue55 w).trans rfl) Tryz.underlying55 (by intro w; kernel_rfl) ?_
  rfl
@[go_sem] theorem bRecG_run (a : UInt8) (w : World) : (bld2 55 (0, .int .u8 2) (4, .int .u8 a.toNat)).run Tryz.prog w = .ok (.agg (recA (recG a))) w := by
  unfold bld2
  refine build_of (zero := .agg (recA Rec.zero)) (places := #[(0, 1), (1, 1), (2, 1), (3, 1), (4, 1), (5, 1), (6, 1), (7, 1), (8, 1)]) (by intro w; exact (Tryz.zeroValue55 w).trans rfl) Tryz.underlying55 (by intro w; kernel_rfl) ?_
  rfl
theorem byte_mod (x : Int) (n : Nat) (h0 : 0 < n) (h : n ≤ 256) : ∃ b : UInt8, x % 256 % (n : Int) = (b.toNat : Int) ∧ b.toNat < n := by
  have h1 : 0 ≤ x % 256 % (n : Int) := Int.emod_nonneg _ (by omega)
  have h2 : x % 256 % (n : Int) < n := Int.emod_lt_of_pos _ (by omega)
  refine ⟨UInt8.ofNat (x % 256 % (n : Int)).toNat, ?_, ?_⟩
  · rw [UInt8.toNat_ofNat']; omega
  · rw [UInt8.toNat_ofNat']; omega
/-- what role.Check answers of a snapshot at time 9 -/
def snapV (s : Nat) : Value := .iface 63 (.agg #[.pointer (some ⟨s, 0, none⟩), .int .u64 9])
theorem chk_may {W W' : World} {B s : Nat} {G : SG} {p a u : UInt8} {r : Rec} {q : Bool} (h : StoreAt W B s G) (hb : Below W.heap.size W W') (hs : Short G 100000) (hp : p.toNat < 4) (hu : u.toNat < 16)
    (h1 : atV (versG G (keyK 1 p 0)) 9 = (recP a, true)) (h2 : atV (versG G (keyK 2 p u)) 9 = (r, q)) (hm : r.mask.toNat < 64) (act : Int) (ha : 1 ≤ act ∧ act ≤ 16) :
    Gives Tryz.prog 21 #[snapV s, .int .i64 p.toNat, .int .i64 u.toNat, .int .i64 act] W' (.int .i64 (if mayA a u r.mask act = true then 0 else 10)) := by
  have := roleChk_gives (h.keep hb) hs 9 p u hp hu act ha
  rw [chk_of h1 h2 hm act ha] at this
  exact this
theorem mod64 (x : UInt8) : ∃ m : UInt8, (x.toNat : Int) % 64 = (m.toNat : Int) ∧ m.toNat < 64 := by
  refine ⟨UInt8.ofNat (x.toNat % 64), ?_, ?_⟩
  · rw [UInt8.toNat_ofNat']; omega
  · rw [UInt8.toNat_ofNat']; omega
theorem or64 (m k : UInt8) (hm : m.toNat < 64) (hk : k.toNat < 64) : ∃ n : UInt8, bits .or .u8 (m.toNat : Int) (k.toNat : Int) = (n.toNat : Int) ∧ n.toNat = m.toNat ||| k.toNat ∧ n.toNat < 64 := by
  have h : ∀ x < 64, ∀ y < 64, bits .or .u8 ((x : Nat) : Int) ((y : Nat) : Int) = ((x ||| y : Nat) : Int) ∧ (x ||| y) < 64 := by decide +kernel
  obtain ⟨h1, h2⟩ := h _ hm _ hk
  have e : (UInt8.ofNat (m.toNat ||| k.toNat)).toNat = m.toNat ||| k.toNat := by rw [UInt8.toNat_ofNat']; omega
  exact ⟨UInt8.ofNat (m.toNat ||| k.toNat), by rw [e]; exact h1, e, by rw [e]; exact h2⟩
theorem mayA_case (a b m : UInt8) (act : Int) : (mayA a b m act = true ∧ (if mayA a b m act = true then (0 : Int) else 10) = 0) ∨ (mayA a b m act = false ∧ (if mayA a b m act = true then (0 : Int) else 10) = 10) := by
  cases mayA a b m act
  · exact .inr ⟨rfl, rfl⟩
  · exact .inl ⟨rfl, rfl⟩
theorem heap_set5 {w : World} {xs : Array Obj} {d mb i : Nat} {c : Array Value} {t : TypeId} {v : Value} (hl : mb < w.heap.size) (h : w.heap[mb]? = some (.cells c t)) : ((w.setCell ⟨mb, i, none⟩ v).grow xs d).heap[mb]? = some (.cells (c.setIfInBounds i v) t) ∧ But [mb] w ((w.setCell ⟨mb, i, none⟩ v).grow xs d) := by
  refine ⟨?_, (But.setCell w mb i v).trans (But.of_below (below_of_grow _ _) _)⟩
  rw [World.grow_heap _ _ _ (by simpa using hl)]
  simp [World.setCell, Array.getElem?_modify, h]
theorem set_upto {c : Array Value} {i : Nat} (hcs : c.size = 17) (hi1 : 1 ≤ i) (hi : i ≤ 16) {f : Nat → Bool} {v : Bool} (hv : f i = v) (h : ∀ j : Nat, 1 ≤ j → j < i → c[j]? = some (.bool (f j))) : (c.setIfInBounds i (.bool v)).size = 17 ∧ ∀ j : Nat, 1 ≤ j → j < i + 1 → (c.setIfInBounds i (.bool v))[j]? = some (.bool (f j)) := by
  refine ⟨by simp [hcs], fun j h1 h2 => ?_⟩
  by_cases hj : j = i
  · subst hj; rw [Array.getElem?_setIfInBounds_self_of_lt (by omega), hv]
  · rw [Array.getElem?_setIfInBounds_ne (fun e => hj e.symm)]; exact h j h1 (by omega)
theorem emptyInv (t : Nat) : Inv (versG (emptyG t)) 1000 (emptyG t).last := ⟨fun _ => Nat.zero_le _, fun _ => Nat.le_refl _⟩
theorem wrtA_set30 (x : Wr) (a : UInt8) : (wrtA x).setIfInBounds 30 (.int .u8 a.toNat) = wrtA ⟨x.k, x.dead, { x.r with mask := a }⟩ := by
  unfold wrtA
  rw [List.setIfInBounds_toArray]
  congr 1
  rw [List.set_append_right _ _ (by simp [keyL_len])]
  simp [keyL_len, recL]
theorem or_zero {m k : UInt8} (h : (0 : UInt8).toNat = m.toNat ||| k.toNat) : m = 0 := by
  have h2 := Nat.left_le_or (n := m.toNat) (m := k.toNat)
  have h3 : (0 : UInt8).toNat = 0 := rfl
  exact UInt8.toNat_inj.1 (by omega)
set_option maxHeartbeats 20000000 in
theorem more_walk (P M U : Int) (mask mor : UInt8) (w : World) :
    Gives Tryz.prog 5 #[.int .i64 P, .int .i64 M, .int .i64 U, .int .u8 mask.toNat, .int .u8 mor.toNat] w (.bool true) := by
  unfold Gives
  go_enter Tryz.func5, Tryz.ntmps5
  go_wp2_with fail
  refine (storeNew_calls w).mono ?_
  rintro e w1 ⟨rfl, hb1, hS1⟩
  have HB1 := Lib.hid hb1
  have HS1 := Lib.hid hS1
  have hls := hS1.cells.2.2.2.2.2
  clear hb1 hS1
  obtain ⟨p, hp, hp4⟩ := byte_mod P 4 (by decide) (by decide)
  obtain ⟨a, ha, ha16⟩ := byte_mod M 16 (by decide) (by decide)
  obtain ⟨b, hb, hb16⟩ := byte_mod U 16 (by decide) (by decide)
  go_upto_region 4 with fail
  refine wp_name ?_
  intro W1 hW1
  simp only [show (((4 : Nat) : Int)) = 4 from rfl, show (((16 : Nat) : Int)) = 16 from rfl] at hp ha hb
  rw [hp, ha, hb]
  clear hp ha hb
  generalize hs1 : w.heap.size + 1 = s at *
  obtain ⟨sb, hsb⟩ : ∃ sb, sb = w1.heap.size := ⟨_, rfl⟩
  rw [← hsb]
  have hbW : Below w1.heap.size w1 W1 := by rw [hW1]; exact (Below.refl _ _).alloc (Nat.le_refl _) _
  have hsc : W1.heap[sb]? = some (.cells #[.pointer (some ⟨s, 0, none⟩), .int .u64 9] 63) := by rw [hW1, hsb]; exact (heap_al _ _ _).trans (if_pos rfl)
  have hsl : sb < W1.heap.size := lt_of_heap hsc
  have hsW : s < W1.heap.size := by have := hbW.size; omega
  have hS2 := HS1.out.keep hbW
  have hsn : sb ∉ (emptyG w.heap.size).blocks s := fun hm => by have := HS1.out.lt _ hm; omega
  have HP := Lib.hid (fun (W : World) (hb : Below W1.heap.size W1 W) (lb : Nat) (hc : W.cut? lb 0 35 = some (wrtA ⟨keyK 1 p 0, false, recP a⟩)) (hlb : lb < W.heap.size) (hge : W1.heap.size ≤ lb) =>
    pub_one 1 (by show (1 : UInt64).toNat = (0 : UInt64).toNat + 1; decide) (hS2.keep hb) (emptyInv _) (by show (0 : UInt64).toNat ≤ 1000000; decide) ⟨by show (-1000000 : Int) ≤ 0; decide, by show (0 : Int) ≤ 1000000; decide⟩ (wP p a)
      (pub_ok _ _ _ (checkP p a hp4 ha16) (by show (0 : Int) ≤ 100; decide)) lb hc hlb (fun hm => by have := hS2.lt lb hm; omega))
  have hBs : w.heap.size ≤ sb := by have := HB1.out.size; omega
  have H1 := Lib.hid (And.intro (HB1.out.trans (hbW.mono HB1.out.size)) (And.intro hS2 (And.intro hsc hsn)))
  clear hW1 hbW hS2 hsc hsn HS1 HB1 hsb hls
  go_wp2_with fail
  refine (HP.out _ (by repeat (first | exact below_of_grow _ _ | exact Below.refl _ _ | exact below_more _ _ _ _ | (simp only [← Array.append_assoc]; first | exact below_more _ _ _ _ | exact below_same _ _ _ | exact Below.refl _ _) | exact below_same _ _ _ | (refine Below.alloc ?_ (by first | (simp; done) | (simp; omega)) _) | (refine Below.grow ?_ (by first | (simp; done) | (simp; omega)) _ _) | refine Below.drew ?_ | refine Below.drewN ?_ _ | (refine Below.putF ?_ (by first | (simp; done) | omega | (simp; omega)) _) | (refine Below.setCell ?_ (by first | (simp; done) | (simp; omega)) _))) _ ?_ ?_ ?_).mono ?_
  · exact cut_heap ((heap_al _ _ _).trans (if_pos (by simp))) (wrtA_size _)
  · simp
  · simp
  rintro e W2 ⟨rfl, G1, g1, g2, g3, g4, g5⟩
  have hv1 : versG G1 = fA p a := g5
  have hl1 : G1.live ≤ 50 ∧ -50 ≤ G1.live := by
    have := moreI_bound (versG (emptyG w.heap.size)) [wP p a] 0
    have h0 : (emptyG w.heap.size).live = 0 := rfl
    rw [g4, h0]; unfold moreI; simp at this ⊢; omega
  have hS1 : StoreAt (W1.alloc (.cells (wrtA ⟨keyK 1 p 0, false, recP a⟩) 59)) w.heap.size s (emptyG w.heap.size) := H1.out.2.1.keep ((Below.refl _ _).alloc (Nat.le_refl _) _)
  have hb2 : Below w.heap.size w W2 := (H1.out.1.trans (((Below.refl _ W1).alloc (Nat.le_refl _) _).mono H1.out.1.size)).trans (g2.below hS1)
  have hsc2 : W2.heap[sb]? = some (.cells #[.pointer (some ⟨s, 0, none⟩), .int .u64 9] 63) := by
    rw [g2.1.same sb (by simp; omega) H1.out.2.2.2]
    exact (heap_alloc_old (w := W1) _ hsl).trans H1.out.2.2.1
  have hsn2 : sb ∉ G1.blocks s := fun hm => by
    rcases g2.2 _ hm with h | h
    · exact H1.out.2.2.2 h
    · simp at h; omega
  have hsh1 : Short G1 100000 := fun k => by
    rw [hv1]
    have := (Inv.apply (emptyInv w.heap.size) (a := 1) (by show (1 : UInt64).toNat = (0 : UInt64).toNat + 1; decide) (l := [wP p a]) (by simp)).short k
    exact Nat.le_trans this (by decide)
  have hinv1 : Inv (versG G1) 1000 G1.last := by
    rw [g5, g3]
    have := (emptyInv w.heap.size)
    exact (Inv.apply (n := 999) ⟨fun _ => Nat.zero_le _, fun _ => Nat.le_refl _⟩ (a := 1) (by show (1 : UInt64).toNat = (0 : UInt64).toNat + 1; decide) (l := [wP p a]) (by simp))
  have hsl2 : sb < W2.heap.size := lt_of_heap hsc2
  have HCA := Lib.hid (fun (W : World) (hb : Below W2.heap.size W2 W) (act : Int) (h : 1 ≤ act ∧ act ≤ 16) => chk_may g1 hb hsh1 hp4 ha16 (r := Rec.zero) (q := false) (hv1 ▸ atA p a) (hv1 ▸ atA0 p a a) (by decide) act h)
  have HCB := Lib.hid (fun (W : World) (hb : Below W2.heap.size W2 W) (act : Int) (h : 1 ≤ act ∧ act ≤ 16) => chk_may g1 hb hsh1 hp4 hb16 (r := Rec.zero) (q := false) (hv1 ▸ atA p a) (hv1 ▸ atA0 p a b) (by decide) act h)
  have H2 := Lib.hid (And.intro hb2 (And.intro g1 (And.intro hv1 (And.intro hl1 (And.intro g3 (And.intro hsn2 hinv1))))))
  have HSC := Lib.hid hsc2
  clear g1 g2 g3 g4 g5 hv1 hl1 hS1 hb2 hsc2 hsn2 hsh1 hinv1 H1 HP hsl hsW
  go_upto_block 0 with fail
  go_cut [16] (fun _ wx => ∃ xs d, wx = W2.grow xs d)
  case first =>
    go_wp2_with fail
    go_loopw [16] (fun s16 wr => ∃ i : Nat, 1 ≤ i ∧ i ≤ 17 ∧ s16 = .int .i64 i ∧ ∃ xs d, wr = W2.grow xs d) (fun s16 _ => 17 - (intOf s16).toNat)
    case atStart => exact ⟨1, Nat.le_refl _, by decide, rfl, #[], W2.drawn, World.grow_nil.symm⟩
    case round =>
      obtain ⟨i, hi1, hi17, rfl, xs, d, rfl⟩ := hrel
      by_cases hli : i ≤ 16
      · have hiI : (i : Int) ≤ 16 := by omega
        have c0 := (cells_is HSC.out 0).1
        have c1 := (cells_is HSC.out 1).1
        simp only [List.getElem?_toArray, List.getElem?_cons_zero, List.getElem?_cons_succ] at c0 c1
        have hA : ∀ W, Below W2.heap.size W2 W → Gives Tryz.prog 21 #[snapV s, .int .i64 p.toNat, .int .i64 a.toNat, .int .i64 i] W (.int .i64 0) := by
          intro W hb
          have := HCA.out W hb i (by omega)
          rwa [show mayA a a Rec.zero.mask (i : Int) = true from if_pos rfl, if_pos rfl] at this
        have HA := Lib.hid hA
        clear hA
        unfold snapV at HA
        by_cases hab : a = b
        · subst hab
          go_wp2_with fail
          refine Gives.use (HA.out _ (by repeat (first | exact below_of_grow _ _ | exact Below.refl _ _ | exact below_more _ _ _ _ | (simp only [← Array.append_assoc]; first | exact below_more _ _ _ _ | exact below_same _ _ _ | exact Below.refl _ _) | exact below_same _ _ _ | (refine Below.alloc ?_ (by first | (simp; done) | (simp; omega)) _) | (refine Below.grow ?_ (by first | (simp; done) | (simp; omega)) _ _) | refine Below.drew ?_ | refine Below.drewN ?_ _ | (refine Below.putF ?_ (by first | (simp; done) | omega | (simp; omega)) _) | (refine Below.setCell ?_ (by first | (simp; done) | (simp; omega)) _)))) ?_
          intro xs1 d1
          go_wp2_with fail
          go_roundw
          case rel => exact ⟨i + 1, by omega, by omega, by go_num, _, _, rfl⟩
          case measure => simp [intOf]; omega
        · have hq : ¬ (a.toNat : Int) = (b.toNat : Int) := fun e => hab (UInt8.toNat_inj.1 (by omega))
          have hB : ∃ e : Int, ((e = 0 ∧ (need i == 0) = true) ∨ (e = 10 ∧ (need i == 0) = false)) ∧ ∀ W, Below W2.heap.size W2 W → Gives Tryz.prog 21 #[snapV s, .int .i64 p.toNat, .int .i64 b.toNat, .int .i64 i] W (.int .i64 e) := by
            refine ⟨_, ?_, fun W hb => HCB.out W hb i (by omega)⟩
            have hm : mayA a b Rec.zero.mask (i : Int) = decide (need i = 0) := (if_neg hab).trans (may0 i (by omega))
            rw [hm]
            by_cases hn : need i = 0
            · rw [decide_eq_true hn, if_pos rfl, hn]; exact .inl ⟨rfl, rfl⟩
            · rw [decide_eq_false hn, if_neg (by decide)]; exact .inr ⟨rfl, beq_eq_false_iff_ne.2 hn⟩
          obtain ⟨e, he, hB⟩ := hB
          have HB := Lib.hid hB
          have HN := Lib.hid (need_gives i)
          clear hB hab
          generalize need i = ni at *
          unfold snapV at HB
          go_wp2_with fail
          refine Gives.use (HA.out _ (by repeat (first | exact below_of_grow _ _ | exact Below.refl _ _ | exact below_more _ _ _ _ | (simp only [← Array.append_assoc]; first | exact below_more _ _ _ _ | exact below_same _ _ _ | exact Below.refl _ _) | exact below_same _ _ _ | (refine Below.alloc ?_ (by first | (simp; done) | (simp; omega)) _) | (refine Below.grow ?_ (by first | (simp; done) | (simp; omega)) _ _) | refine Below.drew ?_ | refine Below.drewN ?_ _ | (refine Below.putF ?_ (by first | (simp; done) | omega | (simp; omega)) _) | (refine Below.setCell ?_ (by first | (simp; done) | (simp; omega)) _)))) ?_
          intro xs1 d1
          rcases he with ⟨rfl, he⟩ | ⟨rfl, he⟩
          all_goals
            go_wp2_with fail
            refine Gives.use (HB.out _ (by repeat (first | exact below_of_grow _ _ | exact Below.refl _ _ | exact below_more _ _ _ _ | (simp only [← Array.append_assoc]; first | exact below_more _ _ _ _ | exact below_same _ _ _ | exact Below.refl _ _) | exact below_same _ _ _ | (refine Below.alloc ?_ (by first | (simp; done) | (simp; omega)) _) | (refine Below.grow ?_ (by first | (simp; done) | (simp; omega)) _ _) | refine Below.drew ?_ | refine Below.drewN ?_ _ | (refine Below.putF ?_ (by first | (simp; done) | omega | (simp; omega)) _) | (refine Below.setCell ?_ (by first | (simp; done) | (simp; omega)) _)))) ?_
            intro xs2 d2
            go_wp2_with fail
            refine Gives.use (HN.out _) ?_
            intro xs3 d3
            go_wp2_with fail
            go_roundw
            case rel => exact ⟨i + 1, by omega, by omega, by go_num, _, _, rfl⟩
            case measure => simp [intOf]; omega
      · have hiI : ¬ (i : Int) ≤ 16 := by omega
        go_wp2_with fail
        go_meet
        exact ⟨xs, d, rfl⟩
  case rest =>
    obtain ⟨xs, d, rfl⟩ := hcut
    clear HCA HCB
    go_upto_region 11 with fail
    obtain ⟨m, hm, hm64⟩ := mod64 mask
    obtain ⟨k, hk, hk64⟩ := mod64 mor
    rw [hm, hk]
    obtain ⟨n, hn, hnm0, hn64⟩ := or64 m k hm64 hk64
    have HNM := Lib.hid hnm0
    clear hnm0
    rw [hn]
    clear hm hk hn
    go_upto_region 13 with fail
    refine wp_name ?_
    intro W3 hW3
    have hb23 : Below W2.heap.size W2 (W2.grow xs d) := below_of_grow _ _
    have hb3 : Below W2.heap.size W2 W3 := by rw [hW3]; exact (hb23.alloc (by simp) _).alloc (by simp; omega) _
    obtain ⟨mb, hmb⟩ : ∃ mb, mb = W2.heap.size + xs.size := ⟨_, rfl⟩
    have hgz : (W2.grow xs d).heap.size = mb := by rw [hmb]; simp
    have hm3 : W3.heap[mb]? = some (.cells #[.bool false, .bool false, .bool false, .bool false, .bool false, .bool false, .bool false, .bool false, .bool false, .bool false, .bool false, .bool false, .bool false, .bool false, .bool false, .bool false, .bool false] 66) := by
      rw [hW3, heap_al, if_neg (by simp; omega), heap_al, if_pos hgz.symm]
    have hg3 : W3.heap[mb + 1]? = some (.cells (wrtA ⟨keyK 2 p b, false, recG m⟩) 59) := by
      rw [hW3, heap_al, if_pos (by simp; omega)]
    have hsc3 : W3.heap[sb]? = some (.cells #[.pointer (some ⟨s, 0, none⟩), .int .u64 9] 63) := (hb3.block sb hsl2).trans HSC.out
    have hS3 := H2.out.2.1.keep hb3
    have hmn : mb ∉ G1.blocks s := fun h => by have := H2.out.2.1.lt _ h; omega
    have hgn : mb + 1 ∉ G1.blocks s := fun h => by have := H2.out.2.1.lt _ h; omega
    have hsm : sb < mb := by omega
    rw [← hmb]
    have H3 := Lib.hid (And.intro (H2.out.1.trans (hb3.mono H2.out.1.size)) (And.intro hS3 (And.intro hm3 (And.intro hg3 (And.intro hsc3 (And.intro hmn (And.intro hgn (And.intro H2.out.2.2.2.2.2.1 H2.out.2.2))))))))
    have hgl : mb + 1 < W3.heap.size := lt_of_heap hg3
    have hsl3 : s < W3.heap.size := hS3.cells.2.2.2.2.2
    have hcg := cut_heap hg3 (wrtA_size _)
    clear hb23 hb3 hgz hW3 hm3 hg3 hsc3 hS3 hmn hgn hmb H2 HSC hsl2
    have HKN := Lib.hid known22
    by_cases hm0 : m = 0
    · subst hm0
      have hz : ((UInt8.toNat 0 : Nat) : Int) = 0 := rfl
      clear hcg
      rw [hz]
      go_wp2_with fail
      refine Gives.use (HKN.out _) ?_
      intro xs5 d5
      go_wp2_with fail
      go_ret
      exact ⟨rfl, H3.out.1.trans ((show Below W3.heap.size W3 _ from (by repeat (first | exact below_of_grow _ _ | exact Below.refl _ _ | exact below_more _ _ _ _ | (simp only [← Array.append_assoc]; first | exact below_more _ _ _ _ | exact below_same _ _ _ | exact Below.refl _ _) | exact below_same _ _ _ | (refine Below.alloc ?_ (by first | (simp; done) | (simp; omega)) _) | (refine Below.grow ?_ (by first | (simp; done) | (simp; omega)) _ _) | refine Below.drew ?_ | refine Below.drewN ?_ _ | (refine Below.putF ?_ (by first | (simp; done) | omega | (simp; omega)) _) | (refine Below.setCell ?_ (by first | (simp; done) | (simp; omega)) _)))).mono H3.out.1.size)⟩
    · have hz : ((m.toNat : Int) == 0) = false := by
        rw [beq_eq_false_iff_ne]
        exact fun e => hm0 (UInt8.toNat_inj.1 (by have : (0 : UInt8).toNat = 0 := rfl; omega))
      have hz2 : ¬ (m.toNat : Int) = 0 := fun e => by rw [e] at hz; cases hz
      have HP := Lib.hid (fun (W : World) (hb : Below W3.heap.size W3 W) (lb : Nat) (hc : W.cut? lb 0 35 = some (wrtA ⟨keyK 2 p b, false, recG m⟩)) (hlb : lb < W.heap.size) (hge : W3.heap.size ≤ lb) =>
        pub_one 2 (by rw [H3.out.2.2.2.2.2.2.2.2.2.2.1]; decide) (H3.out.2.1.keep hb) H3.out.2.2.2.2.2.2.2.2.2.2.2.2 (by rw [H3.out.2.2.2.2.2.2.2.2.2.2.1]; decide) ⟨by have := H3.out.2.2.2.2.2.2.2.2.2.1; omega, by have := H3.out.2.2.2.2.2.2.2.2.2.1; omega⟩ (wG p b m)
          (pub_ok _ _ _ (checkG p b m hp4 hb16 hm64 hm0) (by have := H3.out.2.2.2.2.2.2.2.2.2.1; omega)) lb hc hlb (fun hm => by have := H3.out.2.1.lt lb hm; omega))
      go_wp2_with fail
      refine (HP.out _ (by repeat (first | exact below_of_grow _ _ | exact Below.refl _ _ | exact below_more _ _ _ _ | (simp only [← Array.append_assoc]; first | exact below_more _ _ _ _ | exact below_same _ _ _ | exact Below.refl _ _) | exact below_same _ _ _ | (refine Below.alloc ?_ (by first | (simp; done) | (simp; omega)) _) | (refine Below.grow ?_ (by first | (simp; done) | (simp; omega)) _ _) | refine Below.drew ?_ | refine Below.drewN ?_ _ | (refine Below.putF ?_ (by first | (simp; done) | omega | (simp; omega)) _) | (refine Below.setCell ?_ (by first | (simp; done) | (simp; omega)) _))) _ ?_ ?_ ?_).mono ?_
      · exact cut_heap ((heap_al _ _ _).trans (if_pos (by simp))) (wrtA_size _)
      · simp
      · simp
      rintro e W4 ⟨rfl, G2, g1, g2, g3, g4, g5⟩
      have hv1 := H3.out.2.2.2.2.2.2.2.2.1
      have hv2 : versG G2 = fB p a b m := by rw [g5, hv1]; rfl
      have hl2 : G2.live ≤ 100 ∧ -1000 ≤ G2.live := by
        have := moreI_bound (versG G1) [wG p b m] 0
        have h0 := H3.out.2.2.2.2.2.2.2.2.2.1
        rw [g4]; unfold moreI; simp at this ⊢; omega
      have hS3 : StoreAt (W3.alloc (.cells (wrtA ⟨keyK 2 p b, false, recG m⟩) 59)) w.heap.size s G1 := H3.out.2.1.keep ((Below.refl _ _).alloc (Nat.le_refl _) _)
      have hb4 : Below w.heap.size w W4 := (H3.out.1.trans (((Below.refl _ W3).alloc (Nat.le_refl _) _).mono H3.out.1.size)).trans (g2.below hS3)
      have keep4 : ∀ q, q < W3.heap.size → q ∉ G1.blocks s → W4.heap[q]? = W3.heap[q]? := fun q hq hn => (g2.1.same q (by simp; omega) hn).trans (heap_alloc_old (w := W3) _ hq)
      have new4 : ∀ q, q < W3.heap.size → q ∉ G1.blocks s → q ∉ G2.blocks s := fun q hq hn hm => by
        rcases g2.2 _ hm with h | h
        · exact hn h
        · simp at h; omega
      have hm4 := (keep4 mb (by omega) H3.out.2.2.2.2.2.1).trans H3.out.2.2.1
      have hg4 := (keep4 (mb + 1) hgl H3.out.2.2.2.2.2.2.1).trans H3.out.2.2.2.1
      have hsc4 := (keep4 sb (by omega) H3.out.2.2.2.2.2.2.2.1).trans H3.out.2.2.2.2.1
      have hinv2 : Inv (versG G2) 1000 G2.last := by
        rw [g5, g3, hv1]
        exact Inv.apply (n := 999) (last := 1) (by
          have := Inv.apply (f := f0) (n := 0) (last := 0) ⟨fun _ => Nat.le_refl _, fun _ => Nat.le_refl _⟩ (a := 1) (by decide) (l := [wP p a]) (by simp)
          exact this.more (by decide)) (a := 2) (by decide) (l := [wG p b m]) (by simp)
      have hsh2 : Short G2 100000 := fun k => Nat.le_trans (hinv2.short k) (by decide)
      have H4 := Lib.hid (And.intro hb4 (And.intro g1 (And.intro hm4 (And.intro hg4 (And.intro hsc4 (And.intro (new4 mb (by omega) H3.out.2.2.2.2.2.1) (And.intro (new4 (mb + 1) hgl H3.out.2.2.2.2.2.2.1) (And.intro (new4 sb (by omega) H3.out.2.2.2.2.2.2.2.1) (And.intro hv2 (And.intro hl2 (And.intro g3 (And.intro hinv2 hsh2))))))))))))
      have hgl4 : mb + 1 < W4.heap.size := lt_of_heap hg4
      have hsl4 : s < W4.heap.size := g1.cells.2.2.2.2.2
      clear g1 g2 g3 g4 g5 hv1 hv2 hl2 hS3 hb4 keep4 new4 hm4 hg4 hsc4 hinv2 hsh2 H3 HP hgl hsl3 hcg hz hz2
      go_upto_block 2 with fail
      go_cut [21] (fun _ wx => Hid (But [mb] W4 wx ∧ ∃ c, wx.heap[mb]? = some (.cells c 66) ∧ c.size = 17 ∧ ∀ j : Nat, 1 ≤ j → j ≤ 16 → c[j]? = some (.bool (mayA a b m j))))
      case first =>
        go_wp2_with fail
        go_loopw [21] (fun s21 wr => ∃ i : Nat, 1 ≤ i ∧ i ≤ 17 ∧ s21 = .int .i64 i ∧ Hid (But [mb] W4 wr ∧ ∃ c, wr.heap[mb]? = some (.cells c 66) ∧ c.size = 17 ∧ ∀ j : Nat, 1 ≤ j → j < i → c[j]? = some (.bool (mayA a b m j)))) (fun s21 _ => 17 - (intOf s21).toNat)
        case atStart => exact ⟨1, Nat.le_refl _, by decide, rfl, Lib.hid ⟨But.refl _ _, _, H4.out.2.2.1, rfl, fun j h1 h2 => by omega⟩⟩
        case round =>
          obtain ⟨i, hi1, hi17, rfl, HR⟩ := hrel
          obtain ⟨hbut, c, hc, hcs, hcv⟩ := HR.out
          clear HR
          by_cases hli : i ≤ 16
          · have hiI : (i : Int) ≤ 16 := by omega
            have hi17I : (i : Int) < 17 := by omega
            have hi0I : (0 : Int) ≤ (i : Int) := by omega
            have hSw : StoreAt wr w.heap.size s G2 := H4.out.2.1.keepAll (fun q hq => hbut.same q (H4.out.2.1.lt q hq) (fun h => by rw [List.mem_singleton.1 h] at hq; exact H4.out.2.2.2.2.2.1 hq)) hbut.size
            have hscw := (hbut.same sb (by omega) (fun h => by have := List.mem_singleton.1 h; omega)).trans H4.out.2.2.2.2.1
            have c0 := (cells_is hscw 0).1
            have c1 := (cells_is hscw 1).1
            simp only [List.getElem?_toArray, List.getElem?_cons_zero, List.getElem?_cons_succ] at c0 c1
            have lsb : sb < wr.heap.size := lt_of_heap hscw
            have lmb : mb < wr.heap.size := lt_of_heap hc
            obtain ⟨v0, hv0⟩ : ∃ v0, c[i]? = some v0 := ⟨_, Array.getElem?_eq_getElem (by omega)⟩
            have cm := ((cells_is hc i).1).trans hv0
            have fm := (cells_is hc i).2
            have hC : ∃ (e : Int) (v : Bool), mayA a b m i = v ∧ ((e = 0 ∧ v = true) ∨ (e = 10 ∧ v = false)) ∧ ∀ W, Below wr.heap.size wr W → Gives Tryz.prog 21 #[snapV s, .int .i64 p.toNat, .int .i64 b.toNat, .int .i64 i] W (.int .i64 e) := by
              refine ⟨_, _, rfl, ?_, fun W hb => chk_may hSw hb H4.out.2.2.2.2.2.2.2.2.2.2.2.2 hp4 hb16 (r := recG m) (q := true) (H4.out.2.2.2.2.2.2.2.2.1 ▸ atB p a b m) (H4.out.2.2.2.2.2.2.2.2.1 ▸ atBg p a b m) hm64 i (by omega)⟩
              rcases mayA_case a b m i with ⟨h1, h2⟩ | ⟨h1, h2⟩
              · exact .inl ⟨h2, h1⟩
              · exact .inr ⟨h2, h1⟩
            obtain ⟨e, v, hmv, hev, hC⟩ := hC
            have HC := Lib.hid hC
            have HW := Lib.hid (And.intro hbut (And.intro hc (And.intro hcs (And.intro hcv hmv))))
            clear hC hbut hc hcs hcv hv0 hSw hscw
            unfold snapV at HC
            rcases hev with ⟨rfl, rfl⟩ | ⟨rfl, rfl⟩
            all_goals
              go_wp2_with fail
              refine Gives.use (HC.out _ (by repeat (first | exact below_of_grow _ _ | exact Below.refl _ _ | exact below_more _ _ _ _ | (simp only [← Array.append_assoc]; first | exact below_more _ _ _ _ | exact below_same _ _ _ | exact Below.refl _ _) | exact below_same _ _ _ | (refine Below.alloc ?_ (by first | (simp; done) | (simp; omega)) _) | (refine Below.grow ?_ (by first | (simp; done) | (simp; omega)) _ _) | refine Below.drew ?_ | refine Below.drewN ?_ _ | (refine Below.putF ?_ (by first | (simp; done) | omega | (simp; omega)) _) | (refine Below.setCell ?_ (by first | (simp; done) | (simp; omega)) _)))) ?_
              intro xs1 d1
              go_upto_region 20 with fail
              refine wp_name ?_
              intro W5 hW5
            · have h5 := hW5 ▸ heap_set5 (i := i) (xs := xs1) (d := d1) (v := .bool true) lmb HW.out.2.1
              have hup := set_upto HW.out.2.2.1 hi1 hli HW.out.2.2.2.2 HW.out.2.2.2.1
              have c5 := ((cells_is h5.1 i).1).trans (Array.getElem?_setIfInBounds_self_of_lt (by rw [HW.out.2.2.1]; omega))
              have lm5 : mb < W5.heap.size := lt_of_heap h5.1
              have H5 := Lib.hid (And.intro (HW.out.1.trans h5.2) (And.intro h5.1 hup))
              have HMV := Lib.hid hmv
              have HMY := Lib.hid (may_gives m.toNat i)
              clear hW5 h5 hup hmv HC HW c0 c1 cm fm lsb lmb
              by_cases hab : a = b
              · subst hab
                apply wp_region_specs (by rfl) [.val _, .val _, .val _, .val _, .val _, .val _, .val _, .val _, .val _, .val _, .val _, .val _, .val _] 13 (by rfl) [111, 112, 113, 114, 115, 116, 117, 118, 119, 120, 121, 122, 123] [] [] (by rfl) (by rfl) (by decide) (by decide +kernel) (fun _ _ _ _ _ h => h)
                case hF => intro x; simp only [over, List.foldl_cons, List.foldl_nil, List.setIfInBounds_toArray, List.set_cons_succ, List.set_cons_zero]; exact rfl
                case hops =>
                  refine ⟨?o0, ?o1, ?o2, ?o3, ?o4, ?o5, ?o6, ?o7, ?o8, ?o9, ?o10, ?o11, ?o12, trivial⟩
                  case o0 =>
                    intro x w1 hH K hK
                    obtain ⟨xs, d, rfl⟩ := grow_of_below hH.below
                    clear hH
                    try simp only [World.grow_drew] at hK ⊢
                    try simp only [World.grow_grow] at hK ⊢
                    go_simp
                    go_wp2_with fail
                    exact ⟨_, rfl, rfl, (by repeat (first | exact below_of_grow _ _ | exact Below.refl _ _ | exact below_more _ _ _ _ | (simp only [← Array.append_assoc]; first | exact below_more _ _ _ _ | exact below_same _ _ _ | exact Below.refl _ _) | exact below_same _ _ _ | (refine Below.alloc ?_ (by first | (simp; done) | (simp; omega)) _) | (refine Below.grow ?_ (by first | (simp; done) | (simp; omega)) _ _) | refine Below.drew ?_ | refine Below.drewN ?_ _ | (refine Below.putF ?_ (by first | (simp; done) | omega | (simp; omega)) _) | (refine Below.setCell ?_ (by first | (simp; done) | (simp; omega)) _))), fun h => by cases h⟩
                  case o1 =>
                    intro x w1 hH K hK
                    have e111 : x 111 = _ := hH.holds 0 (by decide) (by decide +kernel) 111 rfl
                    obtain ⟨xs, d, rfl⟩ := grow_of_below hH.below
                    clear hH
                    try simp only [World.grow_drew] at hK ⊢
                    try simp only [World.grow_grow] at hK ⊢
                    simp only [e111] at hK ⊢
                    clear e111
                    go_simp
                    go_wp2_with fail
                    exact ⟨_, rfl, rfl, (by repeat (first | exact below_of_grow _ _ | exact Below.refl _ _ | exact below_more _ _ _ _ | (simp only [← Array.append_assoc]; first | exact below_more _ _ _ _ | exact below_same _ _ _ | exact Below.refl _ _) | exact below_same _ _ _ | (refine Below.alloc ?_ (by first | (simp; done) | (simp; omega)) _) | (refine Below.grow ?_ (by first | (simp; done) | (simp; omega)) _ _) | refine Below.drew ?_ | refine Below.drewN ?_ _ | (refine Below.putF ?_ (by first | (simp; done) | omega | (simp; omega)) _) | (refine Below.setCell ?_ (by first | (simp; done) | (simp; omega)) _))), fun h => by cases h⟩
                  case o2 =>
                    intro x w1 hH K hK
                    have e112 : x 112 = _ := hH.holds 1 (by decide) (by decide +kernel) 112 rfl
                    obtain ⟨xs, d, rfl⟩ := grow_of_below hH.below
                    clear hH
                    try simp only [World.grow_drew] at hK ⊢
                    try simp only [World.grow_grow] at hK ⊢
                    simp only [e112] at hK ⊢
                    clear e112
                    go_simp
                    go_wp2_with fail
                    exact ⟨_, rfl, rfl, (by repeat (first | exact below_of_grow _ _ | exact Below.refl _ _ | exact below_more _ _ _ _ | (simp only [← Array.append_assoc]; first | exact below_more _ _ _ _ | exact below_same _ _ _ | exact Below.refl _ _) | exact below_same _ _ _ | (refine Below.alloc ?_ (by first | (simp; done) | (simp; omega)) _) | (refine Below.grow ?_ (by first | (simp; done) | (simp; omega)) _ _) | refine Below.drew ?_ | refine Below.drewN ?_ _ | (refine Below.putF ?_ (by first | (simp; done) | omega | (simp; omega)) _) | (refine Below.setCell ?_ (by first | (simp; done) | (simp; omega)) _))), fun h => by cases h⟩
                  case o3 =>
                    intro x w1 hH K hK
                    obtain ⟨xs, d, rfl⟩ := grow_of_below hH.below
                    clear hH
                    try simp only [World.grow_drew] at hK ⊢
                    try simp only [World.grow_grow] at hK ⊢
                    go_simp
                    go_wp2_with fail
                    exact ⟨_, rfl, rfl, (by repeat (first | exact below_of_grow _ _ | exact Below.refl _ _ | exact below_more _ _ _ _ | (simp only [← Array.append_assoc]; first | exact below_more _ _ _ _ | exact below_same _ _ _ | exact Below.refl _ _) | exact below_same _ _ _ | (refine Below.alloc ?_ (by first | (simp; done) | (simp; omega)) _) | (refine Below.grow ?_ (by first | (simp; done) | (simp; omega)) _ _) | refine Below.drew ?_ | refine Below.drewN ?_ _ | (refine Below.putF ?_ (by first | (simp; done) | omega | (simp; omega)) _) | (refine Below.setCell ?_ (by first | (simp; done) | (simp; omega)) _))), fun h => by cases h⟩
                  case o4 =>
                    intro x w1 hH K hK
                    obtain ⟨xs, d, rfl⟩ := grow_of_below hH.below
                    clear hH
                    try simp only [World.grow_drew] at hK ⊢
                    try simp only [World.grow_grow] at hK ⊢
                    go_simp
                    go_wp2_with fail
                    exact ⟨_, rfl, rfl, (by repeat (first | exact below_of_grow _ _ | exact Below.refl _ _ | exact below_more _ _ _ _ | (simp only [← Array.append_assoc]; first | exact below_more _ _ _ _ | exact below_same _ _ _ | exact Below.refl _ _) | exact below_same _ _ _ | (refine Below.alloc ?_ (by first | (simp; done) | (simp; omega)) _) | (refine Below.grow ?_ (by first | (simp; done) | (simp; omega)) _ _) | refine Below.drew ?_ | refine Below.drewN ?_ _ | (refine Below.putF ?_ (by first | (simp; done) | omega | (simp; omega)) _) | (refine Below.setCell ?_ (by first | (simp; done) | (simp; omega)) _))), fun h => by cases h⟩
                  case o5 =>
                    intro x w1 hH K hK
                    have e114 : x 114 = _ := hH.holds 3 (by decide) (by decide +kernel) 114 rfl
                    have e115 : x 115 = _ := hH.holds 4 (by decide) (by decide +kernel) 115 rfl
                    obtain ⟨xs, d, rfl⟩ := grow_of_below hH.below
                    clear hH
                    try simp only [World.grow_drew] at hK ⊢
                    try simp only [World.grow_grow] at hK ⊢
                    simp only [e114, e115] at hK ⊢
                    clear e114 e115
                    go_simp
                    go_wp2_with fail
                    exact ⟨_, rfl, rfl, (by repeat (first | exact below_of_grow _ _ | exact Below.refl _ _ | exact below_more _ _ _ _ | (simp only [← Array.append_assoc]; first | exact below_more _ _ _ _ | exact below_same _ _ _ | exact Below.refl _ _) | exact below_same _ _ _ | (refine Below.alloc ?_ (by first | (simp; done) | (simp; omega)) _) | (refine Below.grow ?_ (by first | (simp; done) | (simp; omega)) _ _) | refine Below.drew ?_ | refine Below.drewN ?_ _ | (refine Below.putF ?_ (by first | (simp; done) | omega | (simp; omega)) _) | (refine Below.setCell ?_ (by first | (simp; done) | (simp; omega)) _))), fun h => by cases h⟩
                  case o6 =>
                    intro x w1 hH K hK
                    have e116 : x 116 = _ := hH.holds 5 (by decide) (by decide +kernel) 116 rfl
                    obtain ⟨xs, d, rfl⟩ := grow_of_below hH.below
                    clear hH
                    try simp only [World.grow_drew] at hK ⊢
                    try simp only [World.grow_grow] at hK ⊢
                    simp only [e116] at hK ⊢
                    clear e116
                    go_simp
                    go_wp2_with fail
                    exact ⟨_, rfl, rfl, (by repeat (first | exact below_of_grow _ _ | exact Below.refl _ _ | exact below_more _ _ _ _ | (simp only [← Array.append_assoc]; first | exact below_more _ _ _ _ | exact below_same _ _ _ | exact Below.refl _ _) | exact below_same _ _ _ | (refine Below.alloc ?_ (by first | (simp; done) | (simp; omega)) _) | (refine Below.grow ?_ (by first | (simp; done) | (simp; omega)) _ _) | refine Below.drew ?_ | refine Below.drewN ?_ _ | (refine Below.putF ?_ (by first | (simp; done) | omega | (simp; omega)) _) | (refine Below.setCell ?_ (by first | (simp; done) | (simp; omega)) _))), fun h => by cases h⟩
                  case o7 =>
                    intro x w1 hH K hK
                    have e117 : x 117 = _ := hH.holds 6 (by decide) (by decide +kernel) 117 rfl
                    obtain ⟨xs, d, rfl⟩ := grow_of_below hH.below
                    clear hH
                    try simp only [World.grow_drew] at hK ⊢
                    try simp only [World.grow_grow] at hK ⊢
                    simp only [e117] at hK ⊢
                    clear e117
                    go_simp
                    go_wp2_with fail
                    exact ⟨_, rfl, rfl, (by repeat (first | exact below_of_grow _ _ | exact Below.refl _ _ | exact below_more _ _ _ _ | (simp only [← Array.append_assoc]; first | exact below_more _ _ _ _ | exact below_same _ _ _ | exact Below.refl _ _) | exact below_same _ _ _ | (refine Below.alloc ?_ (by first | (simp; done) | (simp; omega)) _) | (refine Below.grow ?_ (by first | (simp; done) | (simp; omega)) _ _) | refine Below.drew ?_ | refine Below.drewN ?_ _ | (refine Below.putF ?_ (by first | (simp; done) | omega | (simp; omega)) _) | (refine Below.setCell ?_ (by first | (simp; done) | (simp; omega)) _))), fun h => by cases h⟩
                  case o8 =>
                    intro x w1 hH K hK
                    have e117 : x 117 = _ := hH.holds 6 (by decide) (by decide +kernel) 117 rfl
                    have e118 : x 118 = _ := hH.holds 7 (by decide) (by decide +kernel) 118 rfl
                    obtain ⟨xs, d, rfl⟩ := grow_of_below hH.below
                    clear hH
                    try simp only [World.grow_drew] at hK ⊢
                    try simp only [World.grow_grow] at hK ⊢
                    simp only [e117, e118] at hK ⊢
                    clear e117 e118
                    go_simp
                    go_wp2_with fail
                    exact ⟨_, rfl, rfl, (by repeat (first | exact below_of_grow _ _ | exact Below.refl _ _ | exact below_more _ _ _ _ | (simp only [← Array.append_assoc]; first | exact below_more _ _ _ _ | exact below_same _ _ _ | exact Below.refl _ _) | exact below_same _ _ _ | (refine Below.alloc ?_ (by first | (simp; done) | (simp; omega)) _) | (refine Below.grow ?_ (by first | (simp; done) | (simp; omega)) _ _) | refine Below.drew ?_ | refine Below.drewN ?_ _ | (refine Below.putF ?_ (by first | (simp; done) | omega | (simp; omega)) _) | (refine Below.setCell ?_ (by first | (simp; done) | (simp; omega)) _))), fun h => by cases h⟩
                  case o9 =>
                    intro x w1 hH K hK
                    have e117 : x 117 = _ := hH.holds 6 (by decide) (by decide +kernel) 117 rfl
                    obtain ⟨xs, d, rfl⟩ := grow_of_below hH.below
                    clear hH
                    try simp only [World.grow_drew] at hK ⊢
                    try simp only [World.grow_grow] at hK ⊢
                    simp only [e117] at hK ⊢
                    clear e117
                    go_simp
                    go_wp2_with fail
                    exact ⟨_, rfl, rfl, (by repeat (first | exact below_of_grow _ _ | exact Below.refl _ _ | exact below_more _ _ _ _ | (simp only [← Array.append_assoc]; first | exact below_more _ _ _ _ | exact below_same _ _ _ | exact Below.refl _ _) | exact below_same _ _ _ | (refine Below.alloc ?_ (by first | (simp; done) | (simp; omega)) _) | (refine Below.grow ?_ (by first | (simp; done) | (simp; omega)) _ _) | refine Below.drew ?_ | refine Below.drewN ?_ _ | (refine Below.putF ?_ (by first | (simp; done) | omega | (simp; omega)) _) | (refine Below.setCell ?_ (by first | (simp; done) | (simp; omega)) _))), fun h => by cases h⟩
                  case o10 =>
                    intro x w1 hH K hK
                    have e117 : x 117 = _ := hH.holds 6 (by decide) (by decide +kernel) 117 rfl
                    have e119 : x 119 = _ := hH.holds 8 (by decide) (by decide +kernel) 119 rfl
                    have e120 : x 120 = _ := hH.holds 9 (by decide) (by decide +kernel) 120 rfl
                    obtain ⟨xs, d, rfl⟩ := grow_of_below hH.below
                    clear hH
                    try simp only [World.grow_drew] at hK ⊢
                    try simp only [World.grow_grow] at hK ⊢
                    simp only [e117, e119, e120] at hK ⊢
                    clear e117 e119 e120
                    go_simp
                    go_wp2_with fail
                    exact ⟨_, rfl, rfl, (by repeat (first | exact below_of_grow _ _ | exact Below.refl _ _ | exact below_more _ _ _ _ | (simp only [← Array.append_assoc]; first | exact below_more _ _ _ _ | exact below_same _ _ _ | exact Below.refl _ _) | exact below_same _ _ _ | (refine Below.alloc ?_ (by first | (simp; done) | (simp; omega)) _) | (refine Below.grow ?_ (by first | (simp; done) | (simp; omega)) _ _) | refine Below.drew ?_ | refine Below.drewN ?_ _ | (refine Below.putF ?_ (by first | (simp; done) | omega | (simp; omega)) _) | (refine Below.setCell ?_ (by first | (simp; done) | (simp; omega)) _))), fun h => by cases h⟩
                  case o11 =>
                    intro x w1 hH K hK
                    have e117 : x 117 = _ := hH.holds 6 (by decide) (by decide +kernel) 117 rfl
                    have e121 : x 121 = _ := hH.holds 10 (by decide) (by decide +kernel) 121 rfl
                    obtain ⟨xs, d, rfl⟩ := grow_of_below hH.below
                    clear hH
                    try simp only [World.grow_drew] at hK ⊢
                    try simp only [World.grow_grow] at hK ⊢
                    simp only [e117, e121] at hK ⊢
                    clear e117 e121
                    go_simp
                    go_wp2_with fail
                    exact ⟨_, rfl, rfl, (by repeat (first | exact below_of_grow _ _ | exact Below.refl _ _ | exact below_more _ _ _ _ | (simp only [← Array.append_assoc]; first | exact below_more _ _ _ _ | exact below_same _ _ _ | exact Below.refl _ _) | exact below_same _ _ _ | (refine Below.alloc ?_ (by first | (simp; done) | (simp; omega)) _) | (refine Below.grow ?_ (by first | (simp; done) | (simp; omega)) _ _) | refine Below.drew ?_ | refine Below.drewN ?_ _ | (refine Below.putF ?_ (by first | (simp; done) | omega | (simp; omega)) _) | (refine Below.setCell ?_ (by first | (simp; done) | (simp; omega)) _))), fun h => by cases h⟩
                  case o12 =>
                    intro x w1 hH K hK
                    have e113 : x 113 = _ := hH.holds 2 (by decide) (by decide +kernel) 113 rfl
                    have e122 : x 122 = _ := hH.holds 11 (by decide) (by decide +kernel) 122 rfl
                    obtain ⟨xs, d, rfl⟩ := grow_of_below hH.below
                    clear hH
                    try simp only [World.grow_drew] at hK ⊢
                    try simp only [World.grow_grow] at hK ⊢
                    simp only [e113, e122] at hK ⊢
                    clear e113 e122
                    go_simp
                    go_wp2_with fail
                    exact ⟨_, rfl, rfl, (by repeat (first | exact below_of_grow _ _ | exact Below.refl _ _ | exact below_more _ _ _ _ | (simp only [← Array.append_assoc]; first | exact below_more _ _ _ _ | exact below_same _ _ _ | exact Below.refl _ _) | exact below_same _ _ _ | (refine Below.alloc ?_ (by first | (simp; done) | (simp; omega)) _) | (refine Below.grow ?_ (by first | (simp; done) | (simp; omega)) _ _) | refine Below.drew ?_ | refine Below.drewN ?_ _ | (refine Below.putF ?_ (by first | (simp; done) | omega | (simp; omega)) _) | (refine Below.setCell ?_ (by first | (simp; done) | (simp; omega)) _))), fun h => by cases h⟩
                case hend =>
                  intro x w1 hH
                  have e111 : x 111 = _ := hH.holds 0 (by decide) trivial 111 rfl
                  have e112 : x 112 = _ := hH.holds 1 (by decide) trivial 112 rfl
                  have e113 : x 113 = _ := hH.holds 2 (by decide) trivial 113 rfl
                  have e114 : x 114 = _ := hH.holds 3 (by decide) trivial 114 rfl
                  have e115 : x 115 = _ := hH.holds 4 (by decide) trivial 115 rfl
                  have e116 : x 116 = _ := hH.holds 5 (by decide) trivial 116 rfl
                  have e117 : x 117 = _ := hH.holds 6 (by decide) trivial 117 rfl
                  have e118 : x 118 = _ := hH.holds 7 (by decide) trivial 118 rfl
                  have e119 : x 119 = _ := hH.holds 8 (by decide) trivial 119 rfl
                  have e120 : x 120 = _ := hH.holds 9 (by decide) trivial 120 rfl
                  have e121 : x 121 = _ := hH.holds 10 (by decide) trivial 121 rfl
                  have e122 : x 122 = _ := hH.holds 11 (by decide) trivial 122 rfl
                  have e123 : x 123 = _ := hH.holds 12 (by decide) trivial 123 rfl
                  obtain ⟨xs, d, rfl⟩ := grow_of_below hH.below
                  clear hH
                  simp only [e111, e112, e113, e114, e115, e116, e117, e118, e119, e120, e121, e122, e123]; clear e111 e112 e113 e114 e115 e116 e117 e118 e119 e120 e121 e122 e123
                  simp only [List.drop_succ_cons, List.drop_nil]
                  go_wp2_with fail
                  go_roundw
                  case rel => exact ⟨i + 1, by omega, by omega, by go_num, Lib.hid ⟨H5.out.1.trans (But.of_below (below_of_grow xs d) _), _, (World.grow_heap xs d _ lm5).trans H5.out.2.1, H5.out.2.2.1, H5.out.2.2.2⟩⟩
                  case measure => simp [intOf]; omega
              · have hq : ¬ (a.toNat : Int) = (b.toNat : Int) := fun e => hab (UInt8.toNat_inj.1 (by omega))
                have hq' : ((a.toNat : Int) == (b.toNat : Int)) = false := beq_eq_false_iff_ne.2 hq
                have hmy := HMV.out
                unfold mayA at hmy
                rw [if_neg hab] at hmy
                rw [hmy] at HMY
                clear hab hmy HMV
                have hwm : IntKind.i64.wrap (m.toNat : Int) = m.toNat := by rw [IntWalk.i64_in _ (by omega)]
                apply wp_region_specs (by rfl) [.val _, .val _, .val _, .val _, .val _, .val _, .val _, .val _, .val _, .val _, .val _, .val _, .val _] 13 (by rfl) [111, 112, 113, 114, 115, 116, 117, 118, 119, 120, 121, 122, 123] [] [] (by rfl) (by rfl) (by decide) (by decide +kernel) (fun _ _ _ _ _ h => h)
                case hF => intro x; simp only [over, List.foldl_cons, List.foldl_nil, List.setIfInBounds_toArray, List.set_cons_succ, List.set_cons_zero]; exact rfl
                case hops =>
                  refine ⟨?o0, ?o1, ?o2, ?o3, ?o4, ?o5, ?o6, ?o7, ?o8, ?o9, ?o10, ?o11, ?o12, trivial⟩
                  case o0 =>
                    intro x w1 hH K hK
                    obtain ⟨xs, d, rfl⟩ := grow_of_below hH.below
                    clear hH
                    try simp only [World.grow_drew] at hK ⊢
                    try simp only [World.grow_grow] at hK ⊢
                    go_simp
                    go_wp2_with fail
                    exact ⟨_, rfl, rfl, (by repeat (first | exact below_of_grow _ _ | exact Below.refl _ _ | exact below_more _ _ _ _ | (simp only [← Array.append_assoc]; first | exact below_more _ _ _ _ | exact below_same _ _ _ | exact Below.refl _ _) | exact below_same _ _ _ | (refine Below.alloc ?_ (by first | (simp; done) | (simp; omega)) _) | (refine Below.grow ?_ (by first | (simp; done) | (simp; omega)) _ _) | refine Below.drew ?_ | refine Below.drewN ?_ _ | (refine Below.putF ?_ (by first | (simp; done) | omega | (simp; omega)) _) | (refine Below.setCell ?_ (by first | (simp; done) | (simp; omega)) _))), fun h => by cases h⟩
                  case o1 =>
                    intro x w1 hH K hK
                    have e111 : x 111 = _ := hH.holds 0 (by decide) (by decide +kernel) 111 rfl
                    obtain ⟨xs, d, rfl⟩ := grow_of_below hH.below
                    clear hH
                    try simp only [World.grow_drew] at hK ⊢
                    try simp only [World.grow_grow] at hK ⊢
                    simp only [e111] at hK ⊢
                    clear e111
                    go_simp
                    go_wp2_with fail
                    exact ⟨_, rfl, rfl, (by repeat (first | exact below_of_grow _ _ | exact Below.refl _ _ | exact below_more _ _ _ _ | (simp only [← Array.append_assoc]; first | exact below_more _ _ _ _ | exact below_same _ _ _ | exact Below.refl _ _) | exact below_same _ _ _ | (refine Below.alloc ?_ (by first | (simp; done) | (simp; omega)) _) | (refine Below.grow ?_ (by first | (simp; done) | (simp; omega)) _ _) | refine Below.drew ?_ | refine Below.drewN ?_ _ | (refine Below.putF ?_ (by first | (simp; done) | omega | (simp; omega)) _) | (refine Below.setCell ?_ (by first | (simp; done) | (simp; omega)) _))), fun h => by cases h⟩
                  case o2 =>
                    intro x w1 hH K hK
                    have e112 : x 112 = _ := hH.holds 1 (by decide) (by decide +kernel) 112 rfl
                    obtain ⟨xs, d, rfl⟩ := grow_of_below hH.below
                    clear hH
                    try simp only [World.grow_drew] at hK ⊢
                    try simp only [World.grow_grow] at hK ⊢
                    simp only [e112] at hK ⊢
                    clear e112
                    go_simp
                    go_wp2_with fail
                    exact ⟨_, rfl, rfl, (by repeat (first | exact below_of_grow _ _ | exact Below.refl _ _ | exact below_more _ _ _ _ | (simp only [← Array.append_assoc]; first | exact below_more _ _ _ _ | exact below_same _ _ _ | exact Below.refl _ _) | exact below_same _ _ _ | (refine Below.alloc ?_ (by first | (simp; done) | (simp; omega)) _) | (refine Below.grow ?_ (by first | (simp; done) | (simp; omega)) _ _) | refine Below.drew ?_ | refine Below.drewN ?_ _ | (refine Below.putF ?_ (by first | (simp; done) | omega | (simp; omega)) _) | (refine Below.setCell ?_ (by first | (simp; done) | (simp; omega)) _))), fun h => by cases h⟩
                  case o3 =>
                    intro x w1 hH K hK
                    obtain ⟨xs, d, rfl⟩ := grow_of_below hH.below
                    clear hH
                    try simp only [World.grow_drew] at hK ⊢
                    try simp only [World.grow_grow] at hK ⊢
                    go_simp
                    go_wp2_with fail
                    exact ⟨_, rfl, rfl, (by repeat (first | exact below_of_grow _ _ | exact Below.refl _ _ | exact below_more _ _ _ _ | (simp only [← Array.append_assoc]; first | exact below_more _ _ _ _ | exact below_same _ _ _ | exact Below.refl _ _) | exact below_same _ _ _ | (refine Below.alloc ?_ (by first | (simp; done) | (simp; omega)) _) | (refine Below.grow ?_ (by first | (simp; done) | (simp; omega)) _ _) | refine Below.drew ?_ | refine Below.drewN ?_ _ | (refine Below.putF ?_ (by first | (simp; done) | omega | (simp; omega)) _) | (refine Below.setCell ?_ (by first | (simp; done) | (simp; omega)) _))), fun h => by cases h⟩
                  case o4 =>
                    intro x w1 hH K hK
                    obtain ⟨xs, d, rfl⟩ := grow_of_below hH.below
                    clear hH
                    try simp only [World.grow_drew] at hK ⊢
                    try simp only [World.grow_grow] at hK ⊢
                    go_simp
                    go_wp2_with fail
                    exact ⟨_, rfl, rfl, (by repeat (first | exact below_of_grow _ _ | exact Below.refl _ _ | exact below_more _ _ _ _ | (simp only [← Array.append_assoc]; first | exact below_more _ _ _ _ | exact below_same _ _ _ | exact Below.refl _ _) | exact below_same _ _ _ | (refine Below.alloc ?_ (by first | (simp; done) | (simp; omega)) _) | (refine Below.grow ?_ (by first | (simp; done) | (simp; omega)) _ _) | refine Below.drew ?_ | refine Below.drewN ?_ _ | (refine Below.putF ?_ (by first | (simp; done) | omega | (simp; omega)) _) | (refine Below.setCell ?_ (by first | (simp; done) | (simp; omega)) _))), fun h => by cases h⟩
                  case o5 =>
                    intro x w1 hH K hK
                    have e114 : x 114 = _ := hH.holds 3 (by decide) (by decide +kernel) 114 rfl
                    have e115 : x 115 = _ := hH.holds 4 (by decide) (by decide +kernel) 115 rfl
                    obtain ⟨xs, d, rfl⟩ := grow_of_below hH.below
                    clear hH
                    try simp only [World.grow_drew] at hK ⊢
                    try simp only [World.grow_grow] at hK ⊢
                    simp only [e114, e115] at hK ⊢
                    clear e114 e115
                    go_simp
                    go_wp2_with fail
                    exact ⟨_, rfl, rfl, (by repeat (first | exact below_of_grow _ _ | exact Below.refl _ _ | exact below_more _ _ _ _ | (simp only [← Array.append_assoc]; first | exact below_more _ _ _ _ | exact below_same _ _ _ | exact Below.refl _ _) | exact below_same _ _ _ | (refine Below.alloc ?_ (by first | (simp; done) | (simp; omega)) _) | (refine Below.grow ?_ (by first | (simp; done) | (simp; omega)) _ _) | refine Below.drew ?_ | refine Below.drewN ?_ _ | (refine Below.putF ?_ (by first | (simp; done) | omega | (simp; omega)) _) | (refine Below.setCell ?_ (by first | (simp; done) | (simp; omega)) _))), fun h => by cases h⟩
                  case o6 =>
                    intro x w1 hH K hK
                    have e116 : x 116 = _ := hH.holds 5 (by decide) (by decide +kernel) 116 rfl
                    obtain ⟨xs, d, rfl⟩ := grow_of_below hH.below
                    clear hH
                    try simp only [World.grow_drew] at hK ⊢
                    try simp only [World.grow_grow] at hK ⊢
                    simp only [e116] at hK ⊢
                    clear e116
                    go_simp
                    go_wp2_with fail
                    exact ⟨_, rfl, rfl, (by repeat (first | exact below_of_grow _ _ | exact Below.refl _ _ | exact below_more _ _ _ _ | (simp only [← Array.append_assoc]; first | exact below_more _ _ _ _ | exact below_same _ _ _ | exact Below.refl _ _) | exact below_same _ _ _ | (refine Below.alloc ?_ (by first | (simp; done) | (simp; omega)) _) | (refine Below.grow ?_ (by first | (simp; done) | (simp; omega)) _ _) | refine Below.drew ?_ | refine Below.drewN ?_ _ | (refine Below.putF ?_ (by first | (simp; done) | omega | (simp; omega)) _) | (refine Below.setCell ?_ (by first | (simp; done) | (simp; omega)) _))), fun h => by cases h⟩
                  case o7 =>
                    intro x w1 hH K hK
                    have e117 : x 117 = _ := hH.holds 6 (by decide) (by decide +kernel) 117 rfl
                    obtain ⟨xs, d, rfl⟩ := grow_of_below hH.below
                    clear hH
                    try simp only [World.grow_drew] at hK ⊢
                    try simp only [World.grow_grow] at hK ⊢
                    simp only [e117] at hK ⊢
                    clear e117
                    go_simp
                    go_wp2_with fail
                    exact ⟨_, rfl, rfl, (by repeat (first | exact below_of_grow _ _ | exact Below.refl _ _ | exact below_more _ _ _ _ | (simp only [← Array.append_assoc]; first | exact below_more _ _ _ _ | exact below_same _ _ _ | exact Below.refl _ _) | exact below_same _ _ _ | (refine Below.alloc ?_ (by first | (simp; done) | (simp; omega)) _) | (refine Below.grow ?_ (by first | (simp; done) | (simp; omega)) _ _) | refine Below.drew ?_ | refine Below.drewN ?_ _ | (refine Below.putF ?_ (by first | (simp; done) | omega | (simp; omega)) _) | (refine Below.setCell ?_ (by first | (simp; done) | (simp; omega)) _))), fun h => by cases h⟩
                  case o8 =>
                    intro x w1 hH K hK
                    have e117 : x 117 = _ := hH.holds 6 (by decide) (by decide +kernel) 117 rfl
                    have e118 : x 118 = _ := hH.holds 7 (by decide) (by decide +kernel) 118 rfl
                    obtain ⟨xs, d, rfl⟩ := grow_of_below hH.below
                    clear hH
                    try simp only [World.grow_drew] at hK ⊢
                    try simp only [World.grow_grow] at hK ⊢
                    simp only [e117, e118] at hK ⊢
                    clear e117 e118
                    go_simp
                    go_wp2_with fail
                    exact ⟨_, rfl, rfl, (by repeat (first | exact below_of_grow _ _ | exact Below.refl _ _ | exact below_more _ _ _ _ | (simp only [← Array.append_assoc]; first | exact below_more _ _ _ _ | exact below_same _ _ _ | exact Below.refl _ _) | exact below_same _ _ _ | (refine Below.alloc ?_ (by first | (simp; done) | (simp; omega)) _) | (refine Below.grow ?_ (by first | (simp; done) | (simp; omega)) _ _) | refine Below.drew ?_ | refine Below.drewN ?_ _ | (refine Below.putF ?_ (by first | (simp; done) | omega | (simp; omega)) _) | (refine Below.setCell ?_ (by first | (simp; done) | (simp; omega)) _))), fun h => by cases h⟩
                  case o9 =>
                    intro x w1 hH K hK
                    have e117 : x 117 = _ := hH.holds 6 (by decide) (by decide +kernel) 117 rfl
                    obtain ⟨xs, d, rfl⟩ := grow_of_below hH.below
                    clear hH
                    try simp only [World.grow_drew] at hK ⊢
                    try simp only [World.grow_grow] at hK ⊢
                    simp only [e117] at hK ⊢
                    clear e117
                    go_simp
                    go_wp2_with fail
                    exact ⟨_, rfl, rfl, (by repeat (first | exact below_of_grow _ _ | exact Below.refl _ _ | exact below_more _ _ _ _ | (simp only [← Array.append_assoc]; first | exact below_more _ _ _ _ | exact below_same _ _ _ | exact Below.refl _ _) | exact below_same _ _ _ | (refine Below.alloc ?_ (by first | (simp; done) | (simp; omega)) _) | (refine Below.grow ?_ (by first | (simp; done) | (simp; omega)) _ _) | refine Below.drew ?_ | refine Below.drewN ?_ _ | (refine Below.putF ?_ (by first | (simp; done) | omega | (simp; omega)) _) | (refine Below.setCell ?_ (by first | (simp; done) | (simp; omega)) _))), fun h => by cases h⟩
                  case o10 =>
                    intro x w1 hH K hK
                    have e117 : x 117 = _ := hH.holds 6 (by decide) (by decide +kernel) 117 rfl
                    have e119 : x 119 = _ := hH.holds 8 (by decide) (by decide +kernel) 119 rfl
                    have e120 : x 120 = _ := hH.holds 9 (by decide) (by decide +kernel) 120 rfl
                    obtain ⟨xs, d, rfl⟩ := grow_of_below hH.below
                    clear hH
                    try simp only [World.grow_drew] at hK ⊢
                    try simp only [World.grow_grow] at hK ⊢
                    simp only [e117, e119, e120] at hK ⊢
                    clear e117 e119 e120
                    go_simp
                    go_wp2_with (refine Gives.use (HMY.out _) ?_; intro ys e)
                    exact ⟨_, rfl, rfl, (by first | exact below_more _ _ _ _ | exact (by repeat (first | exact below_of_grow _ _ | exact Below.refl _ _ | exact below_more _ _ _ _ | (simp only [← Array.append_assoc]; first | exact below_more _ _ _ _ | exact below_same _ _ _ | exact Below.refl _ _) | exact below_same _ _ _ | (refine Below.alloc ?_ (by first | (simp; done) | (simp; omega)) _) | (refine Below.grow ?_ (by first | (simp; done) | (simp; omega)) _ _) | refine Below.drew ?_ | refine Below.drewN ?_ _ | (refine Below.putF ?_ (by first | (simp; done) | omega | (simp; omega)) _) | (refine Below.setCell ?_ (by first | (simp; done) | (simp; omega)) _)))), fun h => by cases h⟩
                  case o11 =>
                    intro x w1 hH K hK
                    have e117 : x 117 = _ := hH.holds 6 (by decide) (by decide +kernel) 117 rfl
                    have e121 : x 121 = _ := hH.holds 10 (by decide) (by decide +kernel) 121 rfl
                    obtain ⟨xs, d, rfl⟩ := grow_of_below hH.below
                    clear hH
                    try simp only [World.grow_drew] at hK ⊢
                    try simp only [World.grow_grow] at hK ⊢
                    simp only [e117, e121] at hK ⊢
                    clear e117 e121
                    go_simp
                    go_wp2_with fail
                    exact ⟨_, rfl, rfl, (by repeat (first | exact below_of_grow _ _ | exact Below.refl _ _ | exact below_more _ _ _ _ | (simp only [← Array.append_assoc]; first | exact below_more _ _ _ _ | exact below_same _ _ _ | exact Below.refl _ _) | exact below_same _ _ _ | (refine Below.alloc ?_ (by first | (simp; done) | (simp; omega)) _) | (refine Below.grow ?_ (by first | (simp; done) | (simp; omega)) _ _) | refine Below.drew ?_ | refine Below.drewN ?_ _ | (refine Below.putF ?_ (by first | (simp; done) | omega | (simp; omega)) _) | (refine Below.setCell ?_ (by first | (simp; done) | (simp; omega)) _))), fun h => by cases h⟩
                  case o12 =>
                    intro x w1 hH K hK
                    have e113 : x 113 = _ := hH.holds 2 (by decide) (by decide +kernel) 113 rfl
                    have e122 : x 122 = _ := hH.holds 11 (by decide) (by decide +kernel) 122 rfl
                    obtain ⟨xs, d, rfl⟩ := grow_of_below hH.below
                    clear hH
                    try simp only [World.grow_drew] at hK ⊢
                    try simp only [World.grow_grow] at hK ⊢
                    simp only [e113, e122] at hK ⊢
                    clear e113 e122
                    go_simp
                    go_wp2_with fail
                    exact ⟨_, rfl, rfl, (by repeat (first | exact below_of_grow _ _ | exact Below.refl _ _ | exact below_more _ _ _ _ | (simp only [← Array.append_assoc]; first | exact below_more _ _ _ _ | exact below_same _ _ _ | exact Below.refl _ _) | exact below_same _ _ _ | (refine Below.alloc ?_ (by first | (simp; done) | (simp; omega)) _) | (refine Below.grow ?_ (by first | (simp; done) | (simp; omega)) _ _) | refine Below.drew ?_ | refine Below.drewN ?_ _ | (refine Below.putF ?_ (by first | (simp; done) | omega | (simp; omega)) _) | (refine Below.setCell ?_ (by first | (simp; done) | (simp; omega)) _))), fun h => by cases h⟩
                case hend =>
                  intro x w1 hH
                  have e111 : x 111 = _ := hH.holds 0 (by decide) trivial 111 rfl
                  have e112 : x 112 = _ := hH.holds 1 (by decide) trivial 112 rfl
                  have e113 : x 113 = _ := hH.holds 2 (by decide) trivial 113 rfl
                  have e114 : x 114 = _ := hH.holds 3 (by decide) trivial 114 rfl
                  have e115 : x 115 = _ := hH.holds 4 (by decide) trivial 115 rfl
                  have e116 : x 116 = _ := hH.holds 5 (by decide) trivial 116 rfl
                  have e117 : x 117 = _ := hH.holds 6 (by decide) trivial 117 rfl
                  have e118 : x 118 = _ := hH.holds 7 (by decide) trivial 118 rfl
                  have e119 : x 119 = _ := hH.holds 8 (by decide) trivial 119 rfl
                  have e120 : x 120 = _ := hH.holds 9 (by decide) trivial 120 rfl
                  have e121 : x 121 = _ := hH.holds 10 (by decide) trivial 121 rfl
                  have e122 : x 122 = _ := hH.holds 11 (by decide) trivial 122 rfl
                  have e123 : x 123 = _ := hH.holds 12 (by decide) trivial 123 rfl
                  obtain ⟨xs, d, rfl⟩ := grow_of_below hH.below
                  clear hH
                  simp only [e111, e112, e113, e114, e115, e116, e117, e118, e119, e120, e121, e122, e123]; clear e111 e112 e113 e114 e115 e116 e117 e118 e119 e120 e121 e122 e123
                  simp only [List.drop_succ_cons, List.drop_nil]
                  go_wp2_with fail
                  go_roundw
                  case rel => exact ⟨i + 1, by omega, by omega, by go_num, Lib.hid ⟨H5.out.1.trans (But.of_below (below_of_grow xs d) _), _, (World.grow_heap xs d _ lm5).trans H5.out.2.1, H5.out.2.2.1, H5.out.2.2.2⟩⟩
                  case measure => simp [intOf]; omega
            · have h5 := hW5 ▸ heap_set5 (i := i) (xs := xs1) (d := d1) (v := .bool false) lmb HW.out.2.1
              have hup := set_upto HW.out.2.2.1 hi1 hli HW.out.2.2.2.2 HW.out.2.2.2.1
              have c5 := ((cells_is h5.1 i).1).trans (Array.getElem?_setIfInBounds_self_of_lt (by rw [HW.out.2.2.1]; omega))
              have lm5 : mb < W5.heap.size := lt_of_heap h5.1
              have H5 := Lib.hid (And.intro (HW.out.1.trans h5.2) (And.intro h5.1 hup))
              have HMV := Lib.hid hmv
              have HMY := Lib.hid (may_gives m.toNat i)
              clear hW5 h5 hup hmv HC HW c0 c1 cm fm lsb lmb
              by_cases hab : a = b
              · have := HMV.out
                unfold mayA at this
                rw [if_pos hab] at this
                cases this
              · have hq : ¬ (a.toNat : Int) = (b.toNat : Int) := fun e => hab (UInt8.toNat_inj.1 (by omega))
                have hq' : ((a.toNat : Int) == (b.toNat : Int)) = false := beq_eq_false_iff_ne.2 hq
                have hmy := HMV.out
                unfold mayA at hmy
                rw [if_neg hab] at hmy
                rw [hmy] at HMY
                clear hab hmy HMV
                have hwm : IntKind.i64.wrap (m.toNat : Int) = m.toNat := by rw [IntWalk.i64_in _ (by omega)]
                apply wp_region_specs (by rfl) [.val _, .val _, .val _, .val _, .val _, .val _, .val _, .val _, .val _, .val _, .val _, .val _, .val _] 13 (by rfl) [111, 112, 113, 114, 115, 116, 117, 118, 119, 120, 121, 122, 123] [] [] (by rfl) (by rfl) (by decide) (by decide +kernel) (fun _ _ _ _ _ h => h)
                case hF => intro x; simp only [over, List.foldl_cons, List.foldl_nil, List.setIfInBounds_toArray, List.set_cons_succ, List.set_cons_zero]; exact rfl
                case hops =>
                  refine ⟨?o0, ?o1, ?o2, ?o3, ?o4, ?o5, ?o6, ?o7, ?o8, ?o9, ?o10, ?o11, ?o12, trivial⟩
                  case o0 =>
                    intro x w1 hH K hK
                    obtain ⟨xs, d, rfl⟩ := grow_of_below hH.below
                    clear hH
                    try simp only [World.grow_drew] at hK ⊢
                    try simp only [World.grow_grow] at hK ⊢
                    go_simp
                    go_wp2_with fail
                    exact ⟨_, rfl, rfl, (by repeat (first | exact below_of_grow _ _ | exact Below.refl _ _ | exact below_more _ _ _ _ | (simp only [← Array.append_assoc]; first | exact below_more _ _ _ _ | exact below_same _ _ _ | exact Below.refl _ _) | exact below_same _ _ _ | (refine Below.alloc ?_ (by first | (simp; done) | (simp; omega)) _) | (refine Below.grow ?_ (by first | (simp; done) | (simp; omega)) _ _) | refine Below.drew ?_ | refine Below.drewN ?_ _ | (refine Below.putF ?_ (by first | (simp; done) | omega | (simp; omega)) _) | (refine Below.setCell ?_ (by first | (simp; done) | (simp; omega)) _))), fun h => by cases h⟩
                  case o1 =>
                    intro x w1 hH K hK
                    have e111 : x 111 = _ := hH.holds 0 (by decide) (by decide +kernel) 111 rfl
                    obtain ⟨xs, d, rfl⟩ := grow_of_below hH.below
                    clear hH
                    try simp only [World.grow_drew] at hK ⊢
                    try simp only [World.grow_grow] at hK ⊢
                    simp only [e111] at hK ⊢
                    clear e111
                    go_simp
                    go_wp2_with fail
                    exact ⟨_, rfl, rfl, (by repeat (first | exact below_of_grow _ _ | exact Below.refl _ _ | exact below_more _ _ _ _ | (simp only [← Array.append_assoc]; first | exact below_more _ _ _ _ | exact below_same _ _ _ | exact Below.refl _ _) | exact below_same _ _ _ | (refine Below.alloc ?_ (by first | (simp; done) | (simp; omega)) _) | (refine Below.grow ?_ (by first | (simp; done) | (simp; omega)) _ _) | refine Below.drew ?_ | refine Below.drewN ?_ _ | (refine Below.putF ?_ (by first | (simp; done) | omega | (simp; omega)) _) | (refine Below.setCell ?_ (by first | (simp; done) | (simp; omega)) _))), fun h => by cases h⟩
                  case o2 =>
                    intro x w1 hH K hK
                    have e112 : x 112 = _ := hH.holds 1 (by decide) (by decide +kernel) 112 rfl
                    obtain ⟨xs, d, rfl⟩ := grow_of_below hH.below
                    clear hH
                    try simp only [World.grow_drew] at hK ⊢
                    try simp only [World.grow_grow] at hK ⊢
                    simp only [e112] at hK ⊢
                    clear e112
                    go_simp
                    go_wp2_with fail
                    exact ⟨_, rfl, rfl, (by repeat (first | exact below_of_grow _ _ | exact Below.refl _ _ | exact below_more _ _ _ _ | (simp only [← Array.append_assoc]; first | exact below_more _ _ _ _ | exact below_same _ _ _ | exact Below.refl _ _) | exact below_same _ _ _ | (refine Below.alloc ?_ (by first | (simp; done) | (simp; omega)) _) | (refine Below.grow ?_ (by first | (simp; done) | (simp; omega)) _ _) | refine Below.drew ?_ | refine Below.drewN ?_ _ | (refine Below.putF ?_ (by first | (simp; done) | omega | (simp; omega)) _) | (refine Below.setCell ?_ (by first | (simp; done) | (simp; omega)) _))), fun h => by cases h⟩
                  case o3 =>
                    intro x w1 hH K hK
                    obtain ⟨xs, d, rfl⟩ := grow_of_below hH.below
                    clear hH
                    try simp only [World.grow_drew] at hK ⊢
                    try simp only [World.grow_grow] at hK ⊢
                    go_simp
                    go_wp2_with fail
                    exact ⟨_, rfl, rfl, (by repeat (first | exact below_of_grow _ _ | exact Below.refl _ _ | exact below_more _ _ _ _ | (simp only [← Array.append_assoc]; first | exact below_more _ _ _ _ | exact below_same _ _ _ | exact Below.refl _ _) | exact below_same _ _ _ | (refine Below.alloc ?_ (by first | (simp; done) | (simp; omega)) _) | (refine Below.grow ?_ (by first | (simp; done) | (simp; omega)) _ _) | refine Below.drew ?_ | refine Below.drewN ?_ _ | (refine Below.putF ?_ (by first | (simp; done) | omega | (simp; omega)) _) | (refine Below.setCell ?_ (by first | (simp; done) | (simp; omega)) _))), fun h => by cases h⟩
                  case o4 =>
                    intro x w1 hH K hK
                    obtain ⟨xs, d, rfl⟩ := grow_of_below hH.below
                    clear hH
                    try simp only [World.grow_drew] at hK ⊢
                    try simp only [World.grow_grow] at hK ⊢
                    go_simp
                    go_wp2_with fail
                    exact ⟨_, rfl, rfl, (by repeat (first | exact below_of_grow _ _ | exact Below.refl _ _ | exact below_more _ _ _ _ | (simp only [← Array.append_assoc]; first | exact below_more _ _ _ _ | exact below_same _ _ _ | exact Below.refl _ _) | exact below_same _ _ _ | (refine Below.alloc ?_ (by first | (simp; done) | (simp; omega)) _) | (refine Below.grow ?_ (by first | (simp; done) | (simp; omega)) _ _) | refine Below.drew ?_ | refine Below.drewN ?_ _ | (refine Below.putF ?_ (by first | (simp; done) | omega | (simp; omega)) _) | (refine Below.setCell ?_ (by first | (simp; done) | (simp; omega)) _))), fun h => by cases h⟩
                  case o5 =>
                    intro x w1 hH K hK
                    have e114 : x 114 = _ := hH.holds 3 (by decide) (by decide +kernel) 114 rfl
                    have e115 : x 115 = _ := hH.holds 4 (by decide) (by decide +kernel) 115 rfl
                    obtain ⟨xs, d, rfl⟩ := grow_of_below hH.below
                    clear hH
                    try simp only [World.grow_drew] at hK ⊢
                    try simp only [World.grow_grow] at hK ⊢
                    simp only [e114, e115] at hK ⊢
                    clear e114 e115
                    go_simp
                    go_wp2_with fail
                    exact ⟨_, rfl, rfl, (by repeat (first | exact below_of_grow _ _ | exact Below.refl _ _ | exact below_more _ _ _ _ | (simp only [← Array.append_assoc]; first | exact below_more _ _ _ _ | exact below_same _ _ _ | exact Below.refl _ _) | exact below_same _ _ _ | (refine Below.alloc ?_ (by first | (simp; done) | (simp; omega)) _) | (refine Below.grow ?_ (by first | (simp; done) | (simp; omega)) _ _) | refine Below.drew ?_ | refine Below.drewN ?_ _ | (refine Below.putF ?_ (by first | (simp; done) | omega | (simp; omega)) _) | (refine Below.setCell ?_ (by first | (simp; done) | (simp; omega)) _))), fun h => by cases h⟩
                  case o6 =>
                    intro x w1 hH K hK
                    have e116 : x 116 = _ := hH.holds 5 (by decide) (by decide +kernel) 116 rfl
                    obtain ⟨xs, d, rfl⟩ := grow_of_below hH.below
                    clear hH
                    try simp only [World.grow_drew] at hK ⊢
                    try simp only [World.grow_grow] at hK ⊢
                    simp only [e116] at hK ⊢
                    clear e116
                    go_simp
                    go_wp2_with fail
                    exact ⟨_, rfl, rfl, (by repeat (first | exact below_of_grow _ _ | exact Below.refl _ _ | exact below_more _ _ _ _ | (simp only [← Array.append_assoc]; first | exact below_more _ _ _ _ | exact below_same _ _ _ | exact Below.refl _ _) | exact below_same _ _ _ | (refine Below.alloc ?_ (by first | (simp; done) | (simp; omega)) _) | (refine Below.grow ?_ (by first | (simp; done) | (simp; omega)) _ _) | refine Below.drew ?_ | refine Below.drewN ?_ _ | (refine Below.putF ?_ (by first | (simp; done) | omega | (simp; omega)) _) | (refine Below.setCell ?_ (by first | (simp; done) | (simp; omega)) _))), fun h => by cases h⟩
                  case o7 =>
                    intro x w1 hH K hK
                    have e117 : x 117 = _ := hH.holds 6 (by decide) (by decide +kernel) 117 rfl
                    obtain ⟨xs, d, rfl⟩ := grow_of_below hH.below
                    clear hH
                    try simp only [World.grow_drew] at hK ⊢
                    try simp only [World.grow_grow] at hK ⊢
                    simp only [e117] at hK ⊢
                    clear e117
                    go_simp
                    go_wp2_with fail
                    exact ⟨_, rfl, rfl, (by repeat (first | exact below_of_grow _ _ | exact Below.refl _ _ | exact below_more _ _ _ _ | (simp only [← Array.append_assoc]; first | exact below_more _ _ _ _ | exact below_same _ _ _ | exact Below.refl _ _) | exact below_same _ _ _ | (refine Below.alloc ?_ (by first | (simp; done) | (simp; omega)) _) | (refine Below.grow ?_ (by first | (simp; done) | (simp; omega)) _ _) | refine Below.drew ?_ | refine Below.drewN ?_ _ | (refine Below.putF ?_ (by first | (simp; done) | omega | (simp; omega)) _) | (refine Below.setCell ?_ (by first | (simp; done) | (simp; omega)) _))), fun h => by cases h⟩
                  case o8 =>
                    intro x w1 hH K hK
                    have e117 : x 117 = _ := hH.holds 6 (by decide) (by decide +kernel) 117 rfl
                    have e118 : x 118 = _ := hH.holds 7 (by decide) (by decide +kernel) 118 rfl
                    obtain ⟨xs, d, rfl⟩ := grow_of_below hH.below
                    clear hH
                    try simp only [World.grow_drew] at hK ⊢
                    try simp only [World.grow_grow] at hK ⊢
                    simp only [e117, e118] at hK ⊢
                    clear e117 e118
                    go_simp
                    go_wp2_with fail
                    exact ⟨_, rfl, rfl, (by repeat (first | exact below_of_grow _ _ | exact Below.refl _ _ | exact below_more _ _ _ _ | (simp only [← Array.append_assoc]; first | exact below_more _ _ _ _ | exact below_same _ _ _ | exact Below.refl _ _) | exact below_same _ _ _ | (refine Below.alloc ?_ (by first | (simp; done) | (simp; omega)) _) | (refine Below.grow ?_ (by first | (simp; done) | (simp; omega)) _ _) | refine Below.drew ?_ | refine Below.drewN ?_ _ | (refine Below.putF ?_ (by first | (simp; done) | omega | (simp; omega)) _) | (refine Below.setCell ?_ (by first | (simp; done) | (simp; omega)) _))), fun h => by cases h⟩
                  case o9 =>
                    intro x w1 hH K hK
                    have e117 : x 117 = _ := hH.holds 6 (by decide) (by decide +kernel) 117 rfl
                    obtain ⟨xs, d, rfl⟩ := grow_of_below hH.below
                    clear hH
                    try simp only [World.grow_drew] at hK ⊢
                    try simp only [World.grow_grow] at hK ⊢
                    simp only [e117] at hK ⊢
                    clear e117
                    go_simp
                    go_wp2_with fail
                    exact ⟨_, rfl, rfl, (by repeat (first | exact below_of_grow _ _ | exact Below.refl _ _ | exact below_more _ _ _ _ | (simp only [← Array.append_assoc]; first | exact below_more _ _ _ _ | exact below_same _ _ _ | exact Below.refl _ _) | exact below_same _ _ _ | (refine Below.alloc ?_ (by first | (simp; done) | (simp; omega)) _) | (refine Below.grow ?_ (by first | (simp; done) | (simp; omega)) _ _) | refine Below.drew ?_ | refine Below.drewN ?_ _ | (refine Below.putF ?_ (by first | (simp; done) | omega | (simp; omega)) _) | (refine Below.setCell ?_ (by first | (simp; done) | (simp; omega)) _))), fun h => by cases h⟩
                  case o10 =>
                    intro x w1 hH K hK
                    have e117 : x 117 = _ := hH.holds 6 (by decide) (by decide +kernel) 117 rfl
                    have e119 : x 119 = _ := hH.holds 8 (by decide) (by decide +kernel) 119 rfl
                    have e120 : x 120 = _ := hH.holds 9 (by decide) (by decide +kernel) 120 rfl
                    obtain ⟨xs, d, rfl⟩ := grow_of_below hH.below
                    clear hH
                    try simp only [World.grow_drew] at hK ⊢
                    try simp only [World.grow_grow] at hK ⊢
                    simp only [e117, e119, e120] at hK ⊢
                    clear e117 e119 e120
                    go_simp
                    go_wp2_with (refine Gives.use (HMY.out _) ?_; intro ys e)
                    exact ⟨_, rfl, rfl, (by first | exact below_more _ _ _ _ | exact (by repeat (first | exact below_of_grow _ _ | exact Below.refl _ _ | exact below_more _ _ _ _ | (simp only [← Array.append_assoc]; first | exact below_more _ _ _ _ | exact below_same _ _ _ | exact Below.refl _ _) | exact below_same _ _ _ | (refine Below.alloc ?_ (by first | (simp; done) | (simp; omega)) _) | (refine Below.grow ?_ (by first | (simp; done) | (simp; omega)) _ _) | refine Below.drew ?_ | refine Below.drewN ?_ _ | (refine Below.putF ?_ (by first | (simp; done) | omega | (simp; omega)) _) | (refine Below.setCell ?_ (by first | (simp; done) | (simp; omega)) _)))), fun h => by cases h⟩
                  case o11 =>
                    intro x w1 hH K hK
                    have e117 : x 117 = _ := hH.holds 6 (by decide) (by decide +kernel) 117 rfl
                    have e121 : x 121 = _ := hH.holds 10 (by decide) (by decide +kernel) 121 rfl
                    obtain ⟨xs, d, rfl⟩ := grow_of_below hH.below
                    clear hH
                    try simp only [World.grow_drew] at hK ⊢
                    try simp only [World.grow_grow] at hK ⊢
                    simp only [e117, e121] at hK ⊢
                    clear e117 e121
                    go_simp
                    go_wp2_with fail
                    exact ⟨_, rfl, rfl, (by repeat (first | exact below_of_grow _ _ | exact Below.refl _ _ | exact below_more _ _ _ _ | (simp only [← Array.append_assoc]; first | exact below_more _ _ _ _ | exact below_same _ _ _ | exact Below.refl _ _) | exact below_same _ _ _ | (refine Below.alloc ?_ (by first | (simp; done) | (simp; omega)) _) | (refine Below.grow ?_ (by first | (simp; done) | (simp; omega)) _ _) | refine Below.drew ?_ | refine Below.drewN ?_ _ | (refine Below.putF ?_ (by first | (simp; done) | omega | (simp; omega)) _) | (refine Below.setCell ?_ (by first | (simp; done) | (simp; omega)) _))), fun h => by cases h⟩
                  case o12 =>
                    intro x w1 hH K hK
                    have e113 : x 113 = _ := hH.holds 2 (by decide) (by decide +kernel) 113 rfl
                    have e122 : x 122 = _ := hH.holds 11 (by decide) (by decide +kernel) 122 rfl
                    obtain ⟨xs, d, rfl⟩ := grow_of_below hH.below
                    clear hH
                    try simp only [World.grow_drew] at hK ⊢
                    try simp only [World.grow_grow] at hK ⊢
                    simp only [e113, e122] at hK ⊢
                    clear e113 e122
                    go_simp
                    go_wp2_with fail
                    exact ⟨_, rfl, rfl, (by repeat (first | exact below_of_grow _ _ | exact Below.refl _ _ | exact below_more _ _ _ _ | (simp only [← Array.append_assoc]; first | exact below_more _ _ _ _ | exact below_same _ _ _ | exact Below.refl _ _) | exact below_same _ _ _ | (refine Below.alloc ?_ (by first | (simp; done) | (simp; omega)) _) | (refine Below.grow ?_ (by first | (simp; done) | (simp; omega)) _ _) | refine Below.drew ?_ | refine Below.drewN ?_ _ | (refine Below.putF ?_ (by first | (simp; done) | omega | (simp; omega)) _) | (refine Below.setCell ?_ (by first | (simp; done) | (simp; omega)) _))), fun h => by cases h⟩
                case hend =>
                  intro x w1 hH
                  have e111 : x 111 = _ := hH.holds 0 (by decide) trivial 111 rfl
                  have e112 : x 112 = _ := hH.holds 1 (by decide) trivial 112 rfl
                  have e113 : x 113 = _ := hH.holds 2 (by decide) trivial 113 rfl
                  have e114 : x 114 = _ := hH.holds 3 (by decide) trivial 114 rfl
                  have e115 : x 115 = _ := hH.holds 4 (by decide) trivial 115 rfl
                  have e116 : x 116 = _ := hH.holds 5 (by decide) trivial 116 rfl
                  have e117 : x 117 = _ := hH.holds 6 (by decide) trivial 117 rfl
                  have e118 : x 118 = _ := hH.holds 7 (by decide) trivial 118 rfl
                  have e119 : x 119 = _ := hH.holds 8 (by decide) trivial 119 rfl
                  have e120 : x 120 = _ := hH.holds 9 (by decide) trivial 120 rfl
                  have e121 : x 121 = _ := hH.holds 10 (by decide) trivial 121 rfl
                  have e122 : x 122 = _ := hH.holds 11 (by decide) trivial 122 rfl
                  have e123 : x 123 = _ := hH.holds 12 (by decide) trivial 123 rfl
                  obtain ⟨xs, d, rfl⟩ := grow_of_below hH.below
                  clear hH
                  simp only [e111, e112, e113, e114, e115, e116, e117, e118, e119, e120, e121, e122, e123]; clear e111 e112 e113 e114 e115 e116 e117 e118 e119 e120 e121 e122 e123
                  simp only [List.drop_succ_cons, List.drop_nil]
                  go_wp2_with fail
                  go_roundw
                  case rel => exact ⟨i + 1, by omega, by omega, by go_num, Lib.hid ⟨H5.out.1.trans (But.of_below (below_of_grow xs d) _), _, (World.grow_heap xs d _ lm5).trans H5.out.2.1, H5.out.2.2.1, H5.out.2.2.2⟩⟩
                  case measure => simp [intOf]; omega
          · have hiI : ¬ (i : Int) ≤ 16 := by omega
            have HW := Lib.hid (And.intro hbut (And.intro hc (And.intro hcs hcv)))
            clear hbut hc hcs hcv
            go_wp2_with fail
            go_meet
            exact Lib.hid ⟨HW.out.1, c, HW.out.2.1, HW.out.2.2.1, fun j h1 h2 => HW.out.2.2.2 j h1 (by omega)⟩
      case rest =>
        obtain ⟨hbut, c, hc, hcs, hcv⟩ := hcut.out
        clear hcut
        have hgc := (hbut.same (mb + 1) hgl4 (by simp)).trans H4.out.2.2.2.1
        have hscc := (hbut.same sb (by omega) (by simp; omega)).trans H4.out.2.2.2.2.1
        have hSc : StoreAt wc w.heap.size s G2 := H4.out.2.1.keepAll (fun q hq => hbut.same q (H4.out.2.1.lt q hq) (fun h => by rw [List.mem_singleton.1 h] at hq; exact H4.out.2.2.2.2.2.1 hq)) hbut.size
        have hbc : Below w.heap.size w wc := H4.out.1.trans (hbut.below (by intro q hq; simp at hq; omega) H4.out.1.size)
        have cg := (cells_is hgc 30).1
        have fg := (cells_is hgc 30).2
        have hset := wrtA_set30 ⟨keyK 2 p b, false, recG m⟩ n
        have lgc := lt_of_heap hgc
        have lmc := lt_of_heap hc
        have HC := Lib.hid (And.intro hbc (And.intro hSc (And.intro hgc (And.intro hscc (And.intro hc (And.intro hcs (And.intro hcv hset)))))))
        clear hbut hgc hscc hSc hbc hc hcs hcv hset hgl4 hsl4
        go_upto_region 23 with fail
        refine wp_name ?_
        intro W5 hW5
        have hb5 : ∀ q, q ≠ mb + 1 → W5.heap[q]? = wc.heap[q]? := fun q hq => by rw [hW5]; exact Below.heap_setCell wc ⟨mb + 1, _, none⟩ _ q hq
        have hz5 : W5.heap.size = wc.heap.size := by rw [hW5]; simp
        have hg5 : W5.heap[mb + 1]? = some (.cells (wrtA ⟨keyK 2 p b, false, recG n⟩) 59) := by
          have h1 := set_cells HC.out.2.2.1 30 (.int .u8 n.toNat)
          rw [HC.out.2.2.2.2.2.2.2] at h1
          rw [hW5]; exact h1
        have hsc5 := (hb5 sb (by omega)).trans HC.out.2.2.2.1
        have hm5 := (hb5 mb (by omega)).trans HC.out.2.2.2.2.1
        have hS5 : StoreAt W5 w.heap.size s G2 := HC.out.2.1.keepAll (fun q hq => hb5 q (fun e => H4.out.2.2.2.2.2.2.1 (e ▸ hq))) (by omega)
        have hbw5 : Below w.heap.size w W5 := by rw [hW5]; exact HC.out.1.setCell (p := ⟨mb + 1, _, none⟩) (by show w.heap.size ≤ mb + 1; omega) _
        have hcg5 := cut_heap hg5 (wrtA_size _)
        have lg5 : mb + 1 < W5.heap.size := by omega
        have lS5 := hS5.cells.2.2.2.2.2
        have H5 := Lib.hid (And.intro hbw5 (And.intro hS5 (And.intro hsc5 hm5)))
        have HP := Lib.hid (fun (W : World) (hb : Below W5.heap.size W5 W) (lb : Nat) (hc : W.cut? lb 0 35 = some (wrtA ⟨keyK 2 p b, false, recG n⟩)) (hlb : lb < W.heap.size) (hge : W5.heap.size ≤ lb) =>
          pub_one 3 (by rw [H4.out.2.2.2.2.2.2.2.2.2.2.1]; decide) (hS5.keep hb) H4.out.2.2.2.2.2.2.2.2.2.2.2.1 (by rw [H4.out.2.2.2.2.2.2.2.2.2.2.1]; decide) ⟨by have := H4.out.2.2.2.2.2.2.2.2.2.1; omega, by have := H4.out.2.2.2.2.2.2.2.2.2.1; omega⟩ (wG p b n)
            (pub_ok _ _ _ (checkG p b n hp4 hb16 hn64 (fun e => hm0 (by have h := HNM.out; rw [e] at h; exact or_zero h))) (by have := H4.out.2.2.2.2.2.2.2.2.2.1; omega)) lb hc hlb (fun hm => by have := hS5.lt lb hm; omega))
        clear hW5 hb5 hg5 hsc5 hm5 hS5 hbw5 hz5 cg fg lgc lmc
        go_wp2_with fail
        refine (HP.out _ (by repeat (first | exact below_of_grow _ _ | exact Below.refl _ _ | exact below_more _ _ _ _ | (simp only [← Array.append_assoc]; first | exact below_more _ _ _ _ | exact below_same _ _ _ | exact Below.refl _ _) | exact below_same _ _ _ | (refine Below.alloc ?_ (by first | (simp; done) | (simp; omega)) _) | (refine Below.grow ?_ (by first | (simp; done) | (simp; omega)) _ _) | refine Below.drew ?_ | refine Below.drewN ?_ _ | (refine Below.putF ?_ (by first | (simp; done) | omega | (simp; omega)) _) | (refine Below.setCell ?_ (by first | (simp; done) | (simp; omega)) _))) _ ?_ ?_ ?_).mono ?_
        · exact cut_heap ((heap_al _ _ _).trans (if_pos (by simp))) (wrtA_size _)
        · simp
        · simp
        rintro e W6 ⟨rfl, G3, g1, g2, g3, g4, g5⟩
        have hv3 : versG G3 = fC p a b m n := by rw [g5, H4.out.2.2.2.2.2.2.2.2.1]; rfl
        have hS5 : StoreAt (W5.alloc (.cells (wrtA ⟨keyK 2 p b, false, recG n⟩) 59)) w.heap.size s G2 := H5.out.2.1.keep ((Below.refl _ _).alloc (Nat.le_refl _) _)
        have hb6 : Below w.heap.size w W6 := (H5.out.1.trans (((Below.refl _ W5).alloc (Nat.le_refl _) _).mono H5.out.1.size)).trans (g2.below hS5)
        have keep6 : ∀ q, q < W5.heap.size → q ∉ G2.blocks s → W6.heap[q]? = W5.heap[q]? := fun q hq hn => (g2.1.same q (by simp; omega) hn).trans (heap_alloc_old (w := W5) _ hq)
        have hm6 := (keep6 mb (by omega) H4.out.2.2.2.2.2.1).trans H5.out.2.2.2
        have hsc6 := (keep6 sb (by omega) H4.out.2.2.2.2.2.2.2.1).trans H5.out.2.2.1
        have hinv3 : Inv (versG G3) 1000 G3.last := by
          rw [hv3, g3]
          have q1 := Inv.apply (f := f0) (n := 0) (last := 0) ⟨fun _ => Nat.le_refl _, fun _ => Nat.le_refl _⟩ (a := 1) (by decide) (l := [wP p a]) (by simp)
          have q2 := q1.apply (a := 2) (by decide) (l := [wG p b m]) (by simp)
          have q3 := q2.apply (a := 3) (by decide) (l := [wG p b n]) (by simp)
          exact q3.more (by decide)
        have hsh3 : Short G3 100000 := fun k => Nat.le_trans (hinv3.short k) (by decide)
        have HCK := Lib.hid (fun (W : World) (hb : Below W6.heap.size W6 W) (act : Int) (h : 1 ≤ act ∧ act ≤ 16) => chk_may g1 hb hsh3 hp4 hb16 (r := recG n) (q := true) (hv3 ▸ atC p a b m n) (hv3 ▸ atCg p a b m n) hn64 act h)
        have H6 := Lib.hid (And.intro hb6 (And.intro hm6 hsc6))
        have lm6 := lt_of_heap hm6
        have ls6 := lt_of_heap hsc6
        clear g1 g2 g3 g4 g5 hv3 hS5 hb6 keep6 hm6 hsc6 hinv3 hsh3 HP hcg5 lg5 lS5
        go_wp2_with fail
        go_loopw [22] (fun s22 wr => ∃ i : Nat, 1 ≤ i ∧ i ≤ 17 ∧ s22 = .int .i64 i ∧ ∃ xs d, wr = W6.grow xs d) (fun s22 _ => 17 - (intOf s22).toNat)
        case atStart => exact ⟨1, Nat.le_refl _, by decide, rfl, #[], W6.drawn, World.grow_nil.symm⟩
        case round =>
          obtain ⟨i, hi1, hi17, rfl, xs6, d6, rfl⟩ := hrel
          by_cases hli : i ≤ 16
          · have hiI : (i : Int) ≤ 16 := by omega
            have hi17I : (i : Int) < 17 := by omega
            have hi0I : (0 : Int) ≤ (i : Int) := by omega
            have c0 := (cells_is H6.out.2.2 0).1
            have c1 := (cells_is H6.out.2.2 1).1
            simp only [List.getElem?_toArray, List.getElem?_cons_zero, List.getElem?_cons_succ] at c0 c1
            have cm := ((cells_is H6.out.2.1 i).1).trans (HC.out.2.2.2.2.2.2.1 i hi1 hli)
            have hck := fun (W : World) (hb : Below W6.heap.size W6 W) => HCK.out W hb i (by omega)
            have hcase : mayA a b m i = false ∨ (mayA a b m i = true ∧ mayA a b n i = true) := by
              cases h : mayA a b m i with
              | false => exact .inl rfl
              | true => exact .inr ⟨rfl, mayA_more a b m n k.toNat i HNM.out hn64 h⟩
            have HK := Lib.hid hck
            clear hck
            unfold snapV at HK
            rcases hcase with hq | ⟨hq, hq2⟩
            · rw [hq] at cm
              clear hq HK
              go_wp2_with fail
              go_roundw
              case rel => exact ⟨i + 1, by omega, by omega, by go_num, _, _, rfl⟩
              case measure => simp [intOf]; omega
            · rw [hq] at cm
              have hck := HK.out
              rw [show (recG n).mask = n from rfl] at hck
              simp only [hq2, if_true] at hck
              have HK2 := Lib.hid hck
              clear hq hq2 HK hck
              go_wp2_with fail
              refine Gives.use (HK2.out _ (by repeat (first | exact below_of_grow _ _ | exact Below.refl _ _ | exact below_more _ _ _ _ | (simp only [← Array.append_assoc]; first | exact below_more _ _ _ _ | exact below_same _ _ _ | exact Below.refl _ _) | exact below_same _ _ _ | (refine Below.alloc ?_ (by first | (simp; done) | (simp; omega)) _) | (refine Below.grow ?_ (by first | (simp; done) | (simp; omega)) _ _) | refine Below.drew ?_ | refine Below.drewN ?_ _ | (refine Below.putF ?_ (by first | (simp; done) | omega | (simp; omega)) _) | (refine Below.setCell ?_ (by first | (simp; done) | (simp; omega)) _)))) ?_
              intro xs7 d7
              go_wp2_with fail
              go_roundw
              case rel => exact ⟨i + 1, by omega, by omega, by go_num, _, _, rfl⟩
              case measure => simp [intOf]; omega
          · have hiI : ¬ (i : Int) ≤ 16 := by omega
            go_wp2_with fail
            refine Gives.use (HKN.out _) ?_
            intro xs8 d8
            go_wp2_with fail
            go_ret
            exact ⟨rfl, H6.out.1.trans ((show Below W6.heap.size W6 _ from (by repeat (first | exact below_of_grow _ _ | exact Below.refl _ _ | exact below_more _ _ _ _ | (simp only [← Array.append_assoc]; first | exact below_more _ _ _ _ | exact below_same _ _ _ | exact Below.refl _ _) | exact below_same _ _ _ | (refine Below.alloc ?_ (by first | (simp; done) | (simp; omega)) _) | (refine Below.grow ?_ (by first | (simp; done) | (simp; omega)) _ _) | refine Below.drew ?_ | refine Below.drewN ?_ _ | (refine Below.putF ?_ (by first | (simp; done) | omega | (simp; omega)) _) | (refine Below.setCell ?_ (by first | (simp; done) | (simp; omega)) _)))).mono H6.out.1.size)⟩
end Go.Proofs.YtfgpcflegodlmaaGreatDoor
namespace Go.Proofs.YtfgpcflegodlmaaGreatDoor
set_option maxRecDepth 100000
open Go.RowKit

theorem u8_read {w : World} {v : Value} (h : Reads Tryz.prog w 5 v) : ∃ t : UInt8, v = .int .u8 t.toNat := by
  obtain ⟨n, rfl, _⟩ := h.int Tryz.underlying5
  obtain ⟨t, ht⟩ := FitsAll.u8 (h.flat 1 (ks := [CK.i .u8]) (by kernel_rfl))
  simp [Value.cells] at ht
  exact ⟨t, by rw [ht]⟩
theorem roleMore_law (w : World) (v0 v1 v2 v3 v4 : Value) (h0 : Reads Tryz.prog w 3 v0) (h1 : Reads Tryz.prog w 3 v1) (h2 : Reads Tryz.prog w 3 v2) (h3 : Reads Tryz.prog w 5 v3) (h4 : Reads Tryz.prog w 5 v4) :
    Gives Tryz.prog 5 #[v0, v1, v2, v3, v4] w (.bool true) := by
  obtain ⟨p, rfl, _⟩ := h0.int Tryz.underlying3
  obtain ⟨m, rfl, _⟩ := h1.int Tryz.underlying3
  obtain ⟨u, rfl, _⟩ := h2.int Tryz.underlying3
  obtain ⟨a, rfl⟩ := u8_read h3
  obtain ⟨b, rfl⟩ := u8_read h4
  exact more_walk p m u a b w

namespace roleMore
open Go.ChangeShapes Go.WideShapes Go.ChangeAt Go.RowKit
open Go.ChangeMaps (open_string shut_string)
theorem own : ownKnob Tryz.prog.godebug = none := by kernel_rfl
theorem laidOut : laidOutB Tryz.prog = true := by kernel_rfl
/-- a world in which the listed variables hold what the row says -/
noncomputable def laidW (os : Os) : World := World.laidAll Tryz.prog os Rows.roleMoreRow.laid
set_option maxRecDepth 100000 in
theorem door_met (os : Os) (args : Array Value) : laidMetH Tryz.prog Rows.roleMoreRow.laid ((laidW os).forCall (fun _ _ => 0) ⟨#[], args, []⟩).memory := by
  rw [MakeChecks.laidMetH_plain _ _ _ (by kernel_rfl)]
  exact laidMet_laidAll args (by kernel_rfl) (by kernel_rfl)
set_option maxRecDepth 100000 in
theorem lifted (os : Os) (started : os.Started) (H : Type) (enc : TypeId × Value → H) :
    ReturnsInHanded {} Tryz.checked os 5 .any (fun w args => (Rows.roleMoreSpec.pre enc Tryz.prog Tryz.f5 Rows.roleMoreRow.domain false w args ∧ laidMetH Tryz.prog Rows.roleMoreRow.laid w) ∧ sizedMet enc Tryz.prog Tryz.f5 (OpenSpec.ofChange Rows.roleMoreSpec) false w args) (Rows.roleMoreSpec.post enc Tryz.prog Tryz.f5 false true false false) := by
  refine returnsInHanded_of_change_and (C := Tryz.checked) (X := fun w _ => laidMetH Tryz.prog Rows.roleMoreRow.laid w) (fun _ _ _ hh h => h.of_heap hh) own started (by kernel_rfl) Tryz.func5
    (ChangeSpec.witness_shaped (enc := enc) (C := Tryz.checked) (os := os) (X := fun w _ => laidMetH Tryz.prog Rows.roleMoreRow.laid w) false (laidW os) #[.int .i64 0, .int .i64 0, .int .i64 0, .int .u8 0, .int .u8 0] 8 (World.laidAll_os _ _ _) (World.shaped_of_ZipB (by kernel_rfl) (by kernel_rfl)) (by kernel_rfl) (by kernel_rfl) (by kernel_rfl) (door_met os _)) ?_
  intro W base args ds gs before hval0 hW _ _ _ _
  have hval : ∀ (j : Nat) t v, Tryz.f5.params[j]? = some t → args[j]? = some v → Value.okWide Tryz.prog W .any base t v := hval0
  have hW' := hW
  obtain ⟨p, q, hA0, hV, rfl, hfz, hnd⟩ := hW
  have hA : DataW.TrodAll enc Tryz.prog W 0 (fun _ => true) true Tryz.f5.params.toList args.toList ds p := hA0
  rw [Tryz.params5] at hA hval
  obtain ⟨v0, vs0, d0, ds0, p0, q0, hargs, rfl, rfl, h0, r0⟩ := trodAll_cons hA
  obtain ⟨v1, vs1, d1, ds1, p1, q1, rfl, rfl, rfl, h1, r1⟩ := trodAll_cons r0
  obtain ⟨v2, vs2, d2, ds2, p2, q2, rfl, rfl, rfl, h2, r2⟩ := trodAll_cons r1
  obtain ⟨v3, vs3, d3, ds3, p3, q3, rfl, rfl, rfl, h3, r3⟩ := trodAll_cons r2
  obtain ⟨v4, vs4, d4, ds4, p4, q4, rfl, rfl, rfl, h4, r4⟩ := trodAll_cons r3
  obtain ⟨rfl, rfl, rfl⟩ := trodAll_nil r4
  obtain rfl : args = #[v0, v1, v2, v3, v4] := by cases args; simp_all
  obtain ⟨rfl, rfl⟩ := trodVars_none hV
  have lt0 : ∀ x ∈ p0, x.block < W.heap.size := by obtain ⟨m, hm⟩ := h0; exact DataW.trod_lt m _ _ _ hm
  have lt1 : ∀ x ∈ p1, x.block < W.heap.size := by obtain ⟨m, hm⟩ := h1; exact DataW.trod_lt m _ _ _ hm
  have lt2 : ∀ x ∈ p2, x.block < W.heap.size := by obtain ⟨m, hm⟩ := h2; exact DataW.trod_lt m _ _ _ hm
  have lt3 : ∀ x ∈ p3, x.block < W.heap.size := by obtain ⟨m, hm⟩ := h3; exact DataW.trod_lt m _ _ _ hm
  have lt4 : ∀ x ∈ p4, x.block < W.heap.size := by obtain ⟨m, hm⟩ := h4; exact DataW.trod_lt m _ _ _ hm
  clear hA0 hval0
  refine Calls.mono (roleMore_law W v0 v1 v2 v3 v4 ⟨⟨_, hval 0 3 v0 rfl rfl⟩, H, enc, _, _, h0⟩ ⟨⟨_, hval 1 3 v1 rfl rfl⟩, H, enc, _, _, h1⟩ ⟨⟨_, hval 2 3 v2 rfl rfl⟩, H, enc, _, _, h2⟩ ⟨⟨_, hval 3 5 v3 rfl rfl⟩, H, enc, _, _, h3⟩ ⟨⟨_, hval 4 5 v4 rfl rfl⟩, H, enc, _, _, h4⟩) fun e W' ⟨he, bel⟩ => ?_
  subst he
  exact ⟨_, rfl, _, _, _, [], _, [], hW', trodAll_mk1 (shut_bool Tryz.underlying4 _), (trodAll_cons_mk (Below.trod laidOut (by kernel_rfl) (of_decide_eq_true (by kernel_rfl)) h0 bel lt0) (trodAll_cons_mk (Below.trod laidOut (by kernel_rfl) (of_decide_eq_true (by kernel_rfl)) h1 bel lt1) (trodAll_cons_mk (Below.trod laidOut (by kernel_rfl) (of_decide_eq_true (by kernel_rfl)) h2 bel lt2) (trodAll_cons_mk (Below.trod laidOut (by kernel_rfl) (of_decide_eq_true (by kernel_rfl)) h3 bel lt3) (trodAll_cons_mk (Below.trod laidOut (by kernel_rfl) (of_decide_eq_true (by kernel_rfl)) h4 bel lt4) trodAll_mk0))))), rfl, bel.frame _, fun h => by cases h⟩
theorem said : Rows.RoleMoreSaid :=
  OpenClaim.holds_of_wide 5 Tryz.f5 rfl rfl rfl rfl rfl rfl rfl ⟨rfl, rfl, rfl, rfl, rfl⟩ rfl rfl rfl rfl rfl (by kernel_rfl) Tryz.func5 (by kernel_rfl)
    (of_decide_eq_true (by kernel_rfl)) (by unfold Func.isWrapper; first | (rw [if_pos (by decide +kernel)]; kernel_rfl) | (rw [if_neg (by decide +kernel)]; exact ⟨rfl, rfl⟩))
    (fun os started H enc _ => lifted os started H enc)
/-- no parameter wants a stand-in; the program's own looks are off -/
theorem plain (f : FuncId) (fn : Func) (hf : Tryz.pinned.checked.prog.funcNamed "vulgate/vulgatelaw22.RoleMore" = some f) (hfn : Tryz.pinned.checked.prog.funcs[f]? = some fn) :
    false = Tryz.pinned.checked.prog.looks [] ∧ ∀ (j : Nat) t, fn.params[j]? = some t → Tryz.pinned.checked.prog.wantsStandIn t = false := by
  obtain rfl : f = 5 := Option.some.inj ((show Tryz.prog.funcNamed "vulgate/vulgatelaw22.RoleMore" = some 5 by kernel_rfl).symm.trans hf) |>.symm
  obtain rfl : fn = Tryz.f5 := (Option.some.inj (Tryz.func5.symm.trans hfn)).symm
  refine ⟨by kernel_rfl, fun j t ht => ?_⟩
  rw [Tryz.params5] at ht
  have hm : t ∈ [3, 3, 3, 5, 5] := by simpa using Array.mem_of_getElem? ht
  have hall : ([3, 3, 3, 5, 5].all fun u => !Tryz.prog.wantsStandIn u) = true := by kernel_rfl
  exact (show Tryz.prog.wantsStandIn t = false by simpa using List.all_eq_true.1 hall t hm)
theorem proved : Rows.RoleMoreCardSaid :=
  Claim7.holds_tied_plain_at .later [] _ _ _ _ said (fun _ h => by cases h) (by kernel_rfl) (fun _ h => by cases h) roleMore_row_tie rfl ⟨rfl, rfl⟩ (by kernel_rfl) rfl plain (by kernel_rfl)
#print axioms proved
end roleMore
end Go.Proofs.YtfgpcflegodlmaaGreatDoor

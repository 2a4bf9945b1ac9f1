/- Layer 14: what is seen at a time stays when later writes are published. -/
import Derived.Test.YtcedmfnlkelhkaaGreatDoorQap
import Derived.Test.YtcedmfnlkelhkaaGreatDoorQcg
import Derived.Test.YtcedmfnlkelhkaaGreatDoorQam
namespace Go.Proofs.YtcedmfnlkelhkaaGreatDoor
set_option maxRecDepth 100000
open Go.RowKit

theorem dn_snoc (vs : List Ver) (v : Ver) : dn (vs ++ [v]) (vs ++ [v]).length = (vs.length, v) :: dn vs vs.length := by
 unfold dn
 rw [List.length_append, List.length_singleton, List.range_succ_eq_map, List.map_cons, List.map_map]
 congr 1
 ·simp [List.getD_eq_getElem?_getD]
 ·apply List.map_congr_left
  intro j hj
  rw [List.mem_range] at hj
  simp only [Function.comp]
  rw [show vs.length + 1 - 1 - (j + 1) = vs.length - 1 - j by omega]
  congr 1
  rw [List.getD_eq_getElem?_getD, List.getD_eq_getElem?_getD, List.getElem?_append_left (by omega)]
theorem atV_skip (vs : List Ver) (v : Ver) (t : UInt64) (h : ¬ v.at_ ≤ t) : atV (vs ++ [v]) t = atV vs t := by
 have hs : seenO (vs ++ [v]) t = seenO vs t := by
  unfold seenO
  rw [dn_snoc, List.find?_cons_of_neg (by simpa using h)]
 unfold atV
 rw [hs]
 cases hi : seenO vs t with
 | none => rfl
 | some i =>
  simp only
  have hl := seenO_lt hi
  rw [List.getD_eq_getElem?_getD, List.getElem?_append_left hl, ← List.getD_eq_getElem?_getD]
theorem atV_apply {a : UInt64} {l : List Wr} (hn : (l.map (·.k)).Nodup) (f : K25 → List Ver) (k : K25) (t : UInt64) (h : ¬ a ≤ t) : atV (applyL a f l k) t = atV (f k) t := by
 by_cases hk : k ∈ l.map (·.k)
 ·obtain ⟨x, hx, rfl⟩ := List.mem_map.1 hk
  rw [applyL_one a l f hn x hx, atV_skip _ _ _ (show ¬ (verOf a x).at_ ≤ t from h)]
 ·rw [applyL_other a l f k (fun x hx e => hk (List.mem_map.2 ⟨x, hx, e⟩))]
end Go.Proofs.YtcedmfnlkelhkaaGreatDoor
namespace Go.Proofs.YtcedmfnlkelhkaaGreatDoor
open Go.RowKit

theorem atV_top {vs : List Ver} {t t' : UInt64} (h : (newestN vs).toNat ≤ t.toNat) (ht : t.toNat ≤ t'.toNat) : atV vs t' = atV vs t := by
 rcases List.eq_nil_or_concat vs with rfl | ⟨init, v, rfl⟩
 ·rfl
 ·rw [List.concat_eq_append] at h ⊢
  rw [newest_snoc] at h
  rw [atV_last _ _ _ (UInt64.le_iff_toNat_le.2 h), atV_last _ _ _ (UInt64.le_iff_toNat_le.2 (by omega))]
/-- later, and nothing was written by records of branches, or on the branch itself -/
structure Later (b0 : UInt8) (f : K25 → List Ver) (T : UInt64) (g : K25 → List Ver) (T' : UInt64) : Prop where
 time : T.toNat ≤ T'.toNat
 old : ∀ k, (newestN (f k)).toNat ≤ T.toNat
 seen : ∀ k t, t.toNat ≤ T.toNat → atV (g k) t = atV (f k) t
 same : ∀ k, ((byt k.val 0).toNat < 5 ∨ byt k.val 2 = b0) → g k = f k
theorem Later.refl {b0 : UInt8} {f : K25 → List Ver} {T : UInt64} (h : ∀ k, (newestN (f k)).toNat ≤ T.toNat) : Later b0 f T f T := ⟨Nat.le_refl _, h, fun _ _ _ => rfl, fun _ _ => rfl⟩
/-- what is written apart -/
def apartL (b0 : UInt8) (l : List Wr) : Bool := l.all fun x => decide (5 ≤ (byt x.k.val 0).toNat) && decide (byt x.k.val 2 ≠ b0)
theorem Later.apply {b0 : UInt8} {f g : K25 → List Ver} {T T' a : UInt64} (h : Later b0 f T g T') (ha : a.toNat = T'.toNat + 1) {l : List Wr} (hn : (l.map (·.k)).Nodup) (hl : apartL b0 l = true) : Later b0 f T (applyL a g l) a := by
 refine ⟨by have := h.time; omega, h.old, fun k t ht => ?_, fun k hk => ?_⟩
 ·rw [atV_apply hn g k t (fun hle => by rw [UInt64.le_iff_toNat_le] at hle; have := h.time; omega), h.seen k t ht]
 ·rw [applyL_other a l g k (fun x hx e => ?_), h.same k hk]
  have hx2 := List.all_eq_true.1 hl x hx
  rw [e] at hx2
  simp only [Bool.and_eq_true, decide_eq_true_eq] at hx2
  rcases hk with h1 | h1
  ·omega
  ·exact hx2.2 h1
theorem min_le {a T T' : UInt64} (h : a.toNat ≤ T.toNat) (hT : T.toNat ≤ T'.toNat) : min a T' = a ∧ min a T = a := by
 have h1 : a ≤ T := UInt64.le_iff_toNat_le.2 h
 have h2 : a ≤ T' := UInt64.le_iff_toNat_le.2 (by omega)
 exact ⟨if_pos h2, if_pos h1⟩
theorem Later.read {b0 : UInt8} {f g : K25 → List Ver} {T T' : UInt64} (h : Later b0 f T g T') {l : Lnk} (hl : l.1 = b0 ∨ l.2.toNat ≤ T.toNat) {k : K25} (hk : (byt k.val 0).toNat < 5 ∨ byt k.val 2 = l.1) : readV g T' b0 l k = readV f T b0 l k := by
 unfold readV
 by_cases e : l.1 = b0
 ·rw [if_pos e, if_pos e, h.same k (by rw [← e]; exact hk)]
  exact atV_top (h.old k) h.time
 ·rw [if_neg e, if_neg e]
  have hle := hl.resolve_left e
  obtain ⟨h1, h2⟩ := min_le hle h.time
  rw [h1, h2]
  exact h.seen k _ hle
theorem keyK_0 (a b c : UInt8) : byt (keyK a b c).val 0 = a ∧ byt (keyK a b c).val 2 = c := ⟨rfl, rfl⟩
theorem Later.chain {b0 : UInt8} {f g : K25 → List Ver} {T T' : UInt64} (h : Later b0 f T g T') (p : UInt8) : ∀ (n : Nat) (met : List UInt8) (l : Lnk), (∀ l' ∈ chainV f T p b0 n met l, l'.1 = b0 ∨ l'.2.toNat ≤ T.toNat) → chainV g T' p b0 n met l = chainV f T p b0 n met l
 | 0, _, _, _ => rfl
 | n + 1, met, l, hl => by
  unfold chainV at hl ⊢
  by_cases hm : l.1 ∈ met
  ·rw [if_pos hm, if_pos hm]
  ·rw [if_neg hm] at hl
   rw [if_neg hm, if_neg hm]
   have hll : l.1 = b0 ∨ l.2.toNat ≤ T.toNat := hl l (by split <;> simp)
   have hr : readV g T' b0 l (keyK 4 p l.1) = readV f T b0 l (keyK 4 p l.1) := h.read hll (.inl (by rw [(keyK_0 4 p l.1).1]; decide))
   rw [hr]
   by_cases hc : (readV f T b0 l (keyK 4 p l.1)).2 = false ∨ l.1 = 0
   ·rw [if_pos hc, if_pos hc]
   ·rw [if_neg hc] at hl
    rw [if_neg hc, if_neg hc, h.chain p n _ _ (fun l' hl' => hl l' (List.mem_cons_of_mem _ hl'))]
theorem byteOf_u8 (x : UInt8) : byteOf (x.toNat : Int) = x := by
 have h : ∀ n < 256, byteOf ((UInt8.ofNat n).toNat : Int) = UInt8.ofNat n := by decide +kernel
 have := h x.toNat x.toNat_lt
 rwa [UInt8.ofNat_toNat] at this
theorem keyOf_2 {kd : Int} (hk : kd = 5 ∨ kd = 6) {p b : UInt8} {n t : List UInt8} (he : keyErr kd p.toNat b.toNat n t = 0) : byt (keyOf kd p.toNat b.toNat n t) 2 = b := by
 unfold keyOf keyMade
 rw [if_pos he, if_pos (by rcases hk with rfl | rfl <;> decide)]
 exact byteOf_u8 b
theorem Later.seenV {b0 : UInt8} {f g : K25 → List Ver} {T T' : UInt64} (h : Later b0 f T g T') (p : UInt8) {kd : Int} (hk : kd = 5 ∨ kd = 6) (n t : List UInt8) (hnt : n.length = 12 ∧ t.length = 10) :
  ∀ L : List Lnk, (∀ l ∈ L, l.1 = b0 ∨ l.2.toNat ≤ T.toNat) → seenV g T' p b0 kd n t hnt L = seenV f T p b0 kd n t hnt L
 | [], _ => rfl
 | l :: L, hl => by
  have ih := h.seenV p hk n t hnt L (fun l' hl' => hl l' (List.mem_cons_of_mem _ hl'))
  unfold Go.Proofs.YtcedmfnlkelhkaaGreatDoor.seenV
  by_cases he : keyErr kd p.toNat l.1.toNat n t = 0
  ·rw [if_pos he, if_pos he]
   have hr : readV g T' b0 l (kAtV kd p l n t hnt) = readV f T b0 l (kAtV kd p l n t hnt) := h.read (hl l List.mem_cons_self) (.inr (keyOf_2 hk he))
   rw [hr, ih]
  ·rw [if_neg he, if_neg he]
theorem chainV_len (f : K25 → List Ver) (T : UInt64) (p b0 : UInt8) : ∀ (n : Nat) (met : List UInt8) (l : Lnk), (chainV f T p b0 n met l).length ≤ n
 | 0, _, _ => by simp [chainV]
 | n + 1, met, l => by
  unfold chainV
  split
  ·simp
  ·split
   ·simp
   ·have := chainV_len f T p b0 n (l.1 :: met) ((readV f T b0 l (keyK 4 p l.1)).1.parent, (readV f T b0 l (keyK 4 p l.1)).1.at_)
    simp only [List.length_cons]; omega
theorem chainV_head (f : K25 → List Ver) (T : UInt64) (p b0 : UInt8) (n : Nat) (met : List UInt8) (l : Lnk) : chainV f T p b0 n met l = [] ∨ ∃ u q, chainV f T p b0 n met l = (l.1, u) :: q := by
 cases n with
 | zero => exact .inl rfl
 | succ n =>
  unfold chainV
  split
  ·exact .inl rfl
  ·split
   ·exact .inr ⟨l.2, _, rfl⟩
   ·exact .inr ⟨l.2, _, rfl⟩
end Go.Proofs.YtcedmfnlkelhkaaGreatDoor
namespace Go.Proofs.YtcedmfnlkelhkaaGreatDoor
set_option maxRecDepth 100000
open Go.RowKit

/-- what a store is behind a call of Publish -/
structure NextG (G : SG) (l : List Wr) (G' : SG) : Prop where
 yes : pubE (versG G) G.live l = 0 → checkE l = 0 ∧ (G.last + 1).toNat = G.last.toNat + 1 ∧ G'.last = G.last + 1 ∧ G'.live = G.live + moreI (versG G) l ∧ versG G' = applyL (G.last + 1) (versG G) l
 no : pubE (versG G) G.live l ≠ 0 → G' = G
def timeP (G : SG) (l : List Wr) : Nat := if pubE (versG G) G.live l = 0 then (G.last + 1).toNat else 0
section
variable {w : World} {B s : Nat} {G : SG}
theorem pub_all {n : Nat} (hn : n ≤ 900) (h : StoreAt w B s G) (hf : Fine n G) (lv : Value) (l : List Wr) (hl : SlA w w.heap.size 35 lv (l.map wrtA)) (ho : OutS s G lv) :
  Calls Tryz.prog 36 #[.pointer (some ⟨s, 0, none⟩), lv] w fun e w' => e = .returned (.tuple #[.int .u64 (timeP G l), .int .i64 (pubE (versG G) G.live l)]) ∧ ∃ G', StoreAt w' B s G' ∧ Evo s w G w' G' ∧ Fine (n + 1) G' ∧ NextG G l G' := by
 have hlv : -1000000 ≤ G.live ∧ G.live ≤ 1000000 := by have := hf.low; have := hf.high; omega
 by_cases he : pubE (versG G) G.live l = 0
 ·have hlst := hf.last
  have hl1 : (G.last + 1).toNat = G.last.toNat + 1 := by rw [UInt64.toNat_add]; simp; omega
  have hck : checkE l = 0 := by
   unfold pubE at he
   split at he
   ·rename_i hc; exact hc
   ·exact he
  have hsp := checkE_spec hck
  have hbd := moreI_bound (versG G) l 0
  refine (publish_yes (G.last + 1) hl1 h (hf.inv.more (by omega)) (by omega) hlv lv l hl ho he).mono ?_
  rintro e w' ⟨rfl, G', g1, g2, g3, g4, g5⟩
  have hfun : versG G' = applyL (G.last + 1) (versG G) l := funext g5
  refine ⟨by rw [he]; unfold timeP; rw [if_pos he], G', g1, g2, ⟨?_, ?_, ?_, ?_⟩, ⟨fun _ => ⟨hck, hl1, g3, g4, hfun⟩, fun hne => absurd he hne⟩⟩
  ·rw [hfun, g3]
   exact hf.inv.apply hl1 hsp.2.2
  ·rw [g3]; omega
  ·have := hf.low; rw [g4]; unfold moreI; omega
  ·have := hf.high; rw [g4]; unfold moreI; omega
 ·refine (publish_no h (fun k => Nat.le_trans (hf.inv.short k) (by omega)) hlv lv l hl he).mono ?_
  rintro e w' ⟨rfl, hb⟩
  exact ⟨by unfold timeP; rw [if_neg he]; rfl, G, h.keep hb, Evo.grow G hb, ⟨hf.inv.more (by omega), by have := hf.last; omega, by have := hf.low; omega, by have := hf.high; omega⟩, ⟨fun h0 => absurd h0 he, fun _ => rfl⟩⟩
end
end Go.Proofs.YtcedmfnlkelhkaaGreatDoor
namespace Go.Proofs.YtcedmfnlkelhkaaGreatDoor
open Go.RowKit

section
variable {w : World} {B s : Nat} {G : SG}
theorem slast_gives (h : StoreAt w B s G) : Gives Tryz.prog 20 #[.pointer (some ⟨s, 0, none⟩)] w (.int .u64 G.last.toNat) := by
 obtain ⟨c0, c1, c2, -, -, ls⟩ := h.cells
 clear h
 unfold Gives
 go_enter Tryz.func20, Tryz.ntmps20
 go_wp2_with fail
 go_ret
 exact ⟨rfl, blw⟩
end
end Go.Proofs.YtcedmfnlkelhkaaGreatDoor

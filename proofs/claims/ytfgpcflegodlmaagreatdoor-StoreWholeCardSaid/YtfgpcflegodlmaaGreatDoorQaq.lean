/- Layer 14: how many versions a prefix's keys have. -/
import Derived.Test.YtfgpcflegodlmaaGreatDoorQap
import Derived.Handy
import Derived.Test.YtfgpcflegodlmaaGreatDoorQal
namespace Go.Proofs.YtfgpcflegodlmaaGreatDoor
set_option maxRecDepth 100000
open Go.RowKit Go.Shelf Rd

theorem clen_gives (c : Nat) (vs : List Ver) (w : World) (h : ChainV w w.heap.size (some c) vs) : Gives Tryz.prog 50 #[.pointer (some ⟨c, 0, none⟩)] w (.int .i64 vs.length) := by
  obtain ⟨hl, lv, hc, hsl⟩ := h
  obtain ⟨a, cap, rfl, -, -⟩ := hsl.form
  rw [List.length_map] at *
  have c0 := (cells_is hc 0).1
  simp only [List.getElem?_toArray, List.getElem?_cons_zero] at c0
  clear hc hsl
  unfold Gives
  go_enter Tryz.func50, Tryz.ntmps50
  go_wp2_with fail
  go_ret
  exact ⟨rfl, (by repeat (first | exact below_of_grow _ _ | exact Below.refl _ _ | exact below_more _ _ _ _ | (simp only [← Array.append_assoc]; first | exact below_more _ _ _ _ | exact below_same _ _ _ | exact Below.refl _ _) | exact below_same _ _ _ | (refine Below.alloc ?_ (by first | (simp; done) | (simp; omega)) _) | (refine Below.grow ?_ (by first | (simp; done) | (simp; omega)) _ _) | refine Below.drew ?_ | refine Below.drewN ?_ _ | (refine Below.putF ?_ (by first | (simp; done) | omega | (simp; omega)) _) | (refine Below.setCell ?_ (by first | (simp; done) | (simp; omega)) _)))⟩
/-- how many versions some leaves' keys have -/
def sumV (G : SG) (L : List (Nat × K25 × Nat)) : Nat := (L.map fun x => (versG G x.2.1).length).sum
theorem sumV_more (G : SG) (L : List (Nat × K25 × Nat)) (x : Nat × K25 × Nat) : sumV G (L ++ [x]) = sumV G L + (versG G x.2.1).length := by simp [sumV]
theorem sumV_le {G : SG} (hs : Short G 100000) : ∀ L : List (Nat × K25 × Nat), sumV G L ≤ 100000 * L.length
  | [] => Nat.le_refl _
  | x :: L => by
    have := sumV_le hs L
    have h1 := hs x.2.1
    have e : sumV G (x :: L) = (versG G x.2.1).length + sumV G L := by simp [sumV]
    rw [e, List.length_cons]; omega
/-- what counting has come to -/
structure VersJ (w0 : World) (B s : Nat) (G : SG) (nb M n : Nat) (W : World) : Prop where
  st : StoreAt W B s G
  bn : Boxed W nb 3 (.int .i64 n)
  low : Below w0.heap.size w0 W
  size : M ≤ W.heap.size
section
variable {w0 : World} {B s : Nat} {G : SG} {nb M n : Nat} {W W' : World}
theorem VersJ.below (h : VersJ w0 B s G nb M n W) (hb : Below W.heap.size W W') : VersJ w0 B s G nb M n W' :=
  ⟨h.st.keep hb, h.bn.bel hb, h.low.trans (hb.mono h.low.size), Nat.le_trans h.size hb.size⟩
set_option maxHeartbeats 4000000 in
theorem vers1_calls (hGM : ∀ b ∈ G.blocks s, b < M) (hs : Short G 100000) (hM : nb < M) (h0 : w0.heap.size ≤ nb) (hG : nb ∉ G.blocks s) (hn : n ≤ 9000000000)
    (k : K25) (c : Nat) (hk : getR G.R k = some c) (h : VersJ w0 B s G nb M n W) :
    Calls Tryz.prog 49 #[.agg (row8 k.val), .pointer (some ⟨c, 0, none⟩), .pointer (some ⟨nb, 0, none⟩)] W fun e W' =>
      (∃ v, e = .returned v) ∧ VersJ w0 B s G nb M (n + (versG G k).length) W' ∧ KeepsX (fun _ => true) M W W' := by
  have HL := Lib.hid (fun (V : World) (hb : Below W.heap.size W V) => clen_gives c (versG G k) V (by have := (h.st.keep hb).chainV k; rw [hk] at this; exact this))
  obtain ⟨m, hm⟩ : ∃ m, m = (versG G k).length := ⟨_, rfl⟩
  have hmle : m ≤ 100000 := by rw [hm]; exact hs k
  rw [← hm] at HL ⊢
  have cn := h.bn.cell
  have fn := h.bn.frozen
  have ln := h.bn.lt
  have H := Lib.hid h
  have hwr : IntKind.i64.wrap ((n : Int) + m) = ((n + m : Nat) : Int) := by rw [IntWalk.i64_in _ (by omega)]; omega
  clear h hm
  go_enter Tryz.func49, Tryz.ntmps49
  go_wp2_with fail
  apply wp_region_specs (by rfl) [.val _, .val _, .val _, .val _] 4 (by rfl) [5, 6, 7, 8] [] [] (by rfl) (by rfl) (by decide) (by decide +kernel) (fun _ _ _ _ _ h => h)
  case hF => intro x; simp only [over, List.foldl_cons, List.foldl_nil, List.setIfInBounds_toArray, List.set_cons_succ, List.set_cons_zero]; exact rfl
  case hops =>
    refine ⟨?o0, ?o1, ?o2, ?o3, trivial⟩
    case o0 =>
      intro x w1 hH K hK
      obtain ⟨xs, d, rfl⟩ := grow_of_below hH.below
      clear hH
      try simp only [World.grow_drew] at hK ⊢
      try simp only [World.grow_grow] at hK ⊢
      go_simp
      go_wp2_with fail
      exact ⟨_, rfl, rfl, (by repeat (first | exact below_of_grow _ _ | exact Below.refl _ _ | exact below_more _ _ _ _ | (simp only [← Array.append_assoc]; first | exact below_more _ _ _ _ | exact below_same _ _ _ | exact Below.refl _ _) | exact below_same _ _ _ | (refine Below.alloc ?_ (by first | (simp; done) | (simp; omega)) _) | (refine Below.grow ?_ (by first | (simp; done) | (simp; omega)) _ _) | refine Below.drew ?_ | refine Below.drewN ?_ _ | (refine Below.putF ?_ (by first | (simp; done) | omega | (simp; omega)) _) | (refine Below.setCell ?_ (by first | (simp; done) | (simp; omega)) _))), fun h => by cases h⟩
    case o1 =>
      intro x w1 hH K hK
      obtain ⟨xs, d, rfl⟩ := grow_of_below hH.below
      clear hH
      try simp only [World.grow_drew] at hK ⊢
      try simp only [World.grow_grow] at hK ⊢
      go_simp
      go_wp2_with fail
      exact ⟨_, rfl, rfl, (by repeat (first | exact below_of_grow _ _ | exact Below.refl _ _ | exact below_more _ _ _ _ | (simp only [← Array.append_assoc]; first | exact below_more _ _ _ _ | exact below_same _ _ _ | exact Below.refl _ _) | exact below_same _ _ _ | (refine Below.alloc ?_ (by first | (simp; done) | (simp; omega)) _) | (refine Below.grow ?_ (by first | (simp; done) | (simp; omega)) _ _) | refine Below.drew ?_ | refine Below.drewN ?_ _ | (refine Below.putF ?_ (by first | (simp; done) | omega | (simp; omega)) _) | (refine Below.setCell ?_ (by first | (simp; done) | (simp; omega)) _))), fun h => by cases h⟩
    case o2 =>
      intro x w1 hH K hK
      have e6 : x 6 = _ := hH.holds 1 (by decide) (by decide +kernel) 6 rfl
      obtain ⟨xs, d, rfl⟩ := grow_of_below hH.below
      clear hH
      try simp only [World.grow_drew] at hK ⊢
      try simp only [World.grow_grow] at hK ⊢
      simp only [e6] at hK ⊢
      clear e6
      go_simp
      go_wp2_with (refine Gives.use (HL.out _ (by repeat (first | exact below_of_grow _ _ | exact Below.refl _ _ | exact below_more _ _ _ _ | (simp only [← Array.append_assoc]; first | exact below_more _ _ _ _ | exact below_same _ _ _ | exact Below.refl _ _) | exact below_same _ _ _ | (refine Below.alloc ?_ (by first | (simp; done) | (simp; omega)) _) | (refine Below.grow ?_ (by first | (simp; done) | (simp; omega)) _ _) | refine Below.drew ?_ | refine Below.drewN ?_ _ | (refine Below.putF ?_ (by first | (simp; done) | omega | (simp; omega)) _) | (refine Below.setCell ?_ (by first | (simp; done) | (simp; omega)) _)))) ?_; intro ys e)
      exact ⟨_, rfl, rfl, (by first | exact below_more _ _ _ _ | exact (by repeat (first | exact below_of_grow _ _ | exact Below.refl _ _ | exact below_more _ _ _ _ | (simp only [← Array.append_assoc]; first | exact below_more _ _ _ _ | exact below_same _ _ _ | exact Below.refl _ _) | exact below_same _ _ _ | (refine Below.alloc ?_ (by first | (simp; done) | (simp; omega)) _) | (refine Below.grow ?_ (by first | (simp; done) | (simp; omega)) _ _) | refine Below.drew ?_ | refine Below.drewN ?_ _ | (refine Below.putF ?_ (by first | (simp; done) | omega | (simp; omega)) _) | (refine Below.setCell ?_ (by first | (simp; done) | (simp; omega)) _)))), fun h => by cases h⟩
    case o3 =>
      intro x w1 hH K hK
      have e5 : x 5 = _ := hH.holds 0 (by decide) (by decide +kernel) 5 rfl
      have e7 : x 7 = _ := hH.holds 2 (by decide) (by decide +kernel) 7 rfl
      obtain ⟨xs, d, rfl⟩ := grow_of_below hH.below
      clear hH
      try simp only [World.grow_drew] at hK ⊢
      try simp only [World.grow_grow] at hK ⊢
      simp only [e5, e7] at hK ⊢
      clear e5 e7
      go_simp
      go_wp2_with fail
      exact ⟨_, rfl, rfl, (by repeat (first | exact below_of_grow _ _ | exact Below.refl _ _ | exact below_more _ _ _ _ | (simp only [← Array.append_assoc]; first | exact below_more _ _ _ _ | exact below_same _ _ _ | exact Below.refl _ _) | exact below_same _ _ _ | (refine Below.alloc ?_ (by first | (simp; done) | (simp; omega)) _) | (refine Below.grow ?_ (by first | (simp; done) | (simp; omega)) _ _) | refine Below.drew ?_ | refine Below.drewN ?_ _ | (refine Below.putF ?_ (by first | (simp; done) | omega | (simp; omega)) _) | (refine Below.setCell ?_ (by first | (simp; done) | (simp; omega)) _))), fun h => by cases h⟩
  case hend =>
    intro x w1 hH
    have e5 : x 5 = _ := hH.holds 0 (by decide) trivial 5 rfl
    have e6 : x 6 = _ := hH.holds 1 (by decide) trivial 6 rfl
    have e7 : x 7 = _ := hH.holds 2 (by decide) trivial 7 rfl
    have e8 : x 8 = _ := hH.holds 3 (by decide) trivial 8 rfl
    obtain ⟨xs, d, rfl⟩ := grow_of_below hH.below
    clear hH
    simp only [e5, e6, e7, e8]; clear e5 e6 e7 e8
    simp only [List.drop_succ_cons, List.drop_zero]
    go_wp2_with fail
    go_end0
    obtain ⟨W5, hW5⟩ : ∃ W5, W5 = W.setCell ⟨nb, 0, none⟩ (.int .i64 (n + m : Nat)) := ⟨_, rfl⟩
    rw [show ((n : Int) + (m : Int)) = ((n + m : Nat) : Int) from by omega, ← hW5]
    have n2 : KeepS (fun b => b < M ∧ b ≠ nb) W W5 := by rw [hW5]; exact ⟨rfl, rfl, rfl, by simp, fun b hb => Below.heap_setCell _ _ _ b hb.2⟩
    have h5 : VersJ w0 B s G nb M (n + m) W5 := ⟨StoreAt.turn H.out.st n2 hG hGM, by rw [hW5]; exact H.out.bn.set _, Below.turn H.out.low n2 h0 (by omega), Nat.le_trans H.out.size n2.size⟩
    have k5 : KeepsX (fun _ => true) M W W5 := by rw [hW5]; exact KeepsX.setCell _ hM
    have hb5 : Below W5.heap.size W5 ((W5.alloc (.cells (row8 k.val) 44)).grow xs d) := ((Below.refl _ W5).alloc (Nat.le_refl _) _).grow (by simp) _ _
    exact ⟨⟨_, rfl⟩, h5.below hb5, k5.trans (KeepsX.of_below hb5)⟩
set_option maxHeartbeats 4000000 in
theorem versions_gives (p : K25) (dp : Int) (h : StoreAt W B s G) (hs : Short G 100000) (hlen : (lvs G.R).length ≤ 90000) :
    Gives Tryz.prog 18 #[.pointer (some ⟨s, 0, none⟩), .agg (prefA p dp)] W (.int .i64 (sumV G (prefL p dp G.R))) := by
  have HS := Lib.hid (And.intro h (And.intro hs hlen))
  have hmf : ∀ (fn : Fn) (first cap : Array Value) (w : World), (Instr.makeFunc fn first cap).run Tryz.prog w = .ok (.func fn first cap) w := fun _ _ _ _ => rfl
  clear h hs hlen
  unfold Gives
  go_enter Tryz.func18, Tryz.ntmps18
  go_wp2_with fail
  obtain ⟨W5, hW5⟩ : ∃ W5, W5 = ((W.alloc (.cells (prefA p dp) 52)).alloc (.cells #[.int .i64 0] 3)) := ⟨_, rfl⟩
  rw [← hW5]
  obtain ⟨n, hn⟩ : ∃ n, n = W.heap.size := ⟨_, rfl⟩
  have hb5 : Below W.heap.size W W5 := by rw [hW5]; exact ((Below.refl _ W).alloc (Nat.le_refl _) _).alloc (by simp) _
  have hz5 : W5.heap.size = n + 2 := by rw [hW5, hn]; simp
  have bn : Boxed W5 (n + 1) 3 (.int .i64 (0 : Nat)) := by rw [hW5, hn]; show _ = _; rw [heap_al, if_pos (by simp)]; rfl
  have hS5 := HS.out.1.keep hb5
  have hlow : ∀ b ∈ G.blocks s, b < n := fun b hb => by have := HS.out.1.lt b hb; omega
  have h0 : VersJ W B s G (n + 1) (n + 2) (sumV G []) W5 := ⟨hS5, bn, hb5, by omega⟩
  have he := each_calls (kp := fun _ => true) (fun _ => rfl) p dp 49 #[.pointer (some ⟨n + 1, 0, none⟩)] (enters_of Tryz.func49 (by kernel_rfl) rfl) W5 HS.out.2.2
    (fun pre V => VersJ W B s G (n + 1) (n + 2) (sumV G pre) V) (fun pre V h => h.st) (fun pre V V' h hb => h.below hb)
    (fun pre x V hpx h hV => by
      have hxm : x ∈ prefL p dp G.R := hpx.subset (by simp)
      have hx1 := (List.mem_filter.1 hxm).1
      have hl : sumV G pre ≤ 9000000000 := by
        have h1 := sumV_le HS.out.2.1 pre
        have h2 := hpx.length_le
        have h3 : (prefL p dp G.R).length ≤ (lvs G.R).length := List.length_filter_le _ _
        have := HS.out.2.2
        simp at h2; omega
      have hg : getR G.R x.2.1 = some x.2.2 := by
        cases hR : G.R with
        | none => rw [hR] at hx1; simp [lvs] at hx1
        | some T => rw [hR] at hx1; exact (OkR.get (HS.out.1.tree.2 T hR).2 _ _).2 ⟨x.1, hx1⟩
      rw [sumV_more, hz5]
      exact vers1_calls (fun b hb => by have := hlow b hb; omega) HS.out.2.1 (by omega) (by omega) (fun hm => by have := hlow _ hm; omega) hl x.2.1 x.2.2 hg h) h0
  rw [show W.heap.size + 1 = n + 1 by omega]
  have HE := Lib.hid he
  have HN := Lib.hid hn
  clear he h0 hS5 bn hb5 hlow hW5 hn hz5
  refine HE.out.mono ?_
  rintro e W6 ⟨⟨v, rfl⟩, h6⟩
  have c1 := h6.bn.cell
  have l1 := h6.bn.lt
  have HR := Lib.hid h6.low
  clear h6 HE
  go_wp2_with fail
  go_ret
  exact ⟨rfl, HR.out⟩
end
end Go.Proofs.YtfgpcflegodlmaaGreatDoor
namespace Go.Proofs.YtfgpcflegodlmaaGreatDoor
set_option maxRecDepth 100000
open Go.RowKit

theorem sum_perm {l m : List Nat} (h : l.Perm m) : l.sum = m.sum := by
  induction h with
  | nil => rfl
  | cons x _ ih => simp [ih]
  | swap x y l => simp; omega
  | trans _ _ i1 i2 => exact i1.trans i2
theorem sum_zero {α : Type} {g : α → Nat} : ∀ {l : List α}, (∀ x ∈ l, g x = 0) → (l.map g).sum = 0
  | [], _ => rfl
  | x :: l, h => by simp [h x List.mem_cons_self, sum_zero (l := l) (fun y hy => h y (List.mem_cons_of_mem _ hy))]
/-- a sum over more keys is the same, if the others count for nothing -/
theorem sum_sub {g : K25 → Nat} {K U : List K25} (hK : K.Nodup) (hU : U.Nodup) (hs : ∀ k ∈ K, k ∈ U) (hz : ∀ k ∈ U, k ∉ K → g k = 0) : (U.map g).sum = (K.map g).sum := by
  have hp : U.Perm (K ++ U.filter fun k => decide (k ∉ K)) := by
    rw [List.perm_ext_iff_of_nodup hU]
    · intro k
      rw [List.mem_append, List.mem_filter]
      by_cases hk : k ∈ K
      · simp [hk, hs k hk]
      · simp [hk]
    · rw [List.nodup_append]
      refine ⟨hK, hU.filter _, fun a ha b hb e => ?_⟩
      rw [List.mem_filter] at hb
      subst e
      simp [ha] at hb
  rw [sum_perm (hp.map g), List.map_append, List.sum_append, sum_zero (l := U.filter _), Nat.add_zero]
  intro k hk
  rw [List.mem_filter] at hk
  exact hz k hk.1 (by simpa using hk.2)
theorem sum_add {g h : K25 → Nat} : ∀ U : List K25, (U.map fun k => g k + h k).sum = (U.map g).sum + (U.map h).sum
  | [] => rfl
  | k :: U => by simp [sum_add U]; omega
theorem sum_ind {L : List K25} (hL : L.Nodup) {U : List K25} (hU : U.Nodup) (hs : ∀ k ∈ L, k ∈ U) : (U.map fun k => if k ∈ L then 1 else 0).sum = L.length := by
  rw [sum_sub hL hU hs (fun k _ hk => if_neg hk)]
  have : ∀ M : List K25, (∀ k ∈ M, k ∈ L) → (M.map fun k => if k ∈ L then 1 else 0).sum = M.length := by
    intro M
    induction M with
    | nil => intro _; rfl
    | cons k M ih =>
      intro h
      simp only [List.map_cons, List.sum_cons, List.length_cons]
      rw [if_pos (h k List.mem_cons_self), ih (fun j hj => h j (List.mem_cons_of_mem _ hj))]; omega
  exact this L (fun k hk => hk)
theorem len_apply {a : UInt64} {l : List Wr} (hn : (l.map (·.k)).Nodup) (f : K25 → List Ver) (k : K25) : (applyL a f l k).length = (f k).length + if k ∈ l.map (·.k) then 1 else 0 := by
  by_cases hk : k ∈ l.map (·.k)
  · rw [if_pos hk]
    obtain ⟨x, hx, rfl⟩ := List.mem_map.1 hk
    rw [applyL_one a l f hn x hx]; simp
  · rw [if_neg hk, applyL_other a l f k (fun x hx e => hk (List.mem_map.2 ⟨x, hx, e⟩))]; rfl
section
variable {w w' : World} {B B' s s' : Nat} {G G' : SG}
theorem keys_nodup (h : StoreAt w B s G) : ((lvs G.R).map (·.2.1)).Nodup := by
  cases hR : G.R with
  | none => exact List.nodup_nil
  | some T =>
    have hs : (T.list.map (·.2.1)).Pairwise fun x y => Bef x.val y.val := by
      rw [List.pairwise_map]
      exact list_sorted (f := keyBytes) (h.tree.2 T hR).2
    refine List.Pairwise.imp ?_ hs
    intro a b hab e
    subst e
    exact Bef.irrefl _ hab
theorem keys_all (h : StoreAt w B s G) (k : K25) (hk : k ∉ (lvs G.R).map (·.2.1)) : versG G k = [] := by
  unfold versG
  cases hg : getR G.R k with
  | none => rfl
  | some c =>
    exfalso
    cases hR : G.R with
    | none => rw [hR] at hg; cases hg
    | some T =>
      rw [hR] at hg hk
      obtain ⟨a, ha⟩ := (OkR.get (h.tree.2 T hR).2 _ _).1 hg
      exact hk (List.mem_map.2 ⟨_, ha, rfl⟩)
theorem sumV_keys (G : SG) (L : List (Nat × K25 × Nat)) : sumV G L = ((L.map (·.2.1)).map fun k => (versG G k).length).sum := by unfold sumV; rw [List.map_map]; rfl
theorem total_apply (h : StoreAt w B s G) (h' : StoreAt w' B' s' G') {a : UInt64} {l : List Wr} (hn : (l.map (·.k)).Nodup) (hv : ∀ k, versG G' k = applyL a (versG G) l k) : sumV G' (lvs G'.R) = sumV G (lvs G.R) + l.length := by
  obtain ⟨U, hU, hUm⟩ : ∃ U : List K25, U.Nodup ∧ ∀ k, k ∈ U ↔ k ∈ (lvs G.R).map (·.2.1) ∨ k ∈ (lvs G'.R).map (·.2.1) ∨ k ∈ l.map (·.k) := by
    have h1 : ∀ k, (k ∈ (lvs G.R).map (·.2.1) ++ ((lvs G'.R).map (·.2.1)).filter (fun k => decide (k ∉ (lvs G.R).map (·.2.1)))) ↔ k ∈ (lvs G.R).map (·.2.1) ∨ k ∈ (lvs G'.R).map (·.2.1) := by
      intro k
      rw [List.mem_append, List.mem_filter]
      by_cases hk : k ∈ (lvs G.R).map (·.2.1)
      · simp [hk]
      · simp [hk]
    have n1 : ((lvs G.R).map (·.2.1) ++ ((lvs G'.R).map (·.2.1)).filter (fun k => decide (k ∉ (lvs G.R).map (·.2.1)))).Nodup := by
      rw [List.nodup_append]
      refine ⟨keys_nodup h, (keys_nodup h').filter _, fun x hx y hy e => ?_⟩
      rw [List.mem_filter] at hy
      subst e
      have := hy.2
      simp only [decide_eq_true_eq] at this
      exact this hx
    generalize (lvs G.R).map (·.2.1) ++ ((lvs G'.R).map (·.2.1)).filter (fun k => decide (k ∉ (lvs G.R).map (·.2.1))) = V at *
    refine ⟨V ++ (l.map (·.k)).filter (fun k => decide (k ∉ V)), ?_, fun k => ?_⟩
    · rw [List.nodup_append]
      refine ⟨n1, hn.filter _, fun x hx y hy e => ?_⟩
      rw [List.mem_filter] at hy
      subst e
      have := hy.2
      simp only [decide_eq_true_eq] at this
      exact this hx
    · rw [List.mem_append, List.mem_filter, ← or_assoc, ← h1 k]
      by_cases hk : k ∈ V
      · simp [hk]
      · simp [hk]
  rw [sumV_keys, sumV_keys]
  rw [← sum_sub (g := fun k => (versG G' k).length) (keys_nodup h') hU (fun k hk => (hUm k).2 (.inr (.inl hk))) (fun k _ hk => by simp only [keys_all h' k hk, List.length_nil]),
    ← sum_sub (g := fun k => (versG G k).length) (keys_nodup h) hU (fun k hk => (hUm k).2 (.inl hk)) (fun k _ hk => by simp only [keys_all h k hk, List.length_nil])]
  have e : (fun k => (versG G' k).length) = fun k => (versG G k).length + if k ∈ l.map (·.k) then 1 else 0 := by
    funext k; rw [hv, len_apply hn]
  rw [e, sum_add, sum_ind hn hU (fun k hk => (hUm k).2 (.inr (.inr hk))), List.length_map]
theorem hasB_zero (p k : K25) : hasB p 0 k = true := rfl
theorem prefL_all (R : Option (CT K25)) (p : K25) : prefL p 0 R = lvs R := by
  unfold prefL
  rw [List.filter_eq_self]
  intro x _
  exact hasB_zero _ _
end
end Go.Proofs.YtfgpcflegodlmaaGreatDoor

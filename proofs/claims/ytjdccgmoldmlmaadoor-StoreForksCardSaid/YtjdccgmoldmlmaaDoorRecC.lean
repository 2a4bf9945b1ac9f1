/- Layer 10: is a record right? Layer 12: is a version? -/
import Derived.Test.YtjdccgmoldmlmaaDoorRecV
import Derived.Test.YtjdccgmoldmlmaaDoorBld
import Derived.Handy
namespace Go.Proofs.YtjdccgmoldmlmaaDoor
set_option maxRecDepth 100000
open Go.RowKit

theorem visit3 (r : Rec) (b : Nat) (w : World) (hk : r.kind = 3) (hb : w.heap[b]? = some (.cells (recA r) 44)) :
    Calls Tryd.prog 43 #[.pointer (some ⟨b, 0, none⟩), .agg visA] w fun e w' => e = .returned (.tuple #[]) ∧ w'.heap[b]? = some (.cells (recA (bareR r)) 44) ∧ But [b] w w' := by
  have hbl := (Array.getElem?_eq_some_iff.1 hb).1
  have k0 : w.cell? ⟨b, 0, none⟩ = some (.int .u8 3) := by rw [(cells_is hb 0).1]; simp [recA, recL, hk]
  have HB := Lib.hid hb
  have HK := Lib.hid hk
  clear hb hk
  unfold visA fv
  go_enter Tryd.func43, Tryd.ntmps43
  go_wp2_with fail
  go_end0
  have hbare : bareR r = r := by unfold bareR; simp [HK.out]
  rw [hbare]
  exact ⟨rfl, (Below.heap_alloc _ _ _ hbl).trans HB.out, But.of_below ((Below.refl _ w).alloc (Nat.le_refl _) _) _⟩
theorem kind_cases {k : UInt8} (h : 1 ≤ k.toNat ∧ k.toNat ≤ 6) : k = 1 ∨ k = 2 ∨ k = 3 ∨ k = 4 ∨ k = 5 ∨ k = 6 := by
  have e : ∀ n : Nat, k.toNat = n → n < 256 → k = UInt8.ofNat n := fun n hn hl => UInt8.toNat_inj.1 (by rw [hn, UInt8.toNat_ofNat', Nat.mod_eq_of_lt hl])
  obtain ⟨h1, h2⟩ := h
  rcases (by omega : k.toNat = 1 ∨ k.toNat = 2 ∨ k.toNat = 3 ∨ k.toNat = 4 ∨ k.toNat = 5 ∨ k.toNat = 6) with h | h | h | h | h | h
  · exact .inl (e 1 h (by omega))
  · exact .inr (.inl (e 2 h (by omega)))
  · exact .inr (.inr (.inl (e 3 h (by omega))))
  · exact .inr (.inr (.inr (.inl (e 4 h (by omega)))))
  · exact .inr (.inr (.inr (.inr (.inl (e 5 h (by omega))))))
  · exact .inr (.inr (.inr (.inr (.inr (e 6 h (by omega))))))
theorem visit_calls (r : Rec) (b : Nat) (w : World) (hk : 1 ≤ r.kind.toNat ∧ r.kind.toNat ≤ 6) (hb : w.heap[b]? = some (.cells (recA r) 44)) :
    Calls Tryd.prog 43 #[.pointer (some ⟨b, 0, none⟩), .agg visA] w fun e w' => e = .returned (.tuple #[]) ∧ w'.heap[b]? = some (.cells (recA (bareR r)) 44) ∧ But [b] w w' := by
  rcases kind_cases hk with h | h | h | h | h | h
  · exact visit1 r b w h hb
  · exact visit2 r b w h hb
  · exact visit3 r b w h hb
  · exact visit4 r b w h hb
  · exact visit5 r b w h hb
  · exact visit6 r b w h hb
theorem cut_lay0 {w : World} {n sz : Nat} {c vs : Array Value} {t : TypeId} (h : w.heap[n]? = some (.cells c t)) (hc : c.size = sz) (hv : vs.size = sz) : (w.lay n 0 vs).cut? n 0 sz = some vs := by
  unfold World.cut? World.lay
  simp only [Array.getElem?_modify, h, if_true, Option.map_some]
  rw [splice_full (by omega)]
  simp [hv]
set_option maxHeartbeats 2000000 in
theorem bare_gives (r : Rec) (hk : 1 ≤ r.kind.toNat ∧ r.kind.toNat ≤ 6) (w : World) : Gives Tryd.prog 36 #[.agg (recA r)] w (.agg (recA (bareR r))) := by
  have HV := Lib.hid (fun b w => visit_calls r b w hk)
  unfold Gives
  go_enter Tryd.func36, Tryd.ntmps36
  go_wp2_with fail
  refine (HV.out w.heap.size _ ?_).mono ?_
  · exact (heap_al _ _ _).trans ((if_neg (by simp)).trans ((heap_al _ _ _).trans (if_pos rfl)))
  rintro e W ⟨rfl, hW, hbut⟩
  have c1 : W.cut? w.heap.size 0 9 = some (recA (bareR r)) := by simp [World.cut?, hW]
  have h2 : W.heap[w.heap.size + 1]? = some (.cells (recA Rec.zero) 44) := (hbut.same _ (by simp) (by simp)).trans ((heap_al _ _ _).trans (if_pos (by simp)))
  have t2 : W.there? (w.heap.size + 1) 0 9 = true := by simp [World.there?, h2]
  have hbw : Below w.heap.size w W := (((Below.refl _ w).alloc (Nat.le_refl _) _).alloc (by simp) _).trans (hbut.below (by intro b hb; simp at hb; omega) (by simp; omega))
  have l2 := (Array.getElem?_eq_some_iff.1 h2).1
  have HBW := Lib.hid (And.intro hbw h2)
  clear HV hW hbut h2 hbw
  go_wp2_with fail
  exact bodyPost_ret (v := .agg (recA (bareR r))) (results_one Tryd.results36 (ResIs.row rfl agg_rec (cut_lay0 HBW.out.2 (by simp) (by simp)))) rfl ⟨rfl, HBW.out.1.lay (by simp)⟩
def withinB (r : Rec) : Bool :=
  if r.kind = 1 then decide (r.user.toNat < 16)
  else if r.kind = 2 then decide (1 ≤ r.mask.toNat) && decide (r.mask.toNat ≤ 63)
  else if r.kind = 4 then decide (r.parent.toNat < 4) && decide (r.state.toNat ≤ 1)
  else if r.kind = 5 then decide (0 < r.rev.toNat)
  else if r.kind = 6 then decide (1 ≤ r.state.toNat) && decide (r.state.toNat ≤ 5) && decide (r.user.toNat < 16) && decide (0 < r.rev.toNat)
  else true
@[go_sem, simp] theorem recA_0E (r : Rec) (h : 0 < (recA r).size) : (recA r)[0]'h = .int .u8 r.kind.toNat := id rfl
@[go_sem] theorem recA_0 (r : Rec) : (recA r)[0]? = some (.int .u8 r.kind.toNat) := id rfl
@[go_sem, simp] theorem recA_1E (r : Rec) (h : 1 < (recA r).size) : (recA r)[1]'h = .int .u8 r.state.toNat := id rfl
@[go_sem] theorem recA_1 (r : Rec) : (recA r)[1]? = some (.int .u8 r.state.toNat) := id rfl
@[go_sem, simp] theorem recA_2E (r : Rec) (h : 2 < (recA r).size) : (recA r)[2]'h = .int .u8 r.user.toNat := id rfl
@[go_sem] theorem recA_2 (r : Rec) : (recA r)[2]? = some (.int .u8 r.user.toNat) := id rfl
@[go_sem, simp] theorem recA_3E (r : Rec) (h : 3 < (recA r).size) : (recA r)[3]'h = .int .u8 r.parent.toNat := id rfl
@[go_sem] theorem recA_3 (r : Rec) : (recA r)[3]? = some (.int .u8 r.parent.toNat) := id rfl
@[go_sem, simp] theorem recA_4E (r : Rec) (h : 4 < (recA r).size) : (recA r)[4]'h = .int .u8 r.mask.toNat := id rfl
@[go_sem] theorem recA_4 (r : Rec) : (recA r)[4]? = some (.int .u8 r.mask.toNat) := id rfl
@[go_sem, simp] theorem recA_5E (r : Rec) (h : 5 < (recA r).size) : (recA r)[5]'h = .bool r.gone := id rfl
@[go_sem] theorem recA_5 (r : Rec) : (recA r)[5]? = some (.bool r.gone) := id rfl
@[go_sem, simp] theorem recA_6E (r : Rec) (h : 6 < (recA r).size) : (recA r)[6]'h = .int .u32 r.rev.toNat := id rfl
@[go_sem] theorem recA_6 (r : Rec) : (recA r)[6]? = some (.int .u32 r.rev.toNat) := id rfl
@[go_sem, simp] theorem recA_7E (r : Rec) (h : 7 < (recA r).size) : (recA r)[7]'h = .int .u64 r.at_.toNat := id rfl
@[go_sem] theorem recA_7 (r : Rec) : (recA r)[7]? = some (.int .u64 r.at_.toNat) := id rfl
@[go_sem, simp] theorem recA_8E (r : Rec) (h : 8 < (recA r).size) : (recA r)[8]'h = .string (bs r.text.val) := id rfl
@[go_sem] theorem recA_8 (r : Rec) : (recA r)[8]? = some (.string (bs r.text.val)) := id rfl
set_option maxHeartbeats 4000000 in
theorem within_gives (r : Rec) (hk : 1 ≤ r.kind.toNat ∧ r.kind.toNat ≤ 6) (w : World) : Gives Tryd.prog 37 #[.agg (recA r)] w (.bool (withinB r)) := by
  have HK := kind_cases hk
  clear hk
  obtain ⟨kind, state, user, parent, mask, gone, rev, at_, text⟩ := r
  simp only at HK
  rcases HK with rfl | rfl | rfl | rfl | rfl | rfl
  all_goals
    unfold Gives
    go_enter Tryd.func37, Tryd.ntmps37
    go_wp2_with fail
    all_goals go_ret
    all_goals refine ⟨ret_bool ?_, (by repeat (first | exact below_of_grow _ _ | exact Below.refl _ _ | exact below_more _ _ _ _ | (simp only [← Array.append_assoc]; first | exact below_more _ _ _ _ | exact below_same _ _ _ | exact Below.refl _ _) | exact below_same _ _ _ | (refine Below.alloc ?_ (by first | (simp; done) | (simp; omega)) _) | (refine Below.grow ?_ (by first | (simp; done) | (simp; omega)) _ _) | refine Below.drew ?_ | refine Below.drewN ?_ _ | (refine Below.putF ?_ (by first | (simp; done) | omega | (simp; omega)) _) | (refine Below.setCell ?_ (by first | (simp; done) | (simp; omega)) _)))⟩
    all_goals first | (simp [withinB]; done) | (simp [withinB]; omega) | (rw [Bool.eq_iff_iff]; simp [withinB]; omega)
/-- what is wrong with a record -/
def kindR (k : UInt8) : Rec := { Rec.zero with kind := k }
def recE (r : Rec) : Int :=
  if 1 ≤ r.kind.toNat ∧ r.kind.toNat ≤ 6 then
    (if bareR r = kindR r.kind then
      (if withinB r = true then
        (if 60 < r.text.val.length then 2
        else if r.gone = true ∧ r.text.val ≠ [] then 3 else 0)
      else 5)
    else 3)
  else 16
@[go_sem ↓ high] theorem bRec1_eq (f : Nat × Operand → Nat × Value) (p : Nat × Operand) : Instr.build 44 (Array.map f #[p]) = bld1 44 (f p) := by simp [bld1]
@[go_sem] theorem bRec1_run (k : UInt8) (w : World) : (bld1 44 (0, .int .u8 k.toNat)).run Tryd.prog w = .ok (.agg (recA (kindR k))) w := by
  unfold bld1
  refine build_of (zero := .agg (recA Rec.zero)) (places := #[(0, 1), (1, 1), (2, 1), (3, 1), (4, 1), (5, 1), (6, 1), (7, 1), (8, 1)]) (by intro w; exact (Tryd.zeroValue44 w).trans rfl) Tryd.underlying44 (by intro w; kernel_rfl) ?_
  rfl
set_option maxHeartbeats 4000000 in
theorem check_gives (r : Rec) (w : World) : Gives Tryd.prog 31 #[.agg (recA r)] w (.int .i64 (recE r)) := by
  by_cases hk : 1 ≤ r.kind.toNat ∧ r.kind.toNat ≤ 6
  · have HB := Lib.hid (bare_gives r hk)
    have HW := Lib.hid (within_gives r hk)
    have k1 : ¬ ((r.kind.toNat : Int) < 1) := by omega
    have k6 : ¬ (6 < (r.kind.toNat : Int)) := by omega
    by_cases hb : bareR r = kindR r.kind
    · have hd : decide (bareR r = kindR r.kind) = true := decide_eq_true hb
      by_cases hw : withinB r = true
      · rw [hw] at HW
        have he : recE r = if 60 < r.text.val.length then 2 else if r.gone = true ∧ r.text.val ≠ [] then 3 else 0 := by unfold recE; rw [if_pos hk, if_pos hb, if_pos hw]
        rw [he]
        clear hk hb hw he
        obtain ⟨q, hq⟩ : ∃ q : Int, q = if 60 < r.text.val.length then 2 else if r.gone = true ∧ r.text.val ≠ [] then 3 else 0 := ⟨_, rfl⟩
        rw [← hq]
        have HQ := Lib.hid hq
        clear hq
        unfold Gives
        go_enter Tryd.func31, Tryd.ntmps31
        go_wp2_with fail
        apply wp_region_specs (by rfl) [.val _, .val _, .val _, .val _, .val _, .val _] 6 (by rfl) [13, 14, 15, 16, 17, 18] [] [] (by rfl) (by rfl) (by decide) (by decide +kernel) (fun _ _ _ _ _ h => h)
        case hF => intro x; simp only [over, List.foldl_cons, List.foldl_nil, List.setIfInBounds_toArray, List.set_cons_succ, List.set_cons_zero]; exact rfl
        case hops =>
          refine ⟨?o0, ?o1, ?o2, ?o3, ?o4, ?o5, trivial⟩
          case o0 =>
            intro x w1 hH K hK
            obtain ⟨xs, d, rfl⟩ := grow_of_below hH.below
            clear hH
            try simp only [World.grow_drew] at hK ⊢
            try simp only [World.grow_grow] at hK ⊢
            go_simp
            go_wp2_with fail
            exact ⟨_, rfl, rfl, (by repeat (first | exact below_of_grow _ _ | exact Below.refl _ _ | exact below_more _ _ _ _ | (simp only [← Array.append_assoc]; first | exact below_more _ _ _ _ | exact below_same _ _ _ | exact Below.refl _ _) | exact below_same _ _ _ | (refine Below.alloc ?_ (by first | (simp; done) | (simp; omega)) _) | (refine Below.grow ?_ (by first | (simp; done) | (simp; omega)) _ _) | refine Below.drew ?_ | refine Below.drewN ?_ _ | (refine Below.putF ?_ (by first | (simp; done) | omega | (simp; omega)) _) | (refine Below.setCell ?_ (by first | (simp; done) | (simp; omega)) _))), fun h => by cases h⟩
          case o1 =>
            intro x w1 hH K hK
            have e13 : x 13 = _ := hH.holds 0 (by decide) (by decide +kernel) 13 rfl
            obtain ⟨xs, d, rfl⟩ := grow_of_below hH.below
            clear hH
            try simp only [World.grow_drew] at hK ⊢
            try simp only [World.grow_grow] at hK ⊢
            simp only [e13] at hK ⊢
            clear e13
            go_simp
            go_wp2_with (refine Gives.use (HB.out _) ?_; intro ys e)
            exact ⟨_, rfl, rfl, (by first | exact below_more _ _ _ _ | exact (by repeat (first | exact below_of_grow _ _ | exact Below.refl _ _ | exact below_more _ _ _ _ | (simp only [← Array.append_assoc]; first | exact below_more _ _ _ _ | exact below_same _ _ _ | exact Below.refl _ _) | exact below_same _ _ _ | (refine Below.alloc ?_ (by first | (simp; done) | (simp; omega)) _) | (refine Below.grow ?_ (by first | (simp; done) | (simp; omega)) _ _) | refine Below.drew ?_ | refine Below.drewN ?_ _ | (refine Below.putF ?_ (by first | (simp; done) | omega | (simp; omega)) _) | (refine Below.setCell ?_ (by first | (simp; done) | (simp; omega)) _)))), fun h => by cases h⟩
          case o2 =>
            intro x w1 hH K hK
            obtain ⟨xs, d, rfl⟩ := grow_of_below hH.below
            clear hH
            try simp only [World.grow_drew] at hK ⊢
            try simp only [World.grow_grow] at hK ⊢
            go_simp
            go_wp2_with fail
            exact ⟨_, rfl, rfl, (by repeat (first | exact below_of_grow _ _ | exact Below.refl _ _ | exact below_more _ _ _ _ | (simp only [← Array.append_assoc]; first | exact below_more _ _ _ _ | exact below_same _ _ _ | exact Below.refl _ _) | exact below_same _ _ _ | (refine Below.alloc ?_ (by first | (simp; done) | (simp; omega)) _) | (refine Below.grow ?_ (by first | (simp; done) | (simp; omega)) _ _) | refine Below.drew ?_ | refine Below.drewN ?_ _ | (refine Below.putF ?_ (by first | (simp; done) | omega | (simp; omega)) _) | (refine Below.setCell ?_ (by first | (simp; done) | (simp; omega)) _))), fun h => by cases h⟩
          case o3 =>
            intro x w1 hH K hK
            have e15 : x 15 = _ := hH.holds 2 (by decide) (by decide +kernel) 15 rfl
            obtain ⟨xs, d, rfl⟩ := grow_of_below hH.below
            clear hH
            try simp only [World.grow_drew] at hK ⊢
            try simp only [World.grow_grow] at hK ⊢
            simp only [e15] at hK ⊢
            clear e15
            go_simp
            go_wp2_with fail
            exact ⟨_, rfl, rfl, (by repeat (first | exact below_of_grow _ _ | exact Below.refl _ _ | exact below_more _ _ _ _ | (simp only [← Array.append_assoc]; first | exact below_more _ _ _ _ | exact below_same _ _ _ | exact Below.refl _ _) | exact below_same _ _ _ | (refine Below.alloc ?_ (by first | (simp; done) | (simp; omega)) _) | (refine Below.grow ?_ (by first | (simp; done) | (simp; omega)) _ _) | refine Below.drew ?_ | refine Below.drewN ?_ _ | (refine Below.putF ?_ (by first | (simp; done) | omega | (simp; omega)) _) | (refine Below.setCell ?_ (by first | (simp; done) | (simp; omega)) _))), fun h => by cases h⟩
          case o4 =>
            intro x w1 hH K hK
            have e16 : x 16 = _ := hH.holds 3 (by decide) (by decide +kernel) 16 rfl
            obtain ⟨xs, d, rfl⟩ := grow_of_below hH.below
            clear hH
            try simp only [World.grow_drew] at hK ⊢
            try simp only [World.grow_grow] at hK ⊢
            simp only [e16] at hK ⊢
            clear e16
            go_simp
            go_wp2_with fail
            exact ⟨_, rfl, rfl, (by repeat (first | exact below_of_grow _ _ | exact Below.refl _ _ | exact below_more _ _ _ _ | (simp only [← Array.append_assoc]; first | exact below_more _ _ _ _ | exact below_same _ _ _ | exact Below.refl _ _) | exact below_same _ _ _ | (refine Below.alloc ?_ (by first | (simp; done) | (simp; omega)) _) | (refine Below.grow ?_ (by first | (simp; done) | (simp; omega)) _ _) | refine Below.drew ?_ | refine Below.drewN ?_ _ | (refine Below.putF ?_ (by first | (simp; done) | omega | (simp; omega)) _) | (refine Below.setCell ?_ (by first | (simp; done) | (simp; omega)) _))), fun h => by cases h⟩
          case o5 =>
            intro x w1 hH K hK
            have e14 : x 14 = _ := hH.holds 1 (by decide) (by decide +kernel) 14 rfl
            have e17 : x 17 = _ := hH.holds 4 (by decide) (by decide +kernel) 17 rfl
            obtain ⟨xs, d, rfl⟩ := grow_of_below hH.below
            clear hH
            try simp only [World.grow_drew] at hK ⊢
            try simp only [World.grow_grow] at hK ⊢
            simp only [e14, e17] at hK ⊢
            clear e14 e17
            go_simp
            go_wp2_with fail
            exact ⟨_, rfl, rfl, (by repeat (first | exact below_of_grow _ _ | exact Below.refl _ _ | exact below_more _ _ _ _ | (simp only [← Array.append_assoc]; first | exact below_more _ _ _ _ | exact below_same _ _ _ | exact Below.refl _ _) | exact below_same _ _ _ | (refine Below.alloc ?_ (by first | (simp; done) | (simp; omega)) _) | (refine Below.grow ?_ (by first | (simp; done) | (simp; omega)) _ _) | refine Below.drew ?_ | refine Below.drewN ?_ _ | (refine Below.putF ?_ (by first | (simp; done) | omega | (simp; omega)) _) | (refine Below.setCell ?_ (by first | (simp; done) | (simp; omega)) _))), fun h => by cases h⟩
        case hend =>
          intro x w1 hH
          have e13 : x 13 = _ := hH.holds 0 (by decide) trivial 13 rfl
          have e14 : x 14 = _ := hH.holds 1 (by decide) trivial 14 rfl
          have e15 : x 15 = _ := hH.holds 2 (by decide) trivial 15 rfl
          have e16 : x 16 = _ := hH.holds 3 (by decide) trivial 16 rfl
          have e17 : x 17 = _ := hH.holds 4 (by decide) trivial 17 rfl
          have e18 : x 18 = _ := hH.holds 5 (by decide) trivial 18 rfl
          obtain ⟨xs, d, rfl⟩ := grow_of_below hH.below
          clear hH
          simp only [e13, e14, e15, e16, e17, e18]; clear e13 e14 e15 e16 e17 e18
          simp only [List.drop_succ_cons, List.drop_zero]
          go_wp2_with fail
          refine Gives.use (HW.out _) ?_
          intro xs1 d1
          go_wp2_with fail
          all_goals go_ret
          all_goals refine ⟨ret_int ?_, (by repeat (first | exact below_of_grow _ _ | exact Below.refl _ _ | exact below_more _ _ _ _ | (simp only [← Array.append_assoc]; first | exact below_more _ _ _ _ | exact below_same _ _ _ | exact Below.refl _ _) | exact below_same _ _ _ | (refine Below.alloc ?_ (by first | (simp; done) | (simp; omega)) _) | (refine Below.grow ?_ (by first | (simp; done) | (simp; omega)) _ _) | refine Below.drew ?_ | refine Below.drewN ?_ _ | (refine Below.putF ?_ (by first | (simp; done) | omega | (simp; omega)) _) | (refine Below.setCell ?_ (by first | (simp; done) | (simp; omega)) _)))⟩
          all_goals rw [HQ.out]
          all_goals clear HB HW HQ hd k1 k6
          all_goals simp only [bs_size] at *
          all_goals first
            | (rw [if_pos (by omega)]; done)
            | (rw [if_neg (by omega)]; simp_all; done)
      · have he : recE r = 5 := by unfold recE; rw [if_pos hk, if_pos hb, if_neg hw]
        rw [he]
        rw [Bool.not_eq_true] at hw
        rw [hw] at HW
        clear hk hb hw he
        unfold Gives
        go_enter Tryd.func31, Tryd.ntmps31
        go_wp2_with fail
        apply wp_region_specs (by rfl) [.val _, .val _, .val _, .val _, .val _, .val _] 6 (by rfl) [13, 14, 15, 16, 17, 18] [] [] (by rfl) (by rfl) (by decide) (by decide +kernel) (fun _ _ _ _ _ h => h)
        case hF => intro x; simp only [over, List.foldl_cons, List.foldl_nil, List.setIfInBounds_toArray, List.set_cons_succ, List.set_cons_zero]; exact rfl
        case hops =>
          refine ⟨?o0, ?o1, ?o2, ?o3, ?o4, ?o5, trivial⟩
          case o0 =>
            intro x w1 hH K hK
            obtain ⟨xs, d, rfl⟩ := grow_of_below hH.below
            clear hH
            try simp only [World.grow_drew] at hK ⊢
            try simp only [World.grow_grow] at hK ⊢
            go_simp
            go_wp2_with fail
            exact ⟨_, rfl, rfl, (by repeat (first | exact below_of_grow _ _ | exact Below.refl _ _ | exact below_more _ _ _ _ | (simp only [← Array.append_assoc]; first | exact below_more _ _ _ _ | exact below_same _ _ _ | exact Below.refl _ _) | exact below_same _ _ _ | (refine Below.alloc ?_ (by first | (simp; done) | (simp; omega)) _) | (refine Below.grow ?_ (by first | (simp; done) | (simp; omega)) _ _) | refine Below.drew ?_ | refine Below.drewN ?_ _ | (refine Below.putF ?_ (by first | (simp; done) | omega | (simp; omega)) _) | (refine Below.setCell ?_ (by first | (simp; done) | (simp; omega)) _))), fun h => by cases h⟩
          case o1 =>
            intro x w1 hH K hK
            have e13 : x 13 = _ := hH.holds 0 (by decide) (by decide +kernel) 13 rfl
            obtain ⟨xs, d, rfl⟩ := grow_of_below hH.below
            clear hH
            try simp only [World.grow_drew] at hK ⊢
            try simp only [World.grow_grow] at hK ⊢
            simp only [e13] at hK ⊢
            clear e13
            go_simp
            go_wp2_with (refine Gives.use (HB.out _) ?_; intro ys e)
            exact ⟨_, rfl, rfl, (by first | exact below_more _ _ _ _ | exact (by repeat (first | exact below_of_grow _ _ | exact Below.refl _ _ | exact below_more _ _ _ _ | (simp only [← Array.append_assoc]; first | exact below_more _ _ _ _ | exact below_same _ _ _ | exact Below.refl _ _) | exact below_same _ _ _ | (refine Below.alloc ?_ (by first | (simp; done) | (simp; omega)) _) | (refine Below.grow ?_ (by first | (simp; done) | (simp; omega)) _ _) | refine Below.drew ?_ | refine Below.drewN ?_ _ | (refine Below.putF ?_ (by first | (simp; done) | omega | (simp; omega)) _) | (refine Below.setCell ?_ (by first | (simp; done) | (simp; omega)) _)))), fun h => by cases h⟩
          case o2 =>
            intro x w1 hH K hK
            obtain ⟨xs, d, rfl⟩ := grow_of_below hH.below
            clear hH
            try simp only [World.grow_drew] at hK ⊢
            try simp only [World.grow_grow] at hK ⊢
            go_simp
            go_wp2_with fail
            exact ⟨_, rfl, rfl, (by repeat (first | exact below_of_grow _ _ | exact Below.refl _ _ | exact below_more _ _ _ _ | (simp only [← Array.append_assoc]; first | exact below_more _ _ _ _ | exact below_same _ _ _ | exact Below.refl _ _) | exact below_same _ _ _ | (refine Below.alloc ?_ (by first | (simp; done) | (simp; omega)) _) | (refine Below.grow ?_ (by first | (simp; done) | (simp; omega)) _ _) | refine Below.drew ?_ | refine Below.drewN ?_ _ | (refine Below.putF ?_ (by first | (simp; done) | omega | (simp; omega)) _) | (refine Below.setCell ?_ (by first | (simp; done) | (simp; omega)) _))), fun h => by cases h⟩
          case o3 =>
            intro x w1 hH K hK
            have e15 : x 15 = _ := hH.holds 2 (by decide) (by decide +kernel) 15 rfl
            obtain ⟨xs, d, rfl⟩ := grow_of_below hH.below
            clear hH
            try simp only [World.grow_drew] at hK ⊢
            try simp only [World.grow_grow] at hK ⊢
            simp only [e15] at hK ⊢
            clear e15
            go_simp
            go_wp2_with fail
            exact ⟨_, rfl, rfl, (by repeat (first | exact below_of_grow _ _ | exact Below.refl _ _ | exact below_more _ _ _ _ | (simp only [← Array.append_assoc]; first | exact below_more _ _ _ _ | exact below_same _ _ _ | exact Below.refl _ _) | exact below_same _ _ _ | (refine Below.alloc ?_ (by first | (simp; done) | (simp; omega)) _) | (refine Below.grow ?_ (by first | (simp; done) | (simp; omega)) _ _) | refine Below.drew ?_ | refine Below.drewN ?_ _ | (refine Below.putF ?_ (by first | (simp; done) | omega | (simp; omega)) _) | (refine Below.setCell ?_ (by first | (simp; done) | (simp; omega)) _))), fun h => by cases h⟩
          case o4 =>
            intro x w1 hH K hK
            have e16 : x 16 = _ := hH.holds 3 (by decide) (by decide +kernel) 16 rfl
            obtain ⟨xs, d, rfl⟩ := grow_of_below hH.below
            clear hH
            try simp only [World.grow_drew] at hK ⊢
            try simp only [World.grow_grow] at hK ⊢
            simp only [e16] at hK ⊢
            clear e16
            go_simp
            go_wp2_with fail
            exact ⟨_, rfl, rfl, (by repeat (first | exact below_of_grow _ _ | exact Below.refl _ _ | exact below_more _ _ _ _ | (simp only [← Array.append_assoc]; first | exact below_more _ _ _ _ | exact below_same _ _ _ | exact Below.refl _ _) | exact below_same _ _ _ | (refine Below.alloc ?_ (by first | (simp; done) | (simp; omega)) _) | (refine Below.grow ?_ (by first | (simp; done) | (simp; omega)) _ _) | refine Below.drew ?_ | refine Below.drewN ?_ _ | (refine Below.putF ?_ (by first | (simp; done) | omega | (simp; omega)) _) | (refine Below.setCell ?_ (by first | (simp; done) | (simp; omega)) _))), fun h => by cases h⟩
          case o5 =>
            intro x w1 hH K hK
            have e14 : x 14 = _ := hH.holds 1 (by decide) (by decide +kernel) 14 rfl
            have e17 : x 17 = _ := hH.holds 4 (by decide) (by decide +kernel) 17 rfl
            obtain ⟨xs, d, rfl⟩ := grow_of_below hH.below
            clear hH
            try simp only [World.grow_drew] at hK ⊢
            try simp only [World.grow_grow] at hK ⊢
            simp only [e14, e17] at hK ⊢
            clear e14 e17
            go_simp
            go_wp2_with fail
            exact ⟨_, rfl, rfl, (by repeat (first | exact below_of_grow _ _ | exact Below.refl _ _ | exact below_more _ _ _ _ | (simp only [← Array.append_assoc]; first | exact below_more _ _ _ _ | exact below_same _ _ _ | exact Below.refl _ _) | exact below_same _ _ _ | (refine Below.alloc ?_ (by first | (simp; done) | (simp; omega)) _) | (refine Below.grow ?_ (by first | (simp; done) | (simp; omega)) _ _) | refine Below.drew ?_ | refine Below.drewN ?_ _ | (refine Below.putF ?_ (by first | (simp; done) | omega | (simp; omega)) _) | (refine Below.setCell ?_ (by first | (simp; done) | (simp; omega)) _))), fun h => by cases h⟩
        case hend =>
          intro x w1 hH
          have e13 : x 13 = _ := hH.holds 0 (by decide) trivial 13 rfl
          have e14 : x 14 = _ := hH.holds 1 (by decide) trivial 14 rfl
          have e15 : x 15 = _ := hH.holds 2 (by decide) trivial 15 rfl
          have e16 : x 16 = _ := hH.holds 3 (by decide) trivial 16 rfl
          have e17 : x 17 = _ := hH.holds 4 (by decide) trivial 17 rfl
          have e18 : x 18 = _ := hH.holds 5 (by decide) trivial 18 rfl
          obtain ⟨xs, d, rfl⟩ := grow_of_below hH.below
          clear hH
          simp only [e13, e14, e15, e16, e17, e18]; clear e13 e14 e15 e16 e17 e18
          simp only [List.drop_succ_cons, List.drop_zero]
          go_wp2_with fail
          refine Gives.use (HW.out _) ?_
          intro xs1 d1
          go_wp2_with fail
          go_ret
          exact ⟨rfl, (by repeat (first | exact below_of_grow _ _ | exact Below.refl _ _ | exact below_more _ _ _ _ | (simp only [← Array.append_assoc]; first | exact below_more _ _ _ _ | exact below_same _ _ _ | exact Below.refl _ _) | exact below_same _ _ _ | (refine Below.alloc ?_ (by first | (simp; done) | (simp; omega)) _) | (refine Below.grow ?_ (by first | (simp; done) | (simp; omega)) _ _) | refine Below.drew ?_ | refine Below.drewN ?_ _ | (refine Below.putF ?_ (by first | (simp; done) | omega | (simp; omega)) _) | (refine Below.setCell ?_ (by first | (simp; done) | (simp; omega)) _)))⟩
    · have hd : decide (bareR r = kindR r.kind) = false := decide_eq_false hb
      have he : recE r = 3 := by unfold recE; rw [if_pos hk, if_neg hb]
      rw [he]
      clear hk hb he HW
      unfold Gives
      go_enter Tryd.func31, Tryd.ntmps31
      go_wp2_with fail
      apply wp_region_specs (by rfl) [.val _, .val _, .val _, .val _, .val _, .val _] 6 (by rfl) [13, 14, 15, 16, 17, 18] [] [] (by rfl) (by rfl) (by decide) (by decide +kernel) (fun _ _ _ _ _ h => h)
      case hF => intro x; simp only [over, List.foldl_cons, List.foldl_nil, List.setIfInBounds_toArray, List.set_cons_succ, List.set_cons_zero]; exact rfl
      case hops =>
        refine ⟨?o0, ?o1, ?o2, ?o3, ?o4, ?o5, trivial⟩
        case o0 =>
          intro x w1 hH K hK
          obtain ⟨xs, d, rfl⟩ := grow_of_below hH.below
          clear hH
          try simp only [World.grow_drew] at hK ⊢
          try simp only [World.grow_grow] at hK ⊢
          go_simp
          go_wp2_with fail
          exact ⟨_, rfl, rfl, (by repeat (first | exact below_of_grow _ _ | exact Below.refl _ _ | exact below_more _ _ _ _ | (simp only [← Array.append_assoc]; first | exact below_more _ _ _ _ | exact below_same _ _ _ | exact Below.refl _ _) | exact below_same _ _ _ | (refine Below.alloc ?_ (by first | (simp; done) | (simp; omega)) _) | (refine Below.grow ?_ (by first | (simp; done) | (simp; omega)) _ _) | refine Below.drew ?_ | refine Below.drewN ?_ _ | (refine Below.putF ?_ (by first | (simp; done) | omega | (simp; omega)) _) | (refine Below.setCell ?_ (by first | (simp; done) | (simp; omega)) _))), fun h => by cases h⟩
        case o1 =>
          intro x w1 hH K hK
          have e13 : x 13 = _ := hH.holds 0 (by decide) (by decide +kernel) 13 rfl
          obtain ⟨xs, d, rfl⟩ := grow_of_below hH.below
          clear hH
          try simp only [World.grow_drew] at hK ⊢
          try simp only [World.grow_grow] at hK ⊢
          simp only [e13] at hK ⊢
          clear e13
          go_simp
          go_wp2_with (refine Gives.use (HB.out _) ?_; intro ys e)
          exact ⟨_, rfl, rfl, (by first | exact below_more _ _ _ _ | exact (by repeat (first | exact below_of_grow _ _ | exact Below.refl _ _ | exact below_more _ _ _ _ | (simp only [← Array.append_assoc]; first | exact below_more _ _ _ _ | exact below_same _ _ _ | exact Below.refl _ _) | exact below_same _ _ _ | (refine Below.alloc ?_ (by first | (simp; done) | (simp; omega)) _) | (refine Below.grow ?_ (by first | (simp; done) | (simp; omega)) _ _) | refine Below.drew ?_ | refine Below.drewN ?_ _ | (refine Below.putF ?_ (by first | (simp; done) | omega | (simp; omega)) _) | (refine Below.setCell ?_ (by first | (simp; done) | (simp; omega)) _)))), fun h => by cases h⟩
        case o2 =>
          intro x w1 hH K hK
          obtain ⟨xs, d, rfl⟩ := grow_of_below hH.below
          clear hH
          try simp only [World.grow_drew] at hK ⊢
          try simp only [World.grow_grow] at hK ⊢
          go_simp
          go_wp2_with fail
          exact ⟨_, rfl, rfl, (by repeat (first | exact below_of_grow _ _ | exact Below.refl _ _ | exact below_more _ _ _ _ | (simp only [← Array.append_assoc]; first | exact below_more _ _ _ _ | exact below_same _ _ _ | exact Below.refl _ _) | exact below_same _ _ _ | (refine Below.alloc ?_ (by first | (simp; done) | (simp; omega)) _) | (refine Below.grow ?_ (by first | (simp; done) | (simp; omega)) _ _) | refine Below.drew ?_ | refine Below.drewN ?_ _ | (refine Below.putF ?_ (by first | (simp; done) | omega | (simp; omega)) _) | (refine Below.setCell ?_ (by first | (simp; done) | (simp; omega)) _))), fun h => by cases h⟩
        case o3 =>
          intro x w1 hH K hK
          have e15 : x 15 = _ := hH.holds 2 (by decide) (by decide +kernel) 15 rfl
          obtain ⟨xs, d, rfl⟩ := grow_of_below hH.below
          clear hH
          try simp only [World.grow_drew] at hK ⊢
          try simp only [World.grow_grow] at hK ⊢
          simp only [e15] at hK ⊢
          clear e15
          go_simp
          go_wp2_with fail
          exact ⟨_, rfl, rfl, (by repeat (first | exact below_of_grow _ _ | exact Below.refl _ _ | exact below_more _ _ _ _ | (simp only [← Array.append_assoc]; first | exact below_more _ _ _ _ | exact below_same _ _ _ | exact Below.refl _ _) | exact below_same _ _ _ | (refine Below.alloc ?_ (by first | (simp; done) | (simp; omega)) _) | (refine Below.grow ?_ (by first | (simp; done) | (simp; omega)) _ _) | refine Below.drew ?_ | refine Below.drewN ?_ _ | (refine Below.putF ?_ (by first | (simp; done) | omega | (simp; omega)) _) | (refine Below.setCell ?_ (by first | (simp; done) | (simp; omega)) _))), fun h => by cases h⟩
        case o4 =>
          intro x w1 hH K hK
          have e16 : x 16 = _ := hH.holds 3 (by decide) (by decide +kernel) 16 rfl
          obtain ⟨xs, d, rfl⟩ := grow_of_below hH.below
          clear hH
          try simp only [World.grow_drew] at hK ⊢
          try simp only [World.grow_grow] at hK ⊢
          simp only [e16] at hK ⊢
          clear e16
          go_simp
          go_wp2_with fail
          exact ⟨_, rfl, rfl, (by repeat (first | exact below_of_grow _ _ | exact Below.refl _ _ | exact below_more _ _ _ _ | (simp only [← Array.append_assoc]; first | exact below_more _ _ _ _ | exact below_same _ _ _ | exact Below.refl _ _) | exact below_same _ _ _ | (refine Below.alloc ?_ (by first | (simp; done) | (simp; omega)) _) | (refine Below.grow ?_ (by first | (simp; done) | (simp; omega)) _ _) | refine Below.drew ?_ | refine Below.drewN ?_ _ | (refine Below.putF ?_ (by first | (simp; done) | omega | (simp; omega)) _) | (refine Below.setCell ?_ (by first | (simp; done) | (simp; omega)) _))), fun h => by cases h⟩
        case o5 =>
          intro x w1 hH K hK
          have e14 : x 14 = _ := hH.holds 1 (by decide) (by decide +kernel) 14 rfl
          have e17 : x 17 = _ := hH.holds 4 (by decide) (by decide +kernel) 17 rfl
          obtain ⟨xs, d, rfl⟩ := grow_of_below hH.below
          clear hH
          try simp only [World.grow_drew] at hK ⊢
          try simp only [World.grow_grow] at hK ⊢
          simp only [e14, e17] at hK ⊢
          clear e14 e17
          go_simp
          go_wp2_with fail
          exact ⟨_, rfl, rfl, (by repeat (first | exact below_of_grow _ _ | exact Below.refl _ _ | exact below_more _ _ _ _ | (simp only [← Array.append_assoc]; first | exact below_more _ _ _ _ | exact below_same _ _ _ | exact Below.refl _ _) | exact below_same _ _ _ | (refine Below.alloc ?_ (by first | (simp; done) | (simp; omega)) _) | (refine Below.grow ?_ (by first | (simp; done) | (simp; omega)) _ _) | refine Below.drew ?_ | refine Below.drewN ?_ _ | (refine Below.putF ?_ (by first | (simp; done) | omega | (simp; omega)) _) | (refine Below.setCell ?_ (by first | (simp; done) | (simp; omega)) _))), fun h => by cases h⟩
      case hend =>
        intro x w1 hH
        have e13 : x 13 = _ := hH.holds 0 (by decide) trivial 13 rfl
        have e14 : x 14 = _ := hH.holds 1 (by decide) trivial 14 rfl
        have e15 : x 15 = _ := hH.holds 2 (by decide) trivial 15 rfl
        have e16 : x 16 = _ := hH.holds 3 (by decide) trivial 16 rfl
        have e17 : x 17 = _ := hH.holds 4 (by decide) trivial 17 rfl
        have e18 : x 18 = _ := hH.holds 5 (by decide) trivial 18 rfl
        obtain ⟨xs, d, rfl⟩ := grow_of_below hH.below
        clear hH
        simp only [e13, e14, e15, e16, e17, e18]; clear e13 e14 e15 e16 e17 e18
        simp only [List.drop_succ_cons, List.drop_zero]
        go_wp2_with fail
        go_ret
        exact ⟨rfl, (by repeat (first | exact below_of_grow _ _ | exact Below.refl _ _ | exact below_more _ _ _ _ | (simp only [← Array.append_assoc]; first | exact below_more _ _ _ _ | exact below_same _ _ _ | exact Below.refl _ _) | exact below_same _ _ _ | (refine Below.alloc ?_ (by first | (simp; done) | (simp; omega)) _) | (refine Below.grow ?_ (by first | (simp; done) | (simp; omega)) _ _) | refine Below.drew ?_ | refine Below.drewN ?_ _ | (refine Below.putF ?_ (by first | (simp; done) | omega | (simp; omega)) _) | (refine Below.setCell ?_ (by first | (simp; done) | (simp; omega)) _)))⟩
  · have he : recE r = 16 := by unfold recE; rw [if_neg hk]
    have hg : (decide ((r.kind.toNat : Int) < 1) || decide (6 < (r.kind.toNat : Int))) = true := by simp; omega
    rw [he]
    clear hk he
    unfold Gives
    go_enter Tryd.func31, Tryd.ntmps31
    go_wp2_with fail
    all_goals go_ret
    all_goals exact ⟨rfl, (by repeat (first | exact below_of_grow _ _ | exact Below.refl _ _ | exact below_more _ _ _ _ | (simp only [← Array.append_assoc]; first | exact below_more _ _ _ _ | exact below_same _ _ _ | exact Below.refl _ _) | exact below_same _ _ _ | (refine Below.alloc ?_ (by first | (simp; done) | (simp; omega)) _) | (refine Below.grow ?_ (by first | (simp; done) | (simp; omega)) _ _) | refine Below.drew ?_ | refine Below.drewN ?_ _ | (refine Below.putF ?_ (by first | (simp; done) | omega | (simp; omega)) _) | (refine Below.setCell ?_ (by first | (simp; done) | (simp; omega)) _)))⟩
end Go.Proofs.YtjdccgmoldmlmaaDoor

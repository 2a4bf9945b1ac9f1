/- Layer 22's law RoleNil, for every input: without a reader, and in a store without records, nobody may anything, and the errors come in the chapter's order. The Go function returns true, and each argument reads behind the call as it read before. Condition: the tables that the row lists (tied to the program's text by the card); the proof does not use what they hold. -/
import Derived.Test.YtlgjkplainjmdaaDoorRoleN
import Derived.Test.YtlgjkplainjmdaaDoorCards
import Derived.Test.YtlgjkplainjmdaaDoorTie
import Derived.ProofKit
import Derived.LaidMore
import Derived.Lay
import Derived.OpenShut
import Derived.ShutString
namespace Go.Proofs.YtlgjkplainjmdaaDoor
set_option maxRecDepth 100000
open Go.RowKit

set_option maxHeartbeats 4000000 in
theorem roleNil_walk (p u a : Int) (w : World) : Gives Tryd.prog 3 #[.int .i64 p, .int .i64 u, .int .i64 a] w (.bool true) := by
  have HON := Lib.hid (ofNil_gives p u)
  have HCN := Lib.hid (checkNil_gives p u a)
  have HOE := Lib.hid (ofE_gives p u)
  have HCE := Lib.hid (checkE_gives p u a)
  have HK := Lib.hid known22
  unfold snapI at *
  obtain ⟨e, he⟩ : ∃ e, e = chkE p u a := ⟨_, rfl⟩
  rw [← he] at HCE
  have hcases : (e = 0 ∧ (0 ≤ p ∧ p < 4 ∧ 0 ≤ u ∧ u < 16) ∧ a = 1) ∨ (e = 7 ∧ (0 ≤ p ∧ p < 4 ∧ 0 ≤ u ∧ u < 16) ∧ a ≠ 1 ∧ 1 ≤ a ∧ a ≤ 16) ∨ (e = 5 ∧ (decide (p < 0) || decide (3 < p) || decide (u < 0) || decide (15 < u)) = true ∧ 1 ≤ a ∧ a ≤ 16) ∨ (e = 16 ∧ (decide (a < 1) || decide (16 < a)) = true) := by
    unfold chkE at he
    by_cases ha : 1 ≤ a ∧ a ≤ 16
    · rw [if_pos ha] at he
      by_cases hr : 0 ≤ p ∧ p < 4 ∧ 0 ≤ u ∧ u < 16
      · rw [if_pos hr] at he
        by_cases h1 : a = 1
        · rw [if_pos h1] at he; exact Or.inl ⟨he, hr, h1⟩
        · rw [if_neg h1] at he; exact Or.inr (Or.inl ⟨he, hr, h1, ha.1, ha.2⟩)
      · rw [if_neg hr] at he; exact Or.inr (Or.inr (Or.inl ⟨he, by simp; omega, ha.1, ha.2⟩))
    · rw [if_neg ha] at he; exact Or.inr (Or.inr (Or.inr ⟨he, by simp; omega⟩))
  clear he
  have HCS := Lib.hid hcases
  clear hcases
  unfold Gives
  go_enter Tryd.func3, Tryd.ntmps3
  go_wp2_with fail
  refine Gives.use (HON.out _) ?_
  intro xs0 d0
  go_wp2_with fail
  refine Gives.use (HCN.out _) ?_
  intro xs1 d1
  go_wp2_with fail
  refine (storeNew_calls _).mono ?_
  rintro r w1 ⟨rfl, hb1, hs1⟩
  have hb01 : Below w.heap.size w w1 := (show Below w.heap.size w _ from (by repeat (first | exact below_of_grow _ _ | exact Below.refl _ _ | exact below_more _ _ _ _ | (simp only [← Array.append_assoc]; first | exact below_more _ _ _ _ | exact below_same _ _ _ | exact Below.refl _ _) | exact below_same _ _ _ | (refine Below.alloc ?_ (by first | (simp; done) | (simp; omega)) _) | (refine Below.grow ?_ (by first | (simp; done) | (simp; omega)) _ _) | refine Below.drew ?_ | refine Below.drewN ?_ _ | (refine Below.putF ?_ (by first | (simp; done) | omega | (simp; omega)) _) | (refine Below.setCell ?_ (by first | (simp; done) | (simp; omega)) _)))).trans (hb1.mono (by simp))
  have hle : w.heap.size ≤ w1.heap.size := hb01.size
  have HB1 := Lib.hid hb01
  generalize (w.grow (xs0 ++ xs1) d1).heap.size + 1 = s at *
  have hls : s < w1.heap.size := by obtain ⟨t, _, h2⟩ := hs1; exact lt_of_heap h2
  have HS := Lib.hid hs1
  clear hb1 hs1 hb01
  go_wp2_with fail
  refine Gives.use (HOE.out s _ (HS.out.keep (by repeat (first | exact below_of_grow _ _ | exact Below.refl _ _ | exact below_more _ _ _ _ | (simp only [← Array.append_assoc]; first | exact below_more _ _ _ _ | exact below_same _ _ _ | exact Below.refl _ _) | exact below_same _ _ _ | (refine Below.alloc ?_ (by first | (simp; done) | (simp; omega)) _) | (refine Below.grow ?_ (by first | (simp; done) | (simp; omega)) _ _) | refine Below.drew ?_ | refine Below.drewN ?_ _ | (refine Below.putF ?_ (by first | (simp; done) | omega | (simp; omega)) _) | (refine Below.setCell ?_ (by first | (simp; done) | (simp; omega)) _))))) ?_
  intro xs2 d2
  go_wp2_with fail
  refine Gives.use (HCE.out s _ (HS.out.keep (by repeat (first | exact below_of_grow _ _ | exact Below.refl _ _ | exact below_more _ _ _ _ | (simp only [← Array.append_assoc]; first | exact below_more _ _ _ _ | exact below_same _ _ _ | exact Below.refl _ _) | exact below_same _ _ _ | (refine Below.alloc ?_ (by first | (simp; done) | (simp; omega)) _) | (refine Below.grow ?_ (by first | (simp; done) | (simp; omega)) _ _) | refine Below.drew ?_ | refine Below.drewN ?_ _ | (refine Below.putF ?_ (by first | (simp; done) | omega | (simp; omega)) _) | (refine Below.setCell ?_ (by first | (simp; done) | (simp; omega)) _))))) ?_
  intro xs3 d3
  clear HON HCN HOE HCE HS
  rcases HCS.out with ⟨he, ⟨r1, r2, r3, r4⟩, h1⟩ | ⟨he, ⟨r1, r2, r3, r4⟩, h1, h2, h3⟩ | ⟨he, hg, h2, h3⟩ | ⟨he, hg⟩
  all_goals clear HCS
  all_goals subst he
  · go_wp2_with fail
    refine Gives.use (HK.out _) ?_
    intro xs4 d4
    go_wp2_with fail
    go_ret
    exact ⟨rfl, HB1.out.trans ((show Below w1.heap.size w1 _ from (by repeat (first | exact below_of_grow _ _ | exact Below.refl _ _ | exact below_more _ _ _ _ | (simp only [← Array.append_assoc]; first | exact below_more _ _ _ _ | exact below_same _ _ _ | exact Below.refl _ _) | exact below_same _ _ _ | (refine Below.alloc ?_ (by first | (simp; done) | (simp; omega)) _) | (refine Below.grow ?_ (by first | (simp; done) | (simp; omega)) _ _) | refine Below.drew ?_ | refine Below.drewN ?_ _ | (refine Below.putF ?_ (by first | (simp; done) | omega | (simp; omega)) _) | (refine Below.setCell ?_ (by first | (simp; done) | (simp; omega)) _)))).mono hle)⟩
  · go_wp2_with fail
    refine Gives.use (HK.out _) ?_
    intro xs4 d4
    go_wp2_with fail
    go_ret
    exact ⟨rfl, HB1.out.trans ((show Below w1.heap.size w1 _ from (by repeat (first | exact below_of_grow _ _ | exact Below.refl _ _ | exact below_more _ _ _ _ | (simp only [← Array.append_assoc]; first | exact below_more _ _ _ _ | exact below_same _ _ _ | exact Below.refl _ _) | exact below_same _ _ _ | (refine Below.alloc ?_ (by first | (simp; done) | (simp; omega)) _) | (refine Below.grow ?_ (by first | (simp; done) | (simp; omega)) _ _) | refine Below.drew ?_ | refine Below.drewN ?_ _ | (refine Below.putF ?_ (by first | (simp; done) | omega | (simp; omega)) _) | (refine Below.setCell ?_ (by first | (simp; done) | (simp; omega)) _)))).mono hle)⟩
  · by_cases h1 : a = 1
    all_goals go_wp2_with fail
    all_goals refine Gives.use (HK.out _) ?_
    all_goals intro xs4 d4
    all_goals go_wp2_with fail
    all_goals go_ret
    all_goals exact ⟨rfl, HB1.out.trans ((show Below w1.heap.size w1 _ from (by repeat (first | exact below_of_grow _ _ | exact Below.refl _ _ | exact below_more _ _ _ _ | (simp only [← Array.append_assoc]; first | exact below_more _ _ _ _ | exact below_same _ _ _ | exact Below.refl _ _) | exact below_same _ _ _ | (refine Below.alloc ?_ (by first | (simp; done) | (simp; omega)) _) | (refine Below.grow ?_ (by first | (simp; done) | (simp; omega)) _ _) | refine Below.drew ?_ | refine Below.drewN ?_ _ | (refine Below.putF ?_ (by first | (simp; done) | omega | (simp; omega)) _) | (refine Below.setCell ?_ (by first | (simp; done) | (simp; omega)) _)))).mono hle)⟩
  · have h1 : ¬ a = 1 := by rintro rfl; simp at hg
    by_cases ho : (decide (p < 0) || decide (3 < p) || decide (u < 0) || decide (15 < u)) = true
    · go_wp2_with fail
      all_goals refine Gives.use (HK.out _) ?_
      all_goals intro xs4 d4
      all_goals go_wp2_with fail
      all_goals go_ret
      all_goals exact ⟨rfl, HB1.out.trans ((show Below w1.heap.size w1 _ from (by repeat (first | exact below_of_grow _ _ | exact Below.refl _ _ | exact below_more _ _ _ _ | (simp only [← Array.append_assoc]; first | exact below_more _ _ _ _ | exact below_same _ _ _ | exact Below.refl _ _) | exact below_same _ _ _ | (refine Below.alloc ?_ (by first | (simp; done) | (simp; omega)) _) | (refine Below.grow ?_ (by first | (simp; done) | (simp; omega)) _ _) | refine Below.drew ?_ | refine Below.drewN ?_ _ | (refine Below.putF ?_ (by first | (simp; done) | omega | (simp; omega)) _) | (refine Below.setCell ?_ (by first | (simp; done) | (simp; omega)) _)))).mono hle)⟩
    · have r1 : 0 ≤ p := by simp at ho; omega
      have r2 : p < 4 := by simp at ho; omega
      have r3 : 0 ≤ u := by simp at ho; omega
      have r4 : u < 16 := by simp at ho; omega
      clear ho
      go_wp2_with fail
      all_goals refine Gives.use (HK.out _) ?_
      all_goals intro xs4 d4
      all_goals go_wp2_with fail
      all_goals go_ret
      all_goals exact ⟨rfl, HB1.out.trans ((show Below w1.heap.size w1 _ from (by repeat (first | exact below_of_grow _ _ | exact Below.refl _ _ | exact below_more _ _ _ _ | (simp only [← Array.append_assoc]; first | exact below_more _ _ _ _ | exact below_same _ _ _ | exact Below.refl _ _) | exact below_same _ _ _ | (refine Below.alloc ?_ (by first | (simp; done) | (simp; omega)) _) | (refine Below.grow ?_ (by first | (simp; done) | (simp; omega)) _ _) | refine Below.drew ?_ | refine Below.drewN ?_ _ | (refine Below.putF ?_ (by first | (simp; done) | omega | (simp; omega)) _) | (refine Below.setCell ?_ (by first | (simp; done) | (simp; omega)) _)))).mono hle)⟩
theorem roleNil_law (w : World) (v0 v1 v2 : Value) (h0 : Reads Tryd.prog w 3 v0) (h1 : Reads Tryd.prog w 3 v1) (h2 : Reads Tryd.prog w 3 v2) :
    Gives Tryd.prog 3 #[v0, v1, v2] w (.bool true) := by
  obtain ⟨p, rfl, _⟩ := h0.int Tryd.underlying3
  obtain ⟨u, rfl, _⟩ := h1.int Tryd.underlying3
  obtain ⟨a, rfl, _⟩ := h2.int Tryd.underlying3
  exact roleNil_walk p u a w

namespace roleNil
open Go.ChangeShapes Go.WideShapes Go.ChangeAt Go.RowKit
open Go.ChangeMaps (open_string shut_string)
theorem own : ownKnob Tryd.prog.godebug = none := by kernel_rfl
theorem laidOut : laidOutB Tryd.prog = true := by kernel_rfl
/-- a world in which the listed variables hold what the row says -/
noncomputable def laidW (os : Os) : World := World.laidAll Tryd.prog os Rows.roleNilRow.laid
set_option maxRecDepth 100000 in
theorem door_met (os : Os) (args : Array Value) : laidMetH Tryd.prog Rows.roleNilRow.laid ((laidW os).forCall (fun _ _ => 0) ⟨#[], args, []⟩).memory := by
  rw [MakeChecks.laidMetH_plain _ _ _ (by kernel_rfl)]
  exact laidMet_laidAll args (by kernel_rfl) (by kernel_rfl)
set_option maxRecDepth 100000 in
theorem lifted (os : Os) (started : os.Started) (H : Type) (enc : TypeId × Value → H) :
    ReturnsInHanded {} Tryd.checked os 3 .any (fun w args => (Rows.roleNilSpec.pre enc Tryd.prog Tryd.f3 Rows.roleNilRow.domain false w args ∧ laidMetH Tryd.prog Rows.roleNilRow.laid w) ∧ sizedMet enc Tryd.prog Tryd.f3 (OpenSpec.ofChange Rows.roleNilSpec) false w args) (Rows.roleNilSpec.post enc Tryd.prog Tryd.f3 false true false false) := by
  refine returnsInHanded_of_change_and (C := Tryd.checked) (X := fun w _ => laidMetH Tryd.prog Rows.roleNilRow.laid w) (fun _ _ _ hh h => h.of_heap hh) own started (by kernel_rfl) Tryd.func3
    (ChangeSpec.witness_shaped (enc := enc) (C := Tryd.checked) (os := os) (X := fun w _ => laidMetH Tryd.prog Rows.roleNilRow.laid w) false (laidW os) #[.int .i64 0, .int .i64 0, .int .i64 0] 8 (World.laidAll_os _ _ _) (World.shaped_of_ZipB (by kernel_rfl) (by kernel_rfl)) (by kernel_rfl) (by kernel_rfl) (by kernel_rfl) (door_met os _)) ?_
  intro W base args ds gs before hval0 hW _ _ _ _
  have hval : ∀ (j : Nat) t v, Tryd.f3.params[j]? = some t → args[j]? = some v → Value.okWide Tryd.prog W .any base t v := hval0
  have hW' := hW
  obtain ⟨p, q, hA0, hV, rfl, hfz, hnd⟩ := hW
  have hA : DataW.TrodAll enc Tryd.prog W 0 (fun _ => true) true Tryd.f3.params.toList args.toList ds p := hA0
  rw [Tryd.params3] at hA hval
  obtain ⟨v0, vs0, d0, ds0, p0, q0, hargs, rfl, rfl, h0, r0⟩ := trodAll_cons hA
  obtain ⟨v1, vs1, d1, ds1, p1, q1, rfl, rfl, rfl, h1, r1⟩ := trodAll_cons r0
  obtain ⟨v2, vs2, d2, ds2, p2, q2, rfl, rfl, rfl, h2, r2⟩ := trodAll_cons r1
  obtain ⟨rfl, rfl, rfl⟩ := trodAll_nil r2
  obtain rfl : args = #[v0, v1, v2] := by cases args; simp_all
  obtain ⟨rfl, rfl⟩ := trodVars_none hV
  have lt0 : ∀ x ∈ p0, x.block < W.heap.size := by obtain ⟨m, hm⟩ := h0; exact DataW.trod_lt m _ _ _ hm
  have lt1 : ∀ x ∈ p1, x.block < W.heap.size := by obtain ⟨m, hm⟩ := h1; exact DataW.trod_lt m _ _ _ hm
  have lt2 : ∀ x ∈ p2, x.block < W.heap.size := by obtain ⟨m, hm⟩ := h2; exact DataW.trod_lt m _ _ _ hm
  clear hA0 hval0
  refine Calls.mono (roleNil_law W v0 v1 v2 ⟨⟨_, hval 0 3 v0 rfl rfl⟩, H, enc, _, _, h0⟩ ⟨⟨_, hval 1 3 v1 rfl rfl⟩, H, enc, _, _, h1⟩ ⟨⟨_, hval 2 3 v2 rfl rfl⟩, H, enc, _, _, h2⟩) fun e W' ⟨he, bel⟩ => ?_
  subst he
  exact ⟨_, rfl, _, _, _, [], _, [], hW', trodAll_mk1 (shut_bool Tryd.underlying4 _), (trodAll_cons_mk (Below.trod laidOut (by kernel_rfl) (of_decide_eq_true (by kernel_rfl)) h0 bel lt0) (trodAll_cons_mk (Below.trod laidOut (by kernel_rfl) (of_decide_eq_true (by kernel_rfl)) h1 bel lt1) (trodAll_cons_mk (Below.trod laidOut (by kernel_rfl) (of_decide_eq_true (by kernel_rfl)) h2 bel lt2) trodAll_mk0))), rfl, bel.frame _, fun h => by cases h⟩
theorem said : Rows.RoleNilSaid :=
  OpenClaim.holds_of_wide 3 Tryd.f3 rfl rfl rfl rfl rfl rfl rfl ⟨rfl, rfl, rfl, rfl, rfl⟩ rfl rfl rfl rfl rfl (by kernel_rfl) Tryd.func3 (by kernel_rfl)
    (of_decide_eq_true (by kernel_rfl)) (by unfold Func.isWrapper; first | (rw [if_pos (by decide +kernel)]; kernel_rfl) | (rw [if_neg (by decide +kernel)]; exact ⟨rfl, rfl⟩))
    (fun os started H enc _ => lifted os started H enc)
/-- no parameter wants a stand-in; the program's own looks are off -/
theorem plain (f : FuncId) (fn : Func) (hf : Tryd.pinned.checked.prog.funcNamed "vulgate/vulgatelaw22.RoleNil" = some f) (hfn : Tryd.pinned.checked.prog.funcs[f]? = some fn) :
    false = Tryd.pinned.checked.prog.looks [] ∧ ∀ (j : Nat) t, fn.params[j]? = some t → Tryd.pinned.checked.prog.wantsStandIn t = false := by
  obtain rfl : f = 3 := Option.some.inj ((show Tryd.prog.funcNamed "vulgate/vulgatelaw22.RoleNil" = some 3 by kernel_rfl).symm.trans hf) |>.symm
  obtain rfl : fn = Tryd.f3 := (Option.some.inj (Tryd.func3.symm.trans hfn)).symm
  refine ⟨by kernel_rfl, fun j t ht => ?_⟩
  rw [Tryd.params3] at ht
  have hm : t ∈ [3, 3, 3] := by simpa using Array.mem_of_getElem? ht
  have hall : ([3, 3, 3].all fun u => !Tryd.prog.wantsStandIn u) = true := by kernel_rfl
  exact (show Tryd.prog.wantsStandIn t = false by simpa using List.all_eq_true.1 hall t hm)
theorem proved : Rows.RoleNilCardSaid :=
  Claim7.holds_tied_plain_at .later [] _ _ _ _ said (fun _ h => by cases h) (by kernel_rfl) (fun _ h => by cases h) roleNil_row_tie rfl ⟨rfl, rfl⟩ (by kernel_rfl) rfl plain (by kernel_rfl)
#print axioms proved
end roleNil
end Go.Proofs.YtlgjkplainjmdaaDoor

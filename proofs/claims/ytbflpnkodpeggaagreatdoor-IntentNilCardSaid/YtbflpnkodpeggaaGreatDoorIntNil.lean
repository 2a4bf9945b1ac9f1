/- Layer 16's law of a nil table, IntentNil, for every input: the Go function returns true, and each argument reads behind the call as it read before. Condition: the two tables of unicode/utf8 that the row lists (tied to the program's text by the card); the proof does not use what they hold. -/
import Derived.Test.YtbflpnkodpeggaaGreatDoorNil16
import Derived.Test.YtbflpnkodpeggaaGreatDoorReadS
import Derived.Test.YtbflpnkodpeggaaGreatDoorCards
import Derived.Test.YtbflpnkodpeggaaGreatDoorTie
import Derived.ProofKit
import Derived.LaidMore
import Derived.Lay
import Derived.OpenShut
import Derived.ShutString
namespace Go.Proofs.YtbflpnkodpeggaaGreatDoor
set_option maxRecDepth 100000
open Go.RowKit

theorem key_read' {w : World} {v : Value} (h : Reads Tryz.prog w 29 v) : ∃ k : K25, v = .agg (row8 k.val) := by
  have hf := h.flat 5 (ks := List.replicate 25 (CK.i .u8)) (by kernel_rfl)
  obtain ⟨cs, rfl⟩ := h.agg Tryz.underlying29
  obtain ⟨k, hk⟩ := FitsAll.key hf
  refine ⟨k, congrArg Value.agg (Array.ext' ?_)⟩
  exact hk
set_option maxHeartbeats 4000000 in
theorem intNil_walk (o : Int) (k : K25) (w : World) : Gives Tryz.prog 3 #[.int .i64 o, .agg (row8 k.val)] w (.bool true) := by
  have HT := Lib.hid (takeN_gives o)
  have HO := Lib.hid (ownerN_gives k)
  have HF := Lib.hid (firstN_gives o)
  have HD := Lib.hid (dropN_gives o k)
  have HOF := Lib.hid (ofN_gives o)
  have HOS := Lib.hid ownersN_gives
  have HL := Lib.hid lenN_gives
  have HK := Lib.hid known_gives
  unfold Gives
  go_enter Tryz.func3, Tryz.ntmps3
  go_wp2_with (first
    | (go_at_call 4; refine Gives.use (HT.out _ _) ?_; intro xs1 d1)
    | (go_at_call 5; refine Gives.use (HO.out _) ?_; intro xs2 d2)
    | (go_at_call 6; refine Gives.use (HF.out _) ?_; intro xs3 d3)
    | (go_at_call 7; refine Gives.use (HK.out _) ?_; intro xs4 d4)
    | (go_at_call 8; refine Gives.use (HD.out _ _ ?_) ?_; rotate_left; intro xs5 d5)
    | (go_at_call 9; refine Gives.use (HOF.out _) ?_; intro xs6 d6)
    | (go_at_call 10; refine Gives.use (HOS.out _) ?_; intro xs7 d7)
    | (go_at_call 11; refine Gives.use (HL.out _) ?_; intro xs8 d8))
  · go_ret
    exact ⟨rfl, (by repeat (first | exact below_of_grow _ _ | exact Below.refl _ _ | exact below_more _ _ _ _ | (simp only [← Array.append_assoc]; first | exact below_more _ _ _ _ | exact below_same _ _ _ | exact Below.refl _ _) | exact below_same _ _ _ | (refine Below.alloc ?_ (by first | (simp; done) | (simp; omega)) _) | (refine Below.grow ?_ (by first | (simp; done) | (simp; omega)) _ _) | refine Below.drew ?_ | refine Below.drewN ?_ _ | (refine Below.putF ?_ (by first | (simp; done) | omega | (simp; omega)) _) | (refine Below.setCell ?_ (by first | (simp; done) | (simp; omega)) _)))⟩
  · refine cut_heap ((heap_al _ _ _).trans (if_pos ?_)) (by simp)
    simp only [World.grow_size, Array.size_append, Array.size_push]
    simp
theorem intNil_law (w : World) (v0 v1 : Value) (h0 : Reads Tryz.prog w 3 v0) (h1 : Reads Tryz.prog w 29 v1) :
    Gives Tryz.prog 3 #[v0, v1] w (.bool true) := by
  obtain ⟨n, rfl, _⟩ := h0.int Tryz.underlying3
  obtain ⟨k, rfl⟩ := key_read' h1
  exact intNil_walk n k w

namespace intentNil
open Go.ChangeShapes Go.WideShapes Go.ChangeAt Go.RowKit
open Go.ChangeMaps (open_string shut_string)
theorem own : ownKnob Tryz.prog.godebug = none := by kernel_rfl
theorem laidOut : laidOutB Tryz.prog = true := by kernel_rfl
/-- a world in which the listed variables hold what the row says -/
noncomputable def laidW (os : Os) : World := World.laidAll Tryz.prog os Rows.intentNilRow.laid
set_option maxRecDepth 100000 in
theorem door_met (os : Os) (args : Array Value) : laidMetH Tryz.prog Rows.intentNilRow.laid ((laidW os).forCall (fun _ _ => 0) ⟨#[], args, []⟩).memory := by
  rw [MakeChecks.laidMetH_plain _ _ _ (by kernel_rfl)]
  exact laidMet_laidAll args (by kernel_rfl) (by kernel_rfl)
set_option maxRecDepth 100000 in
theorem lifted (os : Os) (started : os.Started) (H : Type) (enc : TypeId × Value → H) :
    ReturnsInHanded {} Tryz.checked os 3 .any (fun w args => (Rows.intentNilSpec.pre enc Tryz.prog Tryz.f3 Rows.intentNilRow.domain false w args ∧ laidMetH Tryz.prog Rows.intentNilRow.laid w) ∧ sizedMet enc Tryz.prog Tryz.f3 (OpenSpec.ofChange Rows.intentNilSpec) false w args) (Rows.intentNilSpec.post enc Tryz.prog Tryz.f3 false true false false) := by
  refine returnsInHanded_of_change_and (C := Tryz.checked) (X := fun w _ => laidMetH Tryz.prog Rows.intentNilRow.laid w) (fun _ _ _ hh h => h.of_heap hh) own started (by kernel_rfl) Tryz.func3
    (ChangeSpec.witness_shaped (enc := enc) (C := Tryz.checked) (os := os) (X := fun w _ => laidMetH Tryz.prog Rows.intentNilRow.laid w) false (laidW os) #[.int .i64 0, .agg #[.int .u8 0, .int .u8 0, .int .u8 0, .int .u8 0, .int .u8 0, .int .u8 0, .int .u8 0, .int .u8 0, .int .u8 0, .int .u8 0, .int .u8 0, .int .u8 0, .int .u8 0, .int .u8 0, .int .u8 0, .int .u8 0, .int .u8 0, .int .u8 0, .int .u8 0, .int .u8 0, .int .u8 0, .int .u8 0, .int .u8 0, .int .u8 0, .int .u8 0]] 8 (World.laidAll_os _ _ _) (World.shaped_of_ZipB (by kernel_rfl) (by kernel_rfl)) (by kernel_rfl) (by kernel_rfl) (by kernel_rfl) (door_met os _)) ?_
  intro W base args ds gs before hval0 hW _ _ _ _
  have hval : ∀ (j : Nat) t v, Tryz.f3.params[j]? = some t → args[j]? = some v → Value.okWide Tryz.prog W .any base t v := hval0
  have hW' := hW
  obtain ⟨p, q, hA0, hV, rfl, hfz, hnd⟩ := hW
  have hA : DataW.TrodAll enc Tryz.prog W 0 (fun _ => true) true Tryz.f3.params.toList args.toList ds p := hA0
  rw [Tryz.params3] at hA hval
  obtain ⟨v0, vs0, d0, ds0, p0, q0, hargs, rfl, rfl, h0, r0⟩ := trodAll_cons hA
  obtain ⟨v1, vs1, d1, ds1, p1, q1, rfl, rfl, rfl, h1, r1⟩ := trodAll_cons r0
  obtain ⟨rfl, rfl, rfl⟩ := trodAll_nil r1
  obtain rfl : args = #[v0, v1] := by cases args; simp_all
  obtain ⟨rfl, rfl⟩ := trodVars_none hV
  have lt0 : ∀ x ∈ p0, x.block < W.heap.size := by obtain ⟨m, hm⟩ := h0; exact DataW.trod_lt m _ _ _ hm
  have lt1 : ∀ x ∈ p1, x.block < W.heap.size := by obtain ⟨m, hm⟩ := h1; exact DataW.trod_lt m _ _ _ hm
  clear hA0 hval0
  refine Calls.mono (intNil_law W v0 v1 ⟨⟨_, hval 0 3 v0 rfl rfl⟩, H, enc, _, _, h0⟩ ⟨⟨_, hval 1 29 v1 rfl rfl⟩, H, enc, _, _, h1⟩) fun e W' ⟨he, bel⟩ => ?_
  subst he
  exact ⟨_, rfl, _, _, _, [], _, [], hW', trodAll_mk1 (shut_bool Tryz.underlying4 _), (trodAll_cons_mk (Below.trod laidOut (by kernel_rfl) (of_decide_eq_true (by kernel_rfl)) h0 bel lt0) (trodAll_cons_mk (Below.trod laidOut (by kernel_rfl) (of_decide_eq_true (by kernel_rfl)) h1 bel lt1) trodAll_mk0)), rfl, bel.frame _, fun h => by cases h⟩
theorem said : Rows.IntentNilSaid :=
  OpenClaim.holds_of_wide 3 Tryz.f3 rfl rfl rfl rfl rfl rfl rfl ⟨rfl, rfl, rfl, rfl, rfl⟩ rfl rfl rfl rfl rfl (by kernel_rfl) Tryz.func3 (by kernel_rfl)
    (of_decide_eq_true (by kernel_rfl)) (by unfold Func.isWrapper; first | (rw [if_pos (by decide +kernel)]; kernel_rfl) | (rw [if_neg (by decide +kernel)]; exact ⟨rfl, rfl⟩))
    (fun os started H enc _ => lifted os started H enc)
/-- no parameter wants a stand-in; the program's own looks are off -/
theorem plain (f : FuncId) (fn : Func) (hf : Tryz.pinned.checked.prog.funcNamed "vulgate/vulgatelaw16.IntentNil" = some f) (hfn : Tryz.pinned.checked.prog.funcs[f]? = some fn) :
    false = Tryz.pinned.checked.prog.looks [] ∧ ∀ (j : Nat) t, fn.params[j]? = some t → Tryz.pinned.checked.prog.wantsStandIn t = false := by
  obtain rfl : f = 3 := Option.some.inj ((show Tryz.prog.funcNamed "vulgate/vulgatelaw16.IntentNil" = some 3 by kernel_rfl).symm.trans hf) |>.symm
  obtain rfl : fn = Tryz.f3 := (Option.some.inj (Tryz.func3.symm.trans hfn)).symm
  refine ⟨by kernel_rfl, fun j t ht => ?_⟩
  rw [Tryz.params3] at ht
  have hm : t ∈ [3, 29] := by simpa using Array.mem_of_getElem? ht
  have hall : ([3, 29].all fun u => !Tryz.prog.wantsStandIn u) = true := by kernel_rfl
  exact (show Tryz.prog.wantsStandIn t = false by simpa using List.all_eq_true.1 hall t hm)
theorem proved : Rows.IntentNilCardSaid :=
  Claim7.holds_tied_plain_at .later [] _ _ _ _ said (fun _ h => by cases h) (by kernel_rfl) (fun _ h => by cases h) intentNil_row_tie rfl ⟨rfl, rfl⟩ (by kernel_rfl) rfl plain (by kernel_rfl)
#print axioms proved
end intentNil
end Go.Proofs.YtbflpnkodpeggaaGreatDoor

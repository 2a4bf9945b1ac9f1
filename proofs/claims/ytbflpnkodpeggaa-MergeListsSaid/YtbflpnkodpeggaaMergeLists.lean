/- Layer 24's law MergeLists, for every input: the lists of the program are the document's; the writes put on a branch, cut, and put over ours give what the document gives. The Go function returns true, and each argument reads behind the call as it read before. No condition. -/
import Derived.Test.YtbflpnkodpeggaaMLists1
import Derived.Test.YtbflpnkodpeggaaReadE
import Derived.OpenShut
import Derived.ShutString
namespace Go.Proofs.Ytbflpnkodpeggaa
open Go.RowKit
set_option maxRecDepth 100000

theorem wrt_fit {x : Array Value} (h : FitsAll (List.replicate 25 (CK.i .u8) ++ ([CK.b] ++ recCs)) x.toList) : ∃ e : Wr, x = wrtA e := by
  obtain ⟨x0, y0, e, h0, h⟩ := FitsAll.split h
  obtain ⟨k, rfl⟩ := h0.key
  obtain ⟨x1, y1, rfl, h1, h3⟩ := FitsAll.split h
  obtain ⟨b, rfl⟩ := h1.bool
  obtain ⟨r, rfl⟩ := h3.rec
  exact ⟨⟨k, b, r⟩, Array.ext' (by rw [e]; rfl)⟩
theorem wrts_read {w : World} {v : Value} (h : Reads Try.prog w 25 v) : ∃ l : List Wr, SlA w w.heap.size 35 v (l.map wrtA) := by
  obtain ⟨xs, h1, h2⟩ := h.rows Try.underlying25 6 (ks := List.replicate 25 (CK.i .u8) ++ ([CK.b] ++ recCs)) (by kernel_rfl) (by kernel_rfl) (by decide)
  obtain ⟨l, rfl⟩ := models (p := fun x => FitsAll (List.replicate 25 (CK.i .u8) ++ ([CK.b] ++ recCs)) x.toList) (fun x => wrt_fit) xs h2
  exact ⟨l, h1⟩

theorem lists_law (w : World) (v0 v1 v2 v3 v4 v5 : Value) (h0 : Reads Try.prog w 22 v0) (h1 : Reads Try.prog w 22 v1) (h2 : Reads Try.prog w 22 v2) (h3 : Reads Try.prog w 3 v3) (h4 : Reads Try.prog w 3 v4) (h5 : Reads Try.prog w 25 v5) :
    Gives Try.prog 4 #[v0, v1, v2, v3, v4, v5] w (.bool true) := by
  obtain ⟨la, ha⟩ := ents_read h0
  obtain ⟨lb, hb⟩ := ents_read h1
  obtain ⟨lc, hc⟩ := ents_read h2
  obtain ⟨lw, hw⟩ := wrts_read h5
  obtain ⟨n, rfl, _⟩ := h3.int Try.underlying3
  obtain ⟨m, rfl, _⟩ := h4.int Try.underlying3
  exact Dp.mlists_walk la lb lc lw v0 v1 v2 v5 n m w ha hb hc hw

namespace mergeLists
open Go.ChangeShapes Go.WideShapes Go.ChangeAt Go.RowKit
open Go.ChangeMaps (open_string shut_string)
theorem own : ownKnob Try.prog.godebug = none := by kernel_rfl
theorem laidOut : laidOutB Try.prog = true := by kernel_rfl
set_option maxRecDepth 100000 in
theorem lifted (os : Os) (started : os.Started) (H : Type) (enc : TypeId × Value → H) :
    ReturnsInHanded {} Try.checked os 4 .any (Rows.mergeListsSpec.pre6 enc Try.prog Try.f4 Rows.mergeListsRow.domain false) (Rows.mergeListsSpec.post enc Try.prog Try.f4 false true false false) := by
  refine returnsInHanded_of_change (C := Try.checked) own started (by kernel_rfl) Try.func4
    (ChangeSpec.witness6 (enc := enc) (C := Try.checked) false ⟨#[], #[.slice none 0 0, .slice none 0 0, .slice none 0 0, .int .i64 0, .int .i64 0, .slice none 0 0], []⟩ 8 (by kernel_rfl) (by kernel_rfl) (by kernel_rfl) (by kernel_rfl)) ?_
  intro W base args ds gs before hval0 hW hcnd _
  have hval : ∀ (j : Nat) t v, Try.f4.params[j]? = some t → args[j]? = some v → Value.okWide Try.prog W .any base t v := hval0
  have hW' := hW
  obtain ⟨p, q, hA0, hV, rfl, hfz, hnd⟩ := hW
  have hA : DataW.TrodAll enc Try.prog W 0 (fun _ => true) true Try.f4.params.toList args.toList ds p := hA0
  rw [Try.params4] at hA hval
  obtain ⟨v0, vs0, d0, ds0, p0, q0, hargs, rfl, rfl, h0, r0⟩ := trodAll_cons hA
  obtain ⟨v1, vs1, d1, ds1, p1, q1, rfl, rfl, rfl, h1, r1⟩ := trodAll_cons r0
  obtain ⟨v2, vs2, d2, ds2, p2, q2, rfl, rfl, rfl, h2, r2⟩ := trodAll_cons r1
  obtain ⟨v3, vs3, d3, ds3, p3, q3, rfl, rfl, rfl, h3, r3⟩ := trodAll_cons r2
  obtain ⟨v4, vs4, d4, ds4, p4, q4, rfl, rfl, rfl, h4, r4⟩ := trodAll_cons r3
  obtain ⟨v5, vs5, d5, ds5, p5, q5, rfl, rfl, rfl, h5, r5⟩ := trodAll_cons r4
  obtain ⟨rfl, rfl, rfl⟩ := trodAll_nil r5
  obtain rfl : args = #[v0, v1, v2, v3, v4, v5] := by cases args; simp_all
  obtain ⟨rfl, rfl⟩ := trodVars_none hV
  have lt0 : ∀ x ∈ p0, x.block < W.heap.size := by obtain ⟨m, hm⟩ := h0; exact DataW.trod_lt m _ _ _ hm
  have lt1 : ∀ x ∈ p1, x.block < W.heap.size := by obtain ⟨m, hm⟩ := h1; exact DataW.trod_lt m _ _ _ hm
  have lt2 : ∀ x ∈ p2, x.block < W.heap.size := by obtain ⟨m, hm⟩ := h2; exact DataW.trod_lt m _ _ _ hm
  have lt3 : ∀ x ∈ p3, x.block < W.heap.size := by obtain ⟨m, hm⟩ := h3; exact DataW.trod_lt m _ _ _ hm
  have lt4 : ∀ x ∈ p4, x.block < W.heap.size := by obtain ⟨m, hm⟩ := h4; exact DataW.trod_lt m _ _ _ hm
  have lt5 : ∀ x ∈ p5, x.block < W.heap.size := by obtain ⟨m, hm⟩ := h5; exact DataW.trod_lt m _ _ _ hm
  clear hA0 hval0
  refine Calls.mono (lists_law W v0 v1 v2 v3 v4 v5 ⟨⟨_, hval 0 22 v0 rfl rfl⟩, H, enc, _, _, h0⟩ ⟨⟨_, hval 1 22 v1 rfl rfl⟩, H, enc, _, _, h1⟩ ⟨⟨_, hval 2 22 v2 rfl rfl⟩, H, enc, _, _, h2⟩ ⟨⟨_, hval 3 3 v3 rfl rfl⟩, H, enc, _, _, h3⟩ ⟨⟨_, hval 4 3 v4 rfl rfl⟩, H, enc, _, _, h4⟩ ⟨⟨_, hval 5 25 v5 rfl rfl⟩, H, enc, _, _, h5⟩) fun e W' ⟨he, bel⟩ => ?_
  subst he
  exact ⟨_, rfl, _, _, _, [], _, [], hW', trodAll_mk1 (shut_bool Try.underlying4 _), (trodAll_cons_mk (Below.trod laidOut (by kernel_rfl) (of_decide_eq_true (by kernel_rfl)) h0 bel lt0) (trodAll_cons_mk (Below.trod laidOut (by kernel_rfl) (of_decide_eq_true (by kernel_rfl)) h1 bel lt1) (trodAll_cons_mk (Below.trod laidOut (by kernel_rfl) (of_decide_eq_true (by kernel_rfl)) h2 bel lt2) (trodAll_cons_mk (Below.trod laidOut (by kernel_rfl) (of_decide_eq_true (by kernel_rfl)) h3 bel lt3) (trodAll_cons_mk (Below.trod laidOut (by kernel_rfl) (of_decide_eq_true (by kernel_rfl)) h4 bel lt4) (trodAll_cons_mk (Below.trod laidOut (by kernel_rfl) (of_decide_eq_true (by kernel_rfl)) h5 bel lt5) trodAll_mk0)))))), rfl, bel.frame _, fun h => by cases h⟩
theorem proved : Rows.MergeListsSaid :=
  OpenClaim.holds_of_wide 4 Try.f4 rfl rfl rfl rfl rfl rfl rfl ⟨rfl, rfl, rfl, rfl, rfl⟩ rfl rfl rfl rfl rfl (by kernel_rfl) Try.func4 (by kernel_rfl)
    (of_decide_eq_true (by kernel_rfl)) (by unfold Func.isWrapper; first | (rw [if_pos (by decide +kernel)]; kernel_rfl) | (rw [if_neg (by decide +kernel)]; exact ⟨rfl, rfl⟩))
    (fun os started H enc _ => lifted os started H enc)
#print axioms proved
end mergeLists
end Go.Proofs.Ytbflpnkodpeggaa

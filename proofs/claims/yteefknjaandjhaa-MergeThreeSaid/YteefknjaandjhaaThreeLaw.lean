/- Layer 24's law of three cells, MergeThree, for every input: the Go function returns true, and each argument reads behind the call as it read before. No condition. -/
import Derived.Test.YteefknjaandjhaaThree4
import Derived.Test.YteefknjaandjhaaRead
import Derived.OpenShut
import Derived.ShutString
namespace Go.Proofs.Yteefknjaandjhaa
open Go.RowKit

theorem cut_ok {c : C24} (h : c.r.ok) : c.cut.r.ok := by
  unfold C24.cut
  split
  · exact ⟨h.k, h.s, h.u, h.p, h.m, h.rv⟩
  · exact zero_ok

theorem three_ok {a b c : C24} {m : Int} (hb : b.r.ok) (hc : c.r.ok) : (three a b c m).1.r.ok := by
  unfold three
  repeat' split
  · exact zero_ok
  · exact zero_ok
  · exact hc
  · exact hb

theorem law_all (a b c : C24) (m : Int) (ha : a.r.ok) (hb : b.r.ok) (hc : c.r.ok) (ta : a.r.text.size ≤ maxLen) (tb : b.r.text.size ≤ maxLen) (tc : c.r.text.size ≤ maxLen) (w : World) :
    Gives Try.prog 3 #[a.v, b.v, c.v, .int .i64 m] w (.bool true) := by
  have h1 : ∀ B C : C24, m < 0 ∨ 2 < m → three a.cut B C m = (C24.zero, 0, 5) := fun B C h => if_pos h
  have h2 : ∀ B C : C24, ¬ (m < 0 ∨ 2 < m) → side a.cut B C = 3 → m = 0 → three a.cut B C m = (C24.zero, 3, 11) := fun B C h h' h0 => (if_neg h).trans (if_pos ⟨h', h0⟩)
  have hsym3 : side a.cut b.cut c.cut = 3 → side a.cut c.cut b.cut = 3 := by
    unfold side; intro h
    repeat' split at h
    all_goals first | (exfalso; omega) | skip
    rename_i e1 e2 e3
    rw [if_neg (fun e => e1 e.symm), if_neg e3, if_neg e2]
  have hx_ok : (three a.cut b.cut c.cut m).1.r.ok := three_ok (cut_ok hb) (cut_ok hc)
  by_cases hm : m < 0 ∨ 2 < m
  · exact law_err a b c m 0 5 (h1 _ _ hm) (h1 _ _ hm) (by decide) (cut_ok ha) (cut_ok hb) (cut_ok hc) ta tb tc w
  · by_cases h3 : side a.cut b.cut c.cut = 3
    · by_cases h0 : m = 0
      · exact law_err a b c m 3 11 (h2 _ _ hm h3 h0) (h2 _ _ hm (hsym3 h3) h0) (by decide) (cut_ok ha) (cut_ok hb) (cut_ok hc) ta tb tc w
      · have e1 : ∀ B C : C24, side a.cut B C = 3 → three a.cut B C m = ((three a.cut B C m).1, 3, 0) := by
          intro B C h
          unfold three
          rw [if_neg hm, if_neg (by omega), h]
          split <;> rfl
        exact law_ok a b c _ _ m 3 3 (e1 _ _ h3) (e1 _ _ (hsym3 h3)) rfl rfl (.inl rfl) hx_ok (cut_ok ha) (cut_ok hb) (cut_ok hc) ta tb tc w
    · have e1 : ∀ B C : C24, side a.cut B C ≠ 3 → three a.cut B C m = (if side a.cut B C = 2 then C else B, side a.cut B C, 0) := by
        intro B C h
        unfold three
        rw [if_neg hm, if_neg (by omega)]
        by_cases h2 : side a.cut B C = 2
        · rw [if_pos (.inl h2), if_pos h2]
        · rw [if_neg (by omega), if_neg h2]
      have h3' : side a.cut c.cut b.cut ≠ 3 := by
        intro h
        apply h3
        unfold side at h ⊢
        repeat' split at h
        all_goals first | (exfalso; omega) | skip
        rename_i f1 f2 f3
        rw [if_neg (fun e => f1 e.symm), if_neg f3, if_neg f2]
      have key : ((side a.cut b.cut c.cut == 1) = (side a.cut c.cut b.cut == 2)) ∧ (if side a.cut b.cut c.cut = 2 then c.cut else b.cut) = (if side a.cut c.cut b.cut = 2 then b.cut else c.cut) := by
        revert h3 h3'
        unfold side
        by_cases g1 : b.cut = c.cut
        · simp [g1]
        · have g1' : ¬ c.cut = b.cut := fun e => g1 e.symm
          by_cases g2 : c.cut = a.cut
          · have g3 : ¬ b.cut = a.cut := fun e => g1 (e.trans g2.symm)
            simp only [if_neg g1, if_neg g1', if_pos g2, if_neg g3]
            intros; simp
          · by_cases g3 : b.cut = a.cut
            · simp only [if_neg g1, if_neg g1', if_neg g2, if_pos g3]
              intros; simp
            · simp only [if_neg g1, if_neg g2, if_neg g3]
              intro h; exact (h trivial).elim
      refine law_ok a b c _ _ m _ _ (e1 _ _ h3) (e1 _ _ h3') (by rw [key.1]; simp) ?_ (.inr key.2) ?_ (cut_ok ha) (cut_ok hb) (cut_ok hc) ta tb tc w
      · have q1 : (side a.cut b.cut c.cut == 3) = false := by simpa using h3
        have q2 : (side a.cut c.cut b.cut == 3) = false := by simpa using h3'
        rw [q1, q2]; rfl
      · split
        · exact cut_ok hc
        · exact cut_ok hb

theorem cell_reads {w : World} {v : Value} (h : Reads Try.prog w 27 v) : ∃ c : C24, v = c.v ∧ c.r.ok ∧ c.r.text.size ≤ maxLen := by
  obtain ⟨cs, rfl⟩ := h.agg (Try.underlying27)
  have hf := h.flat 8 (ks := [.b, .i .u8, .i .u8, .i .u8, .i .u8, .i .u8, .b, .i .u32, .i .u64, .s]) (by kernel_rfl)
  obtain ⟨l⟩ := cs
  simp only [Value.cells] at hf
  match l, hf with
  | [c0, c1, c2, c3, c4, c5, c6, c7, c8, c9], hf =>
    obtain ⟨⟨x0, rfl⟩, ⟨x1, rfl, w1⟩, ⟨x2, rfl, w2⟩, ⟨x3, rfl, w3⟩, ⟨x4, rfl, w4⟩, ⟨x5, rfl, w5⟩, ⟨x6, rfl⟩, ⟨x7, rfl, w7⟩, ⟨x8, rfl, w8⟩, ⟨x9, rfl, w9⟩, _⟩ := hf
    have b1 := bounds_u8 w1
    have b2 := bounds_u8 w2
    have b3 := bounds_u8 w3
    have b4 := bounds_u8 w4
    have b5 := bounds_u8 w5
    have b7 := bounds_u32 w7
    exact ⟨⟨x0, ⟨x1, x2, x3, x4, x5, x6, x7, x8, x9⟩⟩, rfl, ⟨by show 0 ≤ x1 ∧ x1 < 256; omega, by show 0 ≤ x2 ∧ x2 < 256; omega, by show 0 ≤ x3 ∧ x3 < 256; omega, by show 0 ≤ x4 ∧ x4 < 256; omega, by show 0 ≤ x5 ∧ x5 < 256; omega, by show 0 ≤ x7 ∧ x7 < 4294967296; omega⟩, w9⟩

theorem law_walk (w : World) (v0 v1 v2 v3 : Value) (h0 : Reads Try.prog w 27 v0) (h1 : Reads Try.prog w 27 v1) (h2 : Reads Try.prog w 27 v2) (h3 : Reads Try.prog w 3 v3) :
    Gives Try.prog 3 #[v0, v1, v2, v3] w (.bool true) := by
  obtain ⟨a, rfl, ha, ta⟩ := cell_reads h0
  obtain ⟨b, rfl, hb, tb⟩ := cell_reads h1
  obtain ⟨c, rfl, hc, tc⟩ := cell_reads h2
  obtain ⟨m, rfl, _⟩ := h3.int Try.underlying3
  exact law_all a b c m ha hb hc ta tb tc w

namespace mergeThree
open Go.ChangeShapes Go.WideShapes Go.ChangeAt Go.RowKit
open Go.ChangeMaps (open_string shut_string)
theorem own : ownKnob Try.prog.godebug = none := by kernel_rfl
theorem laidOut : laidOutB Try.prog = true := by kernel_rfl
set_option maxRecDepth 100000 in
theorem lifted (os : Os) (started : os.Started) (H : Type) (enc : TypeId × Value → H) :
    ReturnsInHanded {} Try.checked os 3 .any (Rows.mergeThreeSpec.pre6 enc Try.prog Try.f3 Rows.mergeThreeRow.domain false) (Rows.mergeThreeSpec.post enc Try.prog Try.f3 false true false false) := by
  refine returnsInHanded_of_change (C := Try.checked) own started (by kernel_rfl) Try.func3
    (ChangeSpec.witness6 (enc := enc) (C := Try.checked) false ⟨#[], #[.agg #[.bool false, .int .u8 0, .int .u8 0, .int .u8 0, .int .u8 0, .int .u8 0, .bool false, .int .u32 0, .int .u64 0, .string ByteArray.empty], .agg #[.bool false, .int .u8 0, .int .u8 0, .int .u8 0, .int .u8 0, .int .u8 0, .bool false, .int .u32 0, .int .u64 0, .string ByteArray.empty], .agg #[.bool false, .int .u8 0, .int .u8 0, .int .u8 0, .int .u8 0, .int .u8 0, .bool false, .int .u32 0, .int .u64 0, .string ByteArray.empty], .int .i64 0], []⟩ 8 (by kernel_rfl) (by kernel_rfl) (by kernel_rfl) (by kernel_rfl)) ?_
  intro W base args ds gs before hval0 hW hcnd _
  have hval : ∀ (j : Nat) t v, Try.f3.params[j]? = some t → args[j]? = some v → Value.okWide Try.prog W .any base t v := hval0
  have hW' := hW
  obtain ⟨p, q, hA0, hV, rfl, hfz, hnd⟩ := hW
  have hA : DataW.TrodAll enc Try.prog W 0 (fun _ => true) true Try.f3.params.toList args.toList ds p := hA0
  rw [Try.params3] at hA hval
  obtain ⟨v0, vs0, d0, ds0, p0, q0, hargs, rfl, rfl, h0, r0⟩ := trodAll_cons hA
  obtain ⟨v1, vs1, d1, ds1, p1, q1, rfl, rfl, rfl, h1, r1⟩ := trodAll_cons r0
  obtain ⟨v2, vs2, d2, ds2, p2, q2, rfl, rfl, rfl, h2, r2⟩ := trodAll_cons r1
  obtain ⟨v3, vs3, d3, ds3, p3, q3, rfl, rfl, rfl, h3, r3⟩ := trodAll_cons r2
  obtain ⟨rfl, rfl, rfl⟩ := trodAll_nil r3
  obtain rfl : args = #[v0, v1, v2, v3] := by cases args; simp_all
  obtain ⟨rfl, rfl⟩ := trodVars_none hV
  have lt0 : ∀ x ∈ p0, x.block < W.heap.size := by obtain ⟨m, hm⟩ := h0; exact DataW.trod_lt m _ _ _ hm
  have lt1 : ∀ x ∈ p1, x.block < W.heap.size := by obtain ⟨m, hm⟩ := h1; exact DataW.trod_lt m _ _ _ hm
  have lt2 : ∀ x ∈ p2, x.block < W.heap.size := by obtain ⟨m, hm⟩ := h2; exact DataW.trod_lt m _ _ _ hm
  have lt3 : ∀ x ∈ p3, x.block < W.heap.size := by obtain ⟨m, hm⟩ := h3; exact DataW.trod_lt m _ _ _ hm
  clear hA0 hval0
  refine Calls.mono (law_walk W v0 v1 v2 v3 ⟨⟨_, hval 0 27 v0 rfl rfl⟩, H, enc, _, _, h0⟩ ⟨⟨_, hval 1 27 v1 rfl rfl⟩, H, enc, _, _, h1⟩ ⟨⟨_, hval 2 27 v2 rfl rfl⟩, H, enc, _, _, h2⟩ ⟨⟨_, hval 3 3 v3 rfl rfl⟩, H, enc, _, _, h3⟩) fun e W' ⟨he, bel⟩ => ?_
  subst he
  exact ⟨_, rfl, _, _, _, [], _, [], hW', trodAll_mk1 (shut_bool Try.underlying4 _), (trodAll_cons_mk (Below.trod laidOut (by kernel_rfl) (of_decide_eq_true (by kernel_rfl)) h0 bel lt0) (trodAll_cons_mk (Below.trod laidOut (by kernel_rfl) (of_decide_eq_true (by kernel_rfl)) h1 bel lt1) (trodAll_cons_mk (Below.trod laidOut (by kernel_rfl) (of_decide_eq_true (by kernel_rfl)) h2 bel lt2) (trodAll_cons_mk (Below.trod laidOut (by kernel_rfl) (of_decide_eq_true (by kernel_rfl)) h3 bel lt3) trodAll_mk0)))), rfl, bel.frame _, fun h => by cases h⟩
theorem proved : Rows.MergeThreeSaid :=
  OpenClaim.holds_of_wide 3 Try.f3 rfl rfl rfl rfl rfl rfl rfl ⟨rfl, rfl, rfl, rfl, rfl⟩ rfl rfl rfl rfl rfl (by kernel_rfl) Try.func3 (by kernel_rfl)
    (of_decide_eq_true (by kernel_rfl)) (by unfold Func.isWrapper; first | (rw [if_pos (by decide +kernel)]; kernel_rfl) | (rw [if_neg (by decide +kernel)]; exact ⟨rfl, rfl⟩))
    (fun os started H enc _ => lifted os started H enc)
#print axioms proved
end mergeThree
end Go.Proofs.Yteefknjaandjhaa

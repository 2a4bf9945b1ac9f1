/- Layer 5: is a tag right? -/
import Derived.Test.YtjdccgmoldmlmaaDoorTag4
namespace Go.Proofs.YtjdccgmoldmlmaaDoor
set_option maxRecDepth 100000
open Go.RowKit

theorem tagPlain_len (t : List UInt8) (ht : t.length = 10) : (tagPlain t).length ≤ 1000000 := by
  unfold tagPlain
  split
  · decide
  · have h1 := partT_len (langT t)
    have h2 := partT_len (scriptT t)
    have h3 := partT_len (regionT t)
    have d2 := dashed_len (partT (scriptT t))
    have d3 := dashed_len (partT (regionT t))
    simp only [langT, scriptT, regionT, List.length_take, List.length_drop] at h1 h2 h3
    simp only [List.length_append]
    simp only [langT, scriptT, regionT] at d2 d3 ⊢
    omega
theorem tagOpt_len (s : List UInt8) : ∀ x, tagOpt s = some x → x.length = 10 := by
  intro x hx
  unfold tagOpt at hx
  split at hx
  · cases hx; simp
  · unfold tagParts at hx
    split at hx
    · cases hx
    · rename_i p r _
      split at hx
      · rename_i h
        cases hx
        have hl := h.1
        simp only [langB, Bool.and_eq_true, decide_eq_true_eq] at hl
        rw [List.length_append, List.length_append, scOf_len, rgOf_len, padTo_len (by simp; omega)]
      · cases hx
theorem tagParse1_len (s : List UInt8) : (tagParse1 s).length = 10 := by
  unfold tagParse1
  cases h : tagOpt s with
  | none => simp
  | some x => exact tagOpt_len s x h
theorem tagRight_gives (t : List UInt8) (ht : t.length = 10) (w : World) : Gives Tryd.prog 42 #[.agg (row8 t)] w (.bool (tagRight t)) := by
  have hp1 := tagParse1_len (tagPlain t)
  have hf := plain_gives t ht
  have hp := tagParse_gives (tagPlain t) (tagPlain_len t ht)
  have hr : tagRight t = (decide (tagParse2 (tagPlain t) = 0) && (tagParse1 (tagPlain t) == t)) := by
    unfold tagRight tagParse1 tagParse2
    cases tagOpt (tagPlain t) with
    | none => rfl
    | some x =>
      simp only [Option.isSome_some, if_true, decide_true, Bool.true_and, Option.getD_some]
      rw [Bool.eq_iff_iff]; simp
  rw [hr]
  generalize tagPlain t = fr at *
  generalize tagParse1 fr = p1 at *
  generalize tagParse2 fr = p2 at *
  have HF := Lib.hid hf
  have HP := Lib.hid hp
  clear hf hp hr
  unfold Gives
  go_enter Tryd.func42, Tryd.ntmps42
  go_wp2_with (first | (go_at_call 53; refine Gives.use (HF.out _) ?_; intro xs d) | (go_at_call 52; refine Gives.use (HP.out _) ?_; intro xs d))
  all_goals
    go_ret
    exact ⟨congrArg Ending.returned (congrArg Value.bool (by first | (simp [*]; done) | (rw [Bool.eq_iff_iff]; simp [*]; done) | (rw [Bool.eq_iff_iff]; simp [*]; omega) | (rw [Bool.eq_iff_iff]; simp; omega))), (by repeat (first | exact below_of_grow _ _ | exact Below.refl _ _ | exact below_more _ _ _ _ | (simp only [← Array.append_assoc]; first | exact below_more _ _ _ _ | exact below_same _ _ _ | exact Below.refl _ _) | exact below_same _ _ _ | (refine Below.alloc ?_ (by first | (simp; done) | (simp; omega)) _) | (refine Below.grow ?_ (by first | (simp; done) | (simp; omega)) _ _) | refine Below.drew ?_ | refine Below.drewN ?_ _ | (refine Below.putF ?_ (by first | (simp; done) | omega | (simp; omega)) _) | (refine Below.setCell ?_ (by first | (simp; done) | (simp; omega)) _)))⟩
end Go.Proofs.YtjdccgmoldmlmaaDoor

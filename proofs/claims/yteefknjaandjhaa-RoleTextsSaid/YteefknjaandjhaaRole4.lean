/- Layer 22: the acts that a mask lets be done; the rights that acts need. -/
import Derived.Test.YteefknjaandjhaaRole3
import Derived.Test.YteefknjaandjhaaOwn
namespace Go.Proofs.Yteefknjaandjhaa
open Go.RowKit

def actsTo (m : Int) (k : Nat) : List Nat := (List.range k).filter fun i => mayB m i
theorem actsTo_succ (m : Int) (k : Nat) : actsTo m (k + 1) = actsTo m k ++ if mayB m k = true then [k] else [] := by
  unfold actsTo
  rw [List.range_succ, List.filter_append]
  congr 1
  by_cases h : mayB m k <;> simp [h]
theorem actsTo_len (m : Int) (k : Nat) : (actsTo m k).length ≤ k := by
  have := List.length_filter_le (fun i : Nat => mayB m i) (List.range k)
  simpa [actsTo] using this
def ints (l : List Nat) : List Value := l.map fun (i : Nat) => Value.int .i64 i
theorem info_int : (Try.prog.info? 3).map (fun i => (i.zero, i.size, i.bytes)) = some (some (.int .i64 0), 1, 8) := by kernel_rfl

set_option maxHeartbeats 800000 in
theorem roleActs_gives (m : Int) (w : World) : Calls Try.prog 13 #[.int .i64 m] w fun e w' => ∃ v, e = .returned v ∧ Below w.heap.size w w' ∧ w'.ownsRow w.heap.size 3 1 v (actsTo m 17).length (ints (actsTo m 17)) := by
  obtain ⟨i0, hi, hz0, hz1, hz2⟩ := info_parts info_int
  have HI := Lib.hid hi
  have HZ0 := Lib.hid hz0
  have HZ1 := Lib.hid hz1
  have HZ2 := Lib.hid hz2
  clear hi hz0 hz1 hz2
  go_enter Try.func13, Try.ntmps13
  go_wp2_with fail
  go_loopw [3, 5] (fun v i wr => ∃ k : Nat, k ≤ 17 ∧ i = .int .i64 k ∧ Below w.heap.size w wr ∧ wr.ownsRow w.heap.size 3 1 v (actsTo m k).length (ints (actsTo m k))) (fun _ i _ => 17 - (intOf i).toNat)
  case atStart => exact ⟨0, by omega, rfl, Below.refl _ _, World.ownsRow_nil _ _ _ _⟩
  case round =>
    obtain ⟨k, hk, rfl, hb, hown⟩ := hrel
    have hl := actsTo_len m k
    have hs := hb.size
    have hsucc := actsTo_succ m k
    have HS := Lib.hid hsucc
    clear hsucc
    by_cases hlt : k < 17
    · have HB := Lib.hid hb
      have HO := Lib.hid hown
      clear hb hown
      cases hm : mayB m k
      · have HM := Lib.hid hm
        have hmg := may_gives m k
        rw [hm] at hmg
        have MG := Lib.hid hmg
        clear hm hmg
        go_wp2_with (go_at_call 17; refine Gives.use (MG.out _) ?_; intro xs d)
        go_roundw
        case rel =>
          refine ⟨k + 1, by omega, by go_num, HB.out.grow hs _ _, ?_⟩
          rw [HS.out, HM.out, if_neg (by decide), List.append_nil]
          exact own_grow HO.out _ _
        case measure => simp [intOf]; omega
      · have HM := Lib.hid hm
        have hmg := may_gives m k
        rw [hm] at hmg
        have MG := Lib.hid hmg
        clear hm hmg
        go_wp2_with (first
          | (at_builtin; refine wpList_append_own _ rfl _ _ 41 rfl w.heap.size 3 i0 (.int .i64 0) 1 8 Try.underlying41 HI.out HZ0.out HZ1.out HZ2.out rfl (by decide) _ _ _ rfl ((own_grow HO.out _ _).alloc _) ⟨wr.heap.size + xs.size, 0, none⟩ 1 1 [.int .i64 k] rfl rfl ?c1 ?c2 ?c3 ?c4 ?c5 ?_)
          | (go_at_call 17; refine Gives.use (MG.out _) ?_; intro xs d))
        case c1 =>
          intro j u hj
          have : j = 0 := by
            have := (List.getElem?_eq_some_iff.1 hj).1
            simp at this; omega
          subst this
          simp at hj; subst hj
          simp [go_sem]
        case c2 => intro u hu; simp at hu; subst hu; rfl
        case c3 => unfold maxLen; omega
        case c4 => omega
        case c5 => simp; omega
        intro v' w1 hown1 hg1 _
        have hb1 : Below w.heap.size w w1 := by
          refine Below.grown ((HB.out.grow hs _ _).alloc (by simp; omega) _) hg1 (by simp; omega) ?_
          intro q hq
          exact (HO.out.lt q hq).1
        have HB1 := Lib.hid hb1
        have HO1 := Lib.hid hown1
        clear hb1 hown1 hg1
        go_wp2_with fail
        go_roundw
        case rel =>
          refine ⟨k + 1, by omega, by go_num, HB1.out, ?_⟩
          rw [HS.out, HM.out, if_pos rfl]
          have := HO1.out
          simpa [ints] using this
        case measure => simp [intOf]; omega
    · have : k = 17 := by omega
      subst this
      have HB := Lib.hid hb
      have HO := Lib.hid hown
      clear hb hown
      go_wp2_with fail
      go_ret
      exact ⟨_, rfl, HB.out, HO.out⟩
end Go.Proofs.Yteefknjaandjhaa

/- Layer 22: the rights that acts need; the text of a mask; the chapter's example. -/
import Derived.Test.YtlgjkplainjmdaaDoorRole2
import Derived.Test.YtlgjkplainjmdaaDoorOwn
import Derived.Test.YtlgjkplainjmdaaDoorRead
namespace Go.Proofs.YtlgjkplainjmdaaDoor
open Go.RowKit
set_option maxRecDepth 100000

def leastN (l : List Int) : Nat := l.foldl (fun acc a => acc ||| (need a).toNat) 0
theorem leastN_snoc (l : List Int) (a : Int) : leastN (l ++ [a]) = leastN l ||| (need a).toNat := by simp [leastN]
theorem leastN_lt (l : List Int) : leastN l < 64 := by
  suffices h : ∀ (l : List Int) (q : Nat), q < 2 ^ 6 → l.foldl (fun acc a => acc ||| (need a).toNat) q < 2 ^ 6 from h l 0 (by decide)
  intro l
  induction l with
  | nil => intro q h; exact h
  | cons a l ih =>
    intro q h
    have hn := need_bd a
    exact ih _ (Nat.or_lt_two_pow h (by omega))
def iv (l : List Int) : List Value := l.map (Value.int .i64)

set_option maxHeartbeats 800000 in
theorem least_gives (l : List Int) (v : Value) (w : World) (h : Rd w w.heap.size v l.length (iv l)) : Gives Tryd.prog 13 #[v] w (.int .i64 (leastN l)) := by
  obtain ⟨a, cap, rfl, hn, hm, hc⟩ := h
  unfold maxLen at hm
  unfold Gives
  have HC := Lib.hid hc
  clear hc
  go_enter Tryd.func13, Tryd.ntmps13
  go_wp2_with fail
  go_loopw [3, 8] (fun o i wr => ∃ (k : Nat) (xs : Array Obj) (d : Nat), k ≤ l.length ∧ o = .int .i64 (leastN (l.take k)) ∧ i = .int .i64 k ∧ wr = w.grow xs d) (fun _ i _ => l.length - (intOf i).toNat)
  case atStart => exact ⟨0, #[], w.drawn, by omega, rfl, rfl, World.grow_nil.symm⟩
  case round =>
    obtain ⟨k, xs, d, hk, rfl, rfl, rfl⟩ := hrel
    by_cases hlt : k < l.length
    · obtain ⟨b, o, rfl, hbs, hcell⟩ := HC.out (by omega)
      have hck := hcell k (.int .i64 l[k]) (by simp [iv, hlt])
      clear hcell HC
      have hb := need_bd l[k]
      have hl := leastN_lt (l.take k)
      have htake : l.take (k + 1) = l.take k ++ [l[k]] := List.take_succ_eq_append_getElem hlt
      have HT := Lib.hid htake
      clear htake
      generalize hz : l[k] = z at *
      clear hz
      go_wp2_with (go_at_call 17; refine Gives.use (need_gives z _) ?_; intro ys e)
      go_roundw
      case rel =>
        refine ⟨k + 1, _, _, by omega, ?_, by go_num, rfl⟩
        rw [HT.out, leastN_snoc]
        obtain ⟨q, hq⟩ := Int.eq_ofNat_of_zero_le hb.1
        rw [hq, Int.toNat_natCast, i64_or_nat _ _ (by omega) (by omega)]
      case measure => simp [intOf]; omega
    · have : k = l.length := by omega
      subst this
      go_wp2_with fail
      go_ret
      exact ⟨ret_int (by rw [List.take_length]), (by repeat (first | exact below_of_grow _ _ | exact Below.refl _ _ | exact below_more _ _ _ _ | (simp only [← Array.append_assoc]; first | exact below_more _ _ _ _ | exact below_same _ _ _ | exact Below.refl _ _) | exact below_same _ _ _ | (refine Below.alloc ?_ (by first | (simp; done) | (simp; omega)) _) | (refine Below.grow ?_ (by first | (simp; done) | (simp; omega)) _ _) | refine Below.drew ?_ | refine Below.drewN ?_ _ | (refine Below.putF ?_ (by first | (simp; done) | omega | (simp; omega)) _) | (refine Below.setCell ?_ (by first | (simp; done) | (simp; omega)) _)))⟩
end Go.Proofs.YtlgjkplainjmdaaDoor

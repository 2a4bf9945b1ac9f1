/- merge.side and merge.Three on cells. -/
import Derived.Test.YtbflpnkodpeggaaEntOps
import Derived.Test.YtbflpnkodpeggaaListPlain
namespace Go.Proofs.Ytbflpnkodpeggaa
set_option maxRecDepth 100000
open Go.RowKit

theorem sideM_gives (a b c : Cell) (w : World) : Gives Try.prog 23 #[.agg (cellA a), .agg (cellA b), .agg (cellA c)] w (.int .i64 (sideC a b c)) := by
  have hs : sideC a b c = if decide (b = c) = true then 0 else if decide (c = a) = true then 1 else if decide (b = a) = true then 2 else 3 := by simp [sideC]
  rw [hs]
  clear hs
  unfold Gives
  cases h1 : decide (b = c)
  · cases h2 : decide (c = a)
    · cases h3 : decide (b = a)
      · rw [if_neg (by decide), if_neg (by decide), if_neg (by decide)]
        go_enter Try.func23, Try.ntmps23
        go_wp2_with fail
        go_ret
        exact ⟨rfl, (by repeat (first | exact below_of_grow _ _ | exact Below.refl _ _ | exact below_more _ _ _ _ | (simp only [← Array.append_assoc]; first | exact below_more _ _ _ _ | exact below_same _ _ _ | exact Below.refl _ _) | exact below_same _ _ _ | (refine Below.alloc ?_ (by first | (simp; done) | (simp; omega)) _) | (refine Below.grow ?_ (by first | (simp; done) | (simp; omega)) _ _) | refine Below.drew ?_ | refine Below.drewN ?_ _ | (refine Below.putF ?_ (by first | (simp; done) | omega | (simp; omega)) _) | (refine Below.setCell ?_ (by first | (simp; done) | (simp; omega)) _)))⟩
      · rw [if_neg (by decide), if_neg (by decide), if_pos rfl]
        go_enter Try.func23, Try.ntmps23
        go_wp2_with fail
        go_ret
        exact ⟨rfl, (by repeat (first | exact below_of_grow _ _ | exact Below.refl _ _ | exact below_more _ _ _ _ | (simp only [← Array.append_assoc]; first | exact below_more _ _ _ _ | exact below_same _ _ _ | exact Below.refl _ _) | exact below_same _ _ _ | (refine Below.alloc ?_ (by first | (simp; done) | (simp; omega)) _) | (refine Below.grow ?_ (by first | (simp; done) | (simp; omega)) _ _) | refine Below.drew ?_ | refine Below.drewN ?_ _ | (refine Below.putF ?_ (by first | (simp; done) | omega | (simp; omega)) _) | (refine Below.setCell ?_ (by first | (simp; done) | (simp; omega)) _)))⟩
    · rw [if_neg (by decide), if_pos rfl]
      go_enter Try.func23, Try.ntmps23
      go_wp2_with fail
      go_ret
      exact ⟨rfl, (by repeat (first | exact below_of_grow _ _ | exact Below.refl _ _ | exact below_more _ _ _ _ | (simp only [← Array.append_assoc]; first | exact below_more _ _ _ _ | exact below_same _ _ _ | exact Below.refl _ _) | exact below_same _ _ _ | (refine Below.alloc ?_ (by first | (simp; done) | (simp; omega)) _) | (refine Below.grow ?_ (by first | (simp; done) | (simp; omega)) _ _) | refine Below.drew ?_ | refine Below.drewN ?_ _ | (refine Below.putF ?_ (by first | (simp; done) | omega | (simp; omega)) _) | (refine Below.setCell ?_ (by first | (simp; done) | (simp; omega)) _)))⟩
  · rw [if_pos rfl]
    go_enter Try.func23, Try.ntmps23
    go_wp2_with fail
    go_ret
    exact ⟨rfl, (by repeat (first | exact below_of_grow _ _ | exact Below.refl _ _ | exact below_more _ _ _ _ | (simp only [← Array.append_assoc]; first | exact below_more _ _ _ _ | exact below_same _ _ _ | exact Below.refl _ _) | exact below_same _ _ _ | (refine Below.alloc ?_ (by first | (simp; done) | (simp; omega)) _) | (refine Below.grow ?_ (by first | (simp; done) | (simp; omega)) _ _) | refine Below.drew ?_ | refine Below.drewN ?_ _ | (refine Below.putF ?_ (by first | (simp; done) | omega | (simp; omega)) _) | (refine Below.setCell ?_ (by first | (simp; done) | (simp; omega)) _)))⟩
@[go_sem] theorem zero_cell : (#[.bool false, .int .u8 0, .int .u8 0, .int .u8 0, .int .u8 0, .int .u8 0, .bool false, .int .u32 0, .int .u64 0, .string { data := #[] }] : Array Value) = cellA Cell.zero := id rfl
theorem three_run (c1 : Cell) (s e : Int) {w : World} {tmps : Array Value} {n : Nat} (h8 : tmps.getD 8 undef = .pointer (some ⟨n, 0, none⟩)) (h9 : tmps.getD 9 undef = .int .i64 s) (h10 : tmps.getD 10 undef = .int .i64 e) (hc : w.cut? n 0 10 = some (cellA c1)) :
    (results Try.f8 tmps).run Try.prog w = .ok (.tuple #[.agg (cellA c1), .int .i64 s, .int .i64 e]) w := by
  simp only [results, Try.results8, List.mapM_toArray, List.mapM_cons, List.mapM_nil, bind_pure_comp, map_pure, Functor.map_map, Sem.run_map, Sem.run_bind, h8, h9, h10, asAddr, pure_bind]
  rw [run_load_cut agg_cell hc]
  simp [Result.andThen, go_sem]
set_option maxHeartbeats 2000000 in
theorem threeM_gives (a b c : Cell) (m : Int) (w : World) : Gives Try.prog 8 #[.agg (cellA a), .agg (cellA b), .agg (cellA c), .int .i64 m] w (.tuple #[.agg (cellA (threeC a b c m).1), .int .i64 (threeC a b c m).2.1, .int .i64 (threeC a b c m).2.2]) := by
  have hs := sideM_gives a b c
  have h3 : threeC a b c m = if m < 0 ∨ 2 < m then (Cell.zero, 0, 5) else if sideC a b c = 3 ∧ m = 0 then (Cell.zero, 3, 11) else if sideC a b c = 2 ∨ sideC a b c = 3 ∧ m = 2 then (c, sideC a b c, 0) else (b, sideC a b c, 0) := rfl
  generalize sideC a b c = s at *
  have HS := Lib.hid hs
  clear hs
  generalize hth : threeC a b c m = t at *
  clear hth
  unfold Gives
  by_cases c1 : m < 0 ∨ 2 < m
  · rw [if_pos c1] at h3
    subst h3
    by_cases c2 : m < 0
    · go_enter Try.func8, Try.ntmps8
      go_wp2_with fail
      exact bodyPost_ret (three_run _ _ _ rfl rfl rfl (by simp [go_sem])) rfl ⟨rfl, (by repeat (first | exact below_of_grow _ _ | exact Below.refl _ _ | exact below_more _ _ _ _ | (simp only [← Array.append_assoc]; first | exact below_more _ _ _ _ | exact below_same _ _ _ | exact Below.refl _ _) | exact below_same _ _ _ | (refine Below.alloc ?_ (by first | (simp; done) | (simp; omega)) _) | (refine Below.grow ?_ (by first | (simp; done) | (simp; omega)) _ _) | refine Below.drew ?_ | refine Below.drewN ?_ _ | (refine Below.putF ?_ (by first | (simp; done) | omega | (simp; omega)) _) | (refine Below.setCell ?_ (by first | (simp; done) | (simp; omega)) _)))⟩
    · have c3 : 2 < m := by omega
      clear c1
      go_enter Try.func8, Try.ntmps8
      go_wp2_with fail
      exact bodyPost_ret (three_run _ _ _ rfl rfl rfl (by simp [go_sem])) rfl ⟨rfl, (by repeat (first | exact below_of_grow _ _ | exact Below.refl _ _ | exact below_more _ _ _ _ | (simp only [← Array.append_assoc]; first | exact below_more _ _ _ _ | exact below_same _ _ _ | exact Below.refl _ _) | exact below_same _ _ _ | (refine Below.alloc ?_ (by first | (simp; done) | (simp; omega)) _) | (refine Below.grow ?_ (by first | (simp; done) | (simp; omega)) _ _) | refine Below.drew ?_ | refine Below.drewN ?_ _ | (refine Below.putF ?_ (by first | (simp; done) | omega | (simp; omega)) _) | (refine Below.setCell ?_ (by first | (simp; done) | (simp; omega)) _)))⟩
  · rw [if_neg c1] at h3
    have m0 : ¬ m < 0 := by omega
    have m2 : ¬ 2 < m := by omega
    by_cases e3 : s = 3
    · subst e3
      have hm : m = 0 ∨ m = 1 ∨ m = 2 := by omega
      clear c1 m0 m2
      rcases hm with rfl | rfl | rfl
      · rw [if_pos ⟨rfl, rfl⟩] at h3
        subst h3
        go_enter Try.func8, Try.ntmps8
        go_wp2_with (go_at_call 23; refine Gives.use (HS.out _) ?_; intro xs d)
        exact bodyPost_ret (three_run _ _ _ rfl rfl rfl (by simp [go_sem])) rfl ⟨rfl, (by repeat (first | exact below_of_grow _ _ | exact Below.refl _ _ | exact below_more _ _ _ _ | (simp only [← Array.append_assoc]; first | exact below_more _ _ _ _ | exact below_same _ _ _ | exact Below.refl _ _) | exact below_same _ _ _ | (refine Below.alloc ?_ (by first | (simp; done) | (simp; omega)) _) | (refine Below.grow ?_ (by first | (simp; done) | (simp; omega)) _ _) | refine Below.drew ?_ | refine Below.drewN ?_ _ | (refine Below.putF ?_ (by first | (simp; done) | omega | (simp; omega)) _) | (refine Below.setCell ?_ (by first | (simp; done) | (simp; omega)) _)))⟩
      · rw [if_neg (by omega), if_neg (by omega)] at h3
        subst h3
        go_enter Try.func8, Try.ntmps8
        go_wp2_with (go_at_call 23; refine Gives.use (HS.out _) ?_; intro xs d)
        exact bodyPost_ret (three_run _ _ _ rfl rfl rfl (by simp [go_sem])) rfl ⟨rfl, (by repeat (first | exact below_of_grow _ _ | exact Below.refl _ _ | exact below_more _ _ _ _ | (simp only [← Array.append_assoc]; first | exact below_more _ _ _ _ | exact below_same _ _ _ | exact Below.refl _ _) | exact below_same _ _ _ | (refine Below.alloc ?_ (by first | (simp; done) | (simp; omega)) _) | (refine Below.grow ?_ (by first | (simp; done) | (simp; omega)) _ _) | refine Below.drew ?_ | refine Below.drewN ?_ _ | (refine Below.putF ?_ (by first | (simp; done) | omega | (simp; omega)) _) | (refine Below.setCell ?_ (by first | (simp; done) | (simp; omega)) _)))⟩
      · rw [if_neg (by omega), if_pos (.inr ⟨rfl, rfl⟩)] at h3
        subst h3
        go_enter Try.func8, Try.ntmps8
        go_wp2_with (go_at_call 23; refine Gives.use (HS.out _) ?_; intro xs d)
        exact bodyPost_ret (three_run _ _ _ rfl rfl rfl (by simp [go_sem])) rfl ⟨rfl, (by repeat (first | exact below_of_grow _ _ | exact Below.refl _ _ | exact below_more _ _ _ _ | (simp only [← Array.append_assoc]; first | exact below_more _ _ _ _ | exact below_same _ _ _ | exact Below.refl _ _) | exact below_same _ _ _ | (refine Below.alloc ?_ (by first | (simp; done) | (simp; omega)) _) | (refine Below.grow ?_ (by first | (simp; done) | (simp; omega)) _ _) | refine Below.drew ?_ | refine Below.drewN ?_ _ | (refine Below.putF ?_ (by first | (simp; done) | omega | (simp; omega)) _) | (refine Below.setCell ?_ (by first | (simp; done) | (simp; omega)) _)))⟩
    · by_cases e2 : s = 2
      · subst e2
        rw [if_neg (by omega), if_pos (.inl rfl)] at h3
        subst h3
        clear c1
        go_enter Try.func8, Try.ntmps8
        go_wp2_with (go_at_call 23; refine Gives.use (HS.out _) ?_; intro xs d)
        exact bodyPost_ret (three_run _ _ _ rfl rfl rfl (by simp [go_sem])) rfl ⟨rfl, (by repeat (first | exact below_of_grow _ _ | exact Below.refl _ _ | exact below_more _ _ _ _ | (simp only [← Array.append_assoc]; first | exact below_more _ _ _ _ | exact below_same _ _ _ | exact Below.refl _ _) | exact below_same _ _ _ | (refine Below.alloc ?_ (by first | (simp; done) | (simp; omega)) _) | (refine Below.grow ?_ (by first | (simp; done) | (simp; omega)) _ _) | refine Below.drew ?_ | refine Below.drewN ?_ _ | (refine Below.putF ?_ (by first | (simp; done) | omega | (simp; omega)) _) | (refine Below.setCell ?_ (by first | (simp; done) | (simp; omega)) _)))⟩
      · rw [if_neg (by omega), if_neg (by omega)] at h3
        subst h3
        have q3 : (s == 3) = false := by simpa using e3
        have q2 : (s == 2) = false := by simpa using e2
        clear c1 e3 e2
        go_enter Try.func8, Try.ntmps8
        go_wp2_with (go_at_call 23; refine Gives.use (HS.out _) ?_; intro xs d)
        exact bodyPost_ret (three_run _ _ _ rfl rfl rfl (by simp [go_sem])) rfl ⟨rfl, (by repeat (first | exact below_of_grow _ _ | exact Below.refl _ _ | exact below_more _ _ _ _ | (simp only [← Array.append_assoc]; first | exact below_more _ _ _ _ | exact below_same _ _ _ | exact Below.refl _ _) | exact below_same _ _ _ | (refine Below.alloc ?_ (by first | (simp; done) | (simp; omega)) _) | (refine Below.grow ?_ (by first | (simp; done) | (simp; omega)) _ _) | refine Below.drew ?_ | refine Below.drewN ?_ _ | (refine Below.putF ?_ (by first | (simp; done) | omega | (simp; omega)) _) | (refine Below.setCell ?_ (by first | (simp; done) | (simp; omega)) _)))⟩
end Go.Proofs.Ytbflpnkodpeggaa

/- Layer 14's law StoreNil, for every input: a store that is nil has nothing, and publishes nothing; the Go function returns true, and each argument reads behind the call as it read before. Condition: the tables that the row lists (tied to the program's text by the card); the proof does not use what they hold. -/
import Derived.Test.YtfgpcflegodlmaaGreatDoorQal
import Derived.Test.YtfgpcflegodlmaaGreatDoorQam
import Derived.Handy
import Derived.Test.YtfgpcflegodlmaaGreatDoorQap
import Derived.Test.YtfgpcflegodlmaaGreatDoorCards
import Derived.Test.YtfgpcflegodlmaaGreatDoorTie
import Derived.ProofKit
import Derived.LaidMore
import Derived.Lay
import Derived.OpenShut
import Derived.ShutString
namespace Go.Proofs.YtfgpcflegodlmaaGreatDoor
set_option maxRecDepth 100000
open Go.RowKit

theorem nchain_gives (k : K25) (w : World) : Gives Tryz.prog 45 #[.pointer none, .agg (row8 k.val)] w (.pointer none) := by
  unfold Gives
  go_enter Tryz.func45, Tryz.ntmps45
  go_wp2_with fail
  go_ret
  exact ⟨rfl, (by repeat (first | exact below_of_grow _ _ | exact Below.refl _ _ | exact below_more _ _ _ _ | (simp only [← Array.append_assoc]; first | exact below_more _ _ _ _ | exact below_same _ _ _ | exact Below.refl _ _) | exact below_same _ _ _ | (refine Below.alloc ?_ (by first | (simp; done) | (simp; omega)) _) | (refine Below.grow ?_ (by first | (simp; done) | (simp; omega)) _ _) | refine Below.drew ?_ | refine Below.drewN ?_ _ | (refine Below.putF ?_ (by first | (simp; done) | omega | (simp; omega)) _) | (refine Below.setCell ?_ (by first | (simp; done) | (simp; omega)) _)))⟩
theorem nread_gives (k : K25) (t : UInt64) (w : World) : Gives Tryz.prog 19 #[.pointer none, .agg (row8 k.val), .int .u64 t.toNat] w (.tuple #[.agg (recA Rec.zero), .bool false]) := by
  have HC := Lib.hid (nchain_gives k)
  have ha : ∀ W, Gives Tryz.prog 51 #[.pointer none, .int .u64 t.toNat] W (.tuple #[.agg (recA Rec.zero), .bool false]) := fun W => at_gives none [] (by simp) t W rfl
  have HA := Lib.hid ha
  clear ha
  unfold Gives
  go_enter Tryz.func19, Tryz.ntmps19
  go_wp2_with fail
  refine Gives.use (HC.out _) ?_
  intro xs1 d1
  go_wp2_with fail
  refine Gives.use (HA.out _) ?_
  intro xs2 d2
  go_wp2_with fail
  exact bodyPost_ret (v := .tuple #[.agg (recA Rec.zero), .bool false]) (results_two Tryz.results19 (ResIs.row rfl agg_rec (by simp [go_sem])) (by simp [ResIs])) rfl ⟨rfl, (by repeat (first | exact below_of_grow _ _ | exact Below.refl _ _ | exact below_more _ _ _ _ | (simp only [← Array.append_assoc]; first | exact below_more _ _ _ _ | exact below_same _ _ _ | exact Below.refl _ _) | exact below_same _ _ _ | (refine Below.alloc ?_ (by first | (simp; done) | (simp; omega)) _) | (refine Below.grow ?_ (by first | (simp; done) | (simp; omega)) _ _) | refine Below.drew ?_ | refine Below.drewN ?_ _ | (refine Below.putF ?_ (by first | (simp; done) | omega | (simp; omega)) _) | (refine Below.setCell ?_ (by first | (simp; done) | (simp; omega)) _)))⟩
theorem nnewest_gives (k : K25) (w : World) : Gives Tryz.prog 20 #[.pointer none, .agg (row8 k.val)] w (.int .u64 0) := by
  have HC := Lib.hid (nchain_gives k)
  have ha : ∀ W, Gives Tryz.prog 52 #[.pointer none] W (.int .u64 0) := fun W => newest_gives none [] (by simp) W rfl
  have HA := Lib.hid ha
  clear ha
  unfold Gives
  go_enter Tryz.func20, Tryz.ntmps20
  go_wp2_with fail
  refine Gives.use (HC.out _) ?_
  intro xs1 d1
  go_wp2_with fail
  refine Gives.use (HA.out _) ?_
  intro xs2 d2
  go_wp2_with fail
  go_ret
  exact ⟨rfl, (by repeat (first | exact below_of_grow _ _ | exact Below.refl _ _ | exact below_more _ _ _ _ | (simp only [← Array.append_assoc]; first | exact below_more _ _ _ _ | exact below_same _ _ _ | exact Below.refl _ _) | exact below_same _ _ _ | (refine Below.alloc ?_ (by first | (simp; done) | (simp; omega)) _) | (refine Below.grow ?_ (by first | (simp; done) | (simp; omega)) _ _) | refine Below.drew ?_ | refine Below.drewN ?_ _ | (refine Below.putF ?_ (by first | (simp; done) | omega | (simp; omega)) _) | (refine Below.setCell ?_ (by first | (simp; done) | (simp; omega)) _)))⟩
theorem nkeys_gives (p : K25) (dp : Int) (w : World) : Gives Tryz.prog 39 #[.pointer none, .agg (prefA p dp)] w (.slice none 0 0) := by
  unfold Gives
  go_enter Tryz.func39, Tryz.ntmps39
  go_wp2_with fail
  go_ret
  exact ⟨rfl, (by repeat (first | exact below_of_grow _ _ | exact Below.refl _ _ | exact below_more _ _ _ _ | (simp only [← Array.append_assoc]; first | exact below_more _ _ _ _ | exact below_same _ _ _ | exact Below.refl _ _) | exact below_same _ _ _ | (refine Below.alloc ?_ (by first | (simp; done) | (simp; omega)) _) | (refine Below.grow ?_ (by first | (simp; done) | (simp; omega)) _ _) | refine Below.drew ?_ | refine Below.drewN ?_ _ | (refine Below.putF ?_ (by first | (simp; done) | omega | (simp; omega)) _) | (refine Below.setCell ?_ (by first | (simp; done) | (simp; omega)) _)))⟩
set_option maxHeartbeats 2000000 in
theorem neach_gives (p : K25) (dp : Int) (g : Nat) (caps : Array Value) (w : World) : Gives Tryz.prog 48 #[.pointer none, .agg (prefA p dp), .func (.func g) #[] caps] w (.tuple #[]) := by
  have HK := Lib.hid (nkeys_gives p dp)
  unfold Gives
  go_enter Tryz.func48, Tryz.ntmps48
  go_wp2_with fail
  refine Gives.use (HK.out _) ?_
  intro xs1 d1
  go_wp2_with fail
  go_loopw [12] (fun s12 wr => s12 = .int .i64 0 ∧ ∃ xs d, wr = (w.alloc (.cells (prefA p dp) 52)).grow xs d) (fun _ _ => 0)
  case atStart => exact ⟨rfl, _, _, rfl⟩
  case round =>
    obtain ⟨rfl, xs, d, rfl⟩ := hrel
    go_wp2_with fail
    go_end0
    exact ⟨rfl, (by repeat (first | exact below_of_grow _ _ | exact Below.refl _ _ | exact below_more _ _ _ _ | (simp only [← Array.append_assoc]; first | exact below_more _ _ _ _ | exact below_same _ _ _ | exact Below.refl _ _) | exact below_same _ _ _ | (refine Below.alloc ?_ (by first | (simp; done) | (simp; omega)) _) | (refine Below.grow ?_ (by first | (simp; done) | (simp; omega)) _ _) | refine Below.drew ?_ | refine Below.drewN ?_ _ | (refine Below.putF ?_ (by first | (simp; done) | omega | (simp; omega)) _) | (refine Below.setCell ?_ (by first | (simp; done) | (simp; omega)) _)))⟩
set_option maxHeartbeats 2000000 in
theorem nnewestIn_gives (p : K25) (dp : Int) (w : World) : Gives Tryz.prog 37 #[.pointer none, .agg (prefA p dp)] w (.int .u64 0) := by
  have hmf : ∀ (fn : Fn) (first cap : Array Value) (w : World), (Instr.makeFunc fn first cap).run Tryz.prog w = .ok (.func fn first cap) w := fun _ _ _ _ => rfl
  have HE := Lib.hid (neach_gives p dp)
  unfold Gives
  go_enter Tryz.func37, Tryz.ntmps37
  go_wp2_with fail
  refine Gives.use (HE.out _ _ _) ?_
  intro xs1 d1
  go_wp2_with fail
  go_ret
  exact ⟨rfl, (by repeat (first | exact below_of_grow _ _ | exact Below.refl _ _ | exact below_more _ _ _ _ | (simp only [← Array.append_assoc]; first | exact below_more _ _ _ _ | exact below_same _ _ _ | exact Below.refl _ _) | exact below_same _ _ _ | (refine Below.alloc ?_ (by first | (simp; done) | (simp; omega)) _) | (refine Below.grow ?_ (by first | (simp; done) | (simp; omega)) _ _) | refine Below.drew ?_ | refine Below.drewN ?_ _ | (refine Below.putF ?_ (by first | (simp; done) | omega | (simp; omega)) _) | (refine Below.setCell ?_ (by first | (simp; done) | (simp; omega)) _)))⟩
set_option maxHeartbeats 2000000 in
theorem nversions_gives (p : K25) (dp : Int) (w : World) : Gives Tryz.prog 18 #[.pointer none, .agg (prefA p dp)] w (.int .i64 0) := by
  have hmf : ∀ (fn : Fn) (first cap : Array Value) (w : World), (Instr.makeFunc fn first cap).run Tryz.prog w = .ok (.func fn first cap) w := fun _ _ _ _ => rfl
  have HE := Lib.hid (neach_gives p dp)
  unfold Gives
  go_enter Tryz.func18, Tryz.ntmps18
  go_wp2_with fail
  refine Gives.use (HE.out _ _ _) ?_
  intro xs1 d1
  go_wp2_with fail
  go_ret
  exact ⟨rfl, (by repeat (first | exact below_of_grow _ _ | exact Below.refl _ _ | exact below_more _ _ _ _ | (simp only [← Array.append_assoc]; first | exact below_more _ _ _ _ | exact below_same _ _ _ | exact Below.refl _ _) | exact below_same _ _ _ | (refine Below.alloc ?_ (by first | (simp; done) | (simp; omega)) _) | (refine Below.grow ?_ (by first | (simp; done) | (simp; omega)) _ _) | refine Below.drew ?_ | refine Below.drewN ?_ _ | (refine Below.putF ?_ (by first | (simp; done) | omega | (simp; omega)) _) | (refine Below.setCell ?_ (by first | (simp; done) | (simp; omega)) _)))⟩
set_option maxHeartbeats 2000000 in
theorem nscan_gives (p : K25) (dp : Int) (t : Nat) (most : Int) (w : World) : Gives Tryz.prog 25 #[.pointer none, .agg (prefA p dp), .int .u64 t, .int .i64 most] w (.tuple #[.slice none 0 0, .bool false]) := by
  have hmf : ∀ (fn : Fn) (first cap : Array Value) (w : World), (Instr.makeFunc fn first cap).run Tryz.prog w = .ok (.func fn first cap) w := fun _ _ _ _ => rfl
  have HE := Lib.hid (neach_gives p dp)
  unfold Gives
  go_enter Tryz.func25, Tryz.ntmps25
  go_wp2_with fail
  refine Gives.use (HE.out _ _ _) ?_
  intro xs1 d1
  go_wp2_with fail
  apply wp_region_specs (by rfl) [.val _, .val _, .val _] 3 (by rfl) [16, 17, 8] [] [] (by rfl) (by rfl) (by decide) (by decide +kernel) (fun _ _ _ _ _ h => h)
  case hF => intro x; simp only [over, List.foldl_cons, List.foldl_nil, List.setIfInBounds_toArray, List.set_cons_succ, List.set_cons_zero]; exact rfl
  case hops =>
    refine ⟨?o0, ?o1, ?o2, trivial⟩
    case o0 =>
      intro x w1 hH K hK
      obtain ⟨xs, d, rfl⟩ := grow_of_below hH.below
      clear hH
      try simp only [World.grow_drew] at hK ⊢
      try simp only [World.grow_grow] at hK ⊢
      go_simp
      go_wp2_with fail
      exact ⟨_, rfl, rfl, (by repeat (first | exact below_of_grow _ _ | exact Below.refl _ _ | exact below_more _ _ _ _ | (simp only [← Array.append_assoc]; first | exact below_more _ _ _ _ | exact below_same _ _ _ | exact Below.refl _ _) | exact below_same _ _ _ | (refine Below.alloc ?_ (by first | (simp; done) | (simp; omega)) _) | (refine Below.grow ?_ (by first | (simp; done) | (simp; omega)) _ _) | refine Below.drew ?_ | refine Below.drewN ?_ _ | (refine Below.putF ?_ (by first | (simp; done) | omega | (simp; omega)) _) | (refine Below.setCell ?_ (by first | (simp; done) | (simp; omega)) _))), fun h => by cases h⟩
    case o1 =>
      intro x w1 hH K hK
      obtain ⟨xs, d, rfl⟩ := grow_of_below hH.below
      clear hH
      try simp only [World.grow_drew] at hK ⊢
      try simp only [World.grow_grow] at hK ⊢
      go_simp
      go_wp2_with fail
      exact ⟨_, rfl, rfl, (by repeat (first | exact below_of_grow _ _ | exact Below.refl _ _ | exact below_more _ _ _ _ | (simp only [← Array.append_assoc]; first | exact below_more _ _ _ _ | exact below_same _ _ _ | exact Below.refl _ _) | exact below_same _ _ _ | (refine Below.alloc ?_ (by first | (simp; done) | (simp; omega)) _) | (refine Below.grow ?_ (by first | (simp; done) | (simp; omega)) _ _) | refine Below.drew ?_ | refine Below.drewN ?_ _ | (refine Below.putF ?_ (by first | (simp; done) | omega | (simp; omega)) _) | (refine Below.setCell ?_ (by first | (simp; done) | (simp; omega)) _))), fun h => by cases h⟩
    case o2 =>
      intro x w1 hH K hK
      have e16 : x 16 = _ := hH.holds 0 (by decide) (by decide +kernel) 16 rfl
      obtain ⟨xs, d, rfl⟩ := grow_of_below hH.below
      clear hH
      try simp only [World.grow_drew] at hK ⊢
      try simp only [World.grow_grow] at hK ⊢
      simp only [e16] at hK ⊢
      clear e16
      go_simp
      go_wp2_with fail
      exact ⟨_, rfl, rfl, (by repeat (first | exact below_of_grow _ _ | exact Below.refl _ _ | exact below_more _ _ _ _ | (simp only [← Array.append_assoc]; first | exact below_more _ _ _ _ | exact below_same _ _ _ | exact Below.refl _ _) | exact below_same _ _ _ | (refine Below.alloc ?_ (by first | (simp; done) | (simp; omega)) _) | (refine Below.grow ?_ (by first | (simp; done) | (simp; omega)) _ _) | refine Below.drew ?_ | refine Below.drewN ?_ _ | (refine Below.putF ?_ (by first | (simp; done) | omega | (simp; omega)) _) | (refine Below.setCell ?_ (by first | (simp; done) | (simp; omega)) _))), fun h => by cases h⟩
  case hend =>
    intro x w1 hH
    have e16 : x 16 = _ := hH.holds 0 (by decide) trivial 16 rfl
    have e17 : x 17 = _ := hH.holds 1 (by decide) trivial 17 rfl
    have e8 : x 8 = _ := hH.holds 2 (by decide) trivial 8 rfl
    obtain ⟨xs, d, rfl⟩ := grow_of_below hH.below
    clear hH
    simp only [e16, e17, e8]; clear e16 e17 e8
    simp only [List.drop_succ_cons, List.drop_zero]
    go_wp2_with fail
    exact bodyPost_ret (v := .tuple #[.slice none 0 0, .bool false]) (by simp [results, Tryz.results25, go_sem]) rfl ⟨rfl, (by repeat (first | exact below_of_grow _ _ | exact Below.refl _ _ | exact below_more _ _ _ _ | (simp only [← Array.append_assoc]; first | exact below_more _ _ _ _ | exact below_same _ _ _ | exact Below.refl _ _) | exact below_same _ _ _ | (refine Below.alloc ?_ (by first | (simp; done) | (simp; omega)) _) | (refine Below.grow ?_ (by first | (simp; done) | (simp; omega)) _ _) | refine Below.drew ?_ | refine Below.drewN ?_ _ | (refine Below.putF ?_ (by first | (simp; done) | omega | (simp; omega)) _) | (refine Below.setCell ?_ (by first | (simp; done) | (simp; omega)) _)))⟩
@[go_sem ↓ high] theorem bKey0_run (w : World) : (Instr.build 44 #[]).run Tryz.prog w = .ok (.agg (row8 (zeros 25))) w := by kernel_rfl
set_option maxHeartbeats 2000000 in
theorem nnext_gives (k : K25) (w : World) : Gives Tryz.prog 35 #[.pointer none, .agg (row8 k.val)] w (.tuple #[.agg (row8 (zeros 25)), .bool false]) := by
  unfold Gives
  go_enter Tryz.func35, Tryz.ntmps35
  go_wp2_with fail
  exact bodyPost_ret (v := .tuple #[.agg (row8 (zeros 25)), .bool false]) (results_two Tryz.results35 (ResIs.row rfl agg_key (by simp [go_sem])) (by simp [ResIs])) rfl ⟨rfl, (by repeat (first | exact below_of_grow _ _ | exact Below.refl _ _ | exact below_more _ _ _ _ | (simp only [← Array.append_assoc]; first | exact below_more _ _ _ _ | exact below_same _ _ _ | exact Below.refl _ _) | exact below_same _ _ _ | (refine Below.alloc ?_ (by first | (simp; done) | (simp; omega)) _) | (refine Below.grow ?_ (by first | (simp; done) | (simp; omega)) _ _) | refine Below.drew ?_ | refine Below.drewN ?_ _ | (refine Below.putF ?_ (by first | (simp; done) | omega | (simp; omega)) _) | (refine Below.setCell ?_ (by first | (simp; done) | (simp; omega)) _)))⟩
theorem npublish_gives (lv : Value) (w : World) : Gives Tryz.prog 15 #[.pointer none, lv] w (.tuple #[.int .u64 0, .int .i64 9]) := by
  unfold Gives
  go_enter Tryz.func15, Tryz.ntmps15
  go_wp2_with fail
  exact bodyPost_ret (v := .tuple #[.int .u64 0, .int .i64 9]) (by simp [results, Tryz.results15, go_sem]) rfl ⟨rfl, (by repeat (first | exact below_of_grow _ _ | exact Below.refl _ _ | exact below_more _ _ _ _ | (simp only [← Array.append_assoc]; first | exact below_more _ _ _ _ | exact below_same _ _ _ | exact Below.refl _ _) | exact below_same _ _ _ | (refine Below.alloc ?_ (by first | (simp; done) | (simp; omega)) _) | (refine Below.grow ?_ (by first | (simp; done) | (simp; omega)) _ _) | refine Below.drew ?_ | refine Below.drewN ?_ _ | (refine Below.putF ?_ (by first | (simp; done) | omega | (simp; omega)) _) | (refine Below.setCell ?_ (by first | (simp; done) | (simp; omega)) _)))⟩
theorem nroom_gives (lv : Value) (w : World) : Gives Tryz.prog 36 #[.pointer none, lv] w (.int .i64 9) := by
  unfold Gives
  go_enter Tryz.func36, Tryz.ntmps36
  go_wp2_with fail
  go_ret
  exact ⟨rfl, (by repeat (first | exact below_of_grow _ _ | exact Below.refl _ _ | exact below_more _ _ _ _ | (simp only [← Array.append_assoc]; first | exact below_more _ _ _ _ | exact below_same _ _ _ | exact Below.refl _ _) | exact below_same _ _ _ | (refine Below.alloc ?_ (by first | (simp; done) | (simp; omega)) _) | (refine Below.grow ?_ (by first | (simp; done) | (simp; omega)) _ _) | refine Below.drew ?_ | refine Below.drewN ?_ _ | (refine Below.putF ?_ (by first | (simp; done) | omega | (simp; omega)) _) | (refine Below.setCell ?_ (by first | (simp; done) | (simp; omega)) _)))⟩
theorem nlast_gives (w : World) : Gives Tryz.prog 16 #[.pointer none] w (.int .u64 0) := by
  unfold Gives
  go_enter Tryz.func16, Tryz.ntmps16
  go_wp2_with fail
  go_ret
  exact ⟨rfl, (by repeat (first | exact below_of_grow _ _ | exact Below.refl _ _ | exact below_more _ _ _ _ | (simp only [← Array.append_assoc]; first | exact below_more _ _ _ _ | exact below_same _ _ _ | exact Below.refl _ _) | exact below_same _ _ _ | (refine Below.alloc ?_ (by first | (simp; done) | (simp; omega)) _) | (refine Below.grow ?_ (by first | (simp; done) | (simp; omega)) _ _) | refine Below.drew ?_ | refine Below.drewN ?_ _ | (refine Below.putF ?_ (by first | (simp; done) | omega | (simp; omega)) _) | (refine Below.setCell ?_ (by first | (simp; done) | (simp; omega)) _)))⟩
theorem nlive_gives (w : World) : Gives Tryz.prog 17 #[.pointer none] w (.int .i64 0) := by
  unfold Gives
  go_enter Tryz.func17, Tryz.ntmps17
  go_wp2_with fail
  go_ret
  exact ⟨rfl, (by repeat (first | exact below_of_grow _ _ | exact Below.refl _ _ | exact below_more _ _ _ _ | (simp only [← Array.append_assoc]; first | exact below_more _ _ _ _ | exact below_same _ _ _ | exact Below.refl _ _) | exact below_same _ _ _ | (refine Below.alloc ?_ (by first | (simp; done) | (simp; omega)) _) | (refine Below.grow ?_ (by first | (simp; done) | (simp; omega)) _ _) | refine Below.drew ?_ | refine Below.drewN ?_ _ | (refine Below.putF ?_ (by first | (simp; done) | omega | (simp; omega)) _) | (refine Below.setCell ?_ (by first | (simp; done) | (simp; omega)) _)))⟩
theorem nclen_gives (w : World) : Gives Tryz.prog 50 #[.pointer none] w (.int .i64 0) := by
  unfold Gives
  go_enter Tryz.func50, Tryz.ntmps50
  go_wp2_with fail
  go_ret
  exact ⟨rfl, (by repeat (first | exact below_of_grow _ _ | exact Below.refl _ _ | exact below_more _ _ _ _ | (simp only [← Array.append_assoc]; first | exact below_more _ _ _ _ | exact below_same _ _ _ | exact Below.refl _ _) | exact below_same _ _ _ | (refine Below.alloc ?_ (by first | (simp; done) | (simp; omega)) _) | (refine Below.grow ?_ (by first | (simp; done) | (simp; omega)) _ _) | refine Below.drew ?_ | refine Below.drewN ?_ _ | (refine Below.putF ?_ (by first | (simp; done) | omega | (simp; omega)) _) | (refine Below.setCell ?_ (by first | (simp; done) | (simp; omega)) _)))⟩
theorem nctrim_gives (b : Nat) (w : World) : Gives Tryz.prog 72 #[.pointer none, .slice (some ⟨b, 0, none⟩) 1 1] w (.int .i64 0) := by
  have HL := Lib.hid nclen_gives
  unfold Gives
  go_enter Tryz.func72, Tryz.ntmps72
  go_wp2_with fail
  refine Gives.use (HL.out _) ?_
  intro xs1 d1
  go_wp2_with fail
  go_ret
  exact ⟨rfl, (by repeat (first | exact below_of_grow _ _ | exact Below.refl _ _ | exact below_more _ _ _ _ | (simp only [← Array.append_assoc]; first | exact below_more _ _ _ _ | exact below_same _ _ _ | exact Below.refl _ _) | exact below_same _ _ _ | (refine Below.alloc ?_ (by first | (simp; done) | (simp; omega)) _) | (refine Below.grow ?_ (by first | (simp; done) | (simp; omega)) _ _) | refine Below.drew ?_ | refine Below.drewN ?_ _ | (refine Below.putF ?_ (by first | (simp; done) | omega | (simp; omega)) _) | (refine Below.setCell ?_ (by first | (simp; done) | (simp; omega)) _)))⟩
theorem ntrim_gives (k : K25) (b : Nat) (w : World) : Gives Tryz.prog 38 #[.pointer none, .agg (row8 k.val), .slice (some ⟨b, 0, none⟩) 1 1] w (.int .i64 0) := by
  have HC := Lib.hid (nchain_gives k)
  have HT := Lib.hid nctrim_gives
  unfold Gives
  go_enter Tryz.func38, Tryz.ntmps38
  go_wp2_with fail
  refine Gives.use (HC.out _) ?_
  intro xs1 d1
  go_wp2_with fail
  refine Gives.use (HT.out _ _) ?_
  intro xs2 d2
  go_wp2_with fail
  go_ret
  exact ⟨rfl, (by repeat (first | exact below_of_grow _ _ | exact Below.refl _ _ | exact below_more _ _ _ _ | (simp only [← Array.append_assoc]; first | exact below_more _ _ _ _ | exact below_same _ _ _ | exact Below.refl _ _) | exact below_same _ _ _ | (refine Below.alloc ?_ (by first | (simp; done) | (simp; omega)) _) | (refine Below.grow ?_ (by first | (simp; done) | (simp; omega)) _ _) | refine Below.drew ?_ | refine Below.drewN ?_ _ | (refine Below.putF ?_ (by first | (simp; done) | omega | (simp; omega)) _) | (refine Below.setCell ?_ (by first | (simp; done) | (simp; omega)) _)))⟩
end Go.Proofs.YtfgpcflegodlmaaGreatDoor
namespace Go.Proofs.YtfgpcflegodlmaaGreatDoor
set_option maxRecDepth 100000
open Go.RowKit

/-- what is asked of a store: a prefix, a key, a time, how many -/
def askA (p : K25) (dp : Int) (k : K25) (t : UInt64) (most : Int) : Array Value := prefA p dp ++ row8 k.val ++ #[.int .u64 t.toNat, .int .i64 most]
theorem askA_size (p : K25) (dp : Int) (k : K25) (t : UInt64) (most : Int) : (askA p dp k t most).size = 53 := by simp [askA, k.property]
theorem ask_read {w : World} {v : Value} (h : Reads Tryz.prog w 124 v) : ∃ (p : K25) (dp : Int) (k : K25) (t : UInt64) (most : Int), v = .agg (askA p dp k t most) := by
  have hf := h.flat 7 (ks := (List.replicate 25 (CK.i .u8) ++ [CK.i .i64]) ++ (List.replicate 25 (CK.i .u8) ++ ([CK.i .u64] ++ [CK.i .i64]))) (by kernel_rfl)
  obtain ⟨cs, rfl⟩ := h.agg Tryz.underlying124
  obtain ⟨x, y, e, hx, hy⟩ := FitsAll.split hf
  obtain ⟨x1, x2, rfl, h1, h2⟩ := FitsAll.split hx
  obtain ⟨y1, y2, rfl, h3, h4⟩ := FitsAll.split hy
  obtain ⟨z1, z2, rfl, h5, h6⟩ := FitsAll.split h4
  obtain ⟨p, rfl⟩ := FitsAll.key h1
  obtain ⟨d, rfl, _⟩ := FitsAll.int h2
  obtain ⟨k, rfl⟩ := FitsAll.key h3
  obtain ⟨t, rfl⟩ := FitsAll.u64 h5
  obtain ⟨m, rfl, _⟩ := FitsAll.int h6
  refine ⟨p, d, k, t, m, congrArg Value.agg (Array.ext' ?_)⟩
  have e2 : cs.toList = _ := e
  rw [e2]
  simp [askA, prefA, row8, keyL]
theorem ask_cuts {w : World} {b : Nat} {p : K25} {dp : Int} {k : K25} {t : UInt64} {most : Int} {ty : TypeId} (h : w.heap[b]? = some (.cells (askA p dp k t most) ty)) :
    w.cut? b 0 26 = some (prefA p dp) ∧ w.cut? b 26 25 = some (row8 k.val) ∧ w.cell? ⟨b, 51, none⟩ = some (.int .u64 t.toNat) ∧ w.cell? ⟨b, 52, none⟩ = some (.int .i64 most) := by
  have hc := cut_heap h (askA_size p dp k t most)
  refine ⟨?_, ?_, ?_, ?_⟩
  · have := cut_sub hc (i := 0) (m := 26) (by decide)
    rw [Nat.zero_add] at this
    rw [this]
    unfold askA
    rw [Array.append_assoc, Array.extract_append]
    simp
  · have := cut_sub hc (i := 26) (m := 25) (by decide)
    rw [Nat.zero_add] at this
    rw [this]
    unfold askA
    rw [Array.append_assoc, Array.extract_append, Array.extract_append]
    simp only [prefA_size, row8_size, k.property]
    rw [Array.extract_eq_empty_of_le (by simp), Array.empty_append, Array.extract_eq_self_of_le (by simp [k.property]), Array.extract_eq_empty_of_le (by simp), Array.append_empty]
  · rw [(cells_is h 51).1]
    unfold askA
    rw [Array.getElem?_append_right (by simp [k.property])]
    simp [k.property]
  · rw [(cells_is h 52).1]
    unfold askA
    rw [Array.getElem?_append_right (by simp [k.property])]
    simp [k.property]
set_option maxHeartbeats 20000000 in
theorem nil_walk (p : K25) (dp : Int) (k : K25) (t : UInt64) (most : Int) (x : Wr) (w : World) : Gives Tryz.prog 8 #[.agg (askA p dp k t most), .agg (wrtA x)] w (.bool true) := by
  have HKN := Lib.hid known14_gives
  have HRD := Lib.hid (nread_gives k t)
  have HSC := Lib.hid (nscan_gives p dp t.toNat most)
  have HNX := Lib.hid (nnext_gives k)
  have HNW := Lib.hid (nnewest_gives k)
  have HNI := Lib.hid (nnewestIn_gives p dp)
  have HTR := Lib.hid (ntrim_gives k)
  have HVE := Lib.hid (nversions_gives p dp)
  have HKE := Lib.hid (nkeys_gives p dp)
  have hz := askA_size p dp k t most
  obtain ⟨A, hA⟩ : ∃ A, A = askA p dp k t most := ⟨_, rfl⟩
  rw [← hA] at hz ⊢
  have HA := Lib.hid hA
  clear hA
  unfold Gives
  go_enter Tryz.func8, Tryz.ntmps8
  go_upto_region 2 with fail
  refine wp_name ?_
  intro W0 hW0
  obtain ⟨qb, hqb⟩ : ∃ qb, qb = w.heap.size := ⟨_, rfl⟩
  have hb0 : Below w.heap.size w W0 := by rw [hW0]; exact ((Below.refl _ w).alloc (Nat.le_refl _) _).alloc (by simp) _
  have hq0 : W0.heap[qb]? = some (.cells A 124) := by rw [hW0, hqb, heap_al, if_neg (by simp), heap_al, if_pos rfl]
  have hw0 : W0.heap[qb + 1]? = some (.cells (wrtA x) 59) := by rw [hW0, hqb, heap_al, if_pos (by simp)]
  rw [HA.out] at hq0
  obtain ⟨c1, c2, c3, c4⟩ := ask_cuts hq0
  have c5 := cut_heap hw0 (wrtA_size _)
  have hql : qb + 1 < W0.heap.size := lt_of_heap hw0
  have hql0 : qb < W0.heap.size := by omega
  rw [← hqb]
  have HB := Lib.hid (And.intro hb0 hb0.size)
  clear hW0 hqb hb0 hq0 hw0 hz HA
  go_wp2_with fail
  refine Gives.use (HRD.out _) ?_
  intro xs1 d1
  go_upto_region 3 with fail
  refine wp_name ?_
  intro W1 hW1
  have hb1 : Below W0.heap.size W0 W1 := by rw [hW1]; exact (by repeat (first | exact below_of_grow _ _ | exact Below.refl _ _ | exact below_more _ _ _ _ | (simp only [← Array.append_assoc]; first | exact below_more _ _ _ _ | exact below_same _ _ _ | exact Below.refl _ _) | exact below_same _ _ _ | (refine Below.alloc ?_ (by first | (simp; done) | (simp; omega)) _) | (refine Below.grow ?_ (by first | (simp; done) | (simp; omega)) _ _) | refine Below.drew ?_ | refine Below.drewN ?_ _ | (refine Below.putF ?_ (by first | (simp; done) | omega | (simp; omega)) _) | (refine Below.setCell ?_ (by first | (simp; done) | (simp; omega)) _)))
  have c1' := (cut_of_heap (hb1.block qb hql0) 0 26).trans c1
  have c2' := (cut_of_heap (hb1.block qb hql0) 26 25).trans c2
  have c3' := (hb1.cell (p := ⟨qb, 51, none⟩) hql0).trans c3
  have c4' := (hb1.cell (p := ⟨qb, 52, none⟩) hql0).trans c4
  have c5' := (cut_of_heap (hb1.block (qb + 1) hql) 0 35).trans c5
  have hl1 : qb < W1.heap.size := Nat.lt_of_lt_of_le hql0 hb1.size
  have hm1 : qb + 1 < W1.heap.size := Nat.lt_of_lt_of_le hql hb1.size
  have HB1 := Lib.hid (And.intro (HB.out.1.trans (hb1.mono HB.out.2)) (Nat.le_trans HB.out.2 hb1.size))
  clear hW1 hb1 c1 c2 c3 c4 c5 hql hql0 HB
  go_wp2_with fail
  refine Gives.use (HSC.out _) ?_
  intro xs2 d2
  go_wp2_with fail
  refine Gives.use (HNX.out _) ?_
  intro xs3 d3
  go_upto_region 5 with fail
  refine wp_name ?_
  intro W2 hW2
  have hb2 : Below W1.heap.size W1 W2 := by rw [hW2]; exact (by repeat (first | exact below_of_grow _ _ | exact Below.refl _ _ | exact below_more _ _ _ _ | (simp only [← Array.append_assoc]; first | exact below_more _ _ _ _ | exact below_same _ _ _ | exact Below.refl _ _) | exact below_same _ _ _ | (refine Below.alloc ?_ (by first | (simp; done) | (simp; omega)) _) | (refine Below.grow ?_ (by first | (simp; done) | (simp; omega)) _ _) | refine Below.drew ?_ | refine Below.drewN ?_ _ | (refine Below.putF ?_ (by first | (simp; done) | omega | (simp; omega)) _) | (refine Below.setCell ?_ (by first | (simp; done) | (simp; omega)) _)))
  have c1 := (cut_of_heap (hb2.block qb hl1) 0 26).trans c1'
  have c2 := (cut_of_heap (hb2.block qb hl1) 26 25).trans c2'
  have c3 := (hb2.cell (p := ⟨qb, 51, none⟩) hl1).trans c3'
  have c4 := (hb2.cell (p := ⟨qb, 52, none⟩) hl1).trans c4'
  have c5 := (cut_of_heap (hb2.block (qb + 1) hm1) 0 35).trans c5'
  have hql0 : qb < W2.heap.size := Nat.lt_of_lt_of_le hl1 hb2.size
  have hql : qb + 1 < W2.heap.size := Nat.lt_of_lt_of_le hm1 hb2.size
  have HB := Lib.hid (And.intro (HB1.out.1.trans (hb2.mono HB1.out.2)) (Nat.le_trans HB1.out.2 hb2.size))
  clear hW2 hb2 c1' c2' c3' c4' c5' hl1 hm1 HB1
  go_wp2_with fail
  refine Gives.use (npublish_gives _ _) ?_
  intro xs4 d4
  go_upto_region 6 with fail
  refine wp_name ?_
  intro W3 hW3
  have hb3 : Below W2.heap.size W2 W3 := by rw [hW3]; exact (by repeat (first | exact below_of_grow _ _ | exact Below.refl _ _ | exact below_more _ _ _ _ | (simp only [← Array.append_assoc]; first | exact below_more _ _ _ _ | exact below_same _ _ _ | exact Below.refl _ _) | exact below_same _ _ _ | (refine Below.alloc ?_ (by first | (simp; done) | (simp; omega)) _) | (refine Below.grow ?_ (by first | (simp; done) | (simp; omega)) _ _) | refine Below.drew ?_ | refine Below.drewN ?_ _ | (refine Below.putF ?_ (by first | (simp; done) | omega | (simp; omega)) _) | (refine Below.setCell ?_ (by first | (simp; done) | (simp; omega)) _)))
  have c1' := (cut_of_heap (hb3.block qb hql0) 0 26).trans c1
  have c2' := (cut_of_heap (hb3.block qb hql0) 26 25).trans c2
  have c3' := (hb3.cell (p := ⟨qb, 51, none⟩) hql0).trans c3
  have c4' := (hb3.cell (p := ⟨qb, 52, none⟩) hql0).trans c4
  have c5' := (cut_of_heap (hb3.block (qb + 1) hql) 0 35).trans c5
  have hl1 : qb < W3.heap.size := Nat.lt_of_lt_of_le hql0 hb3.size
  have hm1 : qb + 1 < W3.heap.size := Nat.lt_of_lt_of_le hql hb3.size
  have HB1 := Lib.hid (And.intro (HB.out.1.trans (hb3.mono HB.out.2)) (Nat.le_trans HB.out.2 hb3.size))
  have k1 : ∀ (ys : Array Obj) (d : Nat) (o : Obj) (zs : Array Obj) (e : Nat), Below W3.heap.size W3 (((W3.grow ys d).alloc o).grow zs e) := fun ys d o zs e => ((below_of_grow ys d).alloc (by simp) o).grow (by simp; omega) zs e
  have k2 : ∀ (ys : Array Obj) (d : Nat) (o : Obj) (zs : Array Obj) (e : Nat) (o2 : Obj) (us : Array Obj) (f : Nat), Below W3.heap.size W3 (((((W3.grow ys d).alloc o).grow zs e).alloc o2).grow us f) := fun ys d o zs e o2 us f => ((k1 ys d o zs e).alloc (by simp; omega) o2).grow (by simp; omega) us f
  have f1 : ∀ (ys : Array Obj) (d : Nat) (o : Obj) (zs : Array Obj) (e : Nat), (((W3.grow ys d).alloc o).grow zs e).cut? qb 0 26 = some (prefA p dp) := fun ys d o zs e => (cut_of_heap ((k1 ys d o zs e).block qb hl1) 0 26).trans c1'
  have f2 : ∀ (ys : Array Obj) (d : Nat) (o : Obj) (zs : Array Obj) (e : Nat), (((W3.grow ys d).alloc o).grow zs e).cut? qb 26 25 = some (row8 k.val) := fun ys d o zs e => (cut_of_heap ((k1 ys d o zs e).block qb hl1) 26 25).trans c2'
  have f3 : ∀ (ys : Array Obj) (d : Nat) (o : Obj) (zs : Array Obj) (e : Nat), (((W3.grow ys d).alloc o).grow zs e).cell? ⟨qb, 51, none⟩ = some (.int .u64 t.toNat) := fun ys d o zs e => ((k1 ys d o zs e).cell (p := ⟨qb, 51, none⟩) hl1).trans c3'
  have f4 : ∀ (ys : Array Obj) (d : Nat) (o : Obj) (zs : Array Obj) (e : Nat) (o2 : Obj) (us : Array Obj) (f : Nat), (((((W3.grow ys d).alloc o).grow zs e).alloc o2).grow us f).cut? qb 0 26 = some (prefA p dp) := fun ys d o zs e o2 us f => (cut_of_heap ((k2 ys d o zs e o2 us f).block qb hl1) 0 26).trans c1'
  clear hW3 hb3 c1 c2 c3 c4 c5 hql hql0 HB k1 k2
  go_wp2_with fail
  refine Gives.use (HKN.out _) ?_
  intro xs5 d5
  go_wp2_with fail
  refine Gives.use (nroom_gives _ _) ?_
  intro xs6 d6
  go_wp2_with fail
  refine Gives.use (HNW.out _) ?_
  intro xs7 d7
  go_wp2_with fail
  refine Gives.use (HNI.out _) ?_
  intro xs8 d8
  go_wp2_with fail
  refine Gives.use (HTR.out _ _) ?_
  intro xs9 d9
  go_wp2_with fail
  refine Gives.use (nlast_gives _) ?_
  intro xs10 d10
  go_wp2_with fail
  refine Gives.use (nlive_gives _) ?_
  intro xs11 d11
  go_wp2_with fail
  refine Gives.use (HVE.out _) ?_
  intro xs12 d12
  go_wp2_with fail
  refine Gives.use (HKE.out _) ?_
  intro xs13 d13
  go_wp2_with fail
  go_ret
  exact ⟨rfl, HB1.out.1.trans ((show Below W3.heap.size W3 _ from (by repeat (first | exact below_of_grow _ _ | exact Below.refl _ _ | exact below_more _ _ _ _ | (simp only [← Array.append_assoc]; first | exact below_more _ _ _ _ | exact below_same _ _ _ | exact Below.refl _ _) | exact below_same _ _ _ | (refine Below.alloc ?_ (by first | (simp; done) | (simp; omega)) _) | (refine Below.grow ?_ (by first | (simp; done) | (simp; omega)) _ _) | refine Below.drew ?_ | refine Below.drewN ?_ _ | (refine Below.putF ?_ (by first | (simp; done) | omega | (simp; omega)) _) | (refine Below.setCell ?_ (by first | (simp; done) | (simp; omega)) _)))).mono HB1.out.2)⟩
theorem storeNil_law (w : World) (v0 v1 : Value) (h0 : Reads Tryz.prog w 124 v0) (h1 : Reads Tryz.prog w 59 v1) : Gives Tryz.prog 8 #[v0, v1] w (.bool true) := by
  obtain ⟨p, dp, k, t, most, rfl⟩ := ask_read h0
  obtain ⟨x, rfl⟩ : ∃ x : Wr, v1 = .agg (wrtA x) := by
    have hf := h1.flat 7 (ks := wrtCs) (by kernel_rfl)
    obtain ⟨cs, rfl⟩ := h1.agg Tryz.underlying59
    obtain ⟨x, hx⟩ := wrt_fit hf
    exact ⟨x, congrArg Value.agg hx⟩
  exact nil_walk p dp k t most x w

namespace storeNil
open Go.ChangeShapes Go.WideShapes Go.ChangeAt Go.RowKit
open Go.ChangeMaps (open_string shut_string)
theorem own : ownKnob Tryz.prog.godebug = none := by kernel_rfl
theorem laidOut : laidOutB Tryz.prog = true := by kernel_rfl
/-- a world in which the listed variables hold what the row says -/
noncomputable def laidW (os : Os) : World := World.laidAll Tryz.prog os Rows.storeNilRow.laid
set_option maxRecDepth 100000 in
theorem door_met (os : Os) (args : Array Value) : laidMetH Tryz.prog Rows.storeNilRow.laid ((laidW os).forCall (fun _ _ => 0) ⟨#[], args, []⟩).memory := by
  rw [MakeChecks.laidMetH_plain _ _ _ (by kernel_rfl)]
  exact laidMet_laidAll args (by kernel_rfl) (by kernel_rfl)
set_option maxRecDepth 100000 in
theorem lifted (os : Os) (started : os.Started) (H : Type) (enc : TypeId × Value → H) :
    ReturnsInHanded {} Tryz.checked os 8 .any (fun w args => (Rows.storeNilSpec.pre enc Tryz.prog Tryz.f8 Rows.storeNilRow.domain false w args ∧ laidMetH Tryz.prog Rows.storeNilRow.laid w) ∧ sizedMet enc Tryz.prog Tryz.f8 (OpenSpec.ofChange Rows.storeNilSpec) false w args) (Rows.storeNilSpec.post enc Tryz.prog Tryz.f8 false true false false) := by
  refine returnsInHanded_of_change_and (C := Tryz.checked) (X := fun w _ => laidMetH Tryz.prog Rows.storeNilRow.laid w) (fun _ _ _ hh h => h.of_heap hh) own started (by kernel_rfl) Tryz.func8
    (ChangeSpec.witness_shaped (enc := enc) (C := Tryz.checked) (os := os) (X := fun w _ => laidMetH Tryz.prog Rows.storeNilRow.laid w) false (laidW os) #[.agg #[.int .u8 0, .int .u8 0, .int .u8 0, .int .u8 0, .int .u8 0, .int .u8 0, .int .u8 0, .int .u8 0, .int .u8 0, .int .u8 0, .int .u8 0, .int .u8 0, .int .u8 0, .int .u8 0, .int .u8 0, .int .u8 0, .int .u8 0, .int .u8 0, .int .u8 0, .int .u8 0, .int .u8 0, .int .u8 0, .int .u8 0, .int .u8 0, .int .u8 0, .int .i64 0, .int .u8 0, .int .u8 0, .int .u8 0, .int .u8 0, .int .u8 0, .int .u8 0, .int .u8 0, .int .u8 0, .int .u8 0, .int .u8 0, .int .u8 0, .int .u8 0, .int .u8 0, .int .u8 0, .int .u8 0, .int .u8 0, .int .u8 0, .int .u8 0, .int .u8 0, .int .u8 0, .int .u8 0, .int .u8 0, .int .u8 0, .int .u8 0, .int .u8 0, .int .u64 0, .int .i64 0], .agg #[.int .u8 0, .int .u8 0, .int .u8 0, .int .u8 0, .int .u8 0, .int .u8 0, .int .u8 0, .int .u8 0, .int .u8 0, .int .u8 0, .int .u8 0, .int .u8 0, .int .u8 0, .int .u8 0, .int .u8 0, .int .u8 0, .int .u8 0, .int .u8 0, .int .u8 0, .int .u8 0, .int .u8 0, .int .u8 0, .int .u8 0, .int .u8 0, .int .u8 0, .bool false, .int .u8 0, .int .u8 0, .int .u8 0, .int .u8 0, .int .u8 0, .bool false, .int .u32 0, .int .u64 0, .string ByteArray.empty]] 8 (World.laidAll_os _ _ _) (World.shaped_of_ZipB (by kernel_rfl) (by kernel_rfl)) (by kernel_rfl) (by kernel_rfl) (by kernel_rfl) (door_met os _)) ?_
  intro W base args ds gs before hval0 hW _ _ _ _
  have hval : ∀ (j : Nat) t v, Tryz.f8.params[j]? = some t → args[j]? = some v → Value.okWide Tryz.prog W .any base t v := hval0
  have hW' := hW
  obtain ⟨p, q, hA0, hV, rfl, hfz, hnd⟩ := hW
  have hA : DataW.TrodAll enc Tryz.prog W 0 (fun _ => true) true Tryz.f8.params.toList args.toList ds p := hA0
  rw [Tryz.params8] at hA hval
  obtain ⟨v0, vs0, d0, ds0, p0, q0, hargs, rfl, rfl, h0, r0⟩ := trodAll_cons hA
  obtain ⟨v1, vs1, d1, ds1, p1, q1, rfl, rfl, rfl, h1, r1⟩ := trodAll_cons r0
  obtain ⟨rfl, rfl, rfl⟩ := trodAll_nil r1
  obtain rfl : args = #[v0, v1] := by cases args; simp_all
  obtain ⟨rfl, rfl⟩ := trodVars_none hV
  have lt0 : ∀ x ∈ p0, x.block < W.heap.size := by obtain ⟨m, hm⟩ := h0; exact DataW.trod_lt m _ _ _ hm
  have lt1 : ∀ x ∈ p1, x.block < W.heap.size := by obtain ⟨m, hm⟩ := h1; exact DataW.trod_lt m _ _ _ hm
  clear hA0 hval0
  refine Calls.mono (storeNil_law W v0 v1 ⟨⟨_, hval 0 124 v0 rfl rfl⟩, H, enc, _, _, h0⟩ ⟨⟨_, hval 1 59 v1 rfl rfl⟩, H, enc, _, _, h1⟩) fun e W' ⟨he, bel⟩ => ?_
  subst he
  exact ⟨_, rfl, _, _, _, [], _, [], hW', trodAll_mk1 (shut_bool Tryz.underlying4 _), (trodAll_cons_mk (Below.trod laidOut (by kernel_rfl) (of_decide_eq_true (by kernel_rfl)) h0 bel lt0) (trodAll_cons_mk (Below.trod laidOut (by kernel_rfl) (of_decide_eq_true (by kernel_rfl)) h1 bel lt1) trodAll_mk0)), rfl, bel.frame _, fun h => by cases h⟩
theorem said : Rows.StoreNilSaid :=
  OpenClaim.holds_of_wide 8 Tryz.f8 rfl rfl rfl rfl rfl rfl rfl ⟨rfl, rfl, rfl, rfl, rfl⟩ rfl rfl rfl rfl rfl (by kernel_rfl) Tryz.func8 (by kernel_rfl)
    (of_decide_eq_true (by kernel_rfl)) (by unfold Func.isWrapper; first | (rw [if_pos (by decide +kernel)]; kernel_rfl) | (rw [if_neg (by decide +kernel)]; exact ⟨rfl, rfl⟩))
    (fun os started H enc _ => lifted os started H enc)
/-- no parameter wants a stand-in; the program's own looks are off -/
theorem plain (f : FuncId) (fn : Func) (hf : Tryz.pinned.checked.prog.funcNamed "vulgate/vulgatelaw14.StoreNil" = some f) (hfn : Tryz.pinned.checked.prog.funcs[f]? = some fn) :
    false = Tryz.pinned.checked.prog.looks [] ∧ ∀ (j : Nat) t, fn.params[j]? = some t → Tryz.pinned.checked.prog.wantsStandIn t = false := by
  obtain rfl : f = 8 := Option.some.inj ((show Tryz.prog.funcNamed "vulgate/vulgatelaw14.StoreNil" = some 8 by kernel_rfl).symm.trans hf) |>.symm
  obtain rfl : fn = Tryz.f8 := (Option.some.inj (Tryz.func8.symm.trans hfn)).symm
  refine ⟨by kernel_rfl, fun j t ht => ?_⟩
  rw [Tryz.params8] at ht
  have hm : t ∈ [124, 59] := by simpa using Array.mem_of_getElem? ht
  have hall : ([124, 59].all fun u => !Tryz.prog.wantsStandIn u) = true := by kernel_rfl
  exact (show Tryz.prog.wantsStandIn t = false by simpa using List.all_eq_true.1 hall t hm)
theorem proved : Rows.StoreNilCardSaid :=
  Claim7.holds_tied_plain_at .later [] _ _ _ _ said (fun _ h => by cases h) (by kernel_rfl) (fun _ h => by cases h) storeNil_row_tie rfl ⟨rfl, rfl⟩ (by kernel_rfl) rfl plain (by kernel_rfl)
#print axioms proved
end storeNil
end Go.Proofs.YtfgpcflegodlmaaGreatDoor

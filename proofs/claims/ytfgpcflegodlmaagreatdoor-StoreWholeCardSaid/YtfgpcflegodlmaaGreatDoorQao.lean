/- Layer 11: the iterator over a tree's leaves that begin with some bytes: it goes down, then it walks. -/
import Derived.Test.YtfgpcflegodlmaaGreatDoorQan
import Derived.Deep.CutBlock
import Derived.Handy
namespace Go.Proofs.YtfgpcflegodlmaaGreatDoor
set_option maxRecDepth 100000
open Go.RowKit Go.Shelf

set_option maxHeartbeats 8000000 in
theorem leaves1_some {kp : Obj → Bool} (hky : ∀ l, kp (.cells #[.func (.yield l) #[] #[]] 278) = true) (S : Nat → Prop) (n : Nat) (t Tb Fb : Nat) (T : CT K25) (m : Int) (fv : Value) (fr : List UInt8) (w : World) (hS : ∀ b, S b → b < w.heap.size) (hTb : S Tb) (hFb : S Fb)
    (hcT : w.cell? ⟨Tb, 0, none⟩ = some (pt t)) (hcF : w.cell? ⟨Fb, 0, none⟩ = some fv) (hT : TreeAt w t (some T) m) (hSt : S t) (hSf : ∀ b ∈ T.foot, S b)
    (hF : ∀ W, Sm S w W → SlB W w.heap.size fv fr) (hfr : fr.length ≤ 25)
    (l : Nat) (J Jx : List (Lf (some T)) → World → Prop) (W : World) (hW : Below w.heap.size w W) (hJ : OwnFrom W.heap.size J)
    (hY : ∀ pre x W1, J pre W1 → pre.length < (frontL fr T.list).length → YieldAt Fence.wide (n - 1) Tryz.prog l (encLf (some T) x) W1 fun e W' =>
      ((e = .returned (.bool true) ∧ J (pre ++ [x]) W' ∧ KeepS S W1 W') ∨ (e = .returned (.bool false) ∧ Jx (pre ++ [x]) W')) ∧ KeepsX kp W.heap.size W1 W')
    (h0 : J [] W) :
    Calls Tryz.prog 132 #[.func (.yield l) #[] #[], .pointer (some ⟨Tb, 0, none⟩), .pointer (some ⟨Fb, 0, none⟩)] W fun e W' => (∃ v, e = .returned v) ∧
      ((∃ xs, valsL xs = frontL fr T.list ∧ J xs W') ∨ (∃ pre, valsL pre <+: frontL fr T.list ∧ Jx pre W')) := by
  have hkW : KeepS S w W := KeepS.of_below hW hS
  have cT := (hkW.same.cell hTb 0).trans hcT
  have cF := (hkW.same.cell hFb 0).trans hcF
  have hSz := hW.size
  have lT : Tb < W.heap.size := by have := hS _ hTb; omega
  have lF : Fb < W.heap.size := by have := hS _ hFb; omega
  have lt : t < W.heap.size := by have := hS _ hSt; omega
  have ct : W.cell? ⟨t, 0, none⟩ = some (.pointer (some ⟨T.at_, 0, none⟩)) := by
    have := hT.1
    rw [hkW.same.cell hSt 0]; simp [World.cell?, this, rootV, pt]
  obtain ⟨fa, fc, rfl, -⟩ := hF W hkW.same
  have HF := Lib.hid hF
  have HJ := Lib.hid (And.intro hJ (And.intro hY h0))
  have HT := Lib.hid (And.intro hT (And.intro hSf (And.intro hS hkW)))
  have HSide := Lib.hid (side_gives (fr ++ zeros (25 - fr.length)) (by simp [zeros]; omega))
  simp only [pt] at cT
  have HKY := Lib.hid hky
  clear hF hJ hY h0 hT hSf hS hkW hW hcT hcF hky
  go_enter Tryz.func132, Tryz.ntmps132
  go_wp2_with fail
  have hcp : ∀ xs d, (Builtin.copy_ #[213, 213] 3 #[.slice (some ⟨W.heap.size + 1, 0, none⟩) 25 25, .slice fa fr.length fc]).run Tryz.prog (((W.alloc (.cells #[.func (.yield l) #[] #[]] 278)).alloc (.cells (row8 (zeros 25)) 199)).grow xs d) =
      .ok (goInt (fr.length : Int)) ((((W.alloc (.cells #[.func (.yield l) #[] #[]] 278)).alloc (.cells (row8 (zeros 25)) 199)).grow xs d).setRow (W.heap.size + 1) (row8 (fr ++ zeros (25 - fr.length)))) := by
    intro xs d
    have hb : Below W.heap.size W (((W.alloc (.cells #[.func (.yield l) #[] #[]] 278)).alloc (.cells (row8 (zeros 25)) 199)).grow xs d) :=
      (((Below.refl _ W).alloc (Nat.le_refl _) _).alloc (by simp) _).grow (by simp; omega) _ _
    refine copy_front (B := w.heap.size) (t := 199) (HF.out _ fun b hb' => ?_) hfr ?_ _
    · have := HT.out.2.2.1 b hb'
      exact (hb.block b (by omega)).trans (HT.out.2.2.2.same b hb')
    · rw [World.grow_heap _ _ _ (by simp), heap_al, if_pos (by simp)]
  have HCP := Lib.hid hcp
  clear hcp
  apply wp_region_specs (by rfl) [.val _, .val _] 2 (by rfl) [8, 9] [] [] (by rfl) (by rfl) (by decide) (by decide +kernel) (fun _ _ _ _ _ h => h)
  case hF => intro x; simp only [over, List.foldl_cons, List.foldl_nil, List.setIfInBounds_toArray, List.set_cons_succ, List.set_cons_zero]; exact rfl
  case hops =>
    refine ⟨?o0, ?o1, trivial⟩
    case o0 =>
      intro x w1 hH K hK
      obtain ⟨xs, d, rfl⟩ := grow_of_below hH.below
      clear hH
      try simp only [World.grow_drew] at hK ⊢
      try simp only [World.grow_grow] at hK ⊢
      go_simp
      go_wp2_with fail
      exact ⟨_, rfl, rfl, (by repeat (first | exact below_of_grow _ _ | exact Below.refl _ _ | exact below_more _ _ _ _ | (simp only [← Array.append_assoc]; first | exact below_more _ _ _ _ | exact below_same _ _ _ | exact Below.refl _ _) | exact below_same _ _ _ | (refine Below.alloc ?_ (by first | (simp; done) | (simp; omega)) _) | (refine Below.grow ?_ (by first | (simp; done) | (simp; omega)) _ _) | refine Below.drew ?_ | refine Below.drewN ?_ _ | (refine Below.putF ?_ (by first | (simp; done) | omega | (simp; omega)) _) | (refine Below.setCell ?_ (by first | (simp; done) | (simp; omega)) _))), fun h => by cases h⟩
    case o1 =>
      intro x w1 hH K hK
      obtain ⟨xs, d, rfl⟩ := grow_of_below hH.below
      clear hH
      try simp only [World.grow_drew] at hK ⊢
      try simp only [World.grow_grow] at hK ⊢
      go_simp
      go_wp2_with fail
      exact ⟨_, rfl, rfl, (by repeat (first | exact below_of_grow _ _ | exact Below.refl _ _ | exact below_more _ _ _ _ | (simp only [← Array.append_assoc]; first | exact below_more _ _ _ _ | exact below_same _ _ _ | exact Below.refl _ _) | exact below_same _ _ _ | (refine Below.alloc ?_ (by first | (simp; done) | (simp; omega)) _) | (refine Below.grow ?_ (by first | (simp; done) | (simp; omega)) _ _) | refine Below.drew ?_ | refine Below.drewN ?_ _ | (refine Below.putF ?_ (by first | (simp; done) | omega | (simp; omega)) _) | (refine Below.setCell ?_ (by first | (simp; done) | (simp; omega)) _))), fun h => by cases h⟩
  case hend =>
    intro x w1 hH
    have e8 : x 8 = _ := hH.holds 0 (by decide) trivial 8 rfl
    have e9 : x 9 = _ := hH.holds 1 (by decide) trivial 9 rfl
    obtain ⟨xs, d, rfl⟩ := grow_of_below hH.below
    clear hH
    simp only [e8, e9]; clear e8 e9
    simp only [List.drop_succ_cons, List.drop_zero]
    have hcp := HCP.out xs d
    go_upto_region 4 with fail
    refine wp_name ?_
    intro W3 hW3
    clear hcp HCP
    have hb0 : Below W.heap.size W (((W.alloc (.cells #[.func (.yield l) #[] #[]] 278)).alloc (.cells (row8 (zeros 25)) 199)).grow xs d) :=
      (((Below.refl _ W).alloc (Nat.le_refl _) _).alloc (by simp) _).grow (by simp; omega) _ _
    have hg0 : (((W.alloc (.cells #[.func (.yield l) #[] #[]] 278)).alloc (.cells (row8 (zeros 25)) 199)).grow xs d).heap[W.heap.size + 1]? = some (.cells (row8 (zeros 25)) 199) := by
      rw [World.grow_heap _ _ _ (by simp), heap_al, if_pos (by simp)]
    have hy0 : (((W.alloc (.cells #[.func (.yield l) #[] #[]] 278)).alloc (.cells (row8 (zeros 25)) 199)).grow xs d).heap[W.heap.size]? = some (.cells #[.func (.yield l) #[] #[]] 278) := by
      rw [World.grow_heap _ _ _ (by simp; omega), heap_al, if_neg (by simp), heap_al, if_pos rfl]
    obtain ⟨V, hV⟩ : ∃ V, V = (((W.alloc (.cells #[.func (.yield l) #[] #[]] 278)).alloc (.cells (row8 (zeros 25)) 199)).grow xs d) := ⟨_, rfl⟩
    rw [← hV] at hb0 hg0 hy0 hW3
    clear hV
    have hbt : But [W.heap.size + 1] V W3 := by rw [hW3]; exact setRow_but hg0
    have hg3 : W3.heap[W.heap.size + 1]? = some (.cells (row8 (fr ++ zeros (25 - fr.length))) 199) := by rw [hW3]; exact setRow_heap V _ _ _ _ (0, 0) hg0
    have hb3 : Below W.heap.size W W3 := hb0.trans (hbt.below (by simp) hb0.size)
    have hy3 := (hbt.same _ (lt_of_heap hy0) (by simp)).trans hy0
    have hc3 : W3.cut? (W.heap.size + 1) 0 25 = some (row8 (fr ++ zeros (25 - fr.length))) := cut_heap hg3 (by simp [zeros]; omega)
    have gl3 : W.heap.size + 1 < W3.heap.size := lt_of_heap hg3
    have cT3 := (hb3.cell (p := ⟨Tb, 0, none⟩) lT).trans cT
    have cF3 := (hb3.cell (p := ⟨Fb, 0, none⟩) lF).trans cF
    have ct3 := (hb3.cell (p := ⟨t, 0, none⟩) lt).trans ct
    have lT3 : Tb < W3.heap.size := by omega
    have lF3 : Fb < W3.heap.size := by omega
    have lt3 : t < W3.heap.size := by omega
    have hT3 : T.At W3 := (HT.out.1.2 T rfl).1.keep fun b hb => (hb3.block b (by have := HT.out.2.2.1 b (HT.out.2.1 b hb); omega)).trans (HT.out.2.2.2.same b (HT.out.2.1 b hb))
    have hO3 : T.Ok keyBytes 200 := (HT.out.1.2 T rfl).2
    have H3 := Lib.hid (And.intro hb3 (And.intro hy3 (And.intro hT3 hO3)))
    have hlr := hT3.root
    clear hbt hg3 hb3 hy3 hT3 hO3 hb0 hg0 hy0 hW3 cT cF ct
    obtain ⟨q, hq⟩ : ∃ q, q = W.heap.size + 1 := ⟨_, rfl⟩
    rw [← hq] at hc3 gl3
    have hfI : (fr.length : Int) ≤ 25 := by omega
    have hm8 : IntKind.i64.wrap (8 * (fr.length : Int)) = 8 * (fr.length : Int) := by rw [IntKind.wrap_i64]; omega
    obtain ⟨bb, hbb⟩ : ∃ bb, bb = fr ++ zeros (25 - fr.length) := ⟨_, rfl⟩
    rw [← hbb] at hc3 HSide
    have HBB := Lib.hid hbb
    have HQ := Lib.hid hq
    clear hbb
    go_upto_block 0 with fail
    rw [← hq]
    clear hq
    go_cut [5] (fun s5 wx => ∃ (X : CT K25) (xs : Array Obj) (d : Nat), s5 = .pointer (some ⟨X.at_, 0, none⟩) ∧ X.At W3 ∧ (∀ x ∈ X.list, x ∈ T.list) ∧ (∀ b ∈ X.foot, S b) ∧ frontL fr X.list = frontL fr T.list ∧ wx = W3.grow xs d)
    case first =>
      go_wp2_with fail
      go_loopw [5] (fun s5 wr => ∃ (X : CT K25) (xs : Array Obj) (d : Nat), s5 = .pointer (some ⟨X.at_, 0, none⟩) ∧ X.At W3 ∧ X.Ok keyBytes 200 ∧ (∀ x ∈ X.list, x ∈ T.list) ∧ (∀ b ∈ X.foot, S b) ∧ frontL fr X.list = frontL fr T.list ∧ wr = W3.grow xs d)
        (fun s5 wr => depthAt W3 s5)
      case atStart => exact ⟨T, #[], W3.drawn, rfl, H3.out.2.2.1, H3.out.2.2.2, fun x hx => hx, HT.out.2.1, rfl, World.grow_nil.symm⟩
      case round =>
        obtain ⟨X, xs, d, rfl, hX, hXO, hXl, hXf, hXe, rfl⟩ := hrel
        cases X with
        | leaf a k c =>
          rw [at_leaf]
          have hc0 := (NodeAt.cells hX k.property k.property).1
          have hla := lt_of_heap hX
          have HX := Lib.hid (And.intro hX (And.intro hXl (And.intro hXf hXe)))
          clear hX hXO hXl hXf hXe
          go_wp2_with fail
          apply wp_region_specs (by rfl) [.val _, .val _, .val _, .val _, .val _, .val _, .val _, .val _, .val _, .val _, .val _, .val _, .val _, .val _, .val _, .val _, .val _, .val _, .val _] 19 (by rfl) [15, 16, 17, 18, 19, 20, 21, 22, 23, 24, 25, 26, 27, 28, 29, 30, 31, 32, 33] [] [] (by rfl) (by rfl) (by decide) (by decide +kernel) (fun _ _ _ _ _ h => h)
          case hF => intro x; simp only [over, List.foldl_cons, List.foldl_nil, List.setIfInBounds_toArray, List.set_cons_succ, List.set_cons_zero]; exact rfl
          case hops =>
            refine ⟨?o0, ?o1, ?o2, ?o3, ?o4, ?o5, ?o6, ?o7, ?o8, ?o9, ?o10, ?o11, ?o12, ?o13, ?o14, ?o15, ?o16, ?o17, ?o18, trivial⟩
            case o0 =>
              intro x w1 hH K hK
              obtain ⟨xs, d, rfl⟩ := grow_of_below hH.below
              clear hH
              try simp only [World.grow_drew] at hK ⊢
              try simp only [World.grow_grow] at hK ⊢
              go_simp
              go_wp2_with fail
              exact ⟨_, rfl, rfl, (by repeat (first | exact below_of_grow _ _ | exact Below.refl _ _ | exact below_more _ _ _ _ | (simp only [← Array.append_assoc]; first | exact below_more _ _ _ _ | exact below_same _ _ _ | exact Below.refl _ _) | exact below_same _ _ _ | (refine Below.alloc ?_ (by first | (simp; done) | (simp; omega)) _) | (refine Below.grow ?_ (by first | (simp; done) | (simp; omega)) _ _) | refine Below.drew ?_ | refine Below.drewN ?_ _ | (refine Below.putF ?_ (by first | (simp; done) | omega | (simp; omega)) _) | (refine Below.setCell ?_ (by first | (simp; done) | (simp; omega)) _))), fun h => by cases h⟩
            case o1 =>
              intro x w1 hH K hK
              have e15 : x 15 = _ := hH.holds 0 (by decide) (by decide +kernel) 15 rfl
              obtain ⟨xs, d, rfl⟩ := grow_of_below hH.below
              clear hH
              try simp only [World.grow_drew] at hK ⊢
              try simp only [World.grow_grow] at hK ⊢
              simp only [e15] at hK ⊢
              clear e15
              go_simp
              go_wp2_with fail
              exact ⟨_, rfl, rfl, (by repeat (first | exact below_of_grow _ _ | exact Below.refl _ _ | exact below_more _ _ _ _ | (simp only [← Array.append_assoc]; first | exact below_more _ _ _ _ | exact below_same _ _ _ | exact Below.refl _ _) | exact below_same _ _ _ | (refine Below.alloc ?_ (by first | (simp; done) | (simp; omega)) _) | (refine Below.grow ?_ (by first | (simp; done) | (simp; omega)) _ _) | refine Below.drew ?_ | refine Below.drewN ?_ _ | (refine Below.putF ?_ (by first | (simp; done) | omega | (simp; omega)) _) | (refine Below.setCell ?_ (by first | (simp; done) | (simp; omega)) _))), fun h => by cases h⟩
            case o2 =>
              intro x w1 hH K hK
              have e16 : x 16 = _ := hH.holds 1 (by decide) (by decide +kernel) 16 rfl
              obtain ⟨xs, d, rfl⟩ := grow_of_below hH.below
              clear hH
              try simp only [World.grow_drew] at hK ⊢
              try simp only [World.grow_grow] at hK ⊢
              simp only [e16] at hK ⊢
              clear e16
              go_simp
              go_wp2_with fail
              exact ⟨_, rfl, rfl, (by repeat (first | exact below_of_grow _ _ | exact Below.refl _ _ | exact below_more _ _ _ _ | (simp only [← Array.append_assoc]; first | exact below_more _ _ _ _ | exact below_same _ _ _ | exact Below.refl _ _) | exact below_same _ _ _ | (refine Below.alloc ?_ (by first | (simp; done) | (simp; omega)) _) | (refine Below.grow ?_ (by first | (simp; done) | (simp; omega)) _ _) | refine Below.drew ?_ | refine Below.drewN ?_ _ | (refine Below.putF ?_ (by first | (simp; done) | omega | (simp; omega)) _) | (refine Below.setCell ?_ (by first | (simp; done) | (simp; omega)) _))), fun h => by cases h⟩
            case o3 =>
              intro x w1 hH K hK
              have e17 : x 17 = _ := hH.holds 2 (by decide) (by decide +kernel) 17 rfl
              obtain ⟨xs, d, rfl⟩ := grow_of_below hH.below
              clear hH
              try simp only [World.grow_drew] at hK ⊢
              try simp only [World.grow_grow] at hK ⊢
              simp only [e17] at hK ⊢
              clear e17
              go_simp
              go_wp2_with fail
              exact ⟨_, rfl, rfl, (by repeat (first | exact below_of_grow _ _ | exact Below.refl _ _ | exact below_more _ _ _ _ | (simp only [← Array.append_assoc]; first | exact below_more _ _ _ _ | exact below_same _ _ _ | exact Below.refl _ _) | exact below_same _ _ _ | (refine Below.alloc ?_ (by first | (simp; done) | (simp; omega)) _) | (refine Below.grow ?_ (by first | (simp; done) | (simp; omega)) _ _) | refine Below.drew ?_ | refine Below.drewN ?_ _ | (refine Below.putF ?_ (by first | (simp; done) | omega | (simp; omega)) _) | (refine Below.setCell ?_ (by first | (simp; done) | (simp; omega)) _))), fun h => by cases h⟩
            case o4 =>
              intro x w1 hH K hK
              have e17 : x 17 = _ := hH.holds 2 (by decide) (by decide +kernel) 17 rfl
              have e18 : x 18 = _ := hH.holds 3 (by decide) (by decide +kernel) 18 rfl
              obtain ⟨xs, d, rfl⟩ := grow_of_below hH.below
              clear hH
              try simp only [World.grow_drew] at hK ⊢
              try simp only [World.grow_grow] at hK ⊢
              simp only [e17, e18] at hK ⊢
              clear e17 e18
              go_simp
              go_wp2_with fail
              exact ⟨_, rfl, rfl, (by repeat (first | exact below_of_grow _ _ | exact Below.refl _ _ | exact below_more _ _ _ _ | (simp only [← Array.append_assoc]; first | exact below_more _ _ _ _ | exact below_same _ _ _ | exact Below.refl _ _) | exact below_same _ _ _ | (refine Below.alloc ?_ (by first | (simp; done) | (simp; omega)) _) | (refine Below.grow ?_ (by first | (simp; done) | (simp; omega)) _ _) | refine Below.drew ?_ | refine Below.drewN ?_ _ | (refine Below.putF ?_ (by first | (simp; done) | omega | (simp; omega)) _) | (refine Below.setCell ?_ (by first | (simp; done) | (simp; omega)) _))), fun h => by cases h⟩
            case o5 =>
              intro x w1 hH K hK
              have e17 : x 17 = _ := hH.holds 2 (by decide) (by decide +kernel) 17 rfl
              have e19 : x 19 = _ := hH.holds 4 (by decide) (by decide +kernel) 19 rfl
              obtain ⟨xs, d, rfl⟩ := grow_of_below hH.below
              clear hH
              try simp only [World.grow_drew] at hK ⊢
              try simp only [World.grow_grow] at hK ⊢
              simp only [e17, e19] at hK ⊢
              clear e17 e19
              go_simp
              go_wp2_with fail
              exact ⟨_, rfl, rfl, (by repeat (first | exact below_of_grow _ _ | exact Below.refl _ _ | exact below_more _ _ _ _ | (simp only [← Array.append_assoc]; first | exact below_more _ _ _ _ | exact below_same _ _ _ | exact Below.refl _ _) | exact below_same _ _ _ | (refine Below.alloc ?_ (by first | (simp; done) | (simp; omega)) _) | (refine Below.grow ?_ (by first | (simp; done) | (simp; omega)) _ _) | refine Below.drew ?_ | refine Below.drewN ?_ _ | (refine Below.putF ?_ (by first | (simp; done) | omega | (simp; omega)) _) | (refine Below.setCell ?_ (by first | (simp; done) | (simp; omega)) _))), fun h => by cases h⟩
            case o6 =>
              intro x w1 hH K hK
              have e17 : x 17 = _ := hH.holds 2 (by decide) (by decide +kernel) 17 rfl
              have e20 : x 20 = _ := hH.holds 5 (by decide) (by decide +kernel) 20 rfl
              obtain ⟨xs, d, rfl⟩ := grow_of_below hH.below
              clear hH
              try simp only [World.grow_drew] at hK ⊢
              try simp only [World.grow_grow] at hK ⊢
              simp only [e17, e20] at hK ⊢
              clear e17 e20
              go_simp
              go_wp2_with fail
              exact ⟨_, rfl, rfl, (by repeat (first | exact below_of_grow _ _ | exact Below.refl _ _ | exact below_more _ _ _ _ | (simp only [← Array.append_assoc]; first | exact below_more _ _ _ _ | exact below_same _ _ _ | exact Below.refl _ _) | exact below_same _ _ _ | (refine Below.alloc ?_ (by first | (simp; done) | (simp; omega)) _) | (refine Below.grow ?_ (by first | (simp; done) | (simp; omega)) _ _) | refine Below.drew ?_ | refine Below.drewN ?_ _ | (refine Below.putF ?_ (by first | (simp; done) | omega | (simp; omega)) _) | (refine Below.setCell ?_ (by first | (simp; done) | (simp; omega)) _))), fun h => by cases h⟩
            case o7 =>
              intro x w1 hH K hK
              have e17 : x 17 = _ := hH.holds 2 (by decide) (by decide +kernel) 17 rfl
              have e21 : x 21 = _ := hH.holds 6 (by decide) (by decide +kernel) 21 rfl
              obtain ⟨xs, d, rfl⟩ := grow_of_below hH.below
              clear hH
              try simp only [World.grow_drew] at hK ⊢
              try simp only [World.grow_grow] at hK ⊢
              simp only [e17, e21] at hK ⊢
              clear e17 e21
              go_simp
              go_wp2_with fail
              exact ⟨_, rfl, rfl, (by repeat (first | exact below_of_grow _ _ | exact Below.refl _ _ | exact below_more _ _ _ _ | (simp only [← Array.append_assoc]; first | exact below_more _ _ _ _ | exact below_same _ _ _ | exact Below.refl _ _) | exact below_same _ _ _ | (refine Below.alloc ?_ (by first | (simp; done) | (simp; omega)) _) | (refine Below.grow ?_ (by first | (simp; done) | (simp; omega)) _ _) | refine Below.drew ?_ | refine Below.drewN ?_ _ | (refine Below.putF ?_ (by first | (simp; done) | omega | (simp; omega)) _) | (refine Below.setCell ?_ (by first | (simp; done) | (simp; omega)) _))), fun h => by cases h⟩
            case o8 =>
              intro x w1 hH K hK
              have e17 : x 17 = _ := hH.holds 2 (by decide) (by decide +kernel) 17 rfl
              have e22 : x 22 = _ := hH.holds 7 (by decide) (by decide +kernel) 22 rfl
              obtain ⟨xs, d, rfl⟩ := grow_of_below hH.below
              clear hH
              try simp only [World.grow_drew] at hK ⊢
              try simp only [World.grow_grow] at hK ⊢
              simp only [e17, e22] at hK ⊢
              clear e17 e22
              go_simp
              go_wp2_with fail
              exact ⟨_, rfl, rfl, (by repeat (first | exact below_of_grow _ _ | exact Below.refl _ _ | exact below_more _ _ _ _ | (simp only [← Array.append_assoc]; first | exact below_more _ _ _ _ | exact below_same _ _ _ | exact Below.refl _ _) | exact below_same _ _ _ | (refine Below.alloc ?_ (by first | (simp; done) | (simp; omega)) _) | (refine Below.grow ?_ (by first | (simp; done) | (simp; omega)) _ _) | refine Below.drew ?_ | refine Below.drewN ?_ _ | (refine Below.putF ?_ (by first | (simp; done) | omega | (simp; omega)) _) | (refine Below.setCell ?_ (by first | (simp; done) | (simp; omega)) _))), fun h => by cases h⟩
            case o9 =>
              intro x w1 hH K hK
              have e23 : x 23 = _ := hH.holds 8 (by decide) (by decide +kernel) 23 rfl
              obtain ⟨xs, d, rfl⟩ := grow_of_below hH.below
              clear hH
              try simp only [World.grow_drew] at hK ⊢
              try simp only [World.grow_grow] at hK ⊢
              simp only [e23] at hK ⊢
              clear e23
              go_simp
              go_wp2_with fail
              exact ⟨_, rfl, rfl, (by repeat (first | exact below_of_grow _ _ | exact Below.refl _ _ | exact below_more _ _ _ _ | (simp only [← Array.append_assoc]; first | exact below_more _ _ _ _ | exact below_same _ _ _ | exact Below.refl _ _) | exact below_same _ _ _ | (refine Below.alloc ?_ (by first | (simp; done) | (simp; omega)) _) | (refine Below.grow ?_ (by first | (simp; done) | (simp; omega)) _ _) | refine Below.drew ?_ | refine Below.drewN ?_ _ | (refine Below.putF ?_ (by first | (simp; done) | omega | (simp; omega)) _) | (refine Below.setCell ?_ (by first | (simp; done) | (simp; omega)) _))), fun h => by cases h⟩
            case o10 =>
              intro x w1 hH K hK
              have e24 : x 24 = _ := hH.holds 9 (by decide) (by decide +kernel) 24 rfl
              obtain ⟨xs, d, rfl⟩ := grow_of_below hH.below
              clear hH
              try simp only [World.grow_drew] at hK ⊢
              try simp only [World.grow_grow] at hK ⊢
              simp only [e24] at hK ⊢
              clear e24
              go_simp
              go_wp2_with fail
              exact ⟨_, rfl, rfl, (by repeat (first | exact below_of_grow _ _ | exact Below.refl _ _ | exact below_more _ _ _ _ | (simp only [← Array.append_assoc]; first | exact below_more _ _ _ _ | exact below_same _ _ _ | exact Below.refl _ _) | exact below_same _ _ _ | (refine Below.alloc ?_ (by first | (simp; done) | (simp; omega)) _) | (refine Below.grow ?_ (by first | (simp; done) | (simp; omega)) _ _) | refine Below.drew ?_ | refine Below.drewN ?_ _ | (refine Below.putF ?_ (by first | (simp; done) | omega | (simp; omega)) _) | (refine Below.setCell ?_ (by first | (simp; done) | (simp; omega)) _))), fun h => by cases h⟩
            case o11 =>
              intro x w1 hH K hK
              have e24 : x 24 = _ := hH.holds 9 (by decide) (by decide +kernel) 24 rfl
              have e25 : x 25 = _ := hH.holds 10 (by decide) (by decide +kernel) 25 rfl
              obtain ⟨xs, d, rfl⟩ := grow_of_below hH.below
              clear hH
              try simp only [World.grow_drew] at hK ⊢
              try simp only [World.grow_grow] at hK ⊢
              simp only [e24, e25] at hK ⊢
              clear e24 e25
              go_simp
              go_wp2_with fail
              exact ⟨_, rfl, rfl, (by repeat (first | exact below_of_grow _ _ | exact Below.refl _ _ | exact below_more _ _ _ _ | (simp only [← Array.append_assoc]; first | exact below_more _ _ _ _ | exact below_same _ _ _ | exact Below.refl _ _) | exact below_same _ _ _ | (refine Below.alloc ?_ (by first | (simp; done) | (simp; omega)) _) | (refine Below.grow ?_ (by first | (simp; done) | (simp; omega)) _ _) | refine Below.drew ?_ | refine Below.drewN ?_ _ | (refine Below.putF ?_ (by first | (simp; done) | omega | (simp; omega)) _) | (refine Below.setCell ?_ (by first | (simp; done) | (simp; omega)) _))), fun h => by cases h⟩
            case o12 =>
              intro x w1 hH K hK
              have e24 : x 24 = _ := hH.holds 9 (by decide) (by decide +kernel) 24 rfl
              have e26 : x 26 = _ := hH.holds 11 (by decide) (by decide +kernel) 26 rfl
              obtain ⟨xs, d, rfl⟩ := grow_of_below hH.below
              clear hH
              try simp only [World.grow_drew] at hK ⊢
              try simp only [World.grow_grow] at hK ⊢
              simp only [e24, e26] at hK ⊢
              clear e24 e26
              go_simp
              go_wp2_with fail
              exact ⟨_, rfl, rfl, (by repeat (first | exact below_of_grow _ _ | exact Below.refl _ _ | exact below_more _ _ _ _ | (simp only [← Array.append_assoc]; first | exact below_more _ _ _ _ | exact below_same _ _ _ | exact Below.refl _ _) | exact below_same _ _ _ | (refine Below.alloc ?_ (by first | (simp; done) | (simp; omega)) _) | (refine Below.grow ?_ (by first | (simp; done) | (simp; omega)) _ _) | refine Below.drew ?_ | refine Below.drewN ?_ _ | (refine Below.putF ?_ (by first | (simp; done) | omega | (simp; omega)) _) | (refine Below.setCell ?_ (by first | (simp; done) | (simp; omega)) _))), fun h => by cases h⟩
            case o13 =>
              intro x w1 hH K hK
              have e24 : x 24 = _ := hH.holds 9 (by decide) (by decide +kernel) 24 rfl
              have e27 : x 27 = _ := hH.holds 12 (by decide) (by decide +kernel) 27 rfl
              obtain ⟨xs, d, rfl⟩ := grow_of_below hH.below
              clear hH
              try simp only [World.grow_drew] at hK ⊢
              try simp only [World.grow_grow] at hK ⊢
              simp only [e24, e27] at hK ⊢
              clear e24 e27
              go_simp
              go_wp2_with fail
              exact ⟨_, rfl, rfl, (by repeat (first | exact below_of_grow _ _ | exact Below.refl _ _ | exact below_more _ _ _ _ | (simp only [← Array.append_assoc]; first | exact below_more _ _ _ _ | exact below_same _ _ _ | exact Below.refl _ _) | exact below_same _ _ _ | (refine Below.alloc ?_ (by first | (simp; done) | (simp; omega)) _) | (refine Below.grow ?_ (by first | (simp; done) | (simp; omega)) _ _) | refine Below.drew ?_ | refine Below.drewN ?_ _ | (refine Below.putF ?_ (by first | (simp; done) | omega | (simp; omega)) _) | (refine Below.setCell ?_ (by first | (simp; done) | (simp; omega)) _))), fun h => by cases h⟩
            case o14 =>
              intro x w1 hH K hK
              have e24 : x 24 = _ := hH.holds 9 (by decide) (by decide +kernel) 24 rfl
              obtain ⟨xs, d, rfl⟩ := grow_of_below hH.below
              clear hH
              try simp only [World.grow_drew] at hK ⊢
              try simp only [World.grow_grow] at hK ⊢
              simp only [e24] at hK ⊢
              clear e24
              go_simp
              go_wp2_with fail
              exact ⟨_, rfl, rfl, (by repeat (first | exact below_of_grow _ _ | exact Below.refl _ _ | exact below_more _ _ _ _ | (simp only [← Array.append_assoc]; first | exact below_more _ _ _ _ | exact below_same _ _ _ | exact Below.refl _ _) | exact below_same _ _ _ | (refine Below.alloc ?_ (by first | (simp; done) | (simp; omega)) _) | (refine Below.grow ?_ (by first | (simp; done) | (simp; omega)) _ _) | refine Below.drew ?_ | refine Below.drewN ?_ _ | (refine Below.putF ?_ (by first | (simp; done) | omega | (simp; omega)) _) | (refine Below.setCell ?_ (by first | (simp; done) | (simp; omega)) _))), fun h => by cases h⟩
            case o15 =>
              intro x w1 hH K hK
              have e24 : x 24 = _ := hH.holds 9 (by decide) (by decide +kernel) 24 rfl
              have e29 : x 29 = _ := hH.holds 14 (by decide) (by decide +kernel) 29 rfl
              obtain ⟨xs, d, rfl⟩ := grow_of_below hH.below
              clear hH
              try simp only [World.grow_drew] at hK ⊢
              try simp only [World.grow_grow] at hK ⊢
              simp only [e24, e29] at hK ⊢
              clear e24 e29
              go_simp
              go_wp2_with fail
              exact ⟨_, rfl, rfl, (by repeat (first | exact below_of_grow _ _ | exact Below.refl _ _ | exact below_more _ _ _ _ | (simp only [← Array.append_assoc]; first | exact below_more _ _ _ _ | exact below_same _ _ _ | exact Below.refl _ _) | exact below_same _ _ _ | (refine Below.alloc ?_ (by first | (simp; done) | (simp; omega)) _) | (refine Below.grow ?_ (by first | (simp; done) | (simp; omega)) _ _) | refine Below.drew ?_ | refine Below.drewN ?_ _ | (refine Below.putF ?_ (by first | (simp; done) | omega | (simp; omega)) _) | (refine Below.setCell ?_ (by first | (simp; done) | (simp; omega)) _))), fun h => by cases h⟩
            case o16 =>
              intro x w1 hH K hK
              have e24 : x 24 = _ := hH.holds 9 (by decide) (by decide +kernel) 24 rfl
              have e30 : x 30 = _ := hH.holds 15 (by decide) (by decide +kernel) 30 rfl
              obtain ⟨xs, d, rfl⟩ := grow_of_below hH.below
              clear hH
              try simp only [World.grow_drew] at hK ⊢
              try simp only [World.grow_grow] at hK ⊢
              simp only [e24, e30] at hK ⊢
              clear e24 e30
              go_simp
              go_wp2_with fail
              exact ⟨_, rfl, rfl, (by repeat (first | exact below_of_grow _ _ | exact Below.refl _ _ | exact below_more _ _ _ _ | (simp only [← Array.append_assoc]; first | exact below_more _ _ _ _ | exact below_same _ _ _ | exact Below.refl _ _) | exact below_same _ _ _ | (refine Below.alloc ?_ (by first | (simp; done) | (simp; omega)) _) | (refine Below.grow ?_ (by first | (simp; done) | (simp; omega)) _ _) | refine Below.drew ?_ | refine Below.drewN ?_ _ | (refine Below.putF ?_ (by first | (simp; done) | omega | (simp; omega)) _) | (refine Below.setCell ?_ (by first | (simp; done) | (simp; omega)) _))), fun h => by cases h⟩
            case o17 =>
              intro x w1 hH K hK
              have e24 : x 24 = _ := hH.holds 9 (by decide) (by decide +kernel) 24 rfl
              have e28 : x 28 = _ := hH.holds 13 (by decide) (by decide +kernel) 28 rfl
              have e31 : x 31 = _ := hH.holds 16 (by decide) (by decide +kernel) 31 rfl
              obtain ⟨xs, d, rfl⟩ := grow_of_below hH.below
              clear hH
              try simp only [World.grow_drew] at hK ⊢
              try simp only [World.grow_grow] at hK ⊢
              simp only [e24, e28, e31] at hK ⊢
              clear e24 e28 e31
              go_simp
              go_wp2_with fail
              exact ⟨_, rfl, rfl, (by repeat (first | exact below_of_grow _ _ | exact Below.refl _ _ | exact below_more _ _ _ _ | (simp only [← Array.append_assoc]; first | exact below_more _ _ _ _ | exact below_same _ _ _ | exact Below.refl _ _) | exact below_same _ _ _ | (refine Below.alloc ?_ (by first | (simp; done) | (simp; omega)) _) | (refine Below.grow ?_ (by first | (simp; done) | (simp; omega)) _ _) | refine Below.drew ?_ | refine Below.drewN ?_ _ | (refine Below.putF ?_ (by first | (simp; done) | omega | (simp; omega)) _) | (refine Below.setCell ?_ (by first | (simp; done) | (simp; omega)) _))), fun h => by cases h⟩
            case o18 =>
              intro x w1 hH K hK
              have e24 : x 24 = _ := hH.holds 9 (by decide) (by decide +kernel) 24 rfl
              have e32 : x 32 = _ := hH.holds 17 (by decide) (by decide +kernel) 32 rfl
              obtain ⟨xs, d, rfl⟩ := grow_of_below hH.below
              clear hH
              try simp only [World.grow_drew] at hK ⊢
              try simp only [World.grow_grow] at hK ⊢
              simp only [e24, e32] at hK ⊢
              clear e24 e32
              go_simp
              go_wp2_with fail
              exact ⟨_, rfl, rfl, (by repeat (first | exact below_of_grow _ _ | exact Below.refl _ _ | exact below_more _ _ _ _ | (simp only [← Array.append_assoc]; first | exact below_more _ _ _ _ | exact below_same _ _ _ | exact Below.refl _ _) | exact below_same _ _ _ | (refine Below.alloc ?_ (by first | (simp; done) | (simp; omega)) _) | (refine Below.grow ?_ (by first | (simp; done) | (simp; omega)) _ _) | refine Below.drew ?_ | refine Below.drewN ?_ _ | (refine Below.putF ?_ (by first | (simp; done) | omega | (simp; omega)) _) | (refine Below.setCell ?_ (by first | (simp; done) | (simp; omega)) _))), fun h => by cases h⟩
          case hend =>
            intro x w1 hH
            have e15 : x 15 = _ := hH.holds 0 (by decide) trivial 15 rfl
            have e16 : x 16 = _ := hH.holds 1 (by decide) trivial 16 rfl
            have e17 : x 17 = _ := hH.holds 2 (by decide) trivial 17 rfl
            have e18 : x 18 = _ := hH.holds 3 (by decide) trivial 18 rfl
            have e19 : x 19 = _ := hH.holds 4 (by decide) trivial 19 rfl
            have e20 : x 20 = _ := hH.holds 5 (by decide) trivial 20 rfl
            have e21 : x 21 = _ := hH.holds 6 (by decide) trivial 21 rfl
            have e22 : x 22 = _ := hH.holds 7 (by decide) trivial 22 rfl
            have e23 : x 23 = _ := hH.holds 8 (by decide) trivial 23 rfl
            have e24 : x 24 = _ := hH.holds 9 (by decide) trivial 24 rfl
            have e25 : x 25 = _ := hH.holds 10 (by decide) trivial 25 rfl
            have e26 : x 26 = _ := hH.holds 11 (by decide) trivial 26 rfl
            have e27 : x 27 = _ := hH.holds 12 (by decide) trivial 27 rfl
            have e28 : x 28 = _ := hH.holds 13 (by decide) trivial 28 rfl
            have e29 : x 29 = _ := hH.holds 14 (by decide) trivial 29 rfl
            have e30 : x 30 = _ := hH.holds 15 (by decide) trivial 30 rfl
            have e31 : x 31 = _ := hH.holds 16 (by decide) trivial 31 rfl
            have e32 : x 32 = _ := hH.holds 17 (by decide) trivial 32 rfl
            have e33 : x 33 = _ := hH.holds 18 (by decide) trivial 33 rfl
            obtain ⟨xs, d, rfl⟩ := grow_of_below hH.below
            clear hH
            simp only [e15, e16, e17, e18, e19, e20, e21, e22, e23, e24, e25, e26, e27, e28, e29, e30, e31, e32, e33]; clear e15 e16 e17 e18 e19 e20 e21 e22 e23 e24 e25 e26 e27 e28 e29 e30 e31 e32 e33
            simp only [List.drop_succ_cons, List.drop_nil]
            go_wp2_with fail
            go_meet
            exact ⟨.leaf a k c, _, _, rfl, HX.out.1, HX.out.2.1, HX.out.2.2.1, HX.out.2.2.2, by rw [World.grow_drew, World.grow_grow]⟩
        | fork a bit l1 r1 =>
          obtain ⟨hn, hL, hRt⟩ := hX
          have hfd := fun hlt => front_down (fr := fr) hXO hlt
          have hX2 : (CT.fork a bit l1 r1).At W3 := ⟨hn, hL, hRt⟩
          obtain ⟨hb200, hLO, hRO, -⟩ := hXO
          obtain ⟨hc0, -, hc2, hc3', hc4⟩ := NodeAt.cells hn (by simp [zeros]) (by simp [zeros])
          have hla := lt_of_heap hn
          have hdl := depthAt_eq hL
          have hdr := depthAt_eq hRt
          have hda : depthAt W3 (.pointer (some ⟨a, 0, none⟩)) = l1.depth + r1.depth + 1 := depthAt_eq (X := .fork a bit l1 r1) hX2
          rw [at_fork]
          simp only [pt] at hc3' hc4
          have HX := Lib.hid (And.intro hX2 (And.intro hXl (And.intro hXf hXe)))
          have HL := Lib.hid (And.intro hL hLO)
          have HR := Lib.hid (And.intro hRt hRO)
          have HD := Lib.hid (And.intro hdl (And.intro hdr hda))
          have HFD := Lib.hid hfd
          clear hn hX2 hXl hXf hXe hL hLO hRt hRO hdl hdr hda hfd
          by_cases hlt : bit < 8 * fr.length
          · have hltI : (bit : Int) < 8 * (fr.length : Int) := by omega
            have hfe := HFD.out hlt
            clear HFD hlt
            by_cases hs : bitB bb bit = true
            · rw [← HBB.out, if_pos hs] at hfe
              have hsd : sideI bb bit = 1 := by simp [sideI, hs]
              have HS1 := Lib.hid (HSide.out bit hb200)
              rw [hsd] at HS1
              have HE := Lib.hid (hfe.symm.trans HX.out.2.2.2)
              clear hsd hfe hs
              go_wp2_with fail
              apply wp_region_specs (by rfl) [.val _, .val _, .val _, .val _, .val _, .val _, .val _, .val _, .val _, .val _, .val _, .val _, .val _, .val _, .val _, .val _, .val _, .val _, .val _] 19 (by rfl) [15, 16, 17, 18, 19, 20, 21, 22, 23, 24, 25, 26, 27, 28, 29, 30, 31, 32, 33] [] [] (by rfl) (by rfl) (by decide) (by decide +kernel) (fun _ _ _ _ _ h => h)
              case hF => intro x; simp only [over, List.foldl_cons, List.foldl_nil, List.setIfInBounds_toArray, List.set_cons_succ, List.set_cons_zero]; exact rfl
              case hops =>
                refine ⟨?o0, ?o1, ?o2, ?o3, ?o4, ?o5, ?o6, ?o7, ?o8, ?o9, ?o10, ?o11, ?o12, ?o13, ?o14, ?o15, ?o16, ?o17, ?o18, trivial⟩
                case o0 =>
                  intro x w1 hH K hK
                  obtain ⟨xs, d, rfl⟩ := grow_of_below hH.below
                  clear hH
                  try simp only [World.grow_drew] at hK ⊢
                  try simp only [World.grow_grow] at hK ⊢
                  go_simp
                  go_wp2_with fail
                  exact ⟨_, rfl, rfl, (by repeat (first | exact below_of_grow _ _ | exact Below.refl _ _ | exact below_more _ _ _ _ | (simp only [← Array.append_assoc]; first | exact below_more _ _ _ _ | exact below_same _ _ _ | exact Below.refl _ _) | exact below_same _ _ _ | (refine Below.alloc ?_ (by first | (simp; done) | (simp; omega)) _) | (refine Below.grow ?_ (by first | (simp; done) | (simp; omega)) _ _) | refine Below.drew ?_ | refine Below.drewN ?_ _ | (refine Below.putF ?_ (by first | (simp; done) | omega | (simp; omega)) _) | (refine Below.setCell ?_ (by first | (simp; done) | (simp; omega)) _))), fun h => by cases h⟩
                case o1 =>
                  intro x w1 hH K hK
                  have e15 : x 15 = _ := hH.holds 0 (by decide) (by decide +kernel) 15 rfl
                  obtain ⟨xs, d, rfl⟩ := grow_of_below hH.below
                  clear hH
                  try simp only [World.grow_drew] at hK ⊢
                  try simp only [World.grow_grow] at hK ⊢
                  simp only [e15] at hK ⊢
                  clear e15
                  go_simp
                  go_wp2_with fail
                  exact ⟨_, rfl, rfl, (by repeat (first | exact below_of_grow _ _ | exact Below.refl _ _ | exact below_more _ _ _ _ | (simp only [← Array.append_assoc]; first | exact below_more _ _ _ _ | exact below_same _ _ _ | exact Below.refl _ _) | exact below_same _ _ _ | (refine Below.alloc ?_ (by first | (simp; done) | (simp; omega)) _) | (refine Below.grow ?_ (by first | (simp; done) | (simp; omega)) _ _) | refine Below.drew ?_ | refine Below.drewN ?_ _ | (refine Below.putF ?_ (by first | (simp; done) | omega | (simp; omega)) _) | (refine Below.setCell ?_ (by first | (simp; done) | (simp; omega)) _))), fun h => by cases h⟩
                case o2 =>
                  intro x w1 hH K hK
                  have e16 : x 16 = _ := hH.holds 1 (by decide) (by decide +kernel) 16 rfl
                  obtain ⟨xs, d, rfl⟩ := grow_of_below hH.below
                  clear hH
                  try simp only [World.grow_drew] at hK ⊢
                  try simp only [World.grow_grow] at hK ⊢
                  simp only [e16] at hK ⊢
                  clear e16
                  go_simp
                  go_wp2_with fail
                  exact ⟨_, rfl, rfl, (by repeat (first | exact below_of_grow _ _ | exact Below.refl _ _ | exact below_more _ _ _ _ | (simp only [← Array.append_assoc]; first | exact below_more _ _ _ _ | exact below_same _ _ _ | exact Below.refl _ _) | exact below_same _ _ _ | (refine Below.alloc ?_ (by first | (simp; done) | (simp; omega)) _) | (refine Below.grow ?_ (by first | (simp; done) | (simp; omega)) _ _) | refine Below.drew ?_ | refine Below.drewN ?_ _ | (refine Below.putF ?_ (by first | (simp; done) | omega | (simp; omega)) _) | (refine Below.setCell ?_ (by first | (simp; done) | (simp; omega)) _))), fun h => by cases h⟩
                case o3 =>
                  intro x w1 hH K hK
                  have e17 : x 17 = _ := hH.holds 2 (by decide) (by decide +kernel) 17 rfl
                  obtain ⟨xs, d, rfl⟩ := grow_of_below hH.below
                  clear hH
                  try simp only [World.grow_drew] at hK ⊢
                  try simp only [World.grow_grow] at hK ⊢
                  simp only [e17] at hK ⊢
                  clear e17
                  go_simp
                  go_wp2_with fail
                  exact ⟨_, rfl, rfl, (by repeat (first | exact below_of_grow _ _ | exact Below.refl _ _ | exact below_more _ _ _ _ | (simp only [← Array.append_assoc]; first | exact below_more _ _ _ _ | exact below_same _ _ _ | exact Below.refl _ _) | exact below_same _ _ _ | (refine Below.alloc ?_ (by first | (simp; done) | (simp; omega)) _) | (refine Below.grow ?_ (by first | (simp; done) | (simp; omega)) _ _) | refine Below.drew ?_ | refine Below.drewN ?_ _ | (refine Below.putF ?_ (by first | (simp; done) | omega | (simp; omega)) _) | (refine Below.setCell ?_ (by first | (simp; done) | (simp; omega)) _))), fun h => by cases h⟩
                case o4 =>
                  intro x w1 hH K hK
                  have e17 : x 17 = _ := hH.holds 2 (by decide) (by decide +kernel) 17 rfl
                  have e18 : x 18 = _ := hH.holds 3 (by decide) (by decide +kernel) 18 rfl
                  obtain ⟨xs, d, rfl⟩ := grow_of_below hH.below
                  clear hH
                  try simp only [World.grow_drew] at hK ⊢
                  try simp only [World.grow_grow] at hK ⊢
                  simp only [e17, e18] at hK ⊢
                  clear e17 e18
                  go_simp
                  go_wp2_with fail
                  exact ⟨_, rfl, rfl, (by repeat (first | exact below_of_grow _ _ | exact Below.refl _ _ | exact below_more _ _ _ _ | (simp only [← Array.append_assoc]; first | exact below_more _ _ _ _ | exact below_same _ _ _ | exact Below.refl _ _) | exact below_same _ _ _ | (refine Below.alloc ?_ (by first | (simp; done) | (simp; omega)) _) | (refine Below.grow ?_ (by first | (simp; done) | (simp; omega)) _ _) | refine Below.drew ?_ | refine Below.drewN ?_ _ | (refine Below.putF ?_ (by first | (simp; done) | omega | (simp; omega)) _) | (refine Below.setCell ?_ (by first | (simp; done) | (simp; omega)) _))), fun h => by cases h⟩
                case o5 =>
                  intro x w1 hH K hK
                  have e17 : x 17 = _ := hH.holds 2 (by decide) (by decide +kernel) 17 rfl
                  have e19 : x 19 = _ := hH.holds 4 (by decide) (by decide +kernel) 19 rfl
                  obtain ⟨xs, d, rfl⟩ := grow_of_below hH.below
                  clear hH
                  try simp only [World.grow_drew] at hK ⊢
                  try simp only [World.grow_grow] at hK ⊢
                  simp only [e17, e19] at hK ⊢
                  clear e17 e19
                  go_simp
                  go_wp2_with fail
                  exact ⟨_, rfl, rfl, (by repeat (first | exact below_of_grow _ _ | exact Below.refl _ _ | exact below_more _ _ _ _ | (simp only [← Array.append_assoc]; first | exact below_more _ _ _ _ | exact below_same _ _ _ | exact Below.refl _ _) | exact below_same _ _ _ | (refine Below.alloc ?_ (by first | (simp; done) | (simp; omega)) _) | (refine Below.grow ?_ (by first | (simp; done) | (simp; omega)) _ _) | refine Below.drew ?_ | refine Below.drewN ?_ _ | (refine Below.putF ?_ (by first | (simp; done) | omega | (simp; omega)) _) | (refine Below.setCell ?_ (by first | (simp; done) | (simp; omega)) _))), fun h => by cases h⟩
                case o6 =>
                  intro x w1 hH K hK
                  have e17 : x 17 = _ := hH.holds 2 (by decide) (by decide +kernel) 17 rfl
                  have e20 : x 20 = _ := hH.holds 5 (by decide) (by decide +kernel) 20 rfl
                  obtain ⟨xs, d, rfl⟩ := grow_of_below hH.below
                  clear hH
                  try simp only [World.grow_drew] at hK ⊢
                  try simp only [World.grow_grow] at hK ⊢
                  simp only [e17, e20] at hK ⊢
                  clear e17 e20
                  go_simp
                  go_wp2_with fail
                  exact ⟨_, rfl, rfl, (by repeat (first | exact below_of_grow _ _ | exact Below.refl _ _ | exact below_more _ _ _ _ | (simp only [← Array.append_assoc]; first | exact below_more _ _ _ _ | exact below_same _ _ _ | exact Below.refl _ _) | exact below_same _ _ _ | (refine Below.alloc ?_ (by first | (simp; done) | (simp; omega)) _) | (refine Below.grow ?_ (by first | (simp; done) | (simp; omega)) _ _) | refine Below.drew ?_ | refine Below.drewN ?_ _ | (refine Below.putF ?_ (by first | (simp; done) | omega | (simp; omega)) _) | (refine Below.setCell ?_ (by first | (simp; done) | (simp; omega)) _))), fun h => by cases h⟩
                case o7 =>
                  intro x w1 hH K hK
                  have e17 : x 17 = _ := hH.holds 2 (by decide) (by decide +kernel) 17 rfl
                  have e21 : x 21 = _ := hH.holds 6 (by decide) (by decide +kernel) 21 rfl
                  obtain ⟨xs, d, rfl⟩ := grow_of_below hH.below
                  clear hH
                  try simp only [World.grow_drew] at hK ⊢
                  try simp only [World.grow_grow] at hK ⊢
                  simp only [e17, e21] at hK ⊢
                  clear e17 e21
                  go_simp
                  go_wp2_with fail
                  exact ⟨_, rfl, rfl, (by repeat (first | exact below_of_grow _ _ | exact Below.refl _ _ | exact below_more _ _ _ _ | (simp only [← Array.append_assoc]; first | exact below_more _ _ _ _ | exact below_same _ _ _ | exact Below.refl _ _) | exact below_same _ _ _ | (refine Below.alloc ?_ (by first | (simp; done) | (simp; omega)) _) | (refine Below.grow ?_ (by first | (simp; done) | (simp; omega)) _ _) | refine Below.drew ?_ | refine Below.drewN ?_ _ | (refine Below.putF ?_ (by first | (simp; done) | omega | (simp; omega)) _) | (refine Below.setCell ?_ (by first | (simp; done) | (simp; omega)) _))), fun h => by cases h⟩
                case o8 =>
                  intro x w1 hH K hK
                  have e17 : x 17 = _ := hH.holds 2 (by decide) (by decide +kernel) 17 rfl
                  have e22 : x 22 = _ := hH.holds 7 (by decide) (by decide +kernel) 22 rfl
                  obtain ⟨xs, d, rfl⟩ := grow_of_below hH.below
                  clear hH
                  try simp only [World.grow_drew] at hK ⊢
                  try simp only [World.grow_grow] at hK ⊢
                  simp only [e17, e22] at hK ⊢
                  clear e17 e22
                  go_simp
                  go_wp2_with fail
                  exact ⟨_, rfl, rfl, (by repeat (first | exact below_of_grow _ _ | exact Below.refl _ _ | exact below_more _ _ _ _ | (simp only [← Array.append_assoc]; first | exact below_more _ _ _ _ | exact below_same _ _ _ | exact Below.refl _ _) | exact below_same _ _ _ | (refine Below.alloc ?_ (by first | (simp; done) | (simp; omega)) _) | (refine Below.grow ?_ (by first | (simp; done) | (simp; omega)) _ _) | refine Below.drew ?_ | refine Below.drewN ?_ _ | (refine Below.putF ?_ (by first | (simp; done) | omega | (simp; omega)) _) | (refine Below.setCell ?_ (by first | (simp; done) | (simp; omega)) _))), fun h => by cases h⟩
                case o9 =>
                  intro x w1 hH K hK
                  have e23 : x 23 = _ := hH.holds 8 (by decide) (by decide +kernel) 23 rfl
                  obtain ⟨xs, d, rfl⟩ := grow_of_below hH.below
                  clear hH
                  try simp only [World.grow_drew] at hK ⊢
                  try simp only [World.grow_grow] at hK ⊢
                  simp only [e23] at hK ⊢
                  clear e23
                  go_simp
                  go_wp2_with fail
                  exact ⟨_, rfl, rfl, (by repeat (first | exact below_of_grow _ _ | exact Below.refl _ _ | exact below_more _ _ _ _ | (simp only [← Array.append_assoc]; first | exact below_more _ _ _ _ | exact below_same _ _ _ | exact Below.refl _ _) | exact below_same _ _ _ | (refine Below.alloc ?_ (by first | (simp; done) | (simp; omega)) _) | (refine Below.grow ?_ (by first | (simp; done) | (simp; omega)) _ _) | refine Below.drew ?_ | refine Below.drewN ?_ _ | (refine Below.putF ?_ (by first | (simp; done) | omega | (simp; omega)) _) | (refine Below.setCell ?_ (by first | (simp; done) | (simp; omega)) _))), fun h => by cases h⟩
                case o10 =>
                  intro x w1 hH K hK
                  have e24 : x 24 = _ := hH.holds 9 (by decide) (by decide +kernel) 24 rfl
                  obtain ⟨xs, d, rfl⟩ := grow_of_below hH.below
                  clear hH
                  try simp only [World.grow_drew] at hK ⊢
                  try simp only [World.grow_grow] at hK ⊢
                  simp only [e24] at hK ⊢
                  clear e24
                  go_simp
                  go_wp2_with fail
                  exact ⟨_, rfl, rfl, (by repeat (first | exact below_of_grow _ _ | exact Below.refl _ _ | exact below_more _ _ _ _ | (simp only [← Array.append_assoc]; first | exact below_more _ _ _ _ | exact below_same _ _ _ | exact Below.refl _ _) | exact below_same _ _ _ | (refine Below.alloc ?_ (by first | (simp; done) | (simp; omega)) _) | (refine Below.grow ?_ (by first | (simp; done) | (simp; omega)) _ _) | refine Below.drew ?_ | refine Below.drewN ?_ _ | (refine Below.putF ?_ (by first | (simp; done) | omega | (simp; omega)) _) | (refine Below.setCell ?_ (by first | (simp; done) | (simp; omega)) _))), fun h => by cases h⟩
                case o11 =>
                  intro x w1 hH K hK
                  have e24 : x 24 = _ := hH.holds 9 (by decide) (by decide +kernel) 24 rfl
                  have e25 : x 25 = _ := hH.holds 10 (by decide) (by decide +kernel) 25 rfl
                  obtain ⟨xs, d, rfl⟩ := grow_of_below hH.below
                  clear hH
                  try simp only [World.grow_drew] at hK ⊢
                  try simp only [World.grow_grow] at hK ⊢
                  simp only [e24, e25] at hK ⊢
                  clear e24 e25
                  go_simp
                  go_wp2_with fail
                  exact ⟨_, rfl, rfl, (by repeat (first | exact below_of_grow _ _ | exact Below.refl _ _ | exact below_more _ _ _ _ | (simp only [← Array.append_assoc]; first | exact below_more _ _ _ _ | exact below_same _ _ _ | exact Below.refl _ _) | exact below_same _ _ _ | (refine Below.alloc ?_ (by first | (simp; done) | (simp; omega)) _) | (refine Below.grow ?_ (by first | (simp; done) | (simp; omega)) _ _) | refine Below.drew ?_ | refine Below.drewN ?_ _ | (refine Below.putF ?_ (by first | (simp; done) | omega | (simp; omega)) _) | (refine Below.setCell ?_ (by first | (simp; done) | (simp; omega)) _))), fun h => by cases h⟩
                case o12 =>
                  intro x w1 hH K hK
                  have e24 : x 24 = _ := hH.holds 9 (by decide) (by decide +kernel) 24 rfl
                  have e26 : x 26 = _ := hH.holds 11 (by decide) (by decide +kernel) 26 rfl
                  obtain ⟨xs, d, rfl⟩ := grow_of_below hH.below
                  clear hH
                  try simp only [World.grow_drew] at hK ⊢
                  try simp only [World.grow_grow] at hK ⊢
                  simp only [e24, e26] at hK ⊢
                  clear e24 e26
                  go_simp
                  go_wp2_with fail
                  exact ⟨_, rfl, rfl, (by repeat (first | exact below_of_grow _ _ | exact Below.refl _ _ | exact below_more _ _ _ _ | (simp only [← Array.append_assoc]; first | exact below_more _ _ _ _ | exact below_same _ _ _ | exact Below.refl _ _) | exact below_same _ _ _ | (refine Below.alloc ?_ (by first | (simp; done) | (simp; omega)) _) | (refine Below.grow ?_ (by first | (simp; done) | (simp; omega)) _ _) | refine Below.drew ?_ | refine Below.drewN ?_ _ | (refine Below.putF ?_ (by first | (simp; done) | omega | (simp; omega)) _) | (refine Below.setCell ?_ (by first | (simp; done) | (simp; omega)) _))), fun h => by cases h⟩
                case o13 =>
                  intro x w1 hH K hK
                  have e24 : x 24 = _ := hH.holds 9 (by decide) (by decide +kernel) 24 rfl
                  have e27 : x 27 = _ := hH.holds 12 (by decide) (by decide +kernel) 27 rfl
                  obtain ⟨xs, d, rfl⟩ := grow_of_below hH.below
                  clear hH
                  try simp only [World.grow_drew] at hK ⊢
                  try simp only [World.grow_grow] at hK ⊢
                  simp only [e24, e27] at hK ⊢
                  clear e24 e27
                  go_simp
                  go_wp2_with fail
                  exact ⟨_, rfl, rfl, (by repeat (first | exact below_of_grow _ _ | exact Below.refl _ _ | exact below_more _ _ _ _ | (simp only [← Array.append_assoc]; first | exact below_more _ _ _ _ | exact below_same _ _ _ | exact Below.refl _ _) | exact below_same _ _ _ | (refine Below.alloc ?_ (by first | (simp; done) | (simp; omega)) _) | (refine Below.grow ?_ (by first | (simp; done) | (simp; omega)) _ _) | refine Below.drew ?_ | refine Below.drewN ?_ _ | (refine Below.putF ?_ (by first | (simp; done) | omega | (simp; omega)) _) | (refine Below.setCell ?_ (by first | (simp; done) | (simp; omega)) _))), fun h => by cases h⟩
                case o14 =>
                  intro x w1 hH K hK
                  have e24 : x 24 = _ := hH.holds 9 (by decide) (by decide +kernel) 24 rfl
                  obtain ⟨xs, d, rfl⟩ := grow_of_below hH.below
                  clear hH
                  try simp only [World.grow_drew] at hK ⊢
                  try simp only [World.grow_grow] at hK ⊢
                  simp only [e24] at hK ⊢
                  clear e24
                  go_simp
                  go_wp2_with fail
                  exact ⟨_, rfl, rfl, (by repeat (first | exact below_of_grow _ _ | exact Below.refl _ _ | exact below_more _ _ _ _ | (simp only [← Array.append_assoc]; first | exact below_more _ _ _ _ | exact below_same _ _ _ | exact Below.refl _ _) | exact below_same _ _ _ | (refine Below.alloc ?_ (by first | (simp; done) | (simp; omega)) _) | (refine Below.grow ?_ (by first | (simp; done) | (simp; omega)) _ _) | refine Below.drew ?_ | refine Below.drewN ?_ _ | (refine Below.putF ?_ (by first | (simp; done) | omega | (simp; omega)) _) | (refine Below.setCell ?_ (by first | (simp; done) | (simp; omega)) _))), fun h => by cases h⟩
                case o15 =>
                  intro x w1 hH K hK
                  have e24 : x 24 = _ := hH.holds 9 (by decide) (by decide +kernel) 24 rfl
                  have e29 : x 29 = _ := hH.holds 14 (by decide) (by decide +kernel) 29 rfl
                  obtain ⟨xs, d, rfl⟩ := grow_of_below hH.below
                  clear hH
                  try simp only [World.grow_drew] at hK ⊢
                  try simp only [World.grow_grow] at hK ⊢
                  simp only [e24, e29] at hK ⊢
                  clear e24 e29
                  go_simp
                  go_wp2_with fail
                  exact ⟨_, rfl, rfl, (by repeat (first | exact below_of_grow _ _ | exact Below.refl _ _ | exact below_more _ _ _ _ | (simp only [← Array.append_assoc]; first | exact below_more _ _ _ _ | exact below_same _ _ _ | exact Below.refl _ _) | exact below_same _ _ _ | (refine Below.alloc ?_ (by first | (simp; done) | (simp; omega)) _) | (refine Below.grow ?_ (by first | (simp; done) | (simp; omega)) _ _) | refine Below.drew ?_ | refine Below.drewN ?_ _ | (refine Below.putF ?_ (by first | (simp; done) | omega | (simp; omega)) _) | (refine Below.setCell ?_ (by first | (simp; done) | (simp; omega)) _))), fun h => by cases h⟩
                case o16 =>
                  intro x w1 hH K hK
                  have e24 : x 24 = _ := hH.holds 9 (by decide) (by decide +kernel) 24 rfl
                  have e30 : x 30 = _ := hH.holds 15 (by decide) (by decide +kernel) 30 rfl
                  obtain ⟨xs, d, rfl⟩ := grow_of_below hH.below
                  clear hH
                  try simp only [World.grow_drew] at hK ⊢
                  try simp only [World.grow_grow] at hK ⊢
                  simp only [e24, e30] at hK ⊢
                  clear e24 e30
                  go_simp
                  go_wp2_with fail
                  exact ⟨_, rfl, rfl, (by repeat (first | exact below_of_grow _ _ | exact Below.refl _ _ | exact below_more _ _ _ _ | (simp only [← Array.append_assoc]; first | exact below_more _ _ _ _ | exact below_same _ _ _ | exact Below.refl _ _) | exact below_same _ _ _ | (refine Below.alloc ?_ (by first | (simp; done) | (simp; omega)) _) | (refine Below.grow ?_ (by first | (simp; done) | (simp; omega)) _ _) | refine Below.drew ?_ | refine Below.drewN ?_ _ | (refine Below.putF ?_ (by first | (simp; done) | omega | (simp; omega)) _) | (refine Below.setCell ?_ (by first | (simp; done) | (simp; omega)) _))), fun h => by cases h⟩
                case o17 =>
                  intro x w1 hH K hK
                  have e24 : x 24 = _ := hH.holds 9 (by decide) (by decide +kernel) 24 rfl
                  have e28 : x 28 = _ := hH.holds 13 (by decide) (by decide +kernel) 28 rfl
                  have e31 : x 31 = _ := hH.holds 16 (by decide) (by decide +kernel) 31 rfl
                  obtain ⟨xs, d, rfl⟩ := grow_of_below hH.below
                  clear hH
                  try simp only [World.grow_drew] at hK ⊢
                  try simp only [World.grow_grow] at hK ⊢
                  simp only [e24, e28, e31] at hK ⊢
                  clear e24 e28 e31
                  go_simp
                  go_wp2_with fail
                  exact ⟨_, rfl, rfl, (by repeat (first | exact below_of_grow _ _ | exact Below.refl _ _ | exact below_more _ _ _ _ | (simp only [← Array.append_assoc]; first | exact below_more _ _ _ _ | exact below_same _ _ _ | exact Below.refl _ _) | exact below_same _ _ _ | (refine Below.alloc ?_ (by first | (simp; done) | (simp; omega)) _) | (refine Below.grow ?_ (by first | (simp; done) | (simp; omega)) _ _) | refine Below.drew ?_ | refine Below.drewN ?_ _ | (refine Below.putF ?_ (by first | (simp; done) | omega | (simp; omega)) _) | (refine Below.setCell ?_ (by first | (simp; done) | (simp; omega)) _))), fun h => by cases h⟩
                case o18 =>
                  intro x w1 hH K hK
                  have e24 : x 24 = _ := hH.holds 9 (by decide) (by decide +kernel) 24 rfl
                  have e32 : x 32 = _ := hH.holds 17 (by decide) (by decide +kernel) 32 rfl
                  obtain ⟨xs, d, rfl⟩ := grow_of_below hH.below
                  clear hH
                  try simp only [World.grow_drew] at hK ⊢
                  try simp only [World.grow_grow] at hK ⊢
                  simp only [e24, e32] at hK ⊢
                  clear e24 e32
                  go_simp
                  go_wp2_with fail
                  exact ⟨_, rfl, rfl, (by repeat (first | exact below_of_grow _ _ | exact Below.refl _ _ | exact below_more _ _ _ _ | (simp only [← Array.append_assoc]; first | exact below_more _ _ _ _ | exact below_same _ _ _ | exact Below.refl _ _) | exact below_same _ _ _ | (refine Below.alloc ?_ (by first | (simp; done) | (simp; omega)) _) | (refine Below.grow ?_ (by first | (simp; done) | (simp; omega)) _ _) | refine Below.drew ?_ | refine Below.drewN ?_ _ | (refine Below.putF ?_ (by first | (simp; done) | omega | (simp; omega)) _) | (refine Below.setCell ?_ (by first | (simp; done) | (simp; omega)) _))), fun h => by cases h⟩
              case hend =>
                intro x w1 hH
                have e15 : x 15 = _ := hH.holds 0 (by decide) trivial 15 rfl
                have e16 : x 16 = _ := hH.holds 1 (by decide) trivial 16 rfl
                have e17 : x 17 = _ := hH.holds 2 (by decide) trivial 17 rfl
                have e18 : x 18 = _ := hH.holds 3 (by decide) trivial 18 rfl
                have e19 : x 19 = _ := hH.holds 4 (by decide) trivial 19 rfl
                have e20 : x 20 = _ := hH.holds 5 (by decide) trivial 20 rfl
                have e21 : x 21 = _ := hH.holds 6 (by decide) trivial 21 rfl
                have e22 : x 22 = _ := hH.holds 7 (by decide) trivial 22 rfl
                have e23 : x 23 = _ := hH.holds 8 (by decide) trivial 23 rfl
                have e24 : x 24 = _ := hH.holds 9 (by decide) trivial 24 rfl
                have e25 : x 25 = _ := hH.holds 10 (by decide) trivial 25 rfl
                have e26 : x 26 = _ := hH.holds 11 (by decide) trivial 26 rfl
                have e27 : x 27 = _ := hH.holds 12 (by decide) trivial 27 rfl
                have e28 : x 28 = _ := hH.holds 13 (by decide) trivial 28 rfl
                have e29 : x 29 = _ := hH.holds 14 (by decide) trivial 29 rfl
                have e30 : x 30 = _ := hH.holds 15 (by decide) trivial 30 rfl
                have e31 : x 31 = _ := hH.holds 16 (by decide) trivial 31 rfl
                have e32 : x 32 = _ := hH.holds 17 (by decide) trivial 32 rfl
                have e33 : x 33 = _ := hH.holds 18 (by decide) trivial 33 rfl
                obtain ⟨xs, d, rfl⟩ := grow_of_below hH.below
                clear hH
                simp only [e15, e16, e17, e18, e19, e20, e21, e22, e23, e24, e25, e26, e27, e28, e29, e30, e31, e32, e33]; clear e15 e16 e17 e18 e19 e20 e21 e22 e23 e24 e25 e26 e27 e28 e29 e30 e31 e32 e33
                simp only [List.drop_succ_cons, List.drop_nil]
                go_wp2_with fail
                apply wp_region_specs (by rfl) [.val _, .val _, .val _, .val _, .val _, .val _, .val _, .val _, .val _, .val _, .val _] 11 (by rfl) [34, 35, 36, 37, 38, 39, 40, 41, 42, 43, 44] [] [] (by rfl) (by rfl) (by decide) (by decide +kernel) (fun _ _ _ _ _ h => h)
                case hF => intro x; simp only [over, List.foldl_cons, List.foldl_nil, List.setIfInBounds_toArray, List.set_cons_succ, List.set_cons_zero]; exact rfl
                case hops =>
                  refine ⟨?o0, ?o1, ?o2, ?o3, ?o4, ?o5, ?o6, ?o7, ?o8, ?o9, ?o10, trivial⟩
                  case o0 =>
                    intro x w1 hH K hK
                    obtain ⟨xs, d, rfl⟩ := grow_of_below hH.below
                    clear hH
                    try simp only [World.grow_drew] at hK ⊢
                    try simp only [World.grow_grow] at hK ⊢
                    go_simp
                    go_wp2_with fail
                    exact ⟨_, rfl, rfl, (by repeat (first | exact below_of_grow _ _ | exact Below.refl _ _ | exact below_more _ _ _ _ | (simp only [← Array.append_assoc]; first | exact below_more _ _ _ _ | exact below_same _ _ _ | exact Below.refl _ _) | exact below_same _ _ _ | (refine Below.alloc ?_ (by first | (simp; done) | (simp; omega)) _) | (refine Below.grow ?_ (by first | (simp; done) | (simp; omega)) _ _) | refine Below.drew ?_ | refine Below.drewN ?_ _ | (refine Below.putF ?_ (by first | (simp; done) | omega | (simp; omega)) _) | (refine Below.setCell ?_ (by first | (simp; done) | (simp; omega)) _))), fun h => by cases h⟩
                  case o1 =>
                    intro x w1 hH K hK
                    obtain ⟨xs, d, rfl⟩ := grow_of_below hH.below
                    clear hH
                    try simp only [World.grow_drew] at hK ⊢
                    try simp only [World.grow_grow] at hK ⊢
                    go_simp
                    go_wp2_with fail
                    exact ⟨_, rfl, rfl, (by repeat (first | exact below_of_grow _ _ | exact Below.refl _ _ | exact below_more _ _ _ _ | (simp only [← Array.append_assoc]; first | exact below_more _ _ _ _ | exact below_same _ _ _ | exact Below.refl _ _) | exact below_same _ _ _ | (refine Below.alloc ?_ (by first | (simp; done) | (simp; omega)) _) | (refine Below.grow ?_ (by first | (simp; done) | (simp; omega)) _ _) | refine Below.drew ?_ | refine Below.drewN ?_ _ | (refine Below.putF ?_ (by first | (simp; done) | omega | (simp; omega)) _) | (refine Below.setCell ?_ (by first | (simp; done) | (simp; omega)) _))), fun h => by cases h⟩
                  case o2 =>
                    intro x w1 hH K hK
                    obtain ⟨xs, d, rfl⟩ := grow_of_below hH.below
                    clear hH
                    try simp only [World.grow_drew] at hK ⊢
                    try simp only [World.grow_grow] at hK ⊢
                    go_simp
                    go_wp2_with fail
                    exact ⟨_, rfl, rfl, (by repeat (first | exact below_of_grow _ _ | exact Below.refl _ _ | exact below_more _ _ _ _ | (simp only [← Array.append_assoc]; first | exact below_more _ _ _ _ | exact below_same _ _ _ | exact Below.refl _ _) | exact below_same _ _ _ | (refine Below.alloc ?_ (by first | (simp; done) | (simp; omega)) _) | (refine Below.grow ?_ (by first | (simp; done) | (simp; omega)) _ _) | refine Below.drew ?_ | refine Below.drewN ?_ _ | (refine Below.putF ?_ (by first | (simp; done) | omega | (simp; omega)) _) | (refine Below.setCell ?_ (by first | (simp; done) | (simp; omega)) _))), fun h => by cases h⟩
                  case o3 =>
                    intro x w1 hH K hK
                    have e36 : x 36 = _ := hH.holds 2 (by decide) (by decide +kernel) 36 rfl
                    obtain ⟨xs, d, rfl⟩ := grow_of_below hH.below
                    clear hH
                    try simp only [World.grow_drew] at hK ⊢
                    try simp only [World.grow_grow] at hK ⊢
                    simp only [e36] at hK ⊢
                    clear e36
                    go_simp
                    go_wp2_with fail
                    exact ⟨_, rfl, rfl, (by repeat (first | exact below_of_grow _ _ | exact Below.refl _ _ | exact below_more _ _ _ _ | (simp only [← Array.append_assoc]; first | exact below_more _ _ _ _ | exact below_same _ _ _ | exact Below.refl _ _) | exact below_same _ _ _ | (refine Below.alloc ?_ (by first | (simp; done) | (simp; omega)) _) | (refine Below.grow ?_ (by first | (simp; done) | (simp; omega)) _ _) | refine Below.drew ?_ | refine Below.drewN ?_ _ | (refine Below.putF ?_ (by first | (simp; done) | omega | (simp; omega)) _) | (refine Below.setCell ?_ (by first | (simp; done) | (simp; omega)) _))), fun h => by cases h⟩
                  case o4 =>
                    intro x w1 hH K hK
                    have e37 : x 37 = _ := hH.holds 3 (by decide) (by decide +kernel) 37 rfl
                    obtain ⟨xs, d, rfl⟩ := grow_of_below hH.below
                    clear hH
                    try simp only [World.grow_drew] at hK ⊢
                    try simp only [World.grow_grow] at hK ⊢
                    simp only [e37] at hK ⊢
                    clear e37
                    go_simp
                    go_wp2_with fail
                    exact ⟨_, rfl, rfl, (by repeat (first | exact below_of_grow _ _ | exact Below.refl _ _ | exact below_more _ _ _ _ | (simp only [← Array.append_assoc]; first | exact below_more _ _ _ _ | exact below_same _ _ _ | exact Below.refl _ _) | exact below_same _ _ _ | (refine Below.alloc ?_ (by first | (simp; done) | (simp; omega)) _) | (refine Below.grow ?_ (by first | (simp; done) | (simp; omega)) _ _) | refine Below.drew ?_ | refine Below.drewN ?_ _ | (refine Below.putF ?_ (by first | (simp; done) | omega | (simp; omega)) _) | (refine Below.setCell ?_ (by first | (simp; done) | (simp; omega)) _))), fun h => by cases h⟩
                  case o5 =>
                    intro x w1 hH K hK
                    have e38 : x 38 = _ := hH.holds 4 (by decide) (by decide +kernel) 38 rfl
                    obtain ⟨xs, d, rfl⟩ := grow_of_below hH.below
                    clear hH
                    try simp only [World.grow_drew] at hK ⊢
                    try simp only [World.grow_grow] at hK ⊢
                    simp only [e38] at hK ⊢
                    clear e38
                    go_simp
                    go_wp2_with fail
                    exact ⟨_, rfl, rfl, (by repeat (first | exact below_of_grow _ _ | exact Below.refl _ _ | exact below_more _ _ _ _ | (simp only [← Array.append_assoc]; first | exact below_more _ _ _ _ | exact below_same _ _ _ | exact Below.refl _ _) | exact below_same _ _ _ | (refine Below.alloc ?_ (by first | (simp; done) | (simp; omega)) _) | (refine Below.grow ?_ (by first | (simp; done) | (simp; omega)) _ _) | refine Below.drew ?_ | refine Below.drewN ?_ _ | (refine Below.putF ?_ (by first | (simp; done) | omega | (simp; omega)) _) | (refine Below.setCell ?_ (by first | (simp; done) | (simp; omega)) _))), fun h => by cases h⟩
                  case o6 =>
                    intro x w1 hH K hK
                    have e35 : x 35 = _ := hH.holds 1 (by decide) (by decide +kernel) 35 rfl
                    have e39 : x 39 = _ := hH.holds 5 (by decide) (by decide +kernel) 39 rfl
                    obtain ⟨xs, d, rfl⟩ := grow_of_below hH.below
                    clear hH
                    try simp only [World.grow_drew] at hK ⊢
                    try simp only [World.grow_grow] at hK ⊢
                    simp only [e35, e39] at hK ⊢
                    clear e35 e39
                    go_simp
                    go_wp2_with (refine Gives.use (HS1.out _) ?_; intro ys e)
                    exact ⟨_, rfl, rfl, (by first | exact below_more _ _ _ _ | exact (by repeat (first | exact below_of_grow _ _ | exact Below.refl _ _ | exact below_more _ _ _ _ | (simp only [← Array.append_assoc]; first | exact below_more _ _ _ _ | exact below_same _ _ _ | exact Below.refl _ _) | exact below_same _ _ _ | (refine Below.alloc ?_ (by first | (simp; done) | (simp; omega)) _) | (refine Below.grow ?_ (by first | (simp; done) | (simp; omega)) _ _) | refine Below.drew ?_ | refine Below.drewN ?_ _ | (refine Below.putF ?_ (by first | (simp; done) | omega | (simp; omega)) _) | (refine Below.setCell ?_ (by first | (simp; done) | (simp; omega)) _)))), fun h => by cases h⟩
                  case o7 =>
                    intro x w1 hH K hK
                    have e34 : x 34 = _ := hH.holds 0 (by decide) (by decide +kernel) 34 rfl
                    obtain ⟨xs, d, rfl⟩ := grow_of_below hH.below
                    clear hH
                    try simp only [World.grow_drew] at hK ⊢
                    try simp only [World.grow_grow] at hK ⊢
                    simp only [e34] at hK ⊢
                    clear e34
                    go_simp
                    go_wp2_with fail
                    exact ⟨_, rfl, rfl, (by repeat (first | exact below_of_grow _ _ | exact Below.refl _ _ | exact below_more _ _ _ _ | (simp only [← Array.append_assoc]; first | exact below_more _ _ _ _ | exact below_same _ _ _ | exact Below.refl _ _) | exact below_same _ _ _ | (refine Below.alloc ?_ (by first | (simp; done) | (simp; omega)) _) | (refine Below.grow ?_ (by first | (simp; done) | (simp; omega)) _ _) | refine Below.drew ?_ | refine Below.drewN ?_ _ | (refine Below.putF ?_ (by first | (simp; done) | omega | (simp; omega)) _) | (refine Below.setCell ?_ (by first | (simp; done) | (simp; omega)) _))), fun h => by cases h⟩
                  case o8 =>
                    intro x w1 hH K hK
                    have e41 : x 41 = _ := hH.holds 7 (by decide) (by decide +kernel) 41 rfl
                    obtain ⟨xs, d, rfl⟩ := grow_of_below hH.below
                    clear hH
                    try simp only [World.grow_drew] at hK ⊢
                    try simp only [World.grow_grow] at hK ⊢
                    simp only [e41] at hK ⊢
                    clear e41
                    go_simp
                    go_wp2_with fail
                    exact ⟨_, rfl, rfl, (by repeat (first | exact below_of_grow _ _ | exact Below.refl _ _ | exact below_more _ _ _ _ | (simp only [← Array.append_assoc]; first | exact below_more _ _ _ _ | exact below_same _ _ _ | exact Below.refl _ _) | exact below_same _ _ _ | (refine Below.alloc ?_ (by first | (simp; done) | (simp; omega)) _) | (refine Below.grow ?_ (by first | (simp; done) | (simp; omega)) _ _) | refine Below.drew ?_ | refine Below.drewN ?_ _ | (refine Below.putF ?_ (by first | (simp; done) | omega | (simp; omega)) _) | (refine Below.setCell ?_ (by first | (simp; done) | (simp; omega)) _))), fun h => by cases h⟩
                  case o9 =>
                    intro x w1 hH K hK
                    have e40 : x 40 = _ := hH.holds 6 (by decide) (by decide +kernel) 40 rfl
                    have e42 : x 42 = _ := hH.holds 8 (by decide) (by decide +kernel) 42 rfl
                    obtain ⟨xs, d, rfl⟩ := grow_of_below hH.below
                    clear hH
                    try simp only [World.grow_drew] at hK ⊢
                    try simp only [World.grow_grow] at hK ⊢
                    simp only [e40, e42] at hK ⊢
                    clear e40 e42
                    go_simp
                    go_wp2_with fail
                    exact ⟨_, rfl, rfl, (by repeat (first | exact below_of_grow _ _ | exact Below.refl _ _ | exact below_more _ _ _ _ | (simp only [← Array.append_assoc]; first | exact below_more _ _ _ _ | exact below_same _ _ _ | exact Below.refl _ _) | exact below_same _ _ _ | (refine Below.alloc ?_ (by first | (simp; done) | (simp; omega)) _) | (refine Below.grow ?_ (by first | (simp; done) | (simp; omega)) _ _) | refine Below.drew ?_ | refine Below.drewN ?_ _ | (refine Below.putF ?_ (by first | (simp; done) | omega | (simp; omega)) _) | (refine Below.setCell ?_ (by first | (simp; done) | (simp; omega)) _))), fun h => by cases h⟩
                  case o10 =>
                    intro x w1 hH K hK
                    have e43 : x 43 = _ := hH.holds 9 (by decide) (by decide +kernel) 43 rfl
                    obtain ⟨xs, d, rfl⟩ := grow_of_below hH.below
                    clear hH
                    try simp only [World.grow_drew] at hK ⊢
                    try simp only [World.grow_grow] at hK ⊢
                    simp only [e43] at hK ⊢
                    clear e43
                    go_simp
                    go_wp2_with fail
                    exact ⟨_, rfl, rfl, (by repeat (first | exact below_of_grow _ _ | exact Below.refl _ _ | exact below_more _ _ _ _ | (simp only [← Array.append_assoc]; first | exact below_more _ _ _ _ | exact below_same _ _ _ | exact Below.refl _ _) | exact below_same _ _ _ | (refine Below.alloc ?_ (by first | (simp; done) | (simp; omega)) _) | (refine Below.grow ?_ (by first | (simp; done) | (simp; omega)) _ _) | refine Below.drew ?_ | refine Below.drewN ?_ _ | (refine Below.putF ?_ (by first | (simp; done) | omega | (simp; omega)) _) | (refine Below.setCell ?_ (by first | (simp; done) | (simp; omega)) _))), fun h => by cases h⟩
                case hend =>
                  intro x w1 hH
                  have e34 : x 34 = _ := hH.holds 0 (by decide) trivial 34 rfl
                  have e35 : x 35 = _ := hH.holds 1 (by decide) trivial 35 rfl
                  have e36 : x 36 = _ := hH.holds 2 (by decide) trivial 36 rfl
                  have e37 : x 37 = _ := hH.holds 3 (by decide) trivial 37 rfl
                  have e38 : x 38 = _ := hH.holds 4 (by decide) trivial 38 rfl
                  have e39 : x 39 = _ := hH.holds 5 (by decide) trivial 39 rfl
                  have e40 : x 40 = _ := hH.holds 6 (by decide) trivial 40 rfl
                  have e41 : x 41 = _ := hH.holds 7 (by decide) trivial 41 rfl
                  have e42 : x 42 = _ := hH.holds 8 (by decide) trivial 42 rfl
                  have e43 : x 43 = _ := hH.holds 9 (by decide) trivial 43 rfl
                  have e44 : x 44 = _ := hH.holds 10 (by decide) trivial 44 rfl
                  obtain ⟨xs, d, rfl⟩ := grow_of_below hH.below
                  clear hH
                  simp only [e34, e35, e36, e37, e38, e39, e40, e41, e42, e43, e44]; clear e34 e35 e36 e37 e38 e39 e40 e41 e42 e43 e44
                  simp only [List.drop_succ_cons, List.drop_zero]
                  go_wp2_with fail
                  go_roundw
                  case rel => exact ⟨r1, _, _, rfl, HR.out.1, HR.out.2, fun x hx => HX.out.2.1 x (List.mem_append_right _ hx), fun b hb => HX.out.2.2.1 b (by simp [CT.foot, hb]), HE.out, by simp only [World.grow_drew, World.grow_grow]; rfl⟩
                  case measure => rw [HD.out.2.1, HD.out.2.2]; omega
            · rw [← HBB.out, if_neg hs] at hfe
              have hsd : sideI bb bit = 0 := by simp [sideI, hs]
              have HS1 := Lib.hid (HSide.out bit hb200)
              rw [hsd] at HS1
              have HE := Lib.hid (hfe.symm.trans HX.out.2.2.2)
              clear hsd hfe hs
              go_wp2_with fail
              apply wp_region_specs (by rfl) [.val _, .val _, .val _, .val _, .val _, .val _, .val _, .val _, .val _, .val _, .val _, .val _, .val _, .val _, .val _, .val _, .val _, .val _, .val _] 19 (by rfl) [15, 16, 17, 18, 19, 20, 21, 22, 23, 24, 25, 26, 27, 28, 29, 30, 31, 32, 33] [] [] (by rfl) (by rfl) (by decide) (by decide +kernel) (fun _ _ _ _ _ h => h)
              case hF => intro x; simp only [over, List.foldl_cons, List.foldl_nil, List.setIfInBounds_toArray, List.set_cons_succ, List.set_cons_zero]; exact rfl
              case hops =>
                refine ⟨?o0, ?o1, ?o2, ?o3, ?o4, ?o5, ?o6, ?o7, ?o8, ?o9, ?o10, ?o11, ?o12, ?o13, ?o14, ?o15, ?o16, ?o17, ?o18, trivial⟩
                case o0 =>
                  intro x w1 hH K hK
                  obtain ⟨xs, d, rfl⟩ := grow_of_below hH.below
                  clear hH
                  try simp only [World.grow_drew] at hK ⊢
                  try simp only [World.grow_grow] at hK ⊢
                  go_simp
                  go_wp2_with fail
                  exact ⟨_, rfl, rfl, (by repeat (first | exact below_of_grow _ _ | exact Below.refl _ _ | exact below_more _ _ _ _ | (simp only [← Array.append_assoc]; first | exact below_more _ _ _ _ | exact below_same _ _ _ | exact Below.refl _ _) | exact below_same _ _ _ | (refine Below.alloc ?_ (by first | (simp; done) | (simp; omega)) _) | (refine Below.grow ?_ (by first | (simp; done) | (simp; omega)) _ _) | refine Below.drew ?_ | refine Below.drewN ?_ _ | (refine Below.putF ?_ (by first | (simp; done) | omega | (simp; omega)) _) | (refine Below.setCell ?_ (by first | (simp; done) | (simp; omega)) _))), fun h => by cases h⟩
                case o1 =>
                  intro x w1 hH K hK
                  have e15 : x 15 = _ := hH.holds 0 (by decide) (by decide +kernel) 15 rfl
                  obtain ⟨xs, d, rfl⟩ := grow_of_below hH.below
                  clear hH
                  try simp only [World.grow_drew] at hK ⊢
                  try simp only [World.grow_grow] at hK ⊢
                  simp only [e15] at hK ⊢
                  clear e15
                  go_simp
                  go_wp2_with fail
                  exact ⟨_, rfl, rfl, (by repeat (first | exact below_of_grow _ _ | exact Below.refl _ _ | exact below_more _ _ _ _ | (simp only [← Array.append_assoc]; first | exact below_more _ _ _ _ | exact below_same _ _ _ | exact Below.refl _ _) | exact below_same _ _ _ | (refine Below.alloc ?_ (by first | (simp; done) | (simp; omega)) _) | (refine Below.grow ?_ (by first | (simp; done) | (simp; omega)) _ _) | refine Below.drew ?_ | refine Below.drewN ?_ _ | (refine Below.putF ?_ (by first | (simp; done) | omega | (simp; omega)) _) | (refine Below.setCell ?_ (by first | (simp; done) | (simp; omega)) _))), fun h => by cases h⟩
                case o2 =>
                  intro x w1 hH K hK
                  have e16 : x 16 = _ := hH.holds 1 (by decide) (by decide +kernel) 16 rfl
                  obtain ⟨xs, d, rfl⟩ := grow_of_below hH.below
                  clear hH
                  try simp only [World.grow_drew] at hK ⊢
                  try simp only [World.grow_grow] at hK ⊢
                  simp only [e16] at hK ⊢
                  clear e16
                  go_simp
                  go_wp2_with fail
                  exact ⟨_, rfl, rfl, (by repeat (first | exact below_of_grow _ _ | exact Below.refl _ _ | exact below_more _ _ _ _ | (simp only [← Array.append_assoc]; first | exact below_more _ _ _ _ | exact below_same _ _ _ | exact Below.refl _ _) | exact below_same _ _ _ | (refine Below.alloc ?_ (by first | (simp; done) | (simp; omega)) _) | (refine Below.grow ?_ (by first | (simp; done) | (simp; omega)) _ _) | refine Below.drew ?_ | refine Below.drewN ?_ _ | (refine Below.putF ?_ (by first | (simp; done) | omega | (simp; omega)) _) | (refine Below.setCell ?_ (by first | (simp; done) | (simp; omega)) _))), fun h => by cases h⟩
                case o3 =>
                  intro x w1 hH K hK
                  have e17 : x 17 = _ := hH.holds 2 (by decide) (by decide +kernel) 17 rfl
                  obtain ⟨xs, d, rfl⟩ := grow_of_below hH.below
                  clear hH
                  try simp only [World.grow_drew] at hK ⊢
                  try simp only [World.grow_grow] at hK ⊢
                  simp only [e17] at hK ⊢
                  clear e17
                  go_simp
                  go_wp2_with fail
                  exact ⟨_, rfl, rfl, (by repeat (first | exact below_of_grow _ _ | exact Below.refl _ _ | exact below_more _ _ _ _ | (simp only [← Array.append_assoc]; first | exact below_more _ _ _ _ | exact below_same _ _ _ | exact Below.refl _ _) | exact below_same _ _ _ | (refine Below.alloc ?_ (by first | (simp; done) | (simp; omega)) _) | (refine Below.grow ?_ (by first | (simp; done) | (simp; omega)) _ _) | refine Below.drew ?_ | refine Below.drewN ?_ _ | (refine Below.putF ?_ (by first | (simp; done) | omega | (simp; omega)) _) | (refine Below.setCell ?_ (by first | (simp; done) | (simp; omega)) _))), fun h => by cases h⟩
                case o4 =>
                  intro x w1 hH K hK
                  have e17 : x 17 = _ := hH.holds 2 (by decide) (by decide +kernel) 17 rfl
                  have e18 : x 18 = _ := hH.holds 3 (by decide) (by decide +kernel) 18 rfl
                  obtain ⟨xs, d, rfl⟩ := grow_of_below hH.below
                  clear hH
                  try simp only [World.grow_drew] at hK ⊢
                  try simp only [World.grow_grow] at hK ⊢
                  simp only [e17, e18] at hK ⊢
                  clear e17 e18
                  go_simp
                  go_wp2_with fail
                  exact ⟨_, rfl, rfl, (by repeat (first | exact below_of_grow _ _ | exact Below.refl _ _ | exact below_more _ _ _ _ | (simp only [← Array.append_assoc]; first | exact below_more _ _ _ _ | exact below_same _ _ _ | exact Below.refl _ _) | exact below_same _ _ _ | (refine Below.alloc ?_ (by first | (simp; done) | (simp; omega)) _) | (refine Below.grow ?_ (by first | (simp; done) | (simp; omega)) _ _) | refine Below.drew ?_ | refine Below.drewN ?_ _ | (refine Below.putF ?_ (by first | (simp; done) | omega | (simp; omega)) _) | (refine Below.setCell ?_ (by first | (simp; done) | (simp; omega)) _))), fun h => by cases h⟩
                case o5 =>
                  intro x w1 hH K hK
                  have e17 : x 17 = _ := hH.holds 2 (by decide) (by decide +kernel) 17 rfl
                  have e19 : x 19 = _ := hH.holds 4 (by decide) (by decide +kernel) 19 rfl
                  obtain ⟨xs, d, rfl⟩ := grow_of_below hH.below
                  clear hH
                  try simp only [World.grow_drew] at hK ⊢
                  try simp only [World.grow_grow] at hK ⊢
                  simp only [e17, e19] at hK ⊢
                  clear e17 e19
                  go_simp
                  go_wp2_with fail
                  exact ⟨_, rfl, rfl, (by repeat (first | exact below_of_grow _ _ | exact Below.refl _ _ | exact below_more _ _ _ _ | (simp only [← Array.append_assoc]; first | exact below_more _ _ _ _ | exact below_same _ _ _ | exact Below.refl _ _) | exact below_same _ _ _ | (refine Below.alloc ?_ (by first | (simp; done) | (simp; omega)) _) | (refine Below.grow ?_ (by first | (simp; done) | (simp; omega)) _ _) | refine Below.drew ?_ | refine Below.drewN ?_ _ | (refine Below.putF ?_ (by first | (simp; done) | omega | (simp; omega)) _) | (refine Below.setCell ?_ (by first | (simp; done) | (simp; omega)) _))), fun h => by cases h⟩
                case o6 =>
                  intro x w1 hH K hK
                  have e17 : x 17 = _ := hH.holds 2 (by decide) (by decide +kernel) 17 rfl
                  have e20 : x 20 = _ := hH.holds 5 (by decide) (by decide +kernel) 20 rfl
                  obtain ⟨xs, d, rfl⟩ := grow_of_below hH.below
                  clear hH
                  try simp only [World.grow_drew] at hK ⊢
                  try simp only [World.grow_grow] at hK ⊢
                  simp only [e17, e20] at hK ⊢
                  clear e17 e20
                  go_simp
                  go_wp2_with fail
                  exact ⟨_, rfl, rfl, (by repeat (first | exact below_of_grow _ _ | exact Below.refl _ _ | exact below_more _ _ _ _ | (simp only [← Array.append_assoc]; first | exact below_more _ _ _ _ | exact below_same _ _ _ | exact Below.refl _ _) | exact below_same _ _ _ | (refine Below.alloc ?_ (by first | (simp; done) | (simp; omega)) _) | (refine Below.grow ?_ (by first | (simp; done) | (simp; omega)) _ _) | refine Below.drew ?_ | refine Below.drewN ?_ _ | (refine Below.putF ?_ (by first | (simp; done) | omega | (simp; omega)) _) | (refine Below.setCell ?_ (by first | (simp; done) | (simp; omega)) _))), fun h => by cases h⟩
                case o7 =>
                  intro x w1 hH K hK
                  have e17 : x 17 = _ := hH.holds 2 (by decide) (by decide +kernel) 17 rfl
                  have e21 : x 21 = _ := hH.holds 6 (by decide) (by decide +kernel) 21 rfl
                  obtain ⟨xs, d, rfl⟩ := grow_of_below hH.below
                  clear hH
                  try simp only [World.grow_drew] at hK ⊢
                  try simp only [World.grow_grow] at hK ⊢
                  simp only [e17, e21] at hK ⊢
                  clear e17 e21
                  go_simp
                  go_wp2_with fail
                  exact ⟨_, rfl, rfl, (by repeat (first | exact below_of_grow _ _ | exact Below.refl _ _ | exact below_more _ _ _ _ | (simp only [← Array.append_assoc]; first | exact below_more _ _ _ _ | exact below_same _ _ _ | exact Below.refl _ _) | exact below_same _ _ _ | (refine Below.alloc ?_ (by first | (simp; done) | (simp; omega)) _) | (refine Below.grow ?_ (by first | (simp; done) | (simp; omega)) _ _) | refine Below.drew ?_ | refine Below.drewN ?_ _ | (refine Below.putF ?_ (by first | (simp; done) | omega | (simp; omega)) _) | (refine Below.setCell ?_ (by first | (simp; done) | (simp; omega)) _))), fun h => by cases h⟩
                case o8 =>
                  intro x w1 hH K hK
                  have e17 : x 17 = _ := hH.holds 2 (by decide) (by decide +kernel) 17 rfl
                  have e22 : x 22 = _ := hH.holds 7 (by decide) (by decide +kernel) 22 rfl
                  obtain ⟨xs, d, rfl⟩ := grow_of_below hH.below
                  clear hH
                  try simp only [World.grow_drew] at hK ⊢
                  try simp only [World.grow_grow] at hK ⊢
                  simp only [e17, e22] at hK ⊢
                  clear e17 e22
                  go_simp
                  go_wp2_with fail
                  exact ⟨_, rfl, rfl, (by repeat (first | exact below_of_grow _ _ | exact Below.refl _ _ | exact below_more _ _ _ _ | (simp only [← Array.append_assoc]; first | exact below_more _ _ _ _ | exact below_same _ _ _ | exact Below.refl _ _) | exact below_same _ _ _ | (refine Below.alloc ?_ (by first | (simp; done) | (simp; omega)) _) | (refine Below.grow ?_ (by first | (simp; done) | (simp; omega)) _ _) | refine Below.drew ?_ | refine Below.drewN ?_ _ | (refine Below.putF ?_ (by first | (simp; done) | omega | (simp; omega)) _) | (refine Below.setCell ?_ (by first | (simp; done) | (simp; omega)) _))), fun h => by cases h⟩
                case o9 =>
                  intro x w1 hH K hK
                  have e23 : x 23 = _ := hH.holds 8 (by decide) (by decide +kernel) 23 rfl
                  obtain ⟨xs, d, rfl⟩ := grow_of_below hH.below
                  clear hH
                  try simp only [World.grow_drew] at hK ⊢
                  try simp only [World.grow_grow] at hK ⊢
                  simp only [e23] at hK ⊢
                  clear e23
                  go_simp
                  go_wp2_with fail
                  exact ⟨_, rfl, rfl, (by repeat (first | exact below_of_grow _ _ | exact Below.refl _ _ | exact below_more _ _ _ _ | (simp only [← Array.append_assoc]; first | exact below_more _ _ _ _ | exact below_same _ _ _ | exact Below.refl _ _) | exact below_same _ _ _ | (refine Below.alloc ?_ (by first | (simp; done) | (simp; omega)) _) | (refine Below.grow ?_ (by first | (simp; done) | (simp; omega)) _ _) | refine Below.drew ?_ | refine Below.drewN ?_ _ | (refine Below.putF ?_ (by first | (simp; done) | omega | (simp; omega)) _) | (refine Below.setCell ?_ (by first | (simp; done) | (simp; omega)) _))), fun h => by cases h⟩
                case o10 =>
                  intro x w1 hH K hK
                  have e24 : x 24 = _ := hH.holds 9 (by decide) (by decide +kernel) 24 rfl
                  obtain ⟨xs, d, rfl⟩ := grow_of_below hH.below
                  clear hH
                  try simp only [World.grow_drew] at hK ⊢
                  try simp only [World.grow_grow] at hK ⊢
                  simp only [e24] at hK ⊢
                  clear e24
                  go_simp
                  go_wp2_with fail
                  exact ⟨_, rfl, rfl, (by repeat (first | exact below_of_grow _ _ | exact Below.refl _ _ | exact below_more _ _ _ _ | (simp only [← Array.append_assoc]; first | exact below_more _ _ _ _ | exact below_same _ _ _ | exact Below.refl _ _) | exact below_same _ _ _ | (refine Below.alloc ?_ (by first | (simp; done) | (simp; omega)) _) | (refine Below.grow ?_ (by first | (simp; done) | (simp; omega)) _ _) | refine Below.drew ?_ | refine Below.drewN ?_ _ | (refine Below.putF ?_ (by first | (simp; done) | omega | (simp; omega)) _) | (refine Below.setCell ?_ (by first | (simp; done) | (simp; omega)) _))), fun h => by cases h⟩
                case o11 =>
                  intro x w1 hH K hK
                  have e24 : x 24 = _ := hH.holds 9 (by decide) (by decide +kernel) 24 rfl
                  have e25 : x 25 = _ := hH.holds 10 (by decide) (by decide +kernel) 25 rfl
                  obtain ⟨xs, d, rfl⟩ := grow_of_below hH.below
                  clear hH
                  try simp only [World.grow_drew] at hK ⊢
                  try simp only [World.grow_grow] at hK ⊢
                  simp only [e24, e25] at hK ⊢
                  clear e24 e25
                  go_simp
                  go_wp2_with fail
                  exact ⟨_, rfl, rfl, (by repeat (first | exact below_of_grow _ _ | exact Below.refl _ _ | exact below_more _ _ _ _ | (simp only [← Array.append_assoc]; first | exact below_more _ _ _ _ | exact below_same _ _ _ | exact Below.refl _ _) | exact below_same _ _ _ | (refine Below.alloc ?_ (by first | (simp; done) | (simp; omega)) _) | (refine Below.grow ?_ (by first | (simp; done) | (simp; omega)) _ _) | refine Below.drew ?_ | refine Below.drewN ?_ _ | (refine Below.putF ?_ (by first | (simp; done) | omega | (simp; omega)) _) | (refine Below.setCell ?_ (by first | (simp; done) | (simp; omega)) _))), fun h => by cases h⟩
                case o12 =>
                  intro x w1 hH K hK
                  have e24 : x 24 = _ := hH.holds 9 (by decide) (by decide +kernel) 24 rfl
                  have e26 : x 26 = _ := hH.holds 11 (by decide) (by decide +kernel) 26 rfl
                  obtain ⟨xs, d, rfl⟩ := grow_of_below hH.below
                  clear hH
                  try simp only [World.grow_drew] at hK ⊢
                  try simp only [World.grow_grow] at hK ⊢
                  simp only [e24, e26] at hK ⊢
                  clear e24 e26
                  go_simp
                  go_wp2_with fail
                  exact ⟨_, rfl, rfl, (by repeat (first | exact below_of_grow _ _ | exact Below.refl _ _ | exact below_more _ _ _ _ | (simp only [← Array.append_assoc]; first | exact below_more _ _ _ _ | exact below_same _ _ _ | exact Below.refl _ _) | exact below_same _ _ _ | (refine Below.alloc ?_ (by first | (simp; done) | (simp; omega)) _) | (refine Below.grow ?_ (by first | (simp; done) | (simp; omega)) _ _) | refine Below.drew ?_ | refine Below.drewN ?_ _ | (refine Below.putF ?_ (by first | (simp; done) | omega | (simp; omega)) _) | (refine Below.setCell ?_ (by first | (simp; done) | (simp; omega)) _))), fun h => by cases h⟩
                case o13 =>
                  intro x w1 hH K hK
                  have e24 : x 24 = _ := hH.holds 9 (by decide) (by decide +kernel) 24 rfl
                  have e27 : x 27 = _ := hH.holds 12 (by decide) (by decide +kernel) 27 rfl
                  obtain ⟨xs, d, rfl⟩ := grow_of_below hH.below
                  clear hH
                  try simp only [World.grow_drew] at hK ⊢
                  try simp only [World.grow_grow] at hK ⊢
                  simp only [e24, e27] at hK ⊢
                  clear e24 e27
                  go_simp
                  go_wp2_with fail
                  exact ⟨_, rfl, rfl, (by repeat (first | exact below_of_grow _ _ | exact Below.refl _ _ | exact below_more _ _ _ _ | (simp only [← Array.append_assoc]; first | exact below_more _ _ _ _ | exact below_same _ _ _ | exact Below.refl _ _) | exact below_same _ _ _ | (refine Below.alloc ?_ (by first | (simp; done) | (simp; omega)) _) | (refine Below.grow ?_ (by first | (simp; done) | (simp; omega)) _ _) | refine Below.drew ?_ | refine Below.drewN ?_ _ | (refine Below.putF ?_ (by first | (simp; done) | omega | (simp; omega)) _) | (refine Below.setCell ?_ (by first | (simp; done) | (simp; omega)) _))), fun h => by cases h⟩
                case o14 =>
                  intro x w1 hH K hK
                  have e24 : x 24 = _ := hH.holds 9 (by decide) (by decide +kernel) 24 rfl
                  obtain ⟨xs, d, rfl⟩ := grow_of_below hH.below
                  clear hH
                  try simp only [World.grow_drew] at hK ⊢
                  try simp only [World.grow_grow] at hK ⊢
                  simp only [e24] at hK ⊢
                  clear e24
                  go_simp
                  go_wp2_with fail
                  exact ⟨_, rfl, rfl, (by repeat (first | exact below_of_grow _ _ | exact Below.refl _ _ | exact below_more _ _ _ _ | (simp only [← Array.append_assoc]; first | exact below_more _ _ _ _ | exact below_same _ _ _ | exact Below.refl _ _) | exact below_same _ _ _ | (refine Below.alloc ?_ (by first | (simp; done) | (simp; omega)) _) | (refine Below.grow ?_ (by first | (simp; done) | (simp; omega)) _ _) | refine Below.drew ?_ | refine Below.drewN ?_ _ | (refine Below.putF ?_ (by first | (simp; done) | omega | (simp; omega)) _) | (refine Below.setCell ?_ (by first | (simp; done) | (simp; omega)) _))), fun h => by cases h⟩
                case o15 =>
                  intro x w1 hH K hK
                  have e24 : x 24 = _ := hH.holds 9 (by decide) (by decide +kernel) 24 rfl
                  have e29 : x 29 = _ := hH.holds 14 (by decide) (by decide +kernel) 29 rfl
                  obtain ⟨xs, d, rfl⟩ := grow_of_below hH.below
                  clear hH
                  try simp only [World.grow_drew] at hK ⊢
                  try simp only [World.grow_grow] at hK ⊢
                  simp only [e24, e29] at hK ⊢
                  clear e24 e29
                  go_simp
                  go_wp2_with fail
                  exact ⟨_, rfl, rfl, (by repeat (first | exact below_of_grow _ _ | exact Below.refl _ _ | exact below_more _ _ _ _ | (simp only [← Array.append_assoc]; first | exact below_more _ _ _ _ | exact below_same _ _ _ | exact Below.refl _ _) | exact below_same _ _ _ | (refine Below.alloc ?_ (by first | (simp; done) | (simp; omega)) _) | (refine Below.grow ?_ (by first | (simp; done) | (simp; omega)) _ _) | refine Below.drew ?_ | refine Below.drewN ?_ _ | (refine Below.putF ?_ (by first | (simp; done) | omega | (simp; omega)) _) | (refine Below.setCell ?_ (by first | (simp; done) | (simp; omega)) _))), fun h => by cases h⟩
                case o16 =>
                  intro x w1 hH K hK
                  have e24 : x 24 = _ := hH.holds 9 (by decide) (by decide +kernel) 24 rfl
                  have e30 : x 30 = _ := hH.holds 15 (by decide) (by decide +kernel) 30 rfl
                  obtain ⟨xs, d, rfl⟩ := grow_of_below hH.below
                  clear hH
                  try simp only [World.grow_drew] at hK ⊢
                  try simp only [World.grow_grow] at hK ⊢
                  simp only [e24, e30] at hK ⊢
                  clear e24 e30
                  go_simp
                  go_wp2_with fail
                  exact ⟨_, rfl, rfl, (by repeat (first | exact below_of_grow _ _ | exact Below.refl _ _ | exact below_more _ _ _ _ | (simp only [← Array.append_assoc]; first | exact below_more _ _ _ _ | exact below_same _ _ _ | exact Below.refl _ _) | exact below_same _ _ _ | (refine Below.alloc ?_ (by first | (simp; done) | (simp; omega)) _) | (refine Below.grow ?_ (by first | (simp; done) | (simp; omega)) _ _) | refine Below.drew ?_ | refine Below.drewN ?_ _ | (refine Below.putF ?_ (by first | (simp; done) | omega | (simp; omega)) _) | (refine Below.setCell ?_ (by first | (simp; done) | (simp; omega)) _))), fun h => by cases h⟩
                case o17 =>
                  intro x w1 hH K hK
                  have e24 : x 24 = _ := hH.holds 9 (by decide) (by decide +kernel) 24 rfl
                  have e28 : x 28 = _ := hH.holds 13 (by decide) (by decide +kernel) 28 rfl
                  have e31 : x 31 = _ := hH.holds 16 (by decide) (by decide +kernel) 31 rfl
                  obtain ⟨xs, d, rfl⟩ := grow_of_below hH.below
                  clear hH
                  try simp only [World.grow_drew] at hK ⊢
                  try simp only [World.grow_grow] at hK ⊢
                  simp only [e24, e28, e31] at hK ⊢
                  clear e24 e28 e31
                  go_simp
                  go_wp2_with fail
                  exact ⟨_, rfl, rfl, (by repeat (first | exact below_of_grow _ _ | exact Below.refl _ _ | exact below_more _ _ _ _ | (simp only [← Array.append_assoc]; first | exact below_more _ _ _ _ | exact below_same _ _ _ | exact Below.refl _ _) | exact below_same _ _ _ | (refine Below.alloc ?_ (by first | (simp; done) | (simp; omega)) _) | (refine Below.grow ?_ (by first | (simp; done) | (simp; omega)) _ _) | refine Below.drew ?_ | refine Below.drewN ?_ _ | (refine Below.putF ?_ (by first | (simp; done) | omega | (simp; omega)) _) | (refine Below.setCell ?_ (by first | (simp; done) | (simp; omega)) _))), fun h => by cases h⟩
                case o18 =>
                  intro x w1 hH K hK
                  have e24 : x 24 = _ := hH.holds 9 (by decide) (by decide +kernel) 24 rfl
                  have e32 : x 32 = _ := hH.holds 17 (by decide) (by decide +kernel) 32 rfl
                  obtain ⟨xs, d, rfl⟩ := grow_of_below hH.below
                  clear hH
                  try simp only [World.grow_drew] at hK ⊢
                  try simp only [World.grow_grow] at hK ⊢
                  simp only [e24, e32] at hK ⊢
                  clear e24 e32
                  go_simp
                  go_wp2_with fail
                  exact ⟨_, rfl, rfl, (by repeat (first | exact below_of_grow _ _ | exact Below.refl _ _ | exact below_more _ _ _ _ | (simp only [← Array.append_assoc]; first | exact below_more _ _ _ _ | exact below_same _ _ _ | exact Below.refl _ _) | exact below_same _ _ _ | (refine Below.alloc ?_ (by first | (simp; done) | (simp; omega)) _) | (refine Below.grow ?_ (by first | (simp; done) | (simp; omega)) _ _) | refine Below.drew ?_ | refine Below.drewN ?_ _ | (refine Below.putF ?_ (by first | (simp; done) | omega | (simp; omega)) _) | (refine Below.setCell ?_ (by first | (simp; done) | (simp; omega)) _))), fun h => by cases h⟩
              case hend =>
                intro x w1 hH
                have e15 : x 15 = _ := hH.holds 0 (by decide) trivial 15 rfl
                have e16 : x 16 = _ := hH.holds 1 (by decide) trivial 16 rfl
                have e17 : x 17 = _ := hH.holds 2 (by decide) trivial 17 rfl
                have e18 : x 18 = _ := hH.holds 3 (by decide) trivial 18 rfl
                have e19 : x 19 = _ := hH.holds 4 (by decide) trivial 19 rfl
                have e20 : x 20 = _ := hH.holds 5 (by decide) trivial 20 rfl
                have e21 : x 21 = _ := hH.holds 6 (by decide) trivial 21 rfl
                have e22 : x 22 = _ := hH.holds 7 (by decide) trivial 22 rfl
                have e23 : x 23 = _ := hH.holds 8 (by decide) trivial 23 rfl
                have e24 : x 24 = _ := hH.holds 9 (by decide) trivial 24 rfl
                have e25 : x 25 = _ := hH.holds 10 (by decide) trivial 25 rfl
                have e26 : x 26 = _ := hH.holds 11 (by decide) trivial 26 rfl
                have e27 : x 27 = _ := hH.holds 12 (by decide) trivial 27 rfl
                have e28 : x 28 = _ := hH.holds 13 (by decide) trivial 28 rfl
                have e29 : x 29 = _ := hH.holds 14 (by decide) trivial 29 rfl
                have e30 : x 30 = _ := hH.holds 15 (by decide) trivial 30 rfl
                have e31 : x 31 = _ := hH.holds 16 (by decide) trivial 31 rfl
                have e32 : x 32 = _ := hH.holds 17 (by decide) trivial 32 rfl
                have e33 : x 33 = _ := hH.holds 18 (by decide) trivial 33 rfl
                obtain ⟨xs, d, rfl⟩ := grow_of_below hH.below
                clear hH
                simp only [e15, e16, e17, e18, e19, e20, e21, e22, e23, e24, e25, e26, e27, e28, e29, e30, e31, e32, e33]; clear e15 e16 e17 e18 e19 e20 e21 e22 e23 e24 e25 e26 e27 e28 e29 e30 e31 e32 e33
                simp only [List.drop_succ_cons, List.drop_nil]
                go_wp2_with fail
                apply wp_region_specs (by rfl) [.val _, .val _, .val _, .val _, .val _, .val _, .val _, .val _, .val _, .val _, .val _] 11 (by rfl) [34, 35, 36, 37, 38, 39, 40, 41, 42, 43, 44] [] [] (by rfl) (by rfl) (by decide) (by decide +kernel) (fun _ _ _ _ _ h => h)
                case hF => intro x; simp only [over, List.foldl_cons, List.foldl_nil, List.setIfInBounds_toArray, List.set_cons_succ, List.set_cons_zero]; exact rfl
                case hops =>
                  refine ⟨?o0, ?o1, ?o2, ?o3, ?o4, ?o5, ?o6, ?o7, ?o8, ?o9, ?o10, trivial⟩
                  case o0 =>
                    intro x w1 hH K hK
                    obtain ⟨xs, d, rfl⟩ := grow_of_below hH.below
                    clear hH
                    try simp only [World.grow_drew] at hK ⊢
                    try simp only [World.grow_grow] at hK ⊢
                    go_simp
                    go_wp2_with fail
                    exact ⟨_, rfl, rfl, (by repeat (first | exact below_of_grow _ _ | exact Below.refl _ _ | exact below_more _ _ _ _ | (simp only [← Array.append_assoc]; first | exact below_more _ _ _ _ | exact below_same _ _ _ | exact Below.refl _ _) | exact below_same _ _ _ | (refine Below.alloc ?_ (by first | (simp; done) | (simp; omega)) _) | (refine Below.grow ?_ (by first | (simp; done) | (simp; omega)) _ _) | refine Below.drew ?_ | refine Below.drewN ?_ _ | (refine Below.putF ?_ (by first | (simp; done) | omega | (simp; omega)) _) | (refine Below.setCell ?_ (by first | (simp; done) | (simp; omega)) _))), fun h => by cases h⟩
                  case o1 =>
                    intro x w1 hH K hK
                    obtain ⟨xs, d, rfl⟩ := grow_of_below hH.below
                    clear hH
                    try simp only [World.grow_drew] at hK ⊢
                    try simp only [World.grow_grow] at hK ⊢
                    go_simp
                    go_wp2_with fail
                    exact ⟨_, rfl, rfl, (by repeat (first | exact below_of_grow _ _ | exact Below.refl _ _ | exact below_more _ _ _ _ | (simp only [← Array.append_assoc]; first | exact below_more _ _ _ _ | exact below_same _ _ _ | exact Below.refl _ _) | exact below_same _ _ _ | (refine Below.alloc ?_ (by first | (simp; done) | (simp; omega)) _) | (refine Below.grow ?_ (by first | (simp; done) | (simp; omega)) _ _) | refine Below.drew ?_ | refine Below.drewN ?_ _ | (refine Below.putF ?_ (by first | (simp; done) | omega | (simp; omega)) _) | (refine Below.setCell ?_ (by first | (simp; done) | (simp; omega)) _))), fun h => by cases h⟩
                  case o2 =>
                    intro x w1 hH K hK
                    obtain ⟨xs, d, rfl⟩ := grow_of_below hH.below
                    clear hH
                    try simp only [World.grow_drew] at hK ⊢
                    try simp only [World.grow_grow] at hK ⊢
                    go_simp
                    go_wp2_with fail
                    exact ⟨_, rfl, rfl, (by repeat (first | exact below_of_grow _ _ | exact Below.refl _ _ | exact below_more _ _ _ _ | (simp only [← Array.append_assoc]; first | exact below_more _ _ _ _ | exact below_same _ _ _ | exact Below.refl _ _) | exact below_same _ _ _ | (refine Below.alloc ?_ (by first | (simp; done) | (simp; omega)) _) | (refine Below.grow ?_ (by first | (simp; done) | (simp; omega)) _ _) | refine Below.drew ?_ | refine Below.drewN ?_ _ | (refine Below.putF ?_ (by first | (simp; done) | omega | (simp; omega)) _) | (refine Below.setCell ?_ (by first | (simp; done) | (simp; omega)) _))), fun h => by cases h⟩
                  case o3 =>
                    intro x w1 hH K hK
                    have e36 : x 36 = _ := hH.holds 2 (by decide) (by decide +kernel) 36 rfl
                    obtain ⟨xs, d, rfl⟩ := grow_of_below hH.below
                    clear hH
                    try simp only [World.grow_drew] at hK ⊢
                    try simp only [World.grow_grow] at hK ⊢
                    simp only [e36] at hK ⊢
                    clear e36
                    go_simp
                    go_wp2_with fail
                    exact ⟨_, rfl, rfl, (by repeat (first | exact below_of_grow _ _ | exact Below.refl _ _ | exact below_more _ _ _ _ | (simp only [← Array.append_assoc]; first | exact below_more _ _ _ _ | exact below_same _ _ _ | exact Below.refl _ _) | exact below_same _ _ _ | (refine Below.alloc ?_ (by first | (simp; done) | (simp; omega)) _) | (refine Below.grow ?_ (by first | (simp; done) | (simp; omega)) _ _) | refine Below.drew ?_ | refine Below.drewN ?_ _ | (refine Below.putF ?_ (by first | (simp; done) | omega | (simp; omega)) _) | (refine Below.setCell ?_ (by first | (simp; done) | (simp; omega)) _))), fun h => by cases h⟩
                  case o4 =>
                    intro x w1 hH K hK
                    have e37 : x 37 = _ := hH.holds 3 (by decide) (by decide +kernel) 37 rfl
                    obtain ⟨xs, d, rfl⟩ := grow_of_below hH.below
                    clear hH
                    try simp only [World.grow_drew] at hK ⊢
                    try simp only [World.grow_grow] at hK ⊢
                    simp only [e37] at hK ⊢
                    clear e37
                    go_simp
                    go_wp2_with fail
                    exact ⟨_, rfl, rfl, (by repeat (first | exact below_of_grow _ _ | exact Below.refl _ _ | exact below_more _ _ _ _ | (simp only [← Array.append_assoc]; first | exact below_more _ _ _ _ | exact below_same _ _ _ | exact Below.refl _ _) | exact below_same _ _ _ | (refine Below.alloc ?_ (by first | (simp; done) | (simp; omega)) _) | (refine Below.grow ?_ (by first | (simp; done) | (simp; omega)) _ _) | refine Below.drew ?_ | refine Below.drewN ?_ _ | (refine Below.putF ?_ (by first | (simp; done) | omega | (simp; omega)) _) | (refine Below.setCell ?_ (by first | (simp; done) | (simp; omega)) _))), fun h => by cases h⟩
                  case o5 =>
                    intro x w1 hH K hK
                    have e38 : x 38 = _ := hH.holds 4 (by decide) (by decide +kernel) 38 rfl
                    obtain ⟨xs, d, rfl⟩ := grow_of_below hH.below
                    clear hH
                    try simp only [World.grow_drew] at hK ⊢
                    try simp only [World.grow_grow] at hK ⊢
                    simp only [e38] at hK ⊢
                    clear e38
                    go_simp
                    go_wp2_with fail
                    exact ⟨_, rfl, rfl, (by repeat (first | exact below_of_grow _ _ | exact Below.refl _ _ | exact below_more _ _ _ _ | (simp only [← Array.append_assoc]; first | exact below_more _ _ _ _ | exact below_same _ _ _ | exact Below.refl _ _) | exact below_same _ _ _ | (refine Below.alloc ?_ (by first | (simp; done) | (simp; omega)) _) | (refine Below.grow ?_ (by first | (simp; done) | (simp; omega)) _ _) | refine Below.drew ?_ | refine Below.drewN ?_ _ | (refine Below.putF ?_ (by first | (simp; done) | omega | (simp; omega)) _) | (refine Below.setCell ?_ (by first | (simp; done) | (simp; omega)) _))), fun h => by cases h⟩
                  case o6 =>
                    intro x w1 hH K hK
                    have e35 : x 35 = _ := hH.holds 1 (by decide) (by decide +kernel) 35 rfl
                    have e39 : x 39 = _ := hH.holds 5 (by decide) (by decide +kernel) 39 rfl
                    obtain ⟨xs, d, rfl⟩ := grow_of_below hH.below
                    clear hH
                    try simp only [World.grow_drew] at hK ⊢
                    try simp only [World.grow_grow] at hK ⊢
                    simp only [e35, e39] at hK ⊢
                    clear e35 e39
                    go_simp
                    go_wp2_with (refine Gives.use (HS1.out _) ?_; intro ys e)
                    exact ⟨_, rfl, rfl, (by first | exact below_more _ _ _ _ | exact (by repeat (first | exact below_of_grow _ _ | exact Below.refl _ _ | exact below_more _ _ _ _ | (simp only [← Array.append_assoc]; first | exact below_more _ _ _ _ | exact below_same _ _ _ | exact Below.refl _ _) | exact below_same _ _ _ | (refine Below.alloc ?_ (by first | (simp; done) | (simp; omega)) _) | (refine Below.grow ?_ (by first | (simp; done) | (simp; omega)) _ _) | refine Below.drew ?_ | refine Below.drewN ?_ _ | (refine Below.putF ?_ (by first | (simp; done) | omega | (simp; omega)) _) | (refine Below.setCell ?_ (by first | (simp; done) | (simp; omega)) _)))), fun h => by cases h⟩
                  case o7 =>
                    intro x w1 hH K hK
                    have e34 : x 34 = _ := hH.holds 0 (by decide) (by decide +kernel) 34 rfl
                    obtain ⟨xs, d, rfl⟩ := grow_of_below hH.below
                    clear hH
                    try simp only [World.grow_drew] at hK ⊢
                    try simp only [World.grow_grow] at hK ⊢
                    simp only [e34] at hK ⊢
                    clear e34
                    go_simp
                    go_wp2_with fail
                    exact ⟨_, rfl, rfl, (by repeat (first | exact below_of_grow _ _ | exact Below.refl _ _ | exact below_more _ _ _ _ | (simp only [← Array.append_assoc]; first | exact below_more _ _ _ _ | exact below_same _ _ _ | exact Below.refl _ _) | exact below_same _ _ _ | (refine Below.alloc ?_ (by first | (simp; done) | (simp; omega)) _) | (refine Below.grow ?_ (by first | (simp; done) | (simp; omega)) _ _) | refine Below.drew ?_ | refine Below.drewN ?_ _ | (refine Below.putF ?_ (by first | (simp; done) | omega | (simp; omega)) _) | (refine Below.setCell ?_ (by first | (simp; done) | (simp; omega)) _))), fun h => by cases h⟩
                  case o8 =>
                    intro x w1 hH K hK
                    have e41 : x 41 = _ := hH.holds 7 (by decide) (by decide +kernel) 41 rfl
                    obtain ⟨xs, d, rfl⟩ := grow_of_below hH.below
                    clear hH
                    try simp only [World.grow_drew] at hK ⊢
                    try simp only [World.grow_grow] at hK ⊢
                    simp only [e41] at hK ⊢
                    clear e41
                    go_simp
                    go_wp2_with fail
                    exact ⟨_, rfl, rfl, (by repeat (first | exact below_of_grow _ _ | exact Below.refl _ _ | exact below_more _ _ _ _ | (simp only [← Array.append_assoc]; first | exact below_more _ _ _ _ | exact below_same _ _ _ | exact Below.refl _ _) | exact below_same _ _ _ | (refine Below.alloc ?_ (by first | (simp; done) | (simp; omega)) _) | (refine Below.grow ?_ (by first | (simp; done) | (simp; omega)) _ _) | refine Below.drew ?_ | refine Below.drewN ?_ _ | (refine Below.putF ?_ (by first | (simp; done) | omega | (simp; omega)) _) | (refine Below.setCell ?_ (by first | (simp; done) | (simp; omega)) _))), fun h => by cases h⟩
                  case o9 =>
                    intro x w1 hH K hK
                    have e40 : x 40 = _ := hH.holds 6 (by decide) (by decide +kernel) 40 rfl
                    have e42 : x 42 = _ := hH.holds 8 (by decide) (by decide +kernel) 42 rfl
                    obtain ⟨xs, d, rfl⟩ := grow_of_below hH.below
                    clear hH
                    try simp only [World.grow_drew] at hK ⊢
                    try simp only [World.grow_grow] at hK ⊢
                    simp only [e40, e42] at hK ⊢
                    clear e40 e42
                    go_simp
                    go_wp2_with fail
                    exact ⟨_, rfl, rfl, (by repeat (first | exact below_of_grow _ _ | exact Below.refl _ _ | exact below_more _ _ _ _ | (simp only [← Array.append_assoc]; first | exact below_more _ _ _ _ | exact below_same _ _ _ | exact Below.refl _ _) | exact below_same _ _ _ | (refine Below.alloc ?_ (by first | (simp; done) | (simp; omega)) _) | (refine Below.grow ?_ (by first | (simp; done) | (simp; omega)) _ _) | refine Below.drew ?_ | refine Below.drewN ?_ _ | (refine Below.putF ?_ (by first | (simp; done) | omega | (simp; omega)) _) | (refine Below.setCell ?_ (by first | (simp; done) | (simp; omega)) _))), fun h => by cases h⟩
                  case o10 =>
                    intro x w1 hH K hK
                    have e43 : x 43 = _ := hH.holds 9 (by decide) (by decide +kernel) 43 rfl
                    obtain ⟨xs, d, rfl⟩ := grow_of_below hH.below
                    clear hH
                    try simp only [World.grow_drew] at hK ⊢
                    try simp only [World.grow_grow] at hK ⊢
                    simp only [e43] at hK ⊢
                    clear e43
                    go_simp
                    go_wp2_with fail
                    exact ⟨_, rfl, rfl, (by repeat (first | exact below_of_grow _ _ | exact Below.refl _ _ | exact below_more _ _ _ _ | (simp only [← Array.append_assoc]; first | exact below_more _ _ _ _ | exact below_same _ _ _ | exact Below.refl _ _) | exact below_same _ _ _ | (refine Below.alloc ?_ (by first | (simp; done) | (simp; omega)) _) | (refine Below.grow ?_ (by first | (simp; done) | (simp; omega)) _ _) | refine Below.drew ?_ | refine Below.drewN ?_ _ | (refine Below.putF ?_ (by first | (simp; done) | omega | (simp; omega)) _) | (refine Below.setCell ?_ (by first | (simp; done) | (simp; omega)) _))), fun h => by cases h⟩
                case hend =>
                  intro x w1 hH
                  have e34 : x 34 = _ := hH.holds 0 (by decide) trivial 34 rfl
                  have e35 : x 35 = _ := hH.holds 1 (by decide) trivial 35 rfl
                  have e36 : x 36 = _ := hH.holds 2 (by decide) trivial 36 rfl
                  have e37 : x 37 = _ := hH.holds 3 (by decide) trivial 37 rfl
                  have e38 : x 38 = _ := hH.holds 4 (by decide) trivial 38 rfl
                  have e39 : x 39 = _ := hH.holds 5 (by decide) trivial 39 rfl
                  have e40 : x 40 = _ := hH.holds 6 (by decide) trivial 40 rfl
                  have e41 : x 41 = _ := hH.holds 7 (by decide) trivial 41 rfl
                  have e42 : x 42 = _ := hH.holds 8 (by decide) trivial 42 rfl
                  have e43 : x 43 = _ := hH.holds 9 (by decide) trivial 43 rfl
                  have e44 : x 44 = _ := hH.holds 10 (by decide) trivial 44 rfl
                  obtain ⟨xs, d, rfl⟩ := grow_of_below hH.below
                  clear hH
                  simp only [e34, e35, e36, e37, e38, e39, e40, e41, e42, e43, e44]; clear e34 e35 e36 e37 e38 e39 e40 e41 e42 e43 e44
                  simp only [List.drop_succ_cons, List.drop_zero]
                  go_wp2_with fail
                  go_roundw
                  case rel => exact ⟨l1, _, _, rfl, HL.out.1, HL.out.2, fun x hx => HX.out.2.1 x (List.mem_append_left _ hx), fun b hb => HX.out.2.2.1 b (by simp [CT.foot, hb]), HE.out, by simp only [World.grow_drew, World.grow_grow]; rfl⟩
                  case measure => rw [HD.out.1, HD.out.2.2]; omega
          · have hltI : ¬ (bit : Int) < 8 * (fr.length : Int) := by omega
            clear HFD hlt
            go_wp2_with fail
            apply wp_region_specs (by rfl) [.val _, .val _, .val _, .val _, .val _, .val _, .val _, .val _, .val _, .val _, .val _, .val _, .val _, .val _, .val _, .val _, .val _, .val _, .val _] 19 (by rfl) [15, 16, 17, 18, 19, 20, 21, 22, 23, 24, 25, 26, 27, 28, 29, 30, 31, 32, 33] [] [] (by rfl) (by rfl) (by decide) (by decide +kernel) (fun _ _ _ _ _ h => h)
            case hF => intro x; simp only [over, List.foldl_cons, List.foldl_nil, List.setIfInBounds_toArray, List.set_cons_succ, List.set_cons_zero]; exact rfl
            case hops =>
              refine ⟨?o0, ?o1, ?o2, ?o3, ?o4, ?o5, ?o6, ?o7, ?o8, ?o9, ?o10, ?o11, ?o12, ?o13, ?o14, ?o15, ?o16, ?o17, ?o18, trivial⟩
              case o0 =>
                intro x w1 hH K hK
                obtain ⟨xs, d, rfl⟩ := grow_of_below hH.below
                clear hH
                try simp only [World.grow_drew] at hK ⊢
                try simp only [World.grow_grow] at hK ⊢
                go_simp
                go_wp2_with fail
                exact ⟨_, rfl, rfl, (by repeat (first | exact below_of_grow _ _ | exact Below.refl _ _ | exact below_more _ _ _ _ | (simp only [← Array.append_assoc]; first | exact below_more _ _ _ _ | exact below_same _ _ _ | exact Below.refl _ _) | exact below_same _ _ _ | (refine Below.alloc ?_ (by first | (simp; done) | (simp; omega)) _) | (refine Below.grow ?_ (by first | (simp; done) | (simp; omega)) _ _) | refine Below.drew ?_ | refine Below.drewN ?_ _ | (refine Below.putF ?_ (by first | (simp; done) | omega | (simp; omega)) _) | (refine Below.setCell ?_ (by first | (simp; done) | (simp; omega)) _))), fun h => by cases h⟩
              case o1 =>
                intro x w1 hH K hK
                have e15 : x 15 = _ := hH.holds 0 (by decide) (by decide +kernel) 15 rfl
                obtain ⟨xs, d, rfl⟩ := grow_of_below hH.below
                clear hH
                try simp only [World.grow_drew] at hK ⊢
                try simp only [World.grow_grow] at hK ⊢
                simp only [e15] at hK ⊢
                clear e15
                go_simp
                go_wp2_with fail
                exact ⟨_, rfl, rfl, (by repeat (first | exact below_of_grow _ _ | exact Below.refl _ _ | exact below_more _ _ _ _ | (simp only [← Array.append_assoc]; first | exact below_more _ _ _ _ | exact below_same _ _ _ | exact Below.refl _ _) | exact below_same _ _ _ | (refine Below.alloc ?_ (by first | (simp; done) | (simp; omega)) _) | (refine Below.grow ?_ (by first | (simp; done) | (simp; omega)) _ _) | refine Below.drew ?_ | refine Below.drewN ?_ _ | (refine Below.putF ?_ (by first | (simp; done) | omega | (simp; omega)) _) | (refine Below.setCell ?_ (by first | (simp; done) | (simp; omega)) _))), fun h => by cases h⟩
              case o2 =>
                intro x w1 hH K hK
                have e16 : x 16 = _ := hH.holds 1 (by decide) (by decide +kernel) 16 rfl
                obtain ⟨xs, d, rfl⟩ := grow_of_below hH.below
                clear hH
                try simp only [World.grow_drew] at hK ⊢
                try simp only [World.grow_grow] at hK ⊢
                simp only [e16] at hK ⊢
                clear e16
                go_simp
                go_wp2_with fail
                exact ⟨_, rfl, rfl, (by repeat (first | exact below_of_grow _ _ | exact Below.refl _ _ | exact below_more _ _ _ _ | (simp only [← Array.append_assoc]; first | exact below_more _ _ _ _ | exact below_same _ _ _ | exact Below.refl _ _) | exact below_same _ _ _ | (refine Below.alloc ?_ (by first | (simp; done) | (simp; omega)) _) | (refine Below.grow ?_ (by first | (simp; done) | (simp; omega)) _ _) | refine Below.drew ?_ | refine Below.drewN ?_ _ | (refine Below.putF ?_ (by first | (simp; done) | omega | (simp; omega)) _) | (refine Below.setCell ?_ (by first | (simp; done) | (simp; omega)) _))), fun h => by cases h⟩
              case o3 =>
                intro x w1 hH K hK
                have e17 : x 17 = _ := hH.holds 2 (by decide) (by decide +kernel) 17 rfl
                obtain ⟨xs, d, rfl⟩ := grow_of_below hH.below
                clear hH
                try simp only [World.grow_drew] at hK ⊢
                try simp only [World.grow_grow] at hK ⊢
                simp only [e17] at hK ⊢
                clear e17
                go_simp
                go_wp2_with fail
                exact ⟨_, rfl, rfl, (by repeat (first | exact below_of_grow _ _ | exact Below.refl _ _ | exact below_more _ _ _ _ | (simp only [← Array.append_assoc]; first | exact below_more _ _ _ _ | exact below_same _ _ _ | exact Below.refl _ _) | exact below_same _ _ _ | (refine Below.alloc ?_ (by first | (simp; done) | (simp; omega)) _) | (refine Below.grow ?_ (by first | (simp; done) | (simp; omega)) _ _) | refine Below.drew ?_ | refine Below.drewN ?_ _ | (refine Below.putF ?_ (by first | (simp; done) | omega | (simp; omega)) _) | (refine Below.setCell ?_ (by first | (simp; done) | (simp; omega)) _))), fun h => by cases h⟩
              case o4 =>
                intro x w1 hH K hK
                have e17 : x 17 = _ := hH.holds 2 (by decide) (by decide +kernel) 17 rfl
                have e18 : x 18 = _ := hH.holds 3 (by decide) (by decide +kernel) 18 rfl
                obtain ⟨xs, d, rfl⟩ := grow_of_below hH.below
                clear hH
                try simp only [World.grow_drew] at hK ⊢
                try simp only [World.grow_grow] at hK ⊢
                simp only [e17, e18] at hK ⊢
                clear e17 e18
                go_simp
                go_wp2_with fail
                exact ⟨_, rfl, rfl, (by repeat (first | exact below_of_grow _ _ | exact Below.refl _ _ | exact below_more _ _ _ _ | (simp only [← Array.append_assoc]; first | exact below_more _ _ _ _ | exact below_same _ _ _ | exact Below.refl _ _) | exact below_same _ _ _ | (refine Below.alloc ?_ (by first | (simp; done) | (simp; omega)) _) | (refine Below.grow ?_ (by first | (simp; done) | (simp; omega)) _ _) | refine Below.drew ?_ | refine Below.drewN ?_ _ | (refine Below.putF ?_ (by first | (simp; done) | omega | (simp; omega)) _) | (refine Below.setCell ?_ (by first | (simp; done) | (simp; omega)) _))), fun h => by cases h⟩
              case o5 =>
                intro x w1 hH K hK
                have e17 : x 17 = _ := hH.holds 2 (by decide) (by decide +kernel) 17 rfl
                have e19 : x 19 = _ := hH.holds 4 (by decide) (by decide +kernel) 19 rfl
                obtain ⟨xs, d, rfl⟩ := grow_of_below hH.below
                clear hH
                try simp only [World.grow_drew] at hK ⊢
                try simp only [World.grow_grow] at hK ⊢
                simp only [e17, e19] at hK ⊢
                clear e17 e19
                go_simp
                go_wp2_with fail
                exact ⟨_, rfl, rfl, (by repeat (first | exact below_of_grow _ _ | exact Below.refl _ _ | exact below_more _ _ _ _ | (simp only [← Array.append_assoc]; first | exact below_more _ _ _ _ | exact below_same _ _ _ | exact Below.refl _ _) | exact below_same _ _ _ | (refine Below.alloc ?_ (by first | (simp; done) | (simp; omega)) _) | (refine Below.grow ?_ (by first | (simp; done) | (simp; omega)) _ _) | refine Below.drew ?_ | refine Below.drewN ?_ _ | (refine Below.putF ?_ (by first | (simp; done) | omega | (simp; omega)) _) | (refine Below.setCell ?_ (by first | (simp; done) | (simp; omega)) _))), fun h => by cases h⟩
              case o6 =>
                intro x w1 hH K hK
                have e17 : x 17 = _ := hH.holds 2 (by decide) (by decide +kernel) 17 rfl
                have e20 : x 20 = _ := hH.holds 5 (by decide) (by decide +kernel) 20 rfl
                obtain ⟨xs, d, rfl⟩ := grow_of_below hH.below
                clear hH
                try simp only [World.grow_drew] at hK ⊢
                try simp only [World.grow_grow] at hK ⊢
                simp only [e17, e20] at hK ⊢
                clear e17 e20
                go_simp
                go_wp2_with fail
                exact ⟨_, rfl, rfl, (by repeat (first | exact below_of_grow _ _ | exact Below.refl _ _ | exact below_more _ _ _ _ | (simp only [← Array.append_assoc]; first | exact below_more _ _ _ _ | exact below_same _ _ _ | exact Below.refl _ _) | exact below_same _ _ _ | (refine Below.alloc ?_ (by first | (simp; done) | (simp; omega)) _) | (refine Below.grow ?_ (by first | (simp; done) | (simp; omega)) _ _) | refine Below.drew ?_ | refine Below.drewN ?_ _ | (refine Below.putF ?_ (by first | (simp; done) | omega | (simp; omega)) _) | (refine Below.setCell ?_ (by first | (simp; done) | (simp; omega)) _))), fun h => by cases h⟩
              case o7 =>
                intro x w1 hH K hK
                have e17 : x 17 = _ := hH.holds 2 (by decide) (by decide +kernel) 17 rfl
                have e21 : x 21 = _ := hH.holds 6 (by decide) (by decide +kernel) 21 rfl
                obtain ⟨xs, d, rfl⟩ := grow_of_below hH.below
                clear hH
                try simp only [World.grow_drew] at hK ⊢
                try simp only [World.grow_grow] at hK ⊢
                simp only [e17, e21] at hK ⊢
                clear e17 e21
                go_simp
                go_wp2_with fail
                exact ⟨_, rfl, rfl, (by repeat (first | exact below_of_grow _ _ | exact Below.refl _ _ | exact below_more _ _ _ _ | (simp only [← Array.append_assoc]; first | exact below_more _ _ _ _ | exact below_same _ _ _ | exact Below.refl _ _) | exact below_same _ _ _ | (refine Below.alloc ?_ (by first | (simp; done) | (simp; omega)) _) | (refine Below.grow ?_ (by first | (simp; done) | (simp; omega)) _ _) | refine Below.drew ?_ | refine Below.drewN ?_ _ | (refine Below.putF ?_ (by first | (simp; done) | omega | (simp; omega)) _) | (refine Below.setCell ?_ (by first | (simp; done) | (simp; omega)) _))), fun h => by cases h⟩
              case o8 =>
                intro x w1 hH K hK
                have e17 : x 17 = _ := hH.holds 2 (by decide) (by decide +kernel) 17 rfl
                have e22 : x 22 = _ := hH.holds 7 (by decide) (by decide +kernel) 22 rfl
                obtain ⟨xs, d, rfl⟩ := grow_of_below hH.below
                clear hH
                try simp only [World.grow_drew] at hK ⊢
                try simp only [World.grow_grow] at hK ⊢
                simp only [e17, e22] at hK ⊢
                clear e17 e22
                go_simp
                go_wp2_with fail
                exact ⟨_, rfl, rfl, (by repeat (first | exact below_of_grow _ _ | exact Below.refl _ _ | exact below_more _ _ _ _ | (simp only [← Array.append_assoc]; first | exact below_more _ _ _ _ | exact below_same _ _ _ | exact Below.refl _ _) | exact below_same _ _ _ | (refine Below.alloc ?_ (by first | (simp; done) | (simp; omega)) _) | (refine Below.grow ?_ (by first | (simp; done) | (simp; omega)) _ _) | refine Below.drew ?_ | refine Below.drewN ?_ _ | (refine Below.putF ?_ (by first | (simp; done) | omega | (simp; omega)) _) | (refine Below.setCell ?_ (by first | (simp; done) | (simp; omega)) _))), fun h => by cases h⟩
              case o9 =>
                intro x w1 hH K hK
                have e23 : x 23 = _ := hH.holds 8 (by decide) (by decide +kernel) 23 rfl
                obtain ⟨xs, d, rfl⟩ := grow_of_below hH.below
                clear hH
                try simp only [World.grow_drew] at hK ⊢
                try simp only [World.grow_grow] at hK ⊢
                simp only [e23] at hK ⊢
                clear e23
                go_simp
                go_wp2_with fail
                exact ⟨_, rfl, rfl, (by repeat (first | exact below_of_grow _ _ | exact Below.refl _ _ | exact below_more _ _ _ _ | (simp only [← Array.append_assoc]; first | exact below_more _ _ _ _ | exact below_same _ _ _ | exact Below.refl _ _) | exact below_same _ _ _ | (refine Below.alloc ?_ (by first | (simp; done) | (simp; omega)) _) | (refine Below.grow ?_ (by first | (simp; done) | (simp; omega)) _ _) | refine Below.drew ?_ | refine Below.drewN ?_ _ | (refine Below.putF ?_ (by first | (simp; done) | omega | (simp; omega)) _) | (refine Below.setCell ?_ (by first | (simp; done) | (simp; omega)) _))), fun h => by cases h⟩
              case o10 =>
                intro x w1 hH K hK
                have e24 : x 24 = _ := hH.holds 9 (by decide) (by decide +kernel) 24 rfl
                obtain ⟨xs, d, rfl⟩ := grow_of_below hH.below
                clear hH
                try simp only [World.grow_drew] at hK ⊢
                try simp only [World.grow_grow] at hK ⊢
                simp only [e24] at hK ⊢
                clear e24
                go_simp
                go_wp2_with fail
                exact ⟨_, rfl, rfl, (by repeat (first | exact below_of_grow _ _ | exact Below.refl _ _ | exact below_more _ _ _ _ | (simp only [← Array.append_assoc]; first | exact below_more _ _ _ _ | exact below_same _ _ _ | exact Below.refl _ _) | exact below_same _ _ _ | (refine Below.alloc ?_ (by first | (simp; done) | (simp; omega)) _) | (refine Below.grow ?_ (by first | (simp; done) | (simp; omega)) _ _) | refine Below.drew ?_ | refine Below.drewN ?_ _ | (refine Below.putF ?_ (by first | (simp; done) | omega | (simp; omega)) _) | (refine Below.setCell ?_ (by first | (simp; done) | (simp; omega)) _))), fun h => by cases h⟩
              case o11 =>
                intro x w1 hH K hK
                have e24 : x 24 = _ := hH.holds 9 (by decide) (by decide +kernel) 24 rfl
                have e25 : x 25 = _ := hH.holds 10 (by decide) (by decide +kernel) 25 rfl
                obtain ⟨xs, d, rfl⟩ := grow_of_below hH.below
                clear hH
                try simp only [World.grow_drew] at hK ⊢
                try simp only [World.grow_grow] at hK ⊢
                simp only [e24, e25] at hK ⊢
                clear e24 e25
                go_simp
                go_wp2_with fail
                exact ⟨_, rfl, rfl, (by repeat (first | exact below_of_grow _ _ | exact Below.refl _ _ | exact below_more _ _ _ _ | (simp only [← Array.append_assoc]; first | exact below_more _ _ _ _ | exact below_same _ _ _ | exact Below.refl _ _) | exact below_same _ _ _ | (refine Below.alloc ?_ (by first | (simp; done) | (simp; omega)) _) | (refine Below.grow ?_ (by first | (simp; done) | (simp; omega)) _ _) | refine Below.drew ?_ | refine Below.drewN ?_ _ | (refine Below.putF ?_ (by first | (simp; done) | omega | (simp; omega)) _) | (refine Below.setCell ?_ (by first | (simp; done) | (simp; omega)) _))), fun h => by cases h⟩
              case o12 =>
                intro x w1 hH K hK
                have e24 : x 24 = _ := hH.holds 9 (by decide) (by decide +kernel) 24 rfl
                have e26 : x 26 = _ := hH.holds 11 (by decide) (by decide +kernel) 26 rfl
                obtain ⟨xs, d, rfl⟩ := grow_of_below hH.below
                clear hH
                try simp only [World.grow_drew] at hK ⊢
                try simp only [World.grow_grow] at hK ⊢
                simp only [e24, e26] at hK ⊢
                clear e24 e26
                go_simp
                go_wp2_with fail
                exact ⟨_, rfl, rfl, (by repeat (first | exact below_of_grow _ _ | exact Below.refl _ _ | exact below_more _ _ _ _ | (simp only [← Array.append_assoc]; first | exact below_more _ _ _ _ | exact below_same _ _ _ | exact Below.refl _ _) | exact below_same _ _ _ | (refine Below.alloc ?_ (by first | (simp; done) | (simp; omega)) _) | (refine Below.grow ?_ (by first | (simp; done) | (simp; omega)) _ _) | refine Below.drew ?_ | refine Below.drewN ?_ _ | (refine Below.putF ?_ (by first | (simp; done) | omega | (simp; omega)) _) | (refine Below.setCell ?_ (by first | (simp; done) | (simp; omega)) _))), fun h => by cases h⟩
              case o13 =>
                intro x w1 hH K hK
                have e24 : x 24 = _ := hH.holds 9 (by decide) (by decide +kernel) 24 rfl
                have e27 : x 27 = _ := hH.holds 12 (by decide) (by decide +kernel) 27 rfl
                obtain ⟨xs, d, rfl⟩ := grow_of_below hH.below
                clear hH
                try simp only [World.grow_drew] at hK ⊢
                try simp only [World.grow_grow] at hK ⊢
                simp only [e24, e27] at hK ⊢
                clear e24 e27
                go_simp
                go_wp2_with fail
                exact ⟨_, rfl, rfl, (by repeat (first | exact below_of_grow _ _ | exact Below.refl _ _ | exact below_more _ _ _ _ | (simp only [← Array.append_assoc]; first | exact below_more _ _ _ _ | exact below_same _ _ _ | exact Below.refl _ _) | exact below_same _ _ _ | (refine Below.alloc ?_ (by first | (simp; done) | (simp; omega)) _) | (refine Below.grow ?_ (by first | (simp; done) | (simp; omega)) _ _) | refine Below.drew ?_ | refine Below.drewN ?_ _ | (refine Below.putF ?_ (by first | (simp; done) | omega | (simp; omega)) _) | (refine Below.setCell ?_ (by first | (simp; done) | (simp; omega)) _))), fun h => by cases h⟩
              case o14 =>
                intro x w1 hH K hK
                have e24 : x 24 = _ := hH.holds 9 (by decide) (by decide +kernel) 24 rfl
                obtain ⟨xs, d, rfl⟩ := grow_of_below hH.below
                clear hH
                try simp only [World.grow_drew] at hK ⊢
                try simp only [World.grow_grow] at hK ⊢
                simp only [e24] at hK ⊢
                clear e24
                go_simp
                go_wp2_with fail
                exact ⟨_, rfl, rfl, (by repeat (first | exact below_of_grow _ _ | exact Below.refl _ _ | exact below_more _ _ _ _ | (simp only [← Array.append_assoc]; first | exact below_more _ _ _ _ | exact below_same _ _ _ | exact Below.refl _ _) | exact below_same _ _ _ | (refine Below.alloc ?_ (by first | (simp; done) | (simp; omega)) _) | (refine Below.grow ?_ (by first | (simp; done) | (simp; omega)) _ _) | refine Below.drew ?_ | refine Below.drewN ?_ _ | (refine Below.putF ?_ (by first | (simp; done) | omega | (simp; omega)) _) | (refine Below.setCell ?_ (by first | (simp; done) | (simp; omega)) _))), fun h => by cases h⟩
              case o15 =>
                intro x w1 hH K hK
                have e24 : x 24 = _ := hH.holds 9 (by decide) (by decide +kernel) 24 rfl
                have e29 : x 29 = _ := hH.holds 14 (by decide) (by decide +kernel) 29 rfl
                obtain ⟨xs, d, rfl⟩ := grow_of_below hH.below
                clear hH
                try simp only [World.grow_drew] at hK ⊢
                try simp only [World.grow_grow] at hK ⊢
                simp only [e24, e29] at hK ⊢
                clear e24 e29
                go_simp
                go_wp2_with fail
                exact ⟨_, rfl, rfl, (by repeat (first | exact below_of_grow _ _ | exact Below.refl _ _ | exact below_more _ _ _ _ | (simp only [← Array.append_assoc]; first | exact below_more _ _ _ _ | exact below_same _ _ _ | exact Below.refl _ _) | exact below_same _ _ _ | (refine Below.alloc ?_ (by first | (simp; done) | (simp; omega)) _) | (refine Below.grow ?_ (by first | (simp; done) | (simp; omega)) _ _) | refine Below.drew ?_ | refine Below.drewN ?_ _ | (refine Below.putF ?_ (by first | (simp; done) | omega | (simp; omega)) _) | (refine Below.setCell ?_ (by first | (simp; done) | (simp; omega)) _))), fun h => by cases h⟩
              case o16 =>
                intro x w1 hH K hK
                have e24 : x 24 = _ := hH.holds 9 (by decide) (by decide +kernel) 24 rfl
                have e30 : x 30 = _ := hH.holds 15 (by decide) (by decide +kernel) 30 rfl
                obtain ⟨xs, d, rfl⟩ := grow_of_below hH.below
                clear hH
                try simp only [World.grow_drew] at hK ⊢
                try simp only [World.grow_grow] at hK ⊢
                simp only [e24, e30] at hK ⊢
                clear e24 e30
                go_simp
                go_wp2_with fail
                exact ⟨_, rfl, rfl, (by repeat (first | exact below_of_grow _ _ | exact Below.refl _ _ | exact below_more _ _ _ _ | (simp only [← Array.append_assoc]; first | exact below_more _ _ _ _ | exact below_same _ _ _ | exact Below.refl _ _) | exact below_same _ _ _ | (refine Below.alloc ?_ (by first | (simp; done) | (simp; omega)) _) | (refine Below.grow ?_ (by first | (simp; done) | (simp; omega)) _ _) | refine Below.drew ?_ | refine Below.drewN ?_ _ | (refine Below.putF ?_ (by first | (simp; done) | omega | (simp; omega)) _) | (refine Below.setCell ?_ (by first | (simp; done) | (simp; omega)) _))), fun h => by cases h⟩
              case o17 =>
                intro x w1 hH K hK
                have e24 : x 24 = _ := hH.holds 9 (by decide) (by decide +kernel) 24 rfl
                have e28 : x 28 = _ := hH.holds 13 (by decide) (by decide +kernel) 28 rfl
                have e31 : x 31 = _ := hH.holds 16 (by decide) (by decide +kernel) 31 rfl
                obtain ⟨xs, d, rfl⟩ := grow_of_below hH.below
                clear hH
                try simp only [World.grow_drew] at hK ⊢
                try simp only [World.grow_grow] at hK ⊢
                simp only [e24, e28, e31] at hK ⊢
                clear e24 e28 e31
                go_simp
                go_wp2_with fail
                exact ⟨_, rfl, rfl, (by repeat (first | exact below_of_grow _ _ | exact Below.refl _ _ | exact below_more _ _ _ _ | (simp only [← Array.append_assoc]; first | exact below_more _ _ _ _ | exact below_same _ _ _ | exact Below.refl _ _) | exact below_same _ _ _ | (refine Below.alloc ?_ (by first | (simp; done) | (simp; omega)) _) | (refine Below.grow ?_ (by first | (simp; done) | (simp; omega)) _ _) | refine Below.drew ?_ | refine Below.drewN ?_ _ | (refine Below.putF ?_ (by first | (simp; done) | omega | (simp; omega)) _) | (refine Below.setCell ?_ (by first | (simp; done) | (simp; omega)) _))), fun h => by cases h⟩
              case o18 =>
                intro x w1 hH K hK
                have e24 : x 24 = _ := hH.holds 9 (by decide) (by decide +kernel) 24 rfl
                have e32 : x 32 = _ := hH.holds 17 (by decide) (by decide +kernel) 32 rfl
                obtain ⟨xs, d, rfl⟩ := grow_of_below hH.below
                clear hH
                try simp only [World.grow_drew] at hK ⊢
                try simp only [World.grow_grow] at hK ⊢
                simp only [e24, e32] at hK ⊢
                clear e24 e32
                go_simp
                go_wp2_with fail
                exact ⟨_, rfl, rfl, (by repeat (first | exact below_of_grow _ _ | exact Below.refl _ _ | exact below_more _ _ _ _ | (simp only [← Array.append_assoc]; first | exact below_more _ _ _ _ | exact below_same _ _ _ | exact Below.refl _ _) | exact below_same _ _ _ | (refine Below.alloc ?_ (by first | (simp; done) | (simp; omega)) _) | (refine Below.grow ?_ (by first | (simp; done) | (simp; omega)) _ _) | refine Below.drew ?_ | refine Below.drewN ?_ _ | (refine Below.putF ?_ (by first | (simp; done) | omega | (simp; omega)) _) | (refine Below.setCell ?_ (by first | (simp; done) | (simp; omega)) _))), fun h => by cases h⟩
            case hend =>
              intro x w1 hH
              have e15 : x 15 = _ := hH.holds 0 (by decide) trivial 15 rfl
              have e16 : x 16 = _ := hH.holds 1 (by decide) trivial 16 rfl
              have e17 : x 17 = _ := hH.holds 2 (by decide) trivial 17 rfl
              have e18 : x 18 = _ := hH.holds 3 (by decide) trivial 18 rfl
              have e19 : x 19 = _ := hH.holds 4 (by decide) trivial 19 rfl
              have e20 : x 20 = _ := hH.holds 5 (by decide) trivial 20 rfl
              have e21 : x 21 = _ := hH.holds 6 (by decide) trivial 21 rfl
              have e22 : x 22 = _ := hH.holds 7 (by decide) trivial 22 rfl
              have e23 : x 23 = _ := hH.holds 8 (by decide) trivial 23 rfl
              have e24 : x 24 = _ := hH.holds 9 (by decide) trivial 24 rfl
              have e25 : x 25 = _ := hH.holds 10 (by decide) trivial 25 rfl
              have e26 : x 26 = _ := hH.holds 11 (by decide) trivial 26 rfl
              have e27 : x 27 = _ := hH.holds 12 (by decide) trivial 27 rfl
              have e28 : x 28 = _ := hH.holds 13 (by decide) trivial 28 rfl
              have e29 : x 29 = _ := hH.holds 14 (by decide) trivial 29 rfl
              have e30 : x 30 = _ := hH.holds 15 (by decide) trivial 30 rfl
              have e31 : x 31 = _ := hH.holds 16 (by decide) trivial 31 rfl
              have e32 : x 32 = _ := hH.holds 17 (by decide) trivial 32 rfl
              have e33 : x 33 = _ := hH.holds 18 (by decide) trivial 33 rfl
              obtain ⟨xs, d, rfl⟩ := grow_of_below hH.below
              clear hH
              simp only [e15, e16, e17, e18, e19, e20, e21, e22, e23, e24, e25, e26, e27, e28, e29, e30, e31, e32, e33]; clear e15 e16 e17 e18 e19 e20 e21 e22 e23 e24 e25 e26 e27 e28 e29 e30 e31 e32 e33
              simp only [List.drop_succ_cons, List.drop_nil]
              go_wp2_with fail
              go_meet
              exact ⟨.fork a bit l1 r1, _, _, rfl, HX.out.1, HX.out.2.1, HX.out.2.2.1, HX.out.2.2.2, by rw [World.grow_drew, World.grow_grow]⟩
    case rest =>
      obtain ⟨X, xs, d, rfl, hX, hXl, hXf, hXe, rfl⟩ := hcut
      have hb3 := H3.out.1
      have kS : KeepS S W W3 := KeepS.of_below hb3 (fun b hb => by have := HT.out.2.2.1 b hb; omega)
      have kS3 : KeepS S W3 (W3.grow xs d) := KeepS.of_below (below_of_grow xs d) (fun b hb => by have := HT.out.2.2.1 b hb; have := hb3.size; omega)
      have hXg : X.At (W3.grow xs d) := hX.keep fun b hb => World.grow_heap _ _ _ (hX.lt b hb)
      have hst : ∃ ys : List (Lf (some T)), valsL ys = frontL fr [] ∧ J ys (W3.grow xs d) ∧ KeepS S W3 (W3.grow xs d) ∧ KeepsX kp W.heap.size W3 (W3.grow xs d) :=
        ⟨[], rfl, own_belowI HJ.out.1 (own_belowI HJ.out.1 HJ.out.2.2 hb3) ((below_of_grow xs d)), kS3, KeepsX.of_below (below_of_grow xs d)⟩
      have hw := walk_calls Fb W.heap.size S (fun pre Wx => ∃ ys : List (Lf (some T)), valsL ys = frontL fr pre ∧ J ys Wx ∧ KeepS S W3 Wx ∧ KeepsX kp W.heap.size W3 Wx) (fun pre Wx => ∃ ys : List (Lf (some T)), valsL ys = frontL fr pre ∧ Jx ys Wx) X.list
        (fun pre x Wx hj hpx hx => leaf_step S (some T) l Fb W.heap.size (.slice fa fr.length fc) fr W W3 J Jx HJ.out.1 n _ rfl (fun b hb => by have := HT.out.2.2.1 b hb; omega) HJ.out.2.1 hFb
          (fun W' hk => (hk.same.cell hFb 0).trans cF3) (fun W' hk => (HF.out W' (HT.out.2.2.2.same.trans (kS.same.trans hk.same))).more hSz) hfr H3.out.2.1 (HKY.out l) (Nat.le_refl _) hb3.size X.list hXl hXe pre x Wx hpx hx hj)
        X [] (W3.grow xs d) (List.prefix_refl _) hXg hXf hst
      have HW := Lib.hid hw
      have HXE := Lib.hid hXe
      clear hb3 kS kS3 hXg hst hw hX hXl hXf hXe HJ HT H3 HF HSide HBB HQ
      go_wp2_with fail
      refine HW.out.mono ?_
      rintro e W9 (⟨rfl, ⟨ys, h1, h2, _, _⟩, _⟩ | ⟨rfl, q9, h1, ys, h2, h3⟩)
      · have H9 := Lib.hid (And.intro h1 h2)
        clear h1 h2
        go_wp2_with fail
        go_end0
        exact ⟨⟨_, rfl⟩, .inl ⟨ys, by rw [H9.out.1]; exact HXE.out, H9.out.2⟩⟩
      · have H9 := Lib.hid (And.intro h1 (And.intro h2 h3))
        clear h1 h2 h3
        go_wp2_with fail
        go_end0
        exact ⟨⟨_, rfl⟩, .inr ⟨ys, by rw [H9.out.2.1, ← HXE.out]; exact front_pre fr H9.out.1, H9.out.2.2⟩⟩
set_option maxHeartbeats 4000000 in
theorem leaves1_none (t Tb Fb : Nat) (m : Int) (fv : Value) (fr : List UInt8) (B : Nat) (W : World) (cT : W.cell? ⟨Tb, 0, none⟩ = some (pt t)) (cF : W.cell? ⟨Fb, 0, none⟩ = some fv) (lT : Tb < W.heap.size) (lF : Fb < W.heap.size)
    (hT : W.heap[t]? = some (.cells #[.pointer none, .int .i64 m] 195)) (hF : ∀ W', Below W.heap.size W W' → SlB W' B fv fr) (hfr : fr.length ≤ 25) (l : Nat) :
    Calls Tryz.prog 132 #[.func (.yield l) #[] #[], .pointer (some ⟨Tb, 0, none⟩), .pointer (some ⟨Fb, 0, none⟩)] W fun e W' => (∃ v, e = .returned v) ∧ Below W.heap.size W W' := by
  have ct : W.cell? ⟨t, 0, none⟩ = some (.pointer none) := by simp [World.cell?, hT]
  have lt := lt_of_heap hT
  obtain ⟨fa, fc, rfl, -⟩ := hF W (Below.refl _ _)
  have HF := Lib.hid hF
  simp only [pt] at cT
  clear hF hT
  go_enter Tryz.func132, Tryz.ntmps132
  go_wp2_with fail
  have hcp : ∀ xs d, (Builtin.copy_ #[213, 213] 3 #[.slice (some ⟨W.heap.size + 1, 0, none⟩) 25 25, .slice fa fr.length fc]).run Tryz.prog (((W.alloc (.cells #[.func (.yield l) #[] #[]] 278)).alloc (.cells (row8 (zeros 25)) 199)).grow xs d) =
      .ok (goInt (fr.length : Int)) ((((W.alloc (.cells #[.func (.yield l) #[] #[]] 278)).alloc (.cells (row8 (zeros 25)) 199)).grow xs d).setRow (W.heap.size + 1) (row8 (fr ++ zeros (25 - fr.length)))) := by
    intro xs d
    have hb : Below W.heap.size W (((W.alloc (.cells #[.func (.yield l) #[] #[]] 278)).alloc (.cells (row8 (zeros 25)) 199)).grow xs d) :=
      (((Below.refl _ W).alloc (Nat.le_refl _) _).alloc (by simp) _).grow (by simp; omega) _ _
    refine copy_front (B := B) (t := 199) (HF.out _ hb) hfr ?_ _
    rw [World.grow_heap _ _ _ (by simp), heap_al, if_pos (by simp)]
  have HCP := Lib.hid hcp
  clear hcp
  apply wp_region_specs (by rfl) [.val _, .val _] 2 (by rfl) [8, 9] [] [] (by rfl) (by rfl) (by decide) (by decide +kernel) (fun _ _ _ _ _ h => h)
  case hF => intro x; simp only [over, List.foldl_cons, List.foldl_nil, List.setIfInBounds_toArray, List.set_cons_succ, List.set_cons_zero]; exact rfl
  case hops =>
    refine ⟨?o0, ?o1, trivial⟩
    case o0 =>
      intro x w1 hH K hK
      obtain ⟨xs, d, rfl⟩ := grow_of_below hH.below
      clear hH
      try simp only [World.grow_drew] at hK ⊢
      try simp only [World.grow_grow] at hK ⊢
      go_simp
      go_wp2_with fail
      exact ⟨_, rfl, rfl, (by repeat (first | exact below_of_grow _ _ | exact Below.refl _ _ | exact below_more _ _ _ _ | (simp only [← Array.append_assoc]; first | exact below_more _ _ _ _ | exact below_same _ _ _ | exact Below.refl _ _) | exact below_same _ _ _ | (refine Below.alloc ?_ (by first | (simp; done) | (simp; omega)) _) | (refine Below.grow ?_ (by first | (simp; done) | (simp; omega)) _ _) | refine Below.drew ?_ | refine Below.drewN ?_ _ | (refine Below.putF ?_ (by first | (simp; done) | omega | (simp; omega)) _) | (refine Below.setCell ?_ (by first | (simp; done) | (simp; omega)) _))), fun h => by cases h⟩
    case o1 =>
      intro x w1 hH K hK
      obtain ⟨xs, d, rfl⟩ := grow_of_below hH.below
      clear hH
      try simp only [World.grow_drew] at hK ⊢
      try simp only [World.grow_grow] at hK ⊢
      go_simp
      go_wp2_with fail
      exact ⟨_, rfl, rfl, (by repeat (first | exact below_of_grow _ _ | exact Below.refl _ _ | exact below_more _ _ _ _ | (simp only [← Array.append_assoc]; first | exact below_more _ _ _ _ | exact below_same _ _ _ | exact Below.refl _ _) | exact below_same _ _ _ | (refine Below.alloc ?_ (by first | (simp; done) | (simp; omega)) _) | (refine Below.grow ?_ (by first | (simp; done) | (simp; omega)) _ _) | refine Below.drew ?_ | refine Below.drewN ?_ _ | (refine Below.putF ?_ (by first | (simp; done) | omega | (simp; omega)) _) | (refine Below.setCell ?_ (by first | (simp; done) | (simp; omega)) _))), fun h => by cases h⟩
  case hend =>
    intro x w1 hH
    have e8 : x 8 = _ := hH.holds 0 (by decide) trivial 8 rfl
    have e9 : x 9 = _ := hH.holds 1 (by decide) trivial 9 rfl
    obtain ⟨xs, d, rfl⟩ := grow_of_below hH.below
    clear hH
    simp only [e8, e9]; clear e8 e9
    simp only [List.drop_succ_cons, List.drop_zero]
    have hcp := HCP.out xs d
    go_upto_region 4 with fail
    refine wp_name ?_
    intro W3 hW3
    clear hcp HCP
    have hb0 : Below W.heap.size W (((W.alloc (.cells #[.func (.yield l) #[] #[]] 278)).alloc (.cells (row8 (zeros 25)) 199)).grow xs d) :=
      (((Below.refl _ W).alloc (Nat.le_refl _) _).alloc (by simp) _).grow (by simp; omega) _ _
    have hg0 : (((W.alloc (.cells #[.func (.yield l) #[] #[]] 278)).alloc (.cells (row8 (zeros 25)) 199)).grow xs d).heap[W.heap.size + 1]? = some (.cells (row8 (zeros 25)) 199) := by
      rw [World.grow_heap _ _ _ (by simp), heap_al, if_pos (by simp)]
    obtain ⟨V, hV⟩ : ∃ V, V = (((W.alloc (.cells #[.func (.yield l) #[] #[]] 278)).alloc (.cells (row8 (zeros 25)) 199)).grow xs d) := ⟨_, rfl⟩
    rw [← hV] at hb0 hg0 hW3
    clear hV
    have hbt : But [W.heap.size + 1] V W3 := by rw [hW3]; exact setRow_but hg0
    have hb3 : Below W.heap.size W W3 := hb0.trans (hbt.below (by simp) hb0.size)
    have cT3 := (hb3.cell (p := ⟨Tb, 0, none⟩) lT).trans cT
    have cF3 := (hb3.cell (p := ⟨Fb, 0, none⟩) lF).trans cF
    have ct3 := (hb3.cell (p := ⟨t, 0, none⟩) lt).trans ct
    have hs3 := hb3.size
    have lT3 : Tb < W3.heap.size := by omega
    have lF3 : Fb < W3.heap.size := by omega
    have lt3 : t < W3.heap.size := by omega
    have H3 := Lib.hid hb3
    have HN := Lib.hid (fun w => walk_nil w (fnV Fb W.heap.size))
    clear hbt hb3 hb0 hg0 hW3 cT cF ct
    go_wp2_with fail
    go_loopw [5] (fun s5 wr => s5 = .pointer none ∧ ∃ xs d, wr = W3.grow xs d) (fun _ _ => 0)
    case atStart => exact ⟨rfl, #[], W3.drawn, World.grow_nil.symm⟩
    case round =>
      obtain ⟨rfl, xs, d, rfl⟩ := hrel
      go_wp2_with fail
      apply wp_region_specs (by rfl) [.val _, .val _, .val _, .val _, .val _, .val _, .val _, .val _, .val _, .val _, .val _, .val _, .val _, .val _, .val _, .val _, .val _, .val _, .val _] 19 (by rfl) [15, 16, 17, 18, 19, 20, 21, 22, 23, 24, 25, 26, 27, 28, 29, 30, 31, 32, 33] [] [] (by rfl) (by rfl) (by decide) (by decide +kernel) (fun _ _ _ _ _ h => h)
      case hF => intro x; simp only [over, List.foldl_cons, List.foldl_nil, List.setIfInBounds_toArray, List.set_cons_succ, List.set_cons_zero]; exact rfl
      case hops =>
        refine ⟨?o0, ?o1, ?o2, ?o3, ?o4, ?o5, ?o6, ?o7, ?o8, ?o9, ?o10, ?o11, ?o12, ?o13, ?o14, ?o15, ?o16, ?o17, ?o18, trivial⟩
        case o0 =>
          intro x w1 hH K hK
          obtain ⟨xs, d, rfl⟩ := grow_of_below hH.below
          clear hH
          try simp only [World.grow_drew] at hK ⊢
          try simp only [World.grow_grow] at hK ⊢
          go_simp
          go_wp2_with fail
          exact ⟨_, rfl, rfl, (by repeat (first | exact below_of_grow _ _ | exact Below.refl _ _ | exact below_more _ _ _ _ | (simp only [← Array.append_assoc]; first | exact below_more _ _ _ _ | exact below_same _ _ _ | exact Below.refl _ _) | exact below_same _ _ _ | (refine Below.alloc ?_ (by first | (simp; done) | (simp; omega)) _) | (refine Below.grow ?_ (by first | (simp; done) | (simp; omega)) _ _) | refine Below.drew ?_ | refine Below.drewN ?_ _ | (refine Below.putF ?_ (by first | (simp; done) | omega | (simp; omega)) _) | (refine Below.setCell ?_ (by first | (simp; done) | (simp; omega)) _))), fun h => by cases h⟩
        case o1 =>
          intro x w1 hH K hK
          have e15 : x 15 = _ := hH.holds 0 (by decide) (by decide +kernel) 15 rfl
          obtain ⟨xs, d, rfl⟩ := grow_of_below hH.below
          clear hH
          try simp only [World.grow_drew] at hK ⊢
          try simp only [World.grow_grow] at hK ⊢
          simp only [e15] at hK ⊢
          clear e15
          go_simp
          go_wp2_with fail
          exact ⟨_, rfl, rfl, (by repeat (first | exact below_of_grow _ _ | exact Below.refl _ _ | exact below_more _ _ _ _ | (simp only [← Array.append_assoc]; first | exact below_more _ _ _ _ | exact below_same _ _ _ | exact Below.refl _ _) | exact below_same _ _ _ | (refine Below.alloc ?_ (by first | (simp; done) | (simp; omega)) _) | (refine Below.grow ?_ (by first | (simp; done) | (simp; omega)) _ _) | refine Below.drew ?_ | refine Below.drewN ?_ _ | (refine Below.putF ?_ (by first | (simp; done) | omega | (simp; omega)) _) | (refine Below.setCell ?_ (by first | (simp; done) | (simp; omega)) _))), fun h => by cases h⟩
        case o2 =>
          intro x w1 hH K hK
          have e16 : x 16 = _ := hH.holds 1 (by decide) (by decide +kernel) 16 rfl
          obtain ⟨xs, d, rfl⟩ := grow_of_below hH.below
          clear hH
          try simp only [World.grow_drew] at hK ⊢
          try simp only [World.grow_grow] at hK ⊢
          simp only [e16] at hK ⊢
          clear e16
          go_simp
          go_wp2_with fail
          exact ⟨_, rfl, rfl, (by repeat (first | exact below_of_grow _ _ | exact Below.refl _ _ | exact below_more _ _ _ _ | (simp only [← Array.append_assoc]; first | exact below_more _ _ _ _ | exact below_same _ _ _ | exact Below.refl _ _) | exact below_same _ _ _ | (refine Below.alloc ?_ (by first | (simp; done) | (simp; omega)) _) | (refine Below.grow ?_ (by first | (simp; done) | (simp; omega)) _ _) | refine Below.drew ?_ | refine Below.drewN ?_ _ | (refine Below.putF ?_ (by first | (simp; done) | omega | (simp; omega)) _) | (refine Below.setCell ?_ (by first | (simp; done) | (simp; omega)) _))), fun h => by cases h⟩
        case o3 =>
          intro x w1 hH K hK
          have e17 : x 17 = _ := hH.holds 2 (by decide) (by decide +kernel) 17 rfl
          obtain ⟨xs, d, rfl⟩ := grow_of_below hH.below
          clear hH
          try simp only [World.grow_drew] at hK ⊢
          try simp only [World.grow_grow] at hK ⊢
          simp only [e17] at hK ⊢
          clear e17
          go_simp
          go_wp2_with fail
          exact ⟨_, rfl, rfl, (by repeat (first | exact below_of_grow _ _ | exact Below.refl _ _ | exact below_more _ _ _ _ | (simp only [← Array.append_assoc]; first | exact below_more _ _ _ _ | exact below_same _ _ _ | exact Below.refl _ _) | exact below_same _ _ _ | (refine Below.alloc ?_ (by first | (simp; done) | (simp; omega)) _) | (refine Below.grow ?_ (by first | (simp; done) | (simp; omega)) _ _) | refine Below.drew ?_ | refine Below.drewN ?_ _ | (refine Below.putF ?_ (by first | (simp; done) | omega | (simp; omega)) _) | (refine Below.setCell ?_ (by first | (simp; done) | (simp; omega)) _))), fun h => by cases h⟩
        case o4 =>
          intro x w1 hH K hK
          have e17 : x 17 = _ := hH.holds 2 (by decide) (by decide +kernel) 17 rfl
          have e18 : x 18 = _ := hH.holds 3 (by decide) (by decide +kernel) 18 rfl
          obtain ⟨xs, d, rfl⟩ := grow_of_below hH.below
          clear hH
          try simp only [World.grow_drew] at hK ⊢
          try simp only [World.grow_grow] at hK ⊢
          simp only [e17, e18] at hK ⊢
          clear e17 e18
          go_simp
          go_wp2_with fail
          exact ⟨_, rfl, rfl, (by repeat (first | exact below_of_grow _ _ | exact Below.refl _ _ | exact below_more _ _ _ _ | (simp only [← Array.append_assoc]; first | exact below_more _ _ _ _ | exact below_same _ _ _ | exact Below.refl _ _) | exact below_same _ _ _ | (refine Below.alloc ?_ (by first | (simp; done) | (simp; omega)) _) | (refine Below.grow ?_ (by first | (simp; done) | (simp; omega)) _ _) | refine Below.drew ?_ | refine Below.drewN ?_ _ | (refine Below.putF ?_ (by first | (simp; done) | omega | (simp; omega)) _) | (refine Below.setCell ?_ (by first | (simp; done) | (simp; omega)) _))), fun h => by cases h⟩
        case o5 =>
          intro x w1 hH K hK
          have e17 : x 17 = _ := hH.holds 2 (by decide) (by decide +kernel) 17 rfl
          have e19 : x 19 = _ := hH.holds 4 (by decide) (by decide +kernel) 19 rfl
          obtain ⟨xs, d, rfl⟩ := grow_of_below hH.below
          clear hH
          try simp only [World.grow_drew] at hK ⊢
          try simp only [World.grow_grow] at hK ⊢
          simp only [e17, e19] at hK ⊢
          clear e17 e19
          go_simp
          go_wp2_with fail
          exact ⟨_, rfl, rfl, (by repeat (first | exact below_of_grow _ _ | exact Below.refl _ _ | exact below_more _ _ _ _ | (simp only [← Array.append_assoc]; first | exact below_more _ _ _ _ | exact below_same _ _ _ | exact Below.refl _ _) | exact below_same _ _ _ | (refine Below.alloc ?_ (by first | (simp; done) | (simp; omega)) _) | (refine Below.grow ?_ (by first | (simp; done) | (simp; omega)) _ _) | refine Below.drew ?_ | refine Below.drewN ?_ _ | (refine Below.putF ?_ (by first | (simp; done) | omega | (simp; omega)) _) | (refine Below.setCell ?_ (by first | (simp; done) | (simp; omega)) _))), fun h => by cases h⟩
        case o6 =>
          intro x w1 hH K hK
          have e17 : x 17 = _ := hH.holds 2 (by decide) (by decide +kernel) 17 rfl
          have e20 : x 20 = _ := hH.holds 5 (by decide) (by decide +kernel) 20 rfl
          obtain ⟨xs, d, rfl⟩ := grow_of_below hH.below
          clear hH
          try simp only [World.grow_drew] at hK ⊢
          try simp only [World.grow_grow] at hK ⊢
          simp only [e17, e20] at hK ⊢
          clear e17 e20
          go_simp
          go_wp2_with fail
          exact ⟨_, rfl, rfl, (by repeat (first | exact below_of_grow _ _ | exact Below.refl _ _ | exact below_more _ _ _ _ | (simp only [← Array.append_assoc]; first | exact below_more _ _ _ _ | exact below_same _ _ _ | exact Below.refl _ _) | exact below_same _ _ _ | (refine Below.alloc ?_ (by first | (simp; done) | (simp; omega)) _) | (refine Below.grow ?_ (by first | (simp; done) | (simp; omega)) _ _) | refine Below.drew ?_ | refine Below.drewN ?_ _ | (refine Below.putF ?_ (by first | (simp; done) | omega | (simp; omega)) _) | (refine Below.setCell ?_ (by first | (simp; done) | (simp; omega)) _))), fun h => by cases h⟩
        case o7 =>
          intro x w1 hH K hK
          have e17 : x 17 = _ := hH.holds 2 (by decide) (by decide +kernel) 17 rfl
          have e21 : x 21 = _ := hH.holds 6 (by decide) (by decide +kernel) 21 rfl
          obtain ⟨xs, d, rfl⟩ := grow_of_below hH.below
          clear hH
          try simp only [World.grow_drew] at hK ⊢
          try simp only [World.grow_grow] at hK ⊢
          simp only [e17, e21] at hK ⊢
          clear e17 e21
          go_simp
          go_wp2_with fail
          exact ⟨_, rfl, rfl, (by repeat (first | exact below_of_grow _ _ | exact Below.refl _ _ | exact below_more _ _ _ _ | (simp only [← Array.append_assoc]; first | exact below_more _ _ _ _ | exact below_same _ _ _ | exact Below.refl _ _) | exact below_same _ _ _ | (refine Below.alloc ?_ (by first | (simp; done) | (simp; omega)) _) | (refine Below.grow ?_ (by first | (simp; done) | (simp; omega)) _ _) | refine Below.drew ?_ | refine Below.drewN ?_ _ | (refine Below.putF ?_ (by first | (simp; done) | omega | (simp; omega)) _) | (refine Below.setCell ?_ (by first | (simp; done) | (simp; omega)) _))), fun h => by cases h⟩
        case o8 =>
          intro x w1 hH K hK
          have e17 : x 17 = _ := hH.holds 2 (by decide) (by decide +kernel) 17 rfl
          have e22 : x 22 = _ := hH.holds 7 (by decide) (by decide +kernel) 22 rfl
          obtain ⟨xs, d, rfl⟩ := grow_of_below hH.below
          clear hH
          try simp only [World.grow_drew] at hK ⊢
          try simp only [World.grow_grow] at hK ⊢
          simp only [e17, e22] at hK ⊢
          clear e17 e22
          go_simp
          go_wp2_with fail
          exact ⟨_, rfl, rfl, (by repeat (first | exact below_of_grow _ _ | exact Below.refl _ _ | exact below_more _ _ _ _ | (simp only [← Array.append_assoc]; first | exact below_more _ _ _ _ | exact below_same _ _ _ | exact Below.refl _ _) | exact below_same _ _ _ | (refine Below.alloc ?_ (by first | (simp; done) | (simp; omega)) _) | (refine Below.grow ?_ (by first | (simp; done) | (simp; omega)) _ _) | refine Below.drew ?_ | refine Below.drewN ?_ _ | (refine Below.putF ?_ (by first | (simp; done) | omega | (simp; omega)) _) | (refine Below.setCell ?_ (by first | (simp; done) | (simp; omega)) _))), fun h => by cases h⟩
        case o9 =>
          intro x w1 hH K hK
          have e23 : x 23 = _ := hH.holds 8 (by decide) (by decide +kernel) 23 rfl
          obtain ⟨xs, d, rfl⟩ := grow_of_below hH.below
          clear hH
          try simp only [World.grow_drew] at hK ⊢
          try simp only [World.grow_grow] at hK ⊢
          simp only [e23] at hK ⊢
          clear e23
          go_simp
          go_wp2_with fail
          exact ⟨_, rfl, rfl, (by repeat (first | exact below_of_grow _ _ | exact Below.refl _ _ | exact below_more _ _ _ _ | (simp only [← Array.append_assoc]; first | exact below_more _ _ _ _ | exact below_same _ _ _ | exact Below.refl _ _) | exact below_same _ _ _ | (refine Below.alloc ?_ (by first | (simp; done) | (simp; omega)) _) | (refine Below.grow ?_ (by first | (simp; done) | (simp; omega)) _ _) | refine Below.drew ?_ | refine Below.drewN ?_ _ | (refine Below.putF ?_ (by first | (simp; done) | omega | (simp; omega)) _) | (refine Below.setCell ?_ (by first | (simp; done) | (simp; omega)) _))), fun h => by cases h⟩
        case o10 =>
          intro x w1 hH K hK
          have e24 : x 24 = _ := hH.holds 9 (by decide) (by decide +kernel) 24 rfl
          obtain ⟨xs, d, rfl⟩ := grow_of_below hH.below
          clear hH
          try simp only [World.grow_drew] at hK ⊢
          try simp only [World.grow_grow] at hK ⊢
          simp only [e24] at hK ⊢
          clear e24
          go_simp
          go_wp2_with fail
          exact ⟨_, rfl, rfl, (by repeat (first | exact below_of_grow _ _ | exact Below.refl _ _ | exact below_more _ _ _ _ | (simp only [← Array.append_assoc]; first | exact below_more _ _ _ _ | exact below_same _ _ _ | exact Below.refl _ _) | exact below_same _ _ _ | (refine Below.alloc ?_ (by first | (simp; done) | (simp; omega)) _) | (refine Below.grow ?_ (by first | (simp; done) | (simp; omega)) _ _) | refine Below.drew ?_ | refine Below.drewN ?_ _ | (refine Below.putF ?_ (by first | (simp; done) | omega | (simp; omega)) _) | (refine Below.setCell ?_ (by first | (simp; done) | (simp; omega)) _))), fun h => by cases h⟩
        case o11 =>
          intro x w1 hH K hK
          have e24 : x 24 = _ := hH.holds 9 (by decide) (by decide +kernel) 24 rfl
          have e25 : x 25 = _ := hH.holds 10 (by decide) (by decide +kernel) 25 rfl
          obtain ⟨xs, d, rfl⟩ := grow_of_below hH.below
          clear hH
          try simp only [World.grow_drew] at hK ⊢
          try simp only [World.grow_grow] at hK ⊢
          simp only [e24, e25] at hK ⊢
          clear e24 e25
          go_simp
          go_wp2_with fail
          exact ⟨_, rfl, rfl, (by repeat (first | exact below_of_grow _ _ | exact Below.refl _ _ | exact below_more _ _ _ _ | (simp only [← Array.append_assoc]; first | exact below_more _ _ _ _ | exact below_same _ _ _ | exact Below.refl _ _) | exact below_same _ _ _ | (refine Below.alloc ?_ (by first | (simp; done) | (simp; omega)) _) | (refine Below.grow ?_ (by first | (simp; done) | (simp; omega)) _ _) | refine Below.drew ?_ | refine Below.drewN ?_ _ | (refine Below.putF ?_ (by first | (simp; done) | omega | (simp; omega)) _) | (refine Below.setCell ?_ (by first | (simp; done) | (simp; omega)) _))), fun h => by cases h⟩
        case o12 =>
          intro x w1 hH K hK
          have e24 : x 24 = _ := hH.holds 9 (by decide) (by decide +kernel) 24 rfl
          have e26 : x 26 = _ := hH.holds 11 (by decide) (by decide +kernel) 26 rfl
          obtain ⟨xs, d, rfl⟩ := grow_of_below hH.below
          clear hH
          try simp only [World.grow_drew] at hK ⊢
          try simp only [World.grow_grow] at hK ⊢
          simp only [e24, e26] at hK ⊢
          clear e24 e26
          go_simp
          go_wp2_with fail
          exact ⟨_, rfl, rfl, (by repeat (first | exact below_of_grow _ _ | exact Below.refl _ _ | exact below_more _ _ _ _ | (simp only [← Array.append_assoc]; first | exact below_more _ _ _ _ | exact below_same _ _ _ | exact Below.refl _ _) | exact below_same _ _ _ | (refine Below.alloc ?_ (by first | (simp; done) | (simp; omega)) _) | (refine Below.grow ?_ (by first | (simp; done) | (simp; omega)) _ _) | refine Below.drew ?_ | refine Below.drewN ?_ _ | (refine Below.putF ?_ (by first | (simp; done) | omega | (simp; omega)) _) | (refine Below.setCell ?_ (by first | (simp; done) | (simp; omega)) _))), fun h => by cases h⟩
        case o13 =>
          intro x w1 hH K hK
          have e24 : x 24 = _ := hH.holds 9 (by decide) (by decide +kernel) 24 rfl
          have e27 : x 27 = _ := hH.holds 12 (by decide) (by decide +kernel) 27 rfl
          obtain ⟨xs, d, rfl⟩ := grow_of_below hH.below
          clear hH
          try simp only [World.grow_drew] at hK ⊢
          try simp only [World.grow_grow] at hK ⊢
          simp only [e24, e27] at hK ⊢
          clear e24 e27
          go_simp
          go_wp2_with fail
          exact ⟨_, rfl, rfl, (by repeat (first | exact below_of_grow _ _ | exact Below.refl _ _ | exact below_more _ _ _ _ | (simp only [← Array.append_assoc]; first | exact below_more _ _ _ _ | exact below_same _ _ _ | exact Below.refl _ _) | exact below_same _ _ _ | (refine Below.alloc ?_ (by first | (simp; done) | (simp; omega)) _) | (refine Below.grow ?_ (by first | (simp; done) | (simp; omega)) _ _) | refine Below.drew ?_ | refine Below.drewN ?_ _ | (refine Below.putF ?_ (by first | (simp; done) | omega | (simp; omega)) _) | (refine Below.setCell ?_ (by first | (simp; done) | (simp; omega)) _))), fun h => by cases h⟩
        case o14 =>
          intro x w1 hH K hK
          have e24 : x 24 = _ := hH.holds 9 (by decide) (by decide +kernel) 24 rfl
          obtain ⟨xs, d, rfl⟩ := grow_of_below hH.below
          clear hH
          try simp only [World.grow_drew] at hK ⊢
          try simp only [World.grow_grow] at hK ⊢
          simp only [e24] at hK ⊢
          clear e24
          go_simp
          go_wp2_with fail
          exact ⟨_, rfl, rfl, (by repeat (first | exact below_of_grow _ _ | exact Below.refl _ _ | exact below_more _ _ _ _ | (simp only [← Array.append_assoc]; first | exact below_more _ _ _ _ | exact below_same _ _ _ | exact Below.refl _ _) | exact below_same _ _ _ | (refine Below.alloc ?_ (by first | (simp; done) | (simp; omega)) _) | (refine Below.grow ?_ (by first | (simp; done) | (simp; omega)) _ _) | refine Below.drew ?_ | refine Below.drewN ?_ _ | (refine Below.putF ?_ (by first | (simp; done) | omega | (simp; omega)) _) | (refine Below.setCell ?_ (by first | (simp; done) | (simp; omega)) _))), fun h => by cases h⟩
        case o15 =>
          intro x w1 hH K hK
          have e24 : x 24 = _ := hH.holds 9 (by decide) (by decide +kernel) 24 rfl
          have e29 : x 29 = _ := hH.holds 14 (by decide) (by decide +kernel) 29 rfl
          obtain ⟨xs, d, rfl⟩ := grow_of_below hH.below
          clear hH
          try simp only [World.grow_drew] at hK ⊢
          try simp only [World.grow_grow] at hK ⊢
          simp only [e24, e29] at hK ⊢
          clear e24 e29
          go_simp
          go_wp2_with fail
          exact ⟨_, rfl, rfl, (by repeat (first | exact below_of_grow _ _ | exact Below.refl _ _ | exact below_more _ _ _ _ | (simp only [← Array.append_assoc]; first | exact below_more _ _ _ _ | exact below_same _ _ _ | exact Below.refl _ _) | exact below_same _ _ _ | (refine Below.alloc ?_ (by first | (simp; done) | (simp; omega)) _) | (refine Below.grow ?_ (by first | (simp; done) | (simp; omega)) _ _) | refine Below.drew ?_ | refine Below.drewN ?_ _ | (refine Below.putF ?_ (by first | (simp; done) | omega | (simp; omega)) _) | (refine Below.setCell ?_ (by first | (simp; done) | (simp; omega)) _))), fun h => by cases h⟩
        case o16 =>
          intro x w1 hH K hK
          have e24 : x 24 = _ := hH.holds 9 (by decide) (by decide +kernel) 24 rfl
          have e30 : x 30 = _ := hH.holds 15 (by decide) (by decide +kernel) 30 rfl
          obtain ⟨xs, d, rfl⟩ := grow_of_below hH.below
          clear hH
          try simp only [World.grow_drew] at hK ⊢
          try simp only [World.grow_grow] at hK ⊢
          simp only [e24, e30] at hK ⊢
          clear e24 e30
          go_simp
          go_wp2_with fail
          exact ⟨_, rfl, rfl, (by repeat (first | exact below_of_grow _ _ | exact Below.refl _ _ | exact below_more _ _ _ _ | (simp only [← Array.append_assoc]; first | exact below_more _ _ _ _ | exact below_same _ _ _ | exact Below.refl _ _) | exact below_same _ _ _ | (refine Below.alloc ?_ (by first | (simp; done) | (simp; omega)) _) | (refine Below.grow ?_ (by first | (simp; done) | (simp; omega)) _ _) | refine Below.drew ?_ | refine Below.drewN ?_ _ | (refine Below.putF ?_ (by first | (simp; done) | omega | (simp; omega)) _) | (refine Below.setCell ?_ (by first | (simp; done) | (simp; omega)) _))), fun h => by cases h⟩
        case o17 =>
          intro x w1 hH K hK
          have e24 : x 24 = _ := hH.holds 9 (by decide) (by decide +kernel) 24 rfl
          have e28 : x 28 = _ := hH.holds 13 (by decide) (by decide +kernel) 28 rfl
          have e31 : x 31 = _ := hH.holds 16 (by decide) (by decide +kernel) 31 rfl
          obtain ⟨xs, d, rfl⟩ := grow_of_below hH.below
          clear hH
          try simp only [World.grow_drew] at hK ⊢
          try simp only [World.grow_grow] at hK ⊢
          simp only [e24, e28, e31] at hK ⊢
          clear e24 e28 e31
          go_simp
          go_wp2_with fail
          exact ⟨_, rfl, rfl, (by repeat (first | exact below_of_grow _ _ | exact Below.refl _ _ | exact below_more _ _ _ _ | (simp only [← Array.append_assoc]; first | exact below_more _ _ _ _ | exact below_same _ _ _ | exact Below.refl _ _) | exact below_same _ _ _ | (refine Below.alloc ?_ (by first | (simp; done) | (simp; omega)) _) | (refine Below.grow ?_ (by first | (simp; done) | (simp; omega)) _ _) | refine Below.drew ?_ | refine Below.drewN ?_ _ | (refine Below.putF ?_ (by first | (simp; done) | omega | (simp; omega)) _) | (refine Below.setCell ?_ (by first | (simp; done) | (simp; omega)) _))), fun h => by cases h⟩
        case o18 =>
          intro x w1 hH K hK
          have e24 : x 24 = _ := hH.holds 9 (by decide) (by decide +kernel) 24 rfl
          have e32 : x 32 = _ := hH.holds 17 (by decide) (by decide +kernel) 32 rfl
          obtain ⟨xs, d, rfl⟩ := grow_of_below hH.below
          clear hH
          try simp only [World.grow_drew] at hK ⊢
          try simp only [World.grow_grow] at hK ⊢
          simp only [e24, e32] at hK ⊢
          clear e24 e32
          go_simp
          go_wp2_with fail
          exact ⟨_, rfl, rfl, (by repeat (first | exact below_of_grow _ _ | exact Below.refl _ _ | exact below_more _ _ _ _ | (simp only [← Array.append_assoc]; first | exact below_more _ _ _ _ | exact below_same _ _ _ | exact Below.refl _ _) | exact below_same _ _ _ | (refine Below.alloc ?_ (by first | (simp; done) | (simp; omega)) _) | (refine Below.grow ?_ (by first | (simp; done) | (simp; omega)) _ _) | refine Below.drew ?_ | refine Below.drewN ?_ _ | (refine Below.putF ?_ (by first | (simp; done) | omega | (simp; omega)) _) | (refine Below.setCell ?_ (by first | (simp; done) | (simp; omega)) _))), fun h => by cases h⟩
      case hend =>
        intro x w1 hH
        have e15 : x 15 = _ := hH.holds 0 (by decide) trivial 15 rfl
        have e16 : x 16 = _ := hH.holds 1 (by decide) trivial 16 rfl
        have e17 : x 17 = _ := hH.holds 2 (by decide) trivial 17 rfl
        have e18 : x 18 = _ := hH.holds 3 (by decide) trivial 18 rfl
        have e19 : x 19 = _ := hH.holds 4 (by decide) trivial 19 rfl
        have e20 : x 20 = _ := hH.holds 5 (by decide) trivial 20 rfl
        have e21 : x 21 = _ := hH.holds 6 (by decide) trivial 21 rfl
        have e22 : x 22 = _ := hH.holds 7 (by decide) trivial 22 rfl
        have e23 : x 23 = _ := hH.holds 8 (by decide) trivial 23 rfl
        have e24 : x 24 = _ := hH.holds 9 (by decide) trivial 24 rfl
        have e25 : x 25 = _ := hH.holds 10 (by decide) trivial 25 rfl
        have e26 : x 26 = _ := hH.holds 11 (by decide) trivial 26 rfl
        have e27 : x 27 = _ := hH.holds 12 (by decide) trivial 27 rfl
        have e28 : x 28 = _ := hH.holds 13 (by decide) trivial 28 rfl
        have e29 : x 29 = _ := hH.holds 14 (by decide) trivial 29 rfl
        have e30 : x 30 = _ := hH.holds 15 (by decide) trivial 30 rfl
        have e31 : x 31 = _ := hH.holds 16 (by decide) trivial 31 rfl
        have e32 : x 32 = _ := hH.holds 17 (by decide) trivial 32 rfl
        have e33 : x 33 = _ := hH.holds 18 (by decide) trivial 33 rfl
        obtain ⟨xs, d, rfl⟩ := grow_of_below hH.below
        clear hH
        simp only [e15, e16, e17, e18, e19, e20, e21, e22, e23, e24, e25, e26, e27, e28, e29, e30, e31, e32, e33]; clear e15 e16 e17 e18 e19 e20 e21 e22 e23 e24 e25 e26 e27 e28 e29 e30 e31 e32 e33
        simp only [List.drop_succ_cons, List.drop_nil]
        go_wp2_with fail
        refine (HN.out _).mono ?_
        rintro e W9 ⟨rfl, rfl⟩
        go_wp2_with fail
        go_end0
        exact ⟨⟨_, rfl⟩, H3.out.trans ((show Below W3.heap.size W3 _ from (by repeat (first | exact below_of_grow _ _ | exact Below.refl _ _ | exact below_more _ _ _ _ | (simp only [← Array.append_assoc]; first | exact below_more _ _ _ _ | exact below_same _ _ _ | exact Below.refl _ _) | exact below_same _ _ _ | (refine Below.alloc ?_ (by first | (simp; done) | (simp; omega)) _) | (refine Below.grow ?_ (by first | (simp; done) | (simp; omega)) _ _) | refine Below.drew ?_ | refine Below.drewN ?_ _ | (refine Below.putF ?_ (by first | (simp; done) | omega | (simp; omega)) _) | (refine Below.setCell ?_ (by first | (simp; done) | (simp; omega)) _)))).mono H3.out.size)⟩
/-- t.leaves(front)'s iterator, as a contract -/
theorem leaves_stops {kp : Obj → Bool} (hky : ∀ l, kp (.cells #[.func (.yield l) #[] #[]] 278) = true) (S : Nat → Prop) (n : Nat) (t Tb Fb : Nat) (R : Option (CT K25)) (m : Int) (fv : Value) (fr : List UInt8) (w : World) (hS : ∀ b, S b → b < w.heap.size) (hTb : S Tb) (hFb : S Fb)
    (hcT : w.cell? ⟨Tb, 0, none⟩ = some (pt t)) (hcF : w.cell? ⟨Fb, 0, none⟩ = some fv) (hT : TreeAt w t R m) (hSt : S t) (hSf : ∀ T, R = some T → ∀ b ∈ T.foot, S b)
    (hF : ∀ W, Sm S w W → SlB W w.heap.size fv fr) (hfr : fr.length ≤ 25) :
    SeqStopsX kp Fence.wide n Tryz.prog 132 #[.pointer (some ⟨Tb, 0, none⟩), .pointer (some ⟨Fb, 0, none⟩)] (encLf R) (KeepS S)
      (fun ys => valsL ys = frontL fr (lvs R)) (fun pre => valsL pre <+: frontL fr (lvs R)) (frontL fr (lvs R)).length w := fun l J Jx W hW hJ _ hY h0 => by
  refine (callsIn_wide (n := n)).2 ?_
  cases R with
  | some T => exact leaves1_some hky S n t Tb Fb T m fv fr w hS hTb hFb hcT hcF hT hSt (hSf T rfl) hF hfr l J Jx W hW hJ hY h0
  | none =>
    have hk := KeepS.of_below (S := S) hW hS
    have hz := hW.size
    refine (leaves1_none t Tb Fb m fv fr w.heap.size W ((hk.same.cell hTb 0).trans hcT) ((hk.same.cell hFb 0).trans hcF) (by have := hS _ hTb; omega) (by have := hS _ hFb; omega) ((hk.same t hSt).trans hT.1)
      (fun W' hb => hF W' (hk.same.trans fun b hb' => hb.block b (by have := hS b hb'; omega))) hfr l).mono ?_
    rintro e W' ⟨he, hb⟩
    exact ⟨he, .inl ⟨[], rfl, own_belowI hJ h0 hb⟩⟩
theorem leaves_calls (t : Value) (fv : Value) (h1 : ∃ a, t = .pointer a) (h2 : ∃ a n c, fv = .slice a n c) (w : World) :
    Calls Tryz.prog 104 #[t, fv] w fun e w' => e = .returned (.func (.func 132) #[] #[.pointer (some ⟨w.heap.size, 0, none⟩), .pointer (some ⟨w.heap.size + 1, 0, none⟩)]) ∧
      w' = (w.alloc (.cells #[t] 136)).alloc (.cells #[fv] 213) := by
  obtain ⟨a, rfl⟩ := h1
  obtain ⟨fa, fn, fc, rfl⟩ := h2
  have hmf : ∀ (fn : Fn) (first cap : Array Value) (w : World), (Instr.makeFunc fn first cap).run Tryz.prog w = .ok (.func fn first cap) w := fun _ _ _ _ => rfl
  go_enter Tryz.func104, Tryz.ntmps104
  go_wp2_with fail
  go_ret
  exact ⟨rfl, rfl⟩
end Go.Proofs.YtfgpcflegodlmaaGreatDoor

/- Layer 12: a chain's versions, the newest first: the library's iterator over a slice, backwards. -/
import Derived.Test.YtjdccgmoldmlmaaDoorChain
import Derived.Test.YtjdccgmoldmlmaaDoorLoopB
import Derived.Shelf.RegionOpen
import Derived.WalkKit
import Derived.OwnWalkIn
import Derived.TacticsInMore
import Derived.LoopNIn
import Derived.LoopIn
namespace Go.Proofs.YtjdccgmoldmlmaaDoor
set_option maxRecDepth 100000
open Go.RowKit Go.Shelf
attribute [local go_sem] Oper.semAt_some

/-- what has come behind j rounds -/
def dn (vs : List Ver) (j : Nat) : List (Nat × Ver) := (List.range j).map fun t => (vs.length - 1 - t, vs.getD (vs.length - 1 - t) Ver.zero)
theorem dn_succ (vs : List Ver) (j : Nat) : dn vs (j + 1) = dn vs j ++ [(vs.length - 1 - j, vs.getD (vs.length - 1 - j) Ver.zero)] := by simp [dn, List.range_succ]
theorem dn_length (vs : List Ver) (j : Nat) : (dn vs j).length = j := by simp [dn]
def encV (x : Nat × Ver) : Array Value := #[.int .i64 (x.1 : Int), .agg (verA x.2)]
/-- what a round keeps: whatever lay below n₀, and a box -/
def KeepB (n₀ Bs : Nat) (W W' : World) : Prop := Below n₀ W W' ∧ W'.heap[Bs]? = W.heap[Bs]?
theorem KeepB.trans {n₀ Bs : Nat} {A B C : World} (h : KeepB n₀ Bs A B) (k : KeepB n₀ Bs B C) : KeepB n₀ Bs A C := ⟨h.1.trans k.1, k.2.trans h.2⟩
theorem KeepB.refl (n₀ Bs : Nat) (W : World) : KeepB n₀ Bs W W := ⟨Below.refl _ _, rfl⟩
theorem keepB_b {n₀ Bs : Nat} {w : World} (hn : n₀ ≤ w.heap.size) (hB : Bs < w.heap.size) (W : World) (l : Nat) (o o' : Obj) (hl : w.heap.size ≤ l) (h : W.heap[l]? = some o) (hc : o.isCells = false) (hw : o.isWalk = false) : KeepB n₀ Bs W (W.putObj l o') :=
  ⟨belowK_b hn W l o o' hl h hc hw, World.putObj_heap_other (by omega)⟩
set_option maxHeartbeats 4000000 in
theorem bw1_in (F : Fence) (n : Nat) (h1 : F.fn 49) (hro : F.round = none) (hn : 1 ≤ n) (l Bs n₀ b off cap : Nat) (vs : List Ver) (hlen : vs.length ≤ 100000) (hb : b < n₀) (B0 : Nat) (J Jx : List (Nat × Ver) → World → Prop)
    (hY : ∀ pre x W1, J pre W1 → pre.length < vs.length → YieldAt F (n - 1) Tryd.prog l (encV x) W1 fun e W' =>
      ((e = .returned (.bool true) ∧ J (pre ++ [x]) W' ∧ KeepB n₀ Bs W1 W') ∨ (e = .returned (.bool false) ∧ Jx (pre ++ [x]) W')) ∧ KeepsUp B0 W1 W')
    (W : World) (hBs : W.cell? ⟨Bs, 0, none⟩ = some (.slice (some ⟨b, off, none⟩) vs.length cap)) (hc : ∀ j x, vs[j]? = some x → W.cut? b (off + j * 11) 11 = some (verA x)) (hcap : vs.length ≤ cap) (hcap2 : cap ≤ maxLen) (h0 : J [] W) :
    CallsIn F n Tryd.prog 49 #[.func (.yield l) #[] #[], .pointer (some ⟨Bs, 0, none⟩)] W fun e W' => (∃ v, e = .returned v) ∧
      ((∃ ys, ys = dn vs vs.length ∧ J ys W') ∨ (∃ pre, (∃ j, j ≤ vs.length ∧ pre = dn vs j) ∧ Jx pre W')) := by
  refine callsIn_of_wp Tryd.func49 rfl h1 ?_ hro
  simp only [Tryd.ntmps49, List.size_toArray, List.length_cons, List.length_nil, Nat.reduceAdd, Nat.reduceSub, Array.replicate_succ, Array.replicate_zero, List.push_toArray, List.append_toArray, List.nil_append, List.cons_append]
  gi_wp2
  gi_loopw [3] (fun i wr => ∃ k : Nat, k ≤ vs.length ∧ i = .int .i64 ((vs.length : Int) - 1 - k) ∧ J (dn vs k) wr ∧ KeepB n₀ Bs W wr)
    (fun i _ => (intOf i + 1).toNat)
  case atStart => exact ⟨0, Nat.zero_le _, by simp, h0, KeepB.refl _ _ _⟩
  case round =>
    obtain ⟨k, hk, rfl, hJs, hnx⟩ := hrel
    by_cases hlt : k < vs.length
    · obtain ⟨i, hi⟩ : ∃ i, i = vs.length - 1 - k := ⟨_, rfl⟩
      have hii : ((vs.length : Int) - 1 - k) = (i : Int) := by omega
      have hvi : vs[i]? = some (vs.getD i Ver.zero) := by rw [List.getD_eq_getElem?_getD, List.getElem?_eq_getElem (by omega)]; rfl
      have hcx : wr.cut? b (off + i * 11) 11 = some (verA (vs.getD i Ver.zero)) := by rw [cut_of_heap (hnx.1.block _ hb)]; exact hc i _ hvi
      have hbx : wr.cell? ⟨Bs, 0, none⟩ = some (.slice (some ⟨b, off, none⟩) vs.length cap) := by
        have := hnx.2
        unfold World.cell? at hBs ⊢
        rw [this]; exact hBs
      obtain ⟨fn, tmps, assign, body, hy, hR⟩ := hY _ (i, vs.getD i Ver.zero) wr hJs (by rw [dn_length]; exact hlt)
      simp only [encV] at hy
      rw [hii]
      have hil : i < vs.length := by omega
      have hdn : dn vs (k + 1) = dn vs k ++ [(i, vs.getD i Ver.zero)] := by rw [dn_succ, hi]
      have HDN := Lib.hid hdn
      have HI := Lib.hid (And.intro hi hii)
      clear hdn
      generalize vs.getD i Ver.zero = vi at *
      clear hi hii hY hvi
      gi_wp2
      refine hR.mono ?_
      rintro e W3 ⟨⟨rfl, hJ3, hk3⟩ | ⟨rfl, hJx3⟩, hu3⟩
      · gi_wp2
        go_roundw
        case rel => exact ⟨k + 1, by omega, by rw [Value.int.injEq]; exact ⟨rfl, by have := HI.out.2; omega⟩, by rw [HDN.out]; exact hJ3, hnx.trans hk3⟩
        case measure => simp [intOf]
      · gi_wp2
        refine bodyPost_ret (results_none rfl _ _ _) rfl ?_
        exact ⟨⟨_, rfl⟩, .inr ⟨_, ⟨k + 1, by omega, HDN.out.symm⟩, hJx3⟩⟩
    · obtain rfl : k = vs.length := by omega
      gi_wp2
      go_end0
      exact ⟨⟨_, rfl⟩, .inl ⟨_, rfl, hJs⟩⟩
set_option maxHeartbeats 2000000 in
theorem bw1_nil (F : Fence) (n : Nat) (h1 : F.fn 49) (hro : F.round = none) (l Bs : Nat) (J : List (Nat × Ver) → World → Prop) (W : World) (a : Option Addr) (cap : Nat)
    (hBs : W.cell? ⟨Bs, 0, none⟩ = some (.slice a 0 cap)) (h0 : J [] W) :
    CallsIn F n Tryd.prog 49 #[.func (.yield l) #[] #[], .pointer (some ⟨Bs, 0, none⟩)] W fun e W' => (∃ v, e = .returned v) ∧ J [] W' := by
  refine callsIn_of_wp Tryd.func49 rfl h1 ?_ hro
  simp only [Tryd.ntmps49, List.size_toArray, List.length_cons, List.length_nil, Nat.reduceAdd, Nat.reduceSub, Array.replicate_succ, Array.replicate_zero, List.push_toArray, List.append_toArray, List.nil_append, List.cons_append]
  gi_wp2
  gi_loopw [3] (fun i wr => i = .int .i64 (-1) ∧ J [] wr) (fun _ _ => 0)
  case atStart => exact ⟨by simp, h0⟩
  case round =>
    obtain ⟨rfl, hJs⟩ := hrel
    gi_wp2
    go_end0
    exact ⟨⟨_, rfl⟩, hJs⟩
theorem bw_in (F : Fence) (n : Nat) (h1 : F.fn 39) (hro : F.round = none) (a : Option Addr) (len cap : Nat) (w : World) :
    CallsIn F n Tryd.prog 39 #[.slice a len cap] w fun e w' => e = .returned (.func (.func 49) #[] #[.pointer (some ⟨w.heap.size, 0, none⟩)]) ∧ w' = w.alloc (.cells #[.slice a len cap] 59) := by
  have hmf : ∀ (fn : Fn) (first cap : Array Value) (w : World), (Instr.makeFunc fn first cap).run Tryd.prog w = .ok (.func fn first cap) w := fun _ _ _ _ => rfl
  refine callsIn_of_wp Tryd.func39 rfl h1 ?_ hro
  simp only [Tryd.ntmps39, List.size_toArray, List.length_cons, List.length_nil, Nat.reduceAdd, Nat.reduceSub, Array.replicate_succ, Array.replicate_zero, List.push_toArray, List.append_toArray, List.nil_append, List.cons_append]
  gi_wp2
  go_ret
  exact ⟨rfl, rfl⟩
/-- slices.Backward(s), as a contract -/
theorem bw_stops (F : Fence) (n : Nat) (h1 : F.fn 49) (hro : F.round = none) (hn : 1 ≤ n) (Bs n₀ : Nat) (sv : Value) (vs : List Ver) (hlen : vs.length ≤ 100000) (w : World) (hBs : Bs < w.heap.size) (hn₀ : n₀ ≤ w.heap.size)
    (hc : w.cell? ⟨Bs, 0, none⟩ = some sv) (hS : SlA w n₀ 11 sv (vs.map verA)) :
    SeqStopsB F n Tryd.prog 49 #[.pointer (some ⟨Bs, 0, none⟩)] encV (KeepB n₀ Bs) (fun ys => ys = dn vs vs.length) (fun pre => ∃ j, j ≤ vs.length ∧ pre = dn vs j) vs.length w := fun l J Jx W hW _ _ hY h0 => by
  have hc' := (hW.cell (p := ⟨Bs, 0, none⟩) hBs).trans hc
  obtain ⟨_, a, cap, rfl, h3, h4, h5⟩ := hS.below (hW.mono hn₀)
  rw [List.length_map] at hc' h3 h5
  by_cases h0n : vs.length = 0
  · rw [h0n] at hc'
    refine (bw1_nil F n h1 hro l Bs J W a cap hc' h0).mono fun e W' ⟨he, hj⟩ => ⟨he, .inl ⟨_, rfl, ?_⟩⟩
    rw [h0n]; exact hj
  · obtain ⟨b, o, rfl, hb, hcut⟩ := h5 (by omega)
    exact bw1_in F n h1 hro hn l Bs n₀ b o cap vs hlen hb _ J Jx hY W hc' (fun j x hx => hcut j _ (by rw [List.getElem?_map, hx]; rfl)) h3 h4 h0
end Go.Proofs.YtjdccgmoldmlmaaDoor
namespace Go.Proofs.YtjdccgmoldmlmaaDoor
set_option maxRecDepth 100000
open Go.RowKit Go.Shelf
attribute [local go_sem] Oper.semAt_some

/-- where no depth is asked, any number of frames will do -/
theorem yieldAt_any {F : Fence} (hd : F.depth = none) {m : Nat} (m' : Nat) {P : Program} {l : Nat} {args : Array Value} {W : World} {R : Ending → World → Prop} (h : YieldAt F m P l args W R) : YieldAt F m' P l args W R := by
  obtain ⟨fn, tmps, assign, body, hy, hf, hr⟩ := h
  exact ⟨fn, tmps, assign, body, hy, hf, fun c cs _ => hr c cs (fun d he => by rw [hd] at he; cases he)⟩
theorem frozen_of_heap' {w w' : World} {b : Nat} (h : w'.heap[b]? = w.heap[b]?) (o : Nat) : w'.frozen? ⟨b, o, none⟩ = w.frozen? ⟨b, o, none⟩ := by
  unfold World.frozen?; rw [h]
set_option maxHeartbeats 4000000 in
theorem back1_in (F : Fence) (n : Nat) (hfd : F.depth = none) (h1 : F.fn 38) (h2 : F.fn 39) (h3 : F.fn 49) (hro : F.round = none) (hn : 4 ≤ n)
    (l Bc n₀ cb : Nat) (sv : Value) (vs : List Ver) (hlen : vs.length ≤ 100000) (hcb : cb < n₀) (J Jx : List (Nat × Ver) → World → Prop)
    (W : World) (hJ : OwnFrom W.heap.size J) (hJx : OwnFrom W.heap.size Jx) (hnW : n₀ ≤ W.heap.size)
    (hY : ∀ pre x W1, J pre W1 → pre.length < vs.length → YieldAt F (n - 1) Tryd.prog l (encV x) W1 fun e W' =>
      ((e = .returned (.bool true) ∧ J (pre ++ [x]) W' ∧ Below n₀ W1 W') ∨ (e = .returned (.bool false) ∧ Jx (pre ++ [x]) W')) ∧ KeepsUp W.heap.size W1 W')
    (hBc : W.cell? ⟨Bc, 0, none⟩ = some (.pointer (some ⟨cb, 0, none⟩))) (hcc : W.heap[cb]? = some (.cells #[sv] 61)) (hS : SlA W n₀ 11 sv (vs.map verA)) (h0 : J [] W) :
    CallsIn F n Tryd.prog 38 #[.func (.yield l) #[] #[], .pointer (some ⟨Bc, 0, none⟩)] W fun e W' => (∃ v, e = .returned v) ∧
      ((∃ ys, ys = dn vs vs.length ∧ J ys W') ∨ (∃ pre, (∃ j, j ≤ vs.length ∧ pre = dn vs j) ∧ Jx pre W')) := by
  have hBcl : Bc < W.heap.size := by
    rcases Nat.lt_or_ge Bc W.heap.size with h | h
    · exact h
    · unfold World.cell? at hBc; rw [Array.getElem?_eq_none h] at hBc; simp at hBc
  have hcbl : cb < W.heap.size := by omega
  have hcs : W.cell? ⟨cb, 0, none⟩ = some sv := by simp [World.cell?, hcc]
  obtain ⟨_, sa, scap, rfl, _⟩ := id hS
  rw [List.length_map] at *
  have HS := Lib.hid hS
  have HY := Lib.hid hY
  clear hS hY hcc
  refine callsIn_of_wp_marks Tryd.func38 rfl h1 ?_ hro
  simp only [Tryd.ntmps38, List.size_toArray, List.length_cons, List.length_nil, Nat.reduceAdd, Nat.reduceSub, Array.replicate_succ, Array.replicate_zero, List.push_toArray, List.append_toArray, List.nil_append, List.cons_append]
  gi_wp2_with (gi_at_call 39; refine (bw_in F (n - 1) h2 hro _ _ _ _).mono ?_; rintro e w' ⟨rfl, rfl⟩)
  have hsz : ((W.alloc (.cells #[.func (.yield l) #[] #[]] 103)).alloc (.cells #[.slice sa vs.length scap] 59)).heap.size = W.heap.size + 2 := by simp
  have hb1 : Below W.heap.size W ((W.alloc (.cells #[.func (.yield l) #[] #[]] 103)).alloc (.cells #[.slice sa vs.length scap] 59)) := ((Below.refl _ W).alloc (Nat.le_refl _) _).alloc (by simp) _
  have hbY : Boxed ((W.alloc (.cells #[.func (.yield l) #[] #[]] 103)).alloc (.cells #[.slice sa vs.length scap] 59)) W.heap.size 103 (.func (.yield l) #[] #[]) := (Boxed.new W _ _).alloc _
  have hbS : ((W.alloc (.cells #[.func (.yield l) #[] #[]] 103)).alloc (.cells #[.slice sa vs.length scap] 59)).cell? ⟨W.heap.size + 1, 0, none⟩ = some (.slice sa vs.length scap) := by
    have := (Boxed.new (W.alloc (.cells #[.func (.yield l) #[] #[]] 103)) 59 (.slice sa vs.length scap)).cell
    rwa [World.size_alloc] at this
  have h01 : J [] ((W.alloc (.cells #[.func (.yield l) #[] #[]] 103)).alloc (.cells #[.slice sa vs.length scap] 59)) := hJ.alloc _ (hJ.alloc _ h0)
  obtain ⟨W1, hW1⟩ : ∃ W1, ((W.alloc (.cells #[.func (.yield l) #[] #[]] 103)).alloc (.cells #[.slice sa vs.length scap] 59)) = W1 := ⟨_, rfl⟩
  rw [hW1] at hsz hb1 hbY hbS h01 ⊢
  clear hW1
  refine wpIn_rangeB (n := n) (gf := 49) (lb := #[.pointer (some ⟨W.heap.size + 1, 0, none⟩)]) hro (by omega) rfl h3 (enters_of Tryd.func49 (by kernel_rfl) rfl)
    (bw_stops F (n - 1) h3 hro (by omega) (W.heap.size + 1) n₀ _ vs hlen W1 (by omega) (by omega) hbS (HS.out.below (hb1.mono hnW)))
    (fun h k => h.trans k) (keepB_b (by omega) (by omega)) (Below.refl _ _) (fun _ => rfl)
    (fun pre W' => J pre W' ∧ (Boxed W' W.heap.size 103 (.func (.yield l) #[] #[]) ∧ W.heap.size + 2 ≤ W'.heap.size)) (fun c pre W' => c = .ret ∧ Jx pre W')
    ?hI ?hIx ⟨h01, hbY, by omega⟩
    (fun x a' W' => ∃ Bv, W.heap.size + 1 < Bv ∧ W'.heap[Bv]? = some (.cells (verA x.2) 66) ∧ a' = { tmps := #[.func (.yield l) #[] #[], .pointer (some ⟨Bc, 0, none⟩), .pointer (some ⟨W.heap.size, 0, none⟩), .int .i64 (x.1 : Int), .pointer (some ⟨Bv, 0, none⟩), .pointer (some ⟨cb, 0, none⟩), .bool false, .pointer (some ⟨cb, 0, none⟩), .pointer (some ⟨cb, 0, none⟩), .pointer (some ⟨cb, 0, none⟩), .slice sa vs.length scap, .func (.func 49) #[] #[.pointer (some ⟨W.heap.size + 1, 0, none⟩)], .int .i64 (x.1 : Int), .agg (verA x.2), undef, undef, undef, undef, undef], defers := [] })
    ?hAx ?assign ?body ?done ?stop
  case hI =>
    exact OwnFrom.and (fun s A B row hs hg hr => hJ s A B row hs hg (fun r e => ⟨by have := (hr r e).1; omega, (hr r e).2⟩))
      (OwnFrom.and ((boxed_own W.heap.size 103 (fun _ => .func (.yield l) #[] #[])).from _) (fun s A B row hs hg _ => Nat.le_trans hs hg.size))
  case hIx => exact fun c s A B row hs hg hr => ⟨hs.1, hJx s A B row hs.2 hg (fun r e => ⟨by have := (hr r e).1; omega, (hr r e).2⟩)⟩
  case hAx =>
    rintro x a' s A B row ⟨Bv, g1, g2, g3⟩ hg hr
    exact ⟨Bv, g1, (grownBy_keeps_cells hg (fun r e => (hr r e).2) g2 rfl).trans g2, g3⟩
  case assign =>
    intro l2 pre x W2 K ⟨hj, hbx, hs2⟩ hK
    simp only [encV]
    gi_wp2
    exact hK _ _ (KeepsUp.alloc _ _ _) ⟨(Below.refl _ _).alloc (by omega) _, Below.heap_alloc _ _ _ (by omega)⟩ ⟨hJ.alloc _ hj, hbx.alloc _, by simp; omega⟩ ⟨W2.heap.size, by omega, World.alloc_heap_new _ _, rfl⟩
  case body =>
    rintro l2 pre x a' W2 ⟨hj, hbx, hs2⟩ ⟨Bv, hBv, hv, rfl⟩ hlen
    obtain ⟨fn, tmps, assign, body, hy, hR⟩ := yieldAt_any hfd (n - 1 - 1 - 1) (HY.out pre x W2 hj hlen)
    simp only [encV] at hy
    have cy := hbx.cell
    have cv : W2.cut? Bv 0 11 = some (verA x.2) := by simp [World.cut?, hv]
    have lv := (Array.getElem?_eq_some_iff.1 hv).1
    have ly := hbx.lt
    gi_wp2
    refine hR.mono ?_
    rintro e W3 ⟨⟨rfl, hJ3, hk3⟩ | ⟨rfl, hJx3⟩, hu3⟩
    · gi_wp2
      exact ⟨hu3.more (by omega), ⟨hk3, hu3.same _ (by omega) (by omega)⟩, hJ3, hu3.some (Nat.le_refl _) hbx, Nat.le_trans hs2 hu3.size⟩
    · gi_wp2
      exact ⟨hu3.more (by omega), rfl, hJx3⟩
  case done =>
    rintro D ys W2 hD rfl ⟨hj, _⟩ hK
    gi_wp2
    refine ⟨by simp, .inl ⟨_, _, rfl, run_takeDeferred hK, ?_⟩⟩
    exact ⟨_, results_none rfl _ _ _, ⟨_, rfl⟩, .inl ⟨_, rfl, hJ.putObj _ hj (by omega) hK rfl⟩⟩
  case stop =>
    rintro D c pre W2 hD ⟨j, hj, rfl⟩ ⟨rfl, hx⟩ hK
    gi_wp2
    refine ⟨by simp, .inl ⟨_, _, rfl, run_takeDeferred hK, ?_⟩⟩
    exact ⟨_, results_none rfl _ _ _, ⟨_, rfl⟩, .inr ⟨_, ⟨j, hj, rfl⟩, hJx.putObj _ hx (by omega) hK rfl⟩⟩
/-- a chain that may be nil, and its versions -/
def ChainV (W : World) (n₀ : Nat) (co : Option Nat) (vs : List Ver) : Prop :=
  match co with
  | none => vs = []
  | some cb => cb < n₀ ∧ ∃ sv, W.heap[cb]? = some (.cells #[sv] 61) ∧ SlA W n₀ 11 sv (vs.map verA)
def optA : Option Nat → Option Addr
  | none => none
  | some c => some ⟨c, 0, none⟩
theorem ChainV.keep {W W' : World} {n₀ : Nat} {co : Option Nat} {vs : List Ver} (h : ChainV W n₀ co vs) (hb : Below n₀ W W') : ChainV W' n₀ co vs := by
  cases co with
  | none => exact h
  | some c => obtain ⟨h1, sv, h2, h3⟩ := h; exact ⟨h1, sv, (hb.block _ h1).trans h2, h3.below hb⟩
set_option maxHeartbeats 2000000 in
theorem back1_nil (F : Fence) (n : Nat) (h1 : F.fn 38) (hro : F.round = none) (l Bc : Nat) (J : List (Nat × Ver) → World → Prop)
    (W : World) (hJ : OwnFrom W.heap.size J) (hBc : W.cell? ⟨Bc, 0, none⟩ = some (.pointer none)) (h0 : J [] W) :
    CallsIn F n Tryd.prog 38 #[.func (.yield l) #[] #[], .pointer (some ⟨Bc, 0, none⟩)] W fun e W' => (∃ v, e = .returned v) ∧ J [] W' := by
  have hBcl : Bc < W.heap.size := by
    rcases Nat.lt_or_ge Bc W.heap.size with h | h
    · exact h
    · unfold World.cell? at hBc; rw [Array.getElem?_eq_none h] at hBc; simp at hBc
  refine callsIn_of_wp Tryd.func38 rfl h1 ?_ hro
  simp only [Tryd.ntmps38, List.size_toArray, List.length_cons, List.length_nil, Nat.reduceAdd, Nat.reduceSub, Array.replicate_succ, Array.replicate_zero, List.push_toArray, List.append_toArray, List.nil_append, List.cons_append]
  gi_wp2
  refine bodyPost_ret (results_none rfl _ _ _) rfl ?_
  exact ⟨⟨_, rfl⟩, hJ.alloc _ h0⟩
/-- c.back(), as a contract -/
theorem back_stops (F : Fence) (n : Nat) (hfd : F.depth = none) (h1 : F.fn 38) (h2 : F.fn 39) (h3 : F.fn 49) (hro : F.round = none) (hn : 4 ≤ n)
    (Bc n₀ : Nat) (co : Option Nat) (vs : List Ver) (hlen : vs.length ≤ 100000) (w : World) (hBc : Bc < w.heap.size) (hn₀ : n₀ ≤ w.heap.size) (hc : w.cell? ⟨Bc, 0, none⟩ = some (.pointer (optA co))) (hV : ChainV w n₀ co vs) :
    SeqStopsB F n Tryd.prog 38 #[.pointer (some ⟨Bc, 0, none⟩)] encV (Below n₀) (fun ys => ys = dn vs vs.length) (fun pre => ∃ j, j ≤ vs.length ∧ pre = dn vs j) vs.length w := fun l J Jx W hW hJ hJx hY h0 => by
  have hc' := (hW.cell (p := ⟨Bc, 0, none⟩) hBc).trans hc
  have hV' := hV.keep (hW.mono hn₀)
  cases co with
  | none =>
    obtain rfl : vs = [] := hV
    exact (back1_nil F n h1 hro l Bc J W hJ hc' h0).mono fun e W' ⟨he, hj⟩ => ⟨he, .inl ⟨[], rfl, hj⟩⟩
  | some cb =>
    obtain ⟨g1, sv, g2, g3⟩ := hV'
    exact back1_in F n hfd h1 h2 h3 hro hn l Bc n₀ cb sv vs hlen g1 J Jx W hJ hJx (Nat.le_trans hn₀ hW.size) hY hc' g2 g3 h0
theorem back_in (F : Fence) (n : Nat) (h1 : F.fn 32) (hro : F.round = none) (c : Option Addr) (w : World) :
    CallsIn F n Tryd.prog 32 #[.pointer c] w fun e w' => e = .returned (.func (.func 38) #[] #[.pointer (some ⟨w.heap.size, 0, none⟩)]) ∧ w' = w.alloc (.cells #[.pointer c] 53) := by
  have hmf : ∀ (fn : Fn) (first cap : Array Value) (w : World), (Instr.makeFunc fn first cap).run Tryd.prog w = .ok (.func fn first cap) w := fun _ _ _ _ => rfl
  refine callsIn_of_wp Tryd.func32 rfl h1 ?_ hro
  simp only [Tryd.ntmps32, List.size_toArray, List.length_cons, List.length_nil, Nat.reduceAdd, Nat.reduceSub, Array.replicate_succ, Array.replicate_zero, List.push_toArray, List.append_toArray, List.nil_append, List.cons_append]
  gi_wp2
  go_ret
  exact ⟨rfl, rfl⟩
end Go.Proofs.YtjdccgmoldmlmaaDoor

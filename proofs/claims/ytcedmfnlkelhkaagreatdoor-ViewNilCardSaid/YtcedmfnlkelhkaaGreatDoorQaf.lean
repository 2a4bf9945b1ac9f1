/- Layer 12: a chain's versions, the newest first: the library's iterator over a slice, backwards. -/
import Derived.Test.YtcedmfnlkelhkaaGreatDoorQac
import Derived.Test.YtcedmfnlkelhkaaGreatDoorQae
import Derived.Shelf.RegionOpen
import Derived.WalkKit
import Derived.OwnWalkIn
import Derived.TacticsInMore
import Derived.LoopNIn
import Derived.LoopIn
import Derived.Handy
namespace Go.Proofs.YtcedmfnlkelhkaaGreatDoor
set_option maxRecDepth 100000
open Go.RowKit Go.Shelf
attribute [local go_sem] Oper.semAt_some

/-- what has come behind j rounds -/
def dn (vs : List Ver) (j : Nat) : List (Nat × Ver) := (List.range j).map fun t => (vs.length - 1 - t, vs.getD (vs.length - 1 - t) Ver.zero)
theorem dn_succ (vs : List Ver) (j : Nat) : dn vs (j + 1) = dn vs j ++ [(vs.length - 1 - j, vs.getD (vs.length - 1 - j) Ver.zero)] := by simp [dn, List.range_succ]
theorem dn_length (vs : List Ver) (j : Nat) : (dn vs j).length = j := by simp [dn]
def encV (x : Nat × Ver) : Array Value := #[.int .i64 (x.1 : Int), .agg (verA x.2)]
/-- what a round keeps: whatever lay below n₀, and a box -/
def KeepB (n₀ Bs : Nat) (W W' : World) : Prop := Below n₀ W W' ∧ W'.heap[Bs]? = W.heap[Bs]?
theorem KeepB.trans {n₀ Bs : Nat} {A B C : World} (h : KeepB n₀ Bs A B) (k : KeepB n₀ Bs B C) : KeepB n₀ Bs A C := ⟨h.1.trans k.1, k.2.trans h.2⟩
theorem KeepB.refl (n₀ Bs : Nat) (W : World) : KeepB n₀ Bs W W := ⟨Below.refl _ _, rfl⟩
theorem keepB_b {n₀ Bs : Nat} {w : World} (hn : n₀ ≤ w.heap.size) (hB : Bs < w.heap.size) (W : World) (l : Nat) (o o' : Obj) (hl : w.heap.size ≤ l) (h : W.heap[l]? = some o) (hc : o.isCells = false) (hw : o.isWalk = false) : KeepB n₀ Bs W (W.putObj l o') :=
 ⟨belowK_b hn W l o o' hl h hc hw, World.putObj_heap_other (by omega)⟩
set_option maxHeartbeats 4000000 in
theorem bw1_in (F : Fence) (n : Nat) (h1 : F.fn 185) (hro : F.round = none) (hn : 1 ≤ n) (l Bs n₀ b off cap : Nat) (vs : List Ver) (hlen : vs.length ≤ 100000) (hb : b < n₀) (B0 : Nat) (J Jx : List (Nat × Ver) → World → Prop)
  (hY : ∀ pre x W1, J pre W1 → pre.length < vs.length → YieldAt F (n - 1) Tryz.prog l (encV x) W1 fun e W' =>
   ((e = .returned (.bool true) ∧ J (pre ++ [x]) W' ∧ KeepB n₀ Bs W1 W') ∨ (e = .returned (.bool false) ∧ Jx (pre ++ [x]) W')) ∧ KeepsUp B0 W1 W')
  (W : World) (hBs : W.cell? ⟨Bs, 0, none⟩ = some (.slice (some ⟨b, off, none⟩) vs.length cap)) (hc : ∀ j x, vs[j]? = some x → W.cut? b (off + j * 11) 11 = some (verA x)) (_hcap : vs.length ≤ cap) (_hcap2 : cap ≤ maxLen) (h0 : J [] W) :
  CallsIn F n Tryz.prog 185 #[.func (.yield l) #[] #[], .pointer (some ⟨Bs, 0, none⟩)] W fun e W' => (∃ v, e = .returned v) ∧
   ((∃ ys, ys = dn vs vs.length ∧ J ys W') ∨ (∃ pre, (∃ j, j ≤ vs.length ∧ pre = dn vs j) ∧ Jx pre W')) := by
 refine callsIn_of_wp Tryz.func185 rfl h1 ?_ hro
 simp only [Tryz.ntmps185, List.size_toArray, List.length_cons, List.length_nil, Nat.reduceAdd, Nat.reduceSub, Array.replicate_succ, Array.replicate_zero, List.push_toArray, List.append_toArray, List.nil_append, List.cons_append]
 gi_wp2
 gi_loopw [3] (fun i wr => ∃ k : Nat, k ≤ vs.length ∧ i = .int .i64 ((vs.length : Int) - 1 - k) ∧ J (dn vs k) wr ∧ KeepB n₀ Bs W wr)
  (fun i _ => (intOf i + 1).toNat)
 case atStart => exact ⟨0, Nat.zero_le _, by simp, h0, KeepB.refl _ _ _⟩
 case round =>
  obtain ⟨k, hk, rfl, hJs, hnx⟩ := hrel
  by_cases hlt : k < vs.length
  ·obtain ⟨i, hi⟩ : ∃ i, i = vs.length - 1 - k := ⟨_, rfl⟩
   have hii : ((vs.length : Int) - 1 - k) = (i : Int) := by omega
   have hvi : vs[i]? = some (vs.getD i Ver.zero) := by rw [List.getD_eq_getElem?_getD, List.getElem?_eq_getElem (by omega)]; rfl
   have hcx : wr.cut? b (off + i * 11) 11 = some (verA (vs.getD i Ver.zero)) := by rw [cut_of_heap (hnx.1.block _ hb)]; exact hc i _ hvi
   have hbx : wr.cell? ⟨Bs, 0, none⟩ = some (.slice (some ⟨b, off, none⟩) vs.length cap) := by
    have := hnx.2
    unfold World.cell? at hBs ⊢
    rw [this]; exact hBs
   obtain ⟨fn, tmps, assign, body, hy, hR⟩ := hY _ (i, vs.getD i Ver.zero) wr hJs (by rw [dn_length]; exact hlt)
   simp only [encV] at hy
   rw [hii]
   have hil : i < vs.length := by omega
   have hdn : dn vs (k + 1) = dn vs k ++ [(i, vs.getD i Ver.zero)] := by rw [dn_succ, hi]
   have HDN := Lib.hid hdn
   have HI := Lib.hid (And.intro hi hii)
   clear hdn
   generalize vs.getD i Ver.zero = vi at *
   clear hi hii hY hvi
   gi_wp2
   refine hR.mono ?_
   rintro e W3 ⟨⟨rfl, hJ3, hk3⟩ | ⟨rfl, hJx3⟩, hu3⟩
   ·gi_wp2
    go_roundw
    case rel => exact ⟨k + 1, by omega, by rw [Value.int.injEq]; exact ⟨rfl, by have := HI.out.2; omega⟩, by rw [HDN.out]; exact hJ3, hnx.trans hk3⟩
    case measure => simp [intOf]
   ·gi_wp2
    refine bodyPost_ret (results_none rfl _ _ _) rfl ?_
    exact ⟨⟨_, rfl⟩, .inr ⟨_, ⟨k + 1, by omega, HDN.out.symm⟩, hJx3⟩⟩
  ·obtain rfl : k = vs.length := by omega
   gi_wp2
   go_end0
   exact ⟨⟨_, rfl⟩, .inl ⟨_, rfl, hJs⟩⟩
set_option maxHeartbeats 2000000 in
theorem bw1_nil (F : Fence) (n : Nat) (h1 : F.fn 185) (hro : F.round = none) (l Bs : Nat) (J : List (Nat × Ver) → World → Prop) (W : World) (a : Option Addr) (cap : Nat)
  (hBs : W.cell? ⟨Bs, 0, none⟩ = some (.slice a 0 cap)) (h0 : J [] W) :
  CallsIn F n Tryz.prog 185 #[.func (.yield l) #[] #[], .pointer (some ⟨Bs, 0, none⟩)] W fun e W' => (∃ v, e = .returned v) ∧ J [] W' := by
 refine callsIn_of_wp Tryz.func185 rfl h1 ?_ hro
 simp only [Tryz.ntmps185, List.size_toArray, List.length_cons, List.length_nil, Nat.reduceAdd, Nat.reduceSub, Array.replicate_succ, Array.replicate_zero, List.push_toArray, List.append_toArray, List.nil_append, List.cons_append]
 gi_wp2
 gi_loopw [3] (fun i wr => i = .int .i64 (-1) ∧ J [] wr) (fun _ _ => 0)
 case atStart => exact ⟨by simp, h0⟩
 case round =>
  obtain ⟨rfl, hJs⟩ := hrel
  gi_wp2
  go_end0
  exact ⟨⟨_, rfl⟩, hJs⟩
theorem bw_in (F : Fence) (n : Nat) (h1 : F.fn 158) (hro : F.round = none) (a : Option Addr) (len cap : Nat) (w : World) :
  CallsIn F n Tryz.prog 158 #[.slice a len cap] w fun e w' => e = .returned (.func (.func 185) #[] #[.pointer (some ⟨w.heap.size, 0, none⟩)]) ∧ w' = w.alloc (.cells #[.slice a len cap] 203) := by
 have hmf : ∀ (fn : Fn) (first cap : Array Value) (w : World), (Instr.makeFunc fn first cap).run Tryz.prog w = .ok (.func fn first cap) w := fun _ _ _ _ => rfl
 refine callsIn_of_wp Tryz.func158 rfl h1 ?_ hro
 simp only [Tryz.ntmps158, List.size_toArray, List.length_cons, List.length_nil, Nat.reduceAdd, Nat.reduceSub, Array.replicate_succ, Array.replicate_zero, List.push_toArray, List.append_toArray, List.nil_append, List.cons_append]
 gi_wp2
 go_ret
 exact ⟨rfl, rfl⟩
/-- slices.Backward(s), as a contract -/
theorem bw_stops (F : Fence) (n : Nat) (h1 : F.fn 185) (hro : F.round = none) (hn : 1 ≤ n) (Bs n₀ : Nat) (sv : Value) (vs : List Ver) (hlen : vs.length ≤ 100000) (w : World) (hBs : Bs < w.heap.size) (hn₀ : n₀ ≤ w.heap.size)
  (hc : w.cell? ⟨Bs, 0, none⟩ = some sv) (hS : SlA w n₀ 11 sv (vs.map verA)) :
  SeqStopsB F n Tryz.prog 185 #[.pointer (some ⟨Bs, 0, none⟩)] encV (KeepB n₀ Bs) (fun ys => ys = dn vs vs.length) (fun pre => ∃ j, j ≤ vs.length ∧ pre = dn vs j) vs.length w := fun l J Jx W hW _ _ hY h0 => by
 have hc' := (hW.cell (p := ⟨Bs, 0, none⟩) hBs).trans hc
 obtain ⟨_, a, cap, rfl, h3, h4, h5⟩ := hS.below (hW.mono hn₀)
 rw [List.length_map] at hc' h3 h5
 by_cases h0n : vs.length = 0
 ·rw [h0n] at hc'
  refine (bw1_nil F n h1 hro l Bs J W a cap hc' h0).mono fun e W' ⟨he, hj⟩ => ⟨he, .inl ⟨_, rfl, ?_⟩⟩
  rw [h0n]; exact hj
 ·obtain ⟨b, o, rfl, hb, hcut⟩ := h5 (by omega)
  exact bw1_in F n h1 hro hn l Bs n₀ b o cap vs hlen hb _ J Jx hY W hc' (fun j x hx => hcut j _ (by rw [List.getElem?_map, hx]; rfl)) h3 h4 h0
end Go.Proofs.YtcedmfnlkelhkaaGreatDoor
namespace Go.Proofs.YtcedmfnlkelhkaaGreatDoor
set_option maxRecDepth 100000
open Go.RowKit Go.Shelf
attribute [local go_sem] Oper.semAt_some

/-- where no depth is asked, any number of frames will do -/
theorem yieldAt_any {F : Fence} (hd : F.depth = none) {m : Nat} (m' : Nat) {P : Program} {l : Nat} {args : Array Value} {W : World} {R : Ending → World → Prop} (h : YieldAt F m P l args W R) : YieldAt F m' P l args W R := by
 obtain ⟨fn, tmps, assign, body, hy, hf, hr⟩ := h
 exact ⟨fn, tmps, assign, body, hy, hf, fun c cs _ => hr c cs (fun d he => by rw [hd] at he; cases he)⟩
set_option maxHeartbeats 4000000 in
theorem back1_in (F : Fence) (n : Nat) (hfd : F.depth = none) (h1 : F.fn 157) (h2 : F.fn 158) (h3 : F.fn 185) (hro : F.round = none) (hn : 4 ≤ n)
  (l Bc n₀ cb : Nat) (sv : Value) (vs : List Ver) (hlen : vs.length ≤ 100000) (hcb : cb < n₀) (J Jx : List (Nat × Ver) → World → Prop)
  (W : World) (hJ : OwnFrom W.heap.size J) (hJx : OwnFrom W.heap.size Jx) (hnW : n₀ ≤ W.heap.size)
  (hY : ∀ pre x W1, J pre W1 → pre.length < vs.length → YieldAt F (n - 1) Tryz.prog l (encV x) W1 fun e W' =>
   ((e = .returned (.bool true) ∧ J (pre ++ [x]) W' ∧ Below n₀ W1 W') ∨ (e = .returned (.bool false) ∧ Jx (pre ++ [x]) W')) ∧ KeepsUp W.heap.size W1 W')
  (hBc : W.cell? ⟨Bc, 0, none⟩ = some (.pointer (some ⟨cb, 0, none⟩))) (hcc : W.heap[cb]? = some (.cells #[sv] 205)) (hS : SlA W n₀ 11 sv (vs.map verA)) (h0 : J [] W) :
  CallsIn F n Tryz.prog 157 #[.func (.yield l) #[] #[], .pointer (some ⟨Bc, 0, none⟩)] W fun e W' => (∃ v, e = .returned v) ∧
   ((∃ ys, ys = dn vs vs.length ∧ J ys W') ∨ (∃ pre, (∃ j, j ≤ vs.length ∧ pre = dn vs j) ∧ Jx pre W')) := by
 have hBcl : Bc < W.heap.size := by
  rcases Nat.lt_or_ge Bc W.heap.size with h | h
  ·exact h
  ·unfold World.cell? at hBc; rw [Array.getElem?_eq_none h] at hBc; simp at hBc
 have hcbl : cb < W.heap.size := by omega
 have hcs : W.cell? ⟨cb, 0, none⟩ = some sv := by simp [World.cell?, hcc]
 obtain ⟨_, sa, scap, rfl, _⟩ := id hS
 rw [List.length_map] at *
 have HS := Lib.hid hS
 have HY := Lib.hid hY
 clear hS hY hcc
 refine callsIn_of_wp_marks Tryz.func157 rfl h1 ?_ hro
 simp only [Tryz.ntmps157, List.size_toArray, List.length_cons, List.length_nil, Nat.reduceAdd, Nat.reduceSub, Array.replicate_succ, Array.replicate_zero, List.push_toArray, List.append_toArray, List.nil_append, List.cons_append]
 gi_wp2_with (gi_at_call 158; refine (bw_in F (n - 1) h2 hro _ _ _ _).mono ?_; rintro e w' ⟨rfl, rfl⟩)
 have hsz : ((W.alloc (.cells #[.func (.yield l) #[] #[]] 327)).alloc (.cells #[.slice sa vs.length scap] 203)).heap.size = W.heap.size + 2 := by simp
 have hb1 : Below W.heap.size W ((W.alloc (.cells #[.func (.yield l) #[] #[]] 327)).alloc (.cells #[.slice sa vs.length scap] 203)) := ((Below.refl _ W).alloc (Nat.le_refl _) _).alloc (by simp) _
 have hbY : Boxed ((W.alloc (.cells #[.func (.yield l) #[] #[]] 327)).alloc (.cells #[.slice sa vs.length scap] 203)) W.heap.size 327 (.func (.yield l) #[] #[]) := (Boxed.new W _ _).alloc _
 have hbS : ((W.alloc (.cells #[.func (.yield l) #[] #[]] 327)).alloc (.cells #[.slice sa vs.length scap] 203)).cell? ⟨W.heap.size + 1, 0, none⟩ = some (.slice sa vs.length scap) := by
  have := (Boxed.new (W.alloc (.cells #[.func (.yield l) #[] #[]] 327)) 203 (.slice sa vs.length scap)).cell
  rwa [World.size_alloc] at this
 have h01 : J [] ((W.alloc (.cells #[.func (.yield l) #[] #[]] 327)).alloc (.cells #[.slice sa vs.length scap] 203)) := hJ.alloc _ (hJ.alloc _ h0)
 obtain ⟨W1, hW1⟩ : ∃ W1, ((W.alloc (.cells #[.func (.yield l) #[] #[]] 327)).alloc (.cells #[.slice sa vs.length scap] 203)) = W1 := ⟨_, rfl⟩
 rw [hW1] at hsz hb1 hbY hbS h01 ⊢
 clear hW1
 refine wpIn_rangeB (n := n) (gf := 185) (lb := #[.pointer (some ⟨W.heap.size + 1, 0, none⟩)]) hro (by omega) rfl h3 (enters_of Tryz.func185 (by kernel_rfl) rfl)
  (bw_stops F (n - 1) h3 hro (by omega) (W.heap.size + 1) n₀ _ vs hlen W1 (by omega) (by omega) hbS (HS.out.below (hb1.mono hnW)))
  (fun h k => h.trans k) (keepB_b (by omega) (by omega)) (Below.refl _ _) (fun _ => rfl)
  (fun pre W' => J pre W' ∧ (Boxed W' W.heap.size 327 (.func (.yield l) #[] #[]) ∧ W.heap.size + 2 ≤ W'.heap.size)) (fun c pre W' => c = .ret ∧ Jx pre W')
  ?hI ?hIx ⟨h01, hbY, by omega⟩
  (fun x a' W' => ∃ Bv, W.heap.size + 1 < Bv ∧ W'.heap[Bv]? = some (.cells (verA x.2) 210) ∧ a' = { tmps := #[.func (.yield l) #[] #[], .pointer (some ⟨Bc, 0, none⟩), .pointer (some ⟨W.heap.size, 0, none⟩), .int .i64 (x.1 : Int), .pointer (some ⟨Bv, 0, none⟩), .pointer (some ⟨cb, 0, none⟩), .bool false, .pointer (some ⟨cb, 0, none⟩), .pointer (some ⟨cb, 0, none⟩), .pointer (some ⟨cb, 0, none⟩), .slice sa vs.length scap, .func (.func 185) #[] #[.pointer (some ⟨W.heap.size + 1, 0, none⟩)], .int .i64 (x.1 : Int), .agg (verA x.2), undef, undef, undef, undef, undef], defers := [] })
  ?hAx ?assign ?body ?done ?stop
 case hI =>
  exact OwnFrom.and (fun s A B row hs hg hr => hJ s A B row hs hg (fun r e => ⟨by have := (hr r e).1; omega, (hr r e).2⟩))
   (OwnFrom.and ((boxed_own W.heap.size 327 (fun _ => .func (.yield l) #[] #[])).from _) (fun s A B row hs hg _ => Nat.le_trans hs hg.size))
 case hIx => exact fun c s A B row hs hg hr => ⟨hs.1, hJx s A B row hs.2 hg (fun r e => ⟨by have := (hr r e).1; omega, (hr r e).2⟩)⟩
 case hAx =>
  rintro x a' s A B row ⟨Bv, g1, g2, g3⟩ hg hr
  exact ⟨Bv, g1, (grownBy_keeps_cells hg (fun r e => (hr r e).2) g2 rfl).trans g2, g3⟩
 case assign =>
  intro l2 pre x W2 K ⟨hj, hbx, hs2⟩ hK
  simp only [encV]
  gi_wp2
  exact hK _ _ (KeepsUp.alloc _ _ _) ⟨(Below.refl _ _).alloc (by omega) _, Below.heap_alloc _ _ _ (by omega)⟩ ⟨hJ.alloc _ hj, hbx.alloc _, by simp; omega⟩ ⟨W2.heap.size, by omega, World.alloc_heap_new _ _, rfl⟩
 case body =>
  rintro l2 pre x a' W2 ⟨hj, hbx, hs2⟩ ⟨Bv, hBv, hv, rfl⟩ hlen
  obtain ⟨fn, tmps, assign, body, hy, hR⟩ := yieldAt_any hfd (n - 1 - 1 - 1) (HY.out pre x W2 hj hlen)
  simp only [encV] at hy
  have cy := hbx.cell
  have cv : W2.cut? Bv 0 11 = some (verA x.2) := by simp [World.cut?, hv]
  have lv := (Array.getElem?_eq_some_iff.1 hv).1
  have ly := hbx.lt
  gi_wp2
  refine hR.mono ?_
  rintro e W3 ⟨⟨rfl, hJ3, hk3⟩ | ⟨rfl, hJx3⟩, hu3⟩
  ·gi_wp2
   exact ⟨hu3.more (by omega), ⟨hk3, hu3.same _ (by omega) (by omega)⟩, hJ3, hu3.some (Nat.le_refl _) hbx, Nat.le_trans hs2 hu3.size⟩
  ·gi_wp2
   exact ⟨hu3.more (by omega), rfl, hJx3⟩
 case done =>
  rintro D ys W2 hD rfl ⟨hj, _⟩ hK
  gi_wp2
  refine ⟨by simp, .inl ⟨_, _, rfl, run_takeDeferred hK, ?_⟩⟩
  exact ⟨_, results_none rfl _ _ _, ⟨_, rfl⟩, .inl ⟨_, rfl, hJ.putObj _ hj (by omega) hK rfl⟩⟩
 case stop =>
  rintro D c pre W2 hD ⟨j, hj, rfl⟩ ⟨rfl, hx⟩ hK
  gi_wp2
  refine ⟨by simp, .inl ⟨_, _, rfl, run_takeDeferred hK, ?_⟩⟩
  exact ⟨_, results_none rfl _ _ _, ⟨_, rfl⟩, .inr ⟨_, ⟨j, hj, rfl⟩, hJx.putObj _ hx (by omega) hK rfl⟩⟩
/-- a chain that may be nil, and its versions -/
def ChainV (W : World) (n₀ : Nat) (co : Option Nat) (vs : List Ver) : Prop :=
 match co with
 | none => vs = []
 | some cb => cb < n₀ ∧ ∃ sv, W.heap[cb]? = some (.cells #[sv] 205) ∧ SlA W n₀ 11 sv (vs.map verA)
def optA : Option Nat → Option Addr
 | none => none
 | some c => some ⟨c, 0, none⟩
theorem ChainV.keep {W W' : World} {n₀ : Nat} {co : Option Nat} {vs : List Ver} (h : ChainV W n₀ co vs) (hb : Below n₀ W W') : ChainV W' n₀ co vs := by
 cases co with
 | none => exact h
 | some c => obtain ⟨h1, sv, h2, h3⟩ := h; exact ⟨h1, sv, (hb.block _ h1).trans h2, h3.below hb⟩
set_option maxHeartbeats 2000000 in
theorem back1_nil (F : Fence) (n : Nat) (h1 : F.fn 157) (hro : F.round = none) (l Bc : Nat) (J : List (Nat × Ver) → World → Prop)
  (W : World) (hJ : OwnFrom W.heap.size J) (hBc : W.cell? ⟨Bc, 0, none⟩ = some (.pointer none)) (h0 : J [] W) :
  CallsIn F n Tryz.prog 157 #[.func (.yield l) #[] #[], .pointer (some ⟨Bc, 0, none⟩)] W fun e W' => (∃ v, e = .returned v) ∧ J [] W' := by
 have hBcl : Bc < W.heap.size := by
  rcases Nat.lt_or_ge Bc W.heap.size with h | h
  ·exact h
  ·unfold World.cell? at hBc; rw [Array.getElem?_eq_none h] at hBc; simp at hBc
 refine callsIn_of_wp Tryz.func157 rfl h1 ?_ hro
 simp only [Tryz.ntmps157, List.size_toArray, List.length_cons, List.length_nil, Nat.reduceAdd, Nat.reduceSub, Array.replicate_succ, Array.replicate_zero, List.push_toArray, List.append_toArray, List.nil_append, List.cons_append]
 gi_wp2
 refine bodyPost_ret (results_none rfl _ _ _) rfl ?_
 exact ⟨⟨_, rfl⟩, hJ.alloc _ h0⟩
/-- c.back(), as a contract -/
theorem back_stops (F : Fence) (n : Nat) (hfd : F.depth = none) (h1 : F.fn 157) (h2 : F.fn 158) (h3 : F.fn 185) (hro : F.round = none) (hn : 4 ≤ n)
  (Bc n₀ : Nat) (co : Option Nat) (vs : List Ver) (hlen : vs.length ≤ 100000) (w : World) (hBc : Bc < w.heap.size) (hn₀ : n₀ ≤ w.heap.size) (hc : w.cell? ⟨Bc, 0, none⟩ = some (.pointer (optA co))) (hV : ChainV w n₀ co vs) :
  SeqStopsB F n Tryz.prog 157 #[.pointer (some ⟨Bc, 0, none⟩)] encV (Below n₀) (fun ys => ys = dn vs vs.length) (fun pre => ∃ j, j ≤ vs.length ∧ pre = dn vs j) vs.length w := fun l J Jx W hW hJ hJx hY h0 => by
 have hc' := (hW.cell (p := ⟨Bc, 0, none⟩) hBc).trans hc
 have hV' := hV.keep (hW.mono hn₀)
 cases co with
 | none =>
  obtain rfl : vs = [] := hV
  exact (back1_nil F n h1 hro l Bc J W hJ hc' h0).mono fun e W' ⟨he, hj⟩ => ⟨he, .inl ⟨[], rfl, hj⟩⟩
 | some cb =>
  obtain ⟨g1, sv, g2, g3⟩ := hV'
  exact back1_in F n hfd h1 h2 h3 hro hn l Bc n₀ cb sv vs hlen g1 J Jx W hJ hJx (Nat.le_trans hn₀ hW.size) hY hc' g2 g3 h0
theorem back_in (F : Fence) (n : Nat) (h1 : F.fn 134) (hro : F.round = none) (c : Option Addr) (w : World) :
  CallsIn F n Tryz.prog 134 #[.pointer c] w fun e w' => e = .returned (.func (.func 157) #[] #[.pointer (some ⟨w.heap.size, 0, none⟩)]) ∧ w' = w.alloc (.cells #[.pointer c] 191) := by
 have hmf : ∀ (fn : Fn) (first cap : Array Value) (w : World), (Instr.makeFunc fn first cap).run Tryz.prog w = .ok (.func fn first cap) w := fun _ _ _ _ => rfl
 refine callsIn_of_wp Tryz.func134 rfl h1 ?_ hro
 simp only [Tryz.ntmps134, List.size_toArray, List.length_cons, List.length_nil, Nat.reduceAdd, Nat.reduceSub, Array.replicate_succ, Array.replicate_zero, List.push_toArray, List.append_toArray, List.nil_append, List.cons_append]
 gi_wp2
 go_ret
 exact ⟨rfl, rfl⟩
end Go.Proofs.YtcedmfnlkelhkaaGreatDoor
namespace Go.Proofs.YtcedmfnlkelhkaaGreatDoor
set_option maxRecDepth 100000
open Go.RowKit Go.Shelf
attribute [local go_sem] Oper.semAt_some

/-- the place of the newest version up to a time -/
def seenO (vs : List Ver) (t : UInt64) : Option Nat := ((dn vs vs.length).find? fun x => decide (x.2.at_ ≤ t)).map (·.1)
def seenI (vs : List Ver) (t : UInt64) : Int := match seenO vs t with | some i => i | none => -1
theorem find_pre {α : Type} {p : α → Bool} {l pre : List α} {x : α} (h : pre ++ [x] <+: l) (hn : ∀ y ∈ pre, p y = false) (hx : p x = true) : l.find? p = some x := by
 obtain ⟨r, rfl⟩ := h
 rw [List.append_assoc, List.find?_append, List.find?_eq_none.2 (by intro y hy; rw [hn y hy]; simp)]
 simp [hx]
theorem dn_prefix (vs : List Ver) {j k : Nat} (h : j ≤ k) : dn vs j <+: dn vs k := by
 unfold dn
 obtain ⟨d, rfl⟩ := Nat.exists_eq_add_of_le h
 rw [List.range_add, List.map_append]
 exact List.prefix_append _ _
/-- none of them up to a time -/
def NoneTo (t : UInt64) (pre : List (Nat × Ver)) : Prop := ∀ y ∈ pre, decide (y.2.at_ ≤ t) = false
theorem NoneTo.nil (t : UInt64) : NoneTo t [] := fun y hy => by simp at hy
theorem NoneTo.snoc {t : UInt64} {pre : List (Nat × Ver)} (h : NoneTo t pre) {x : Nat × Ver} (hx : ¬ x.2.at_ ≤ t) : NoneTo t (pre ++ [x]) := by
 intro y hy
 rcases List.mem_append.1 hy with hy | hy
 ·exact h y hy
 ·rw [List.mem_singleton.1 hy]; exact decide_eq_false hx
/-- the last one is the newest up to a time; its place lies in a box -/
def Hit (t : UInt64) (b : Nat) (pre : List (Nat × Ver)) (W : World) : Prop := ∃ pre' x, pre = pre' ++ [x] ∧ NoneTo t pre' ∧ x.2.at_ ≤ t ∧ Boxed W b 3 (.int .i64 (x.1 : Int))
theorem seenI_none {vs : List Ver} {t : UInt64} (h : NoneTo t (dn vs vs.length)) : seenI vs t = -1 := by
 unfold seenI seenO
 rw [List.find?_eq_none.2 (by intro y hy; rw [h y hy]; simp)]
 rfl
theorem seenI_some {vs : List Ver} {t : UInt64} {pre : List (Nat × Ver)} {x : Nat × Ver} {j : Nat} (hj : j ≤ vs.length) (he : dn vs j = pre ++ [x]) (h : NoneTo t pre) (hx : x.2.at_ ≤ t) : seenI vs t = x.1 := by
 unfold seenI seenO
 rw [find_pre (he ▸ dn_prefix vs hj) h (decide_eq_true hx)]
 rfl
set_option maxHeartbeats 4000000 in
theorem seen_calls (co : Option Nat) (vs : List Ver) (hlen : vs.length ≤ 100000) (t : UInt64) (w : World) (hV : ChainV w w.heap.size co vs) :
  Gives Tryz.prog 235 #[.pointer (optA co), .int .u64 t.toNat] w (.int .i64 (seenI vs t)) := by
 refine (callsIn_wide (n := 9)).1 ?_
 refine callsIn_of_wp_marks Tryz.func235 rfl trivial ?_ rfl
 simp only [Tryz.ntmps235, List.size_toArray, List.length_cons, List.length_nil, Nat.reduceAdd, Nat.reduceSub, Array.replicate_succ, Array.replicate_zero, List.push_toArray, List.append_toArray, List.nil_append, List.cons_append]
 gi_wp2_with (refine ⟨trivial, ?_⟩; gi_at_call 134; refine (back_in _ _ trivial rfl _ _).mono ?_; rintro e w' ⟨rfl, rfl⟩)
 have hsz : (((w.alloc (.cells #[.int .u64 t.toNat] 24)).alloc (.cells #[.int .i64 0] 3)).alloc (.cells #[.pointer (optA co)] 191)).heap.size = w.heap.size + 3 := by simp
 have hb1 : Below w.heap.size w (((w.alloc (.cells #[.int .u64 t.toNat] 24)).alloc (.cells #[.int .i64 0] 3)).alloc (.cells #[.pointer (optA co)] 191)) := (((Below.refl _ w).alloc (Nat.le_refl _) _).alloc (by simp) _).alloc (by simp; omega) _
 have hT : Boxed (((w.alloc (.cells #[.int .u64 t.toNat] 24)).alloc (.cells #[.int .i64 0] 3)).alloc (.cells #[.pointer (optA co)] 191)) w.heap.size 24 (.int .u64 t.toNat) := ((Boxed.new w _ _).alloc _).alloc _
 have hR : Boxed (((w.alloc (.cells #[.int .u64 t.toNat] 24)).alloc (.cells #[.int .i64 0] 3)).alloc (.cells #[.pointer (optA co)] 191)) (w.heap.size + 1) 3 (.int .i64 0) := by
  have := (Boxed.new (w.alloc (.cells #[.int .u64 t.toNat] 24)) 3 (.int .i64 0)).alloc (.cells #[.pointer (optA co)] 191)
  rwa [World.size_alloc] at this
 have hC : (((w.alloc (.cells #[.int .u64 t.toNat] 24)).alloc (.cells #[.int .i64 0] 3)).alloc (.cells #[.pointer (optA co)] 191)).cell? ⟨w.heap.size + 2, 0, none⟩ = some (.pointer (optA co)) := by
  have := (Boxed.new ((w.alloc (.cells #[.int .u64 t.toNat] 24)).alloc (.cells #[.int .i64 0] 3)) 191 (.pointer (optA co))).cell
  rwa [World.size_alloc, World.size_alloc] at this
 obtain ⟨W1, hW1⟩ : ∃ W1, (((w.alloc (.cells #[.int .u64 t.toNat] 24)).alloc (.cells #[.int .i64 0] 3)).alloc (.cells #[.pointer (optA co)] 191)) = W1 := ⟨_, rfl⟩
 rw [hW1] at hsz hb1 hT hR hC
 have e2 : w.heap.size + 1 + 1 = w.heap.size + 2 := rfl
 rw [hW1]
 clear hW1
 refine wpIn_rangeB (n := 9) (gf := 157) (lb := #[.pointer (some ⟨w.heap.size + 1 + 1, 0, none⟩)]) rfl (by decide) rfl trivial (enters_of Tryz.func157 (by kernel_rfl) rfl)
  (back_stops Fence.wide 8 rfl trivial trivial trivial rfl (by decide) (w.heap.size + 2) w.heap.size co vs hlen W1 (by omega) (by omega) hC (hV.keep hb1))
  (fun h k => h.trans k) (belowK_b (by omega)) (Below.refl _ _) (fun _ => rfl)
  (fun pre W' => (Boxed W' w.heap.size 24 (.int .u64 t.toNat) ∧ Boxed W' (w.heap.size + 1) 3 (.int .i64 0)) ∧ (Below w.heap.size w W' ∧ w.heap.size + 3 ≤ W'.heap.size) ∧ NoneTo t pre)
  (fun c pre W' => Hit t (w.heap.size + 1) pre W' ∧ Below w.heap.size w W' ∧ c = .ret)
  ?hI ?hIx ⟨⟨hT, hR⟩, ⟨hb1, by omega⟩, NoneTo.nil t⟩
  (fun x a' W' => ∃ Bv, w.heap.size + 2 < Bv ∧ W'.heap[Bv]? = some (.cells (verA x.2) 210) ∧ a' = { tmps := #[.pointer (optA co), .int .u64 t.toNat, undef, .pointer (some ⟨w.heap.size, 0, none⟩), .pointer (some ⟨w.heap.size + 1, 0, none⟩), .int .i64 (x.1 : Int), .pointer (some ⟨Bv, 0, none⟩), .pointer (optA co), .func (.func 157) #[] #[.pointer (some ⟨w.heap.size + 2, 0, none⟩)], .int .i64 (x.1 : Int), .agg (verA x.2), undef, undef, undef, undef, undef], defers := [] })
  ?hAx ?assign ?body ?done ?stop
 case hI =>
  exact OwnFrom.and (OwnFrom.and ((boxed_own w.heap.size 24 (fun _ => .int .u64 t.toNat)).from _) ((boxed_own (w.heap.size + 1) 3 (fun _ => .int .i64 0)).from _))
   (OwnFrom.and (OwnFrom.and (ownFrom_below (Nat.le_refl _) (by omega)) (fun s A B row hs hg _ => Nat.le_trans hs hg.size)) (ownFrom_pure _ _))
 case hIx =>
  rintro c s A B row ⟨⟨pre', x, h1, h2, h3, h4⟩, h5, h6⟩ hg hr
  exact ⟨⟨pre', x, h1, h2, h3, boxed_own (w.heap.size + 1) 3 (fun _ : Unit => .int .i64 (x.1 : Int)) () A B row h4 hg (fun r e => (hr r e).2)⟩, ownFrom_below (β := Unit) (Nat.le_refl _) (by omega) () A B row h5 hg hr, h6⟩
 case hAx =>
  rintro x a' s A B row ⟨Bv, g1, g2, g3⟩ hg hr
  exact ⟨Bv, g1, (grownBy_keeps_cells hg (fun r e => (hr r e).2) g2 rfl).trans g2, g3⟩
 case assign =>
  intro l2 pre x W2 K ⟨⟨h1, h2⟩, ⟨h3, h4⟩, h5⟩ hK
  simp only [encV]
  gi_wp2
  exact hK _ _ (KeepsUp.alloc _ _ _) ((Below.refl _ _).alloc (by omega) _) ⟨⟨h1.alloc _, h2.alloc _⟩, ⟨h3.alloc (by omega) _, by simp; omega⟩, h5⟩ ⟨W2.heap.size, by omega, World.alloc_heap_new _ _, rfl⟩
 case body =>
  rintro l2 pre x a' W2 ⟨⟨h1, h2⟩, ⟨h3, h4⟩, h5⟩ ⟨Bv, hBv, hv, rfl⟩ hlen
  have c1 := h1.cell
  have c2 := h2.cell
  have f2 := h2.frozen
  have cv : W2.cell? ⟨Bv, 0, none⟩ = some (.int .u64 x.2.at_.toNat) := by simp [World.cell?, hv, verA, verL]
  have HH := Lib.hid (And.intro h1 (And.intro h2 h3))
  clear h1 h2 h3
  have hle : ((x.2.at_.toNat : Int) ≤ t.toNat) ↔ x.2.at_ ≤ t := by rw [UInt64.le_iff_toNat_le]; omega
  by_cases hx : x.2.at_ ≤ t
  ·have hx' : (x.2.at_.toNat : Int) ≤ t.toNat := hle.2 hx
   have HX := Lib.hid hx
   clear hle hx
   gi_wp2
   exact ⟨KeepsUp.setCell _ (by omega), ⟨pre, x, rfl, h5, HX.out, HH.out.2.1.set _⟩, HH.out.2.2.setCell (by simp) _, rfl⟩
  ·have hx' : ¬ (x.2.at_.toNat : Int) ≤ t.toNat := fun h => hx (hle.1 h)
   have HX := Lib.hid hx
   clear hle hx
   gi_wp2
   exact ⟨KeepsUp.refl _ _, Below.refl _ _, ⟨HH.out.1, HH.out.2.1⟩, ⟨HH.out.2.2, h4⟩, h5.snoc HX.out⟩
 case done =>
  rintro D ys W2 hD rfl ⟨⟨h1, h2⟩, ⟨h3, h4⟩, h5⟩ hK
  have c2 := h2.cell
  have f2 := h2.frozen
  have HH := Lib.hid (And.intro h2 (And.intro h3 h5))
  clear h1 h2 h3 h5
  gi_wp2
  have hK2 : (W2.setCell ⟨w.heap.size + 1, 0, none⟩ (.int .i64 (-1))).heap[D]? = some (.deferred (some [])) := (KeepsOthers.setCell W2 ⟨w.heap.size + 1, 0, none⟩ (.int .i64 (-1))).same D _ hK rfl
  refine ⟨by simp, .inl ⟨_, _, rfl, run_takeDeferred hK2, ?_⟩⟩
  have hc3 : ((W2.setCell ⟨w.heap.size + 1, 0, none⟩ (.int .i64 (-1))).putObj D (.deferred none)).cell? ⟨w.heap.size + 1, 0, none⟩ = some (.int .i64 (-1)) := cell_kept (HH.out.1.set _).cell (grownBy_putObj' _ D (.deferred none)) (fun r e => by cases e; exact ⟨_, hK2, rfl⟩)
  refine ⟨.int .i64 (-1), ?_, ?_, ?_⟩
  ·simp [results, Tryz.results235, go_sem, hc3]
  ·rw [seenI_none HH.out.2.2]
  ·exact (HH.out.2.1.setCell (p := ⟨w.heap.size + 1, 0, none⟩) (by simp) _).trans (belowK_b (w := w) (Nat.le_refl _) _ D _ _ (by omega) hK2 rfl rfl)
 case stop =>
  rintro D c pre W2 hD ⟨j, hj, he⟩ ⟨⟨pre', x, h1, h2, h3, h4⟩, h5, rfl⟩ hK
  subst h1
  have HH := Lib.hid (And.intro h4 (And.intro h5 (And.intro h2 (And.intro h3 he))))
  clear h2 h3 h4 h5 he
  gi_wp2
  refine ⟨by simp, .inl ⟨_, _, rfl, run_takeDeferred hK, ?_⟩⟩
  have hc3 : (W2.putObj D (.deferred none)).cell? ⟨w.heap.size + 1, 0, none⟩ = some (.int .i64 (x.1 : Int)) := cell_kept HH.out.1.cell (grownBy_putObj' _ D (.deferred none)) (fun r e => by cases e; exact ⟨_, hK, rfl⟩)
  refine ⟨.int .i64 (x.1 : Int), ?_, ?_, ?_⟩
  ·simp [results, Tryz.results235, go_sem, hc3]
  ·rw [seenI_some hj HH.out.2.2.2.2.symm HH.out.2.2.1 HH.out.2.2.2.1]
  ·exact HH.out.2.1.trans (belowK_b (w := w) (Nat.le_refl _) _ D _ _ (by omega) hK rfl rfl)
end Go.Proofs.YtcedmfnlkelhkaaGreatDoor
namespace Go.Proofs.YtcedmfnlkelhkaaGreatDoor
set_option maxRecDepth 100000
open Go.RowKit Go.Shelf
attribute [local go_sem] Oper.semAt_some

theorem first_last {vs : List Ver} {j : Nat} {x : Nat × Ver} (hj : j ≤ vs.length) (h : dn vs j = [x]) : vs.getLast? = some x.2 := by
 have hl := congrArg List.length h
 rw [dn_length] at hl
 simp only [List.length_singleton] at hl
 subst hl
 simp only [dn, List.range_one, List.map_cons, List.map_nil, List.cons.injEq, and_true, Nat.sub_zero] at h
 rw [← h, List.getLast?_eq_getElem?, List.getD_eq_getElem?_getD, List.getElem?_eq_getElem (by omega)]
 rfl
/-- the newest version's time -/
def newestN (vs : List Ver) : UInt64 := match vs.getLast? with | some v => v.at_ | none => 0
def HitN (b : Nat) (pre : List (Nat × Ver)) (W : World) : Prop := ∃ x, pre = [x] ∧ Boxed W b 24 (.int .u64 x.2.at_.toNat)
set_option maxHeartbeats 4000000 in
theorem newest_gives (co : Option Nat) (vs : List Ver) (hlen : vs.length ≤ 100000) (w : World) (hV : ChainV w w.heap.size co vs) :
  Gives Tryz.prog 112 #[.pointer (optA co)] w (.int .u64 (newestN vs).toNat) := by
 refine (callsIn_wide (n := 9)).1 ?_
 refine callsIn_of_wp_marks Tryz.func112 rfl trivial ?_ rfl
 simp only [Tryz.ntmps112, List.size_toArray, List.length_cons, List.length_nil, Nat.reduceAdd, Nat.reduceSub, Array.replicate_succ, Array.replicate_zero, List.push_toArray, List.append_toArray, List.nil_append, List.cons_append]
 gi_wp2_with (refine ⟨trivial, ?_⟩; gi_at_call 134; refine (back_in _ _ trivial rfl _ _).mono ?_; rintro e w' ⟨rfl, rfl⟩)
 have hsz : ((w.alloc (.cells #[.int .u64 0] 24)).alloc (.cells #[.pointer (optA co)] 191)).heap.size = w.heap.size + 2 := by simp
 have hb1 : Below w.heap.size w ((w.alloc (.cells #[.int .u64 0] 24)).alloc (.cells #[.pointer (optA co)] 191)) := ((Below.refl _ w).alloc (Nat.le_refl _) _).alloc (by simp) _
 have hR : Boxed ((w.alloc (.cells #[.int .u64 0] 24)).alloc (.cells #[.pointer (optA co)] 191)) w.heap.size 24 (.int .u64 0) := (Boxed.new w _ _).alloc _
 have hC : ((w.alloc (.cells #[.int .u64 0] 24)).alloc (.cells #[.pointer (optA co)] 191)).cell? ⟨w.heap.size + 1, 0, none⟩ = some (.pointer (optA co)) := by
  have := (Boxed.new (w.alloc (.cells #[.int .u64 0] 24)) 191 (.pointer (optA co))).cell
  rwa [World.size_alloc] at this
 obtain ⟨W1, hW1⟩ : ∃ W1, ((w.alloc (.cells #[.int .u64 0] 24)).alloc (.cells #[.pointer (optA co)] 191)) = W1 := ⟨_, rfl⟩
 rw [hW1] at hsz hb1 hR hC
 rw [hW1]
 clear hW1
 refine wpIn_rangeB (n := 9) (gf := 157) (lb := #[.pointer (some ⟨w.heap.size + 1, 0, none⟩)]) rfl (by decide) rfl trivial (enters_of Tryz.func157 (by kernel_rfl) rfl)
  (back_stops Fence.wide 8 rfl trivial trivial trivial rfl (by decide) (w.heap.size + 1) w.heap.size co vs hlen W1 (by omega) (by omega) hC (hV.keep hb1))
  (fun h k => h.trans k) (belowK_b (by omega)) (Below.refl _ _) (fun _ => rfl)
  (fun pre W' => pre = [] ∧ Boxed W' w.heap.size 24 (.int .u64 0) ∧ (Below w.heap.size w W' ∧ w.heap.size + 2 ≤ W'.heap.size))
  (fun c pre W' => HitN w.heap.size pre W' ∧ Below w.heap.size w W' ∧ c = .ret)
  ?hI ?hIx ⟨rfl, hR, hb1, by omega⟩
  (fun x a' W' => ∃ Bv, w.heap.size + 1 < Bv ∧ W'.heap[Bv]? = some (.cells (verA x.2) 210) ∧ a' = { tmps := #[.pointer (optA co), undef, .pointer (some ⟨w.heap.size, 0, none⟩), undef, .pointer (some ⟨Bv, 0, none⟩), .pointer (optA co), .func (.func 157) #[] #[.pointer (some ⟨w.heap.size + 1, 0, none⟩)], .int .i64 (x.1 : Int), .agg (verA x.2), undef, undef], defers := [] })
  ?hAx ?assign ?body ?done ?stop
 case hI =>
  exact OwnFrom.and (ownFrom_pure _ _) (OwnFrom.and ((boxed_own w.heap.size 24 (fun _ => .int .u64 0)).from _) (OwnFrom.and (ownFrom_below (Nat.le_refl _) (by omega)) (fun s A B row hs hg _ => Nat.le_trans hs hg.size)))
 case hIx =>
  rintro c s A B row ⟨⟨x, h1, h4⟩, h5, h6⟩ hg hr
  exact ⟨⟨x, h1, boxed_own w.heap.size 24 (fun _ : Unit => (.int .u64 x.2.at_.toNat)) () A B row h4 hg (fun r e => (hr r e).2)⟩, ownFrom_below (β := Unit) (Nat.le_refl _) (by omega) () A B row h5 hg hr, h6⟩
 case hAx =>
  rintro x a' s A B row ⟨Bv, g1, g2, g3⟩ hg hr
  exact ⟨Bv, g1, (grownBy_keeps_cells hg (fun r e => (hr r e).2) g2 rfl).trans g2, g3⟩
 case assign =>
  intro l2 pre x W2 K ⟨h1, h2, h3, h4⟩ hK
  simp only [encV]
  gi_wp2
  exact hK _ _ (KeepsUp.alloc _ _ _) ((Below.refl _ _).alloc (by omega) _) ⟨h1, h2.alloc _, h3.alloc (by omega) _, by simp; omega⟩ ⟨W2.heap.size, by omega, World.alloc_heap_new _ _, rfl⟩
 case body =>
  rintro l2 pre x a' W2 ⟨rfl, h2, h3, h4⟩ ⟨Bv, hBv, hv, rfl⟩ hlen
  have c2 := h2.cell
  have f2 := h2.frozen
  have cv : W2.cell? ⟨Bv, 0, none⟩ = some (.int .u64 x.2.at_.toNat) := by simp [World.cell?, hv, verA, verL]
  have HH := Lib.hid (And.intro h2 h3)
  clear h2 h3
  gi_wp2
  exact ⟨KeepsUp.setCell _ (by omega), ⟨x, rfl, HH.out.1.set _⟩, HH.out.2.setCell (by simp) _, rfl⟩
 case done =>
  rintro D ys W2 hD rfl ⟨h1, h2, h3, h4⟩ hK
  have hn : vs = [] := by
   have := congrArg List.length h1
   rw [dn_length] at this
   exact List.length_eq_zero_iff.1 this
  have c2 := h2.cell
  have f2 := h2.frozen
  have HH := Lib.hid (And.intro h2 h3)
  clear h1 h2 h3
  gi_wp2
  have hK2 : (W2.setCell ⟨w.heap.size, 0, none⟩ (.int .u64 0)).heap[D]? = some (.deferred (some [])) := (KeepsOthers.setCell W2 ⟨w.heap.size, 0, none⟩ (.int .u64 0)).same D _ hK rfl
  refine ⟨by simp, .inl ⟨_, _, rfl, run_takeDeferred hK2, ?_⟩⟩
  have hc3 : ((W2.setCell ⟨w.heap.size, 0, none⟩ (.int .u64 0)).putObj D (.deferred none)).cell? ⟨w.heap.size, 0, none⟩ = some (.int .u64 0) := cell_kept (HH.out.1.set _).cell (grownBy_putObj' _ D (.deferred none)) (fun r e => by cases e; exact ⟨_, hK2, rfl⟩)
  refine ⟨.int .u64 0, ?_, ?_, ?_⟩
  ·simp [results, Tryz.results112, go_sem, hc3]
  ·rw [hn]; rfl
  ·exact (HH.out.2.setCell (p := ⟨w.heap.size, 0, none⟩) (by simp) _).trans (belowK_b (w := w) (Nat.le_refl _) _ D _ _ (by omega) hK2 rfl rfl)
 case stop =>
  rintro D c pre W2 hD ⟨j, hj, he⟩ ⟨⟨x, h1, h4⟩, h5, rfl⟩ hK
  have hlast := first_last hj (he.symm.trans h1)
  have HH := Lib.hid (And.intro h4 (And.intro h5 hlast))
  clear h1 h4 h5 he hlast
  gi_wp2
  refine ⟨by simp, .inl ⟨_, _, rfl, run_takeDeferred hK, ?_⟩⟩
  have hc3 : (W2.putObj D (.deferred none)).cell? ⟨w.heap.size, 0, none⟩ = some (.int .u64 x.2.at_.toNat) := cell_kept HH.out.1.cell (grownBy_putObj' _ D (.deferred none)) (fun r e => by cases e; exact ⟨_, hK, rfl⟩)
  refine ⟨(.int .u64 x.2.at_.toNat), ?_, ?_, ?_⟩
  ·simp [results, Tryz.results112, go_sem, hc3]
  ·unfold newestN; rw [HH.out.2.2]
  ·exact HH.out.2.1.trans (belowK_b (w := w) (Nat.le_refl _) _ D _ _ (by omega) hK rfl rfl)
/-- the newest version's life -/
def liveB (vs : List Ver) : Bool := match vs.getLast? with | some v => !v.dead | none => false
def HitL (b : Nat) (pre : List (Nat × Ver)) (W : World) : Prop := ∃ x, pre = [x] ∧ Boxed W b 4 (.bool (!x.2.dead))
set_option maxHeartbeats 4000000 in
theorem live_gives (co : Option Nat) (vs : List Ver) (hlen : vs.length ≤ 100000) (w : World) (hV : ChainV w w.heap.size co vs) :
  Gives Tryz.prog 104 #[.pointer (optA co)] w (.bool (liveB vs)) := by
 refine (callsIn_wide (n := 9)).1 ?_
 refine callsIn_of_wp_marks Tryz.func104 rfl trivial ?_ rfl
 simp only [Tryz.ntmps104, List.size_toArray, List.length_cons, List.length_nil, Nat.reduceAdd, Nat.reduceSub, Array.replicate_succ, Array.replicate_zero, List.push_toArray, List.append_toArray, List.nil_append, List.cons_append]
 gi_wp2_with (refine ⟨trivial, ?_⟩; gi_at_call 134; refine (back_in _ _ trivial rfl _ _).mono ?_; rintro e w' ⟨rfl, rfl⟩)
 have hsz : ((w.alloc (.cells #[.bool false] 4)).alloc (.cells #[.pointer (optA co)] 191)).heap.size = w.heap.size + 2 := by simp
 have hb1 : Below w.heap.size w ((w.alloc (.cells #[.bool false] 4)).alloc (.cells #[.pointer (optA co)] 191)) := ((Below.refl _ w).alloc (Nat.le_refl _) _).alloc (by simp) _
 have hR : Boxed ((w.alloc (.cells #[.bool false] 4)).alloc (.cells #[.pointer (optA co)] 191)) w.heap.size 4 (.bool false) := (Boxed.new w _ _).alloc _
 have hC : ((w.alloc (.cells #[.bool false] 4)).alloc (.cells #[.pointer (optA co)] 191)).cell? ⟨w.heap.size + 1, 0, none⟩ = some (.pointer (optA co)) := by
  have := (Boxed.new (w.alloc (.cells #[.bool false] 4)) 191 (.pointer (optA co))).cell
  rwa [World.size_alloc] at this
 obtain ⟨W1, hW1⟩ : ∃ W1, ((w.alloc (.cells #[.bool false] 4)).alloc (.cells #[.pointer (optA co)] 191)) = W1 := ⟨_, rfl⟩
 rw [hW1] at hsz hb1 hR hC
 rw [hW1]
 clear hW1
 refine wpIn_rangeB (n := 9) (gf := 157) (lb := #[.pointer (some ⟨w.heap.size + 1, 0, none⟩)]) rfl (by decide) rfl trivial (enters_of Tryz.func157 (by kernel_rfl) rfl)
  (back_stops Fence.wide 8 rfl trivial trivial trivial rfl (by decide) (w.heap.size + 1) w.heap.size co vs hlen W1 (by omega) (by omega) hC (hV.keep hb1))
  (fun h k => h.trans k) (belowK_b (by omega)) (Below.refl _ _) (fun _ => rfl)
  (fun pre W' => pre = [] ∧ Boxed W' w.heap.size 4 (.bool false) ∧ (Below w.heap.size w W' ∧ w.heap.size + 2 ≤ W'.heap.size))
  (fun c pre W' => HitL w.heap.size pre W' ∧ Below w.heap.size w W' ∧ c = .ret)
  ?hI ?hIx ⟨rfl, hR, hb1, by omega⟩
  (fun x a' W' => ∃ Bv, w.heap.size + 1 < Bv ∧ W'.heap[Bv]? = some (.cells (verA x.2) 210) ∧ a' = { tmps := #[.pointer (optA co), undef, .pointer (some ⟨w.heap.size, 0, none⟩), undef, .pointer (some ⟨Bv, 0, none⟩), .pointer (optA co), .func (.func 157) #[] #[.pointer (some ⟨w.heap.size + 1, 0, none⟩)], .int .i64 (x.1 : Int), .agg (verA x.2), undef, undef, undef], defers := [] })
  ?hAx ?assign ?body ?done ?stop
 case hI =>
  exact OwnFrom.and (ownFrom_pure _ _) (OwnFrom.and ((boxed_own w.heap.size 4 (fun _ => .bool false)).from _) (OwnFrom.and (ownFrom_below (Nat.le_refl _) (by omega)) (fun s A B row hs hg _ => Nat.le_trans hs hg.size)))
 case hIx =>
  rintro c s A B row ⟨⟨x, h1, h4⟩, h5, h6⟩ hg hr
  exact ⟨⟨x, h1, boxed_own w.heap.size 4 (fun _ : Unit => (.bool (!x.2.dead))) () A B row h4 hg (fun r e => (hr r e).2)⟩, ownFrom_below (β := Unit) (Nat.le_refl _) (by omega) () A B row h5 hg hr, h6⟩
 case hAx =>
  rintro x a' s A B row ⟨Bv, g1, g2, g3⟩ hg hr
  exact ⟨Bv, g1, (grownBy_keeps_cells hg (fun r e => (hr r e).2) g2 rfl).trans g2, g3⟩
 case assign =>
  intro l2 pre x W2 K ⟨h1, h2, h3, h4⟩ hK
  simp only [encV]
  gi_wp2
  exact hK _ _ (KeepsUp.alloc _ _ _) ((Below.refl _ _).alloc (by omega) _) ⟨h1, h2.alloc _, h3.alloc (by omega) _, by simp; omega⟩ ⟨W2.heap.size, by omega, World.alloc_heap_new _ _, rfl⟩
 case body =>
  rintro l2 pre x a' W2 ⟨rfl, h2, h3, h4⟩ ⟨Bv, hBv, hv, rfl⟩ hlen
  have c2 := h2.cell
  have f2 := h2.frozen
  have cv : W2.cell? ⟨Bv, 1, none⟩ = some (.bool x.2.dead) := by simp [World.cell?, hv, verA, verL]
  have HH := Lib.hid (And.intro h2 h3)
  clear h2 h3
  gi_wp2
  exact ⟨KeepsUp.setCell _ (by omega), ⟨x, rfl, HH.out.1.set _⟩, HH.out.2.setCell (by simp) _, rfl⟩
 case done =>
  rintro D ys W2 hD rfl ⟨h1, h2, h3, h4⟩ hK
  have hn : vs = [] := by
   have := congrArg List.length h1
   rw [dn_length] at this
   exact List.length_eq_zero_iff.1 this
  have c2 := h2.cell
  have f2 := h2.frozen
  have HH := Lib.hid (And.intro h2 h3)
  clear h1 h2 h3
  gi_wp2
  have hK2 : (W2.setCell ⟨w.heap.size, 0, none⟩ (.bool false)).heap[D]? = some (.deferred (some [])) := (KeepsOthers.setCell W2 ⟨w.heap.size, 0, none⟩ (.bool false)).same D _ hK rfl
  refine ⟨by simp, .inl ⟨_, _, rfl, run_takeDeferred hK2, ?_⟩⟩
  have hc3 : ((W2.setCell ⟨w.heap.size, 0, none⟩ (.bool false)).putObj D (.deferred none)).cell? ⟨w.heap.size, 0, none⟩ = some (.bool false) := cell_kept (HH.out.1.set _).cell (grownBy_putObj' _ D (.deferred none)) (fun r e => by cases e; exact ⟨_, hK2, rfl⟩)
  refine ⟨.bool false, ?_, ?_, ?_⟩
  ·simp [results, Tryz.results104, go_sem, hc3]
  ·rw [hn]; rfl
  ·exact (HH.out.2.setCell (p := ⟨w.heap.size, 0, none⟩) (by simp) _).trans (belowK_b (w := w) (Nat.le_refl _) _ D _ _ (by omega) hK2 rfl rfl)
 case stop =>
  rintro D c pre W2 hD ⟨j, hj, he⟩ ⟨⟨x, h1, h4⟩, h5, rfl⟩ hK
  have hlast := first_last hj (he.symm.trans h1)
  have HH := Lib.hid (And.intro h4 (And.intro h5 hlast))
  clear h1 h4 h5 he hlast
  gi_wp2
  refine ⟨by simp, .inl ⟨_, _, rfl, run_takeDeferred hK, ?_⟩⟩
  have hc3 : (W2.putObj D (.deferred none)).cell? ⟨w.heap.size, 0, none⟩ = some (.bool (!x.2.dead)) := cell_kept HH.out.1.cell (grownBy_putObj' _ D (.deferred none)) (fun r e => by cases e; exact ⟨_, hK, rfl⟩)
  refine ⟨(.bool (!x.2.dead)), ?_, ?_, ?_⟩
  ·simp [results, Tryz.results104, go_sem, hc3]
  ·unfold liveB; rw [HH.out.2.2]
  ·exact HH.out.2.1.trans (belowK_b (w := w) (Nat.le_refl _) _ D _ _ (by omega) hK rfl rfl)
end Go.Proofs.YtcedmfnlkelhkaaGreatDoor
namespace Go.Proofs.YtcedmfnlkelhkaaGreatDoor
set_option maxRecDepth 100000
open Go.RowKit Go.Shelf

/-- what is seen of versions at a time -/
def atV (vs : List Ver) (t : UInt64) : Rec × Bool :=
 match seenO vs t with
 | some i => let v := vs.getD i Ver.zero; if v.dead then (Rec.zero, false) else (v.r, true)
 | none => (Rec.zero, false)
theorem cut_al {w : World} {a o sz : Nat} {c : Array Value} (h : w.cut? a o sz = some c) (ha : a < w.heap.size) (x : Obj) (xs : Array Obj) (d : Nat) : ((w.alloc x).grow xs d).cut? a o sz = some c := by
 rw [cut_grow _ _ _ _ _ (by simp; omega), cut_alloc_past _ _ _ _ ha]; exact h
theorem seenO_lt {vs : List Ver} {t : UInt64} {i : Nat} (h : seenO vs t = some i) : i < vs.length := by
 unfold seenO at h
 rw [Option.map_eq_some_iff] at h
 obtain ⟨x, hx, rfl⟩ := h
 have hm := List.mem_of_find?_eq_some hx
 simp only [dn, List.mem_map, List.mem_range] at hm
 obtain ⟨k, hk, rfl⟩ := hm
 simp only
 omega
set_option maxHeartbeats 4000000 in
theorem at_gives (co : Option Nat) (vs : List Ver) (hlen : vs.length ≤ 100000) (t : UInt64) (w : World) (hV : ChainV w w.heap.size co vs) :
  Gives Tryz.prog 232 #[.pointer (optA co), .int .u64 t.toNat] w (.tuple #[.agg (recA (atV vs t).1), .bool (atV vs t).2]) := by
 have hsn : ∀ W, Below w.heap.size w W → Gives Tryz.prog 235 #[.pointer (optA co), .int .u64 t.toNat] W (.int .i64 (seenI vs t)) := fun W hb => by
  refine seen_calls co vs hlen t W ?_
  have := hV.keep hb
  cases co with
  | none => exact this
  | some c => obtain ⟨g1, sv, g2, g3⟩ := this; exact ⟨Nat.lt_of_lt_of_le g1 hb.size, sv, g2, g3.more hb.size⟩
 have HS := Lib.hid hsn
 clear hsn
 cases hs : seenO vs t with
 | none =>
  have h1 : seenI vs t = -1 := by unfold seenI; rw [hs]
  have h2 : atV vs t = (Rec.zero, false) := by unfold atV; rw [hs]
  rw [h2]
  rw [h1] at HS
  clear hV hs h1 h2
  generalize optA co = p at *
  unfold Gives
  go_enter Tryz.func232, Tryz.ntmps232
  go_wp2_with fail
  refine Gives.use (HS.out _ blw) ?_
  intro xs1 d1
  go_wp2_with fail
  exact bodyPost_ret (v := .tuple #[.agg (recA Rec.zero), .bool false]) (results_two Tryz.results232 (ResIs.row rfl agg_rec (by simp [go_sem])) (by simp [ResIs])) rfl ⟨rfl, blw⟩
 | some i =>
  have hil := seenO_lt hs
  have h1 : seenI vs t = i := by unfold seenI; rw [hs]
  cases co with
  | none => obtain rfl : vs = [] := hV; simp at hil
  | some c =>
   obtain ⟨g1, sv, g2, _, a, cap, rfl, g4, g5, g6⟩ := hV
   rw [List.length_map] at *
   obtain ⟨b, o, rfl, hb, hcut⟩ := g6 (by omega)
   obtain ⟨v, hv⟩ : ∃ v, v = vs.getD i Ver.zero := ⟨_, rfl⟩
   have hvi : vs[i]? = some v := by rw [hv, List.getD_eq_getElem?_getD, List.getElem?_eq_getElem hil]; rfl
   have hc := hcut i (verA v) (by rw [List.getElem?_map, hvi]; rfl)
   have hd : w.cell? ⟨b, o + i * 11 + 1, none⟩ = some (.bool v.dead) := ((cut_spec hc).2 1 (by omega)).trans (verA_1 v)
   have hr : w.cut? b (o + i * 11 + 2) 9 = some (recA v.r) := by
    have := cut_sub (i := 2) (m := 9) hc (by omega)
    rwa [verA_rec] at this
   have hsl : w.cell? ⟨c, 0, none⟩ = some (.slice (some ⟨b, o, none⟩) vs.length cap) := by simp [World.cell?, g2]
   rw [h1] at HS
   have ha : atV vs t = if v.dead then (Rec.zero, false) else (v.r, true) := by unfold atV; rw [hs, hv]
   rw [ha]
   simp only [optA] at *
   clear g2 g6 hcut hc hvi hv hs h1 ha
   generalize vs.length = len at *
   obtain ⟨at_, dead, r⟩ := v
   simp only at hd hr ⊢
   cases dead with
   | true =>
    simp only [if_true]
    unfold Gives
    go_enter Tryz.func232, Tryz.ntmps232
    go_wp2_with fail
    refine Gives.use (HS.out _ blw) ?_
    intro xs1 d1
    go_wp2_with fail
    exact bodyPost_ret (v := .tuple #[.agg (recA Rec.zero), .bool false]) (results_two Tryz.results232 (ResIs.row rfl agg_rec (by simp [go_sem])) (by simp [ResIs])) rfl ⟨rfl, blw⟩
   | false =>
    simp only [Bool.false_eq_true, if_false]
    unfold Gives
    go_enter Tryz.func232, Tryz.ntmps232
    go_wp2_with fail
    refine Gives.use (HS.out _ blw) ?_
    intro xs1 d1
    have hr' := cut_al hr hb (.cells (recA Rec.zero) 101) xs1 d1
    go_wp2_with fail
    exact bodyPost_ret (v := .tuple #[.agg (recA r), .bool true]) (results_two Tryz.results232 (ResIs.row rfl agg_rec (by simp [go_sem])) (by simp [ResIs])) rfl ⟨rfl, blw⟩
end Go.Proofs.YtcedmfnlkelhkaaGreatDoor

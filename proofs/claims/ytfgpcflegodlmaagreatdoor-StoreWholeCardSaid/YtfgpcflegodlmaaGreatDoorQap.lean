/- Layer 11: the keys of a prefix, in the tree's order. -/
import Derived.Test.YtfgpcflegodlmaaGreatDoorQao
import Derived.Test.YtfgpcflegodlmaaGreatDoorQam
import Derived.Handy
import Derived.Test.YtfgpcflegodlmaaGreatDoorQaj
import Derived.Test.YtfgpcflegodlmaaGreatDoorQal
import Derived.Test.YtfgpcflegodlmaaGreatDoorQai
import Derived.Deep.CutBlock
namespace Go.Proofs.YtfgpcflegodlmaaGreatDoor.Rd
set_option maxRecDepth 100000
open Go.RowKit Go.Shelf
attribute [local go_sem] Oper.semAt_some

/-- the keys of a prefix among some leaves -/
def keysA (p : K25) (d : Int) (L : List (Nat × K25 × Nat)) : List (Array Value) := (L.filter fun x => hasB p d x.2.1).map fun x => row8 x.2.1.val
theorem hasF_hasB {p : K25} {d : Int} (h : prefR d = true) (k : K25) : hasF (frontB p d) k.val = hasB p d k := by
  have h05 : 0 ≤ d ∧ d ≤ 5 := of_decide_eq_true h
  have hl := plen_le d h05.2
  unfold hasF hasB frontB
  rw [if_pos h, h, Bool.true_and]
  have : (p.val.take (plen d)).length = plen d := by rw [List.length_take, p.property]; omega
  rw [this]
  apply decide_eq_decide.2
  exact eq_comm
theorem keysA_front (p : K25) (d : Int) (L : List (Nat × K25 × Nat)) : keysA p d (frontL (frontB p d) L) = keysA p d L := by
  unfold keysA frontL
  rw [List.filter_filter]
  congr 1
  apply List.filter_congr
  intro x _
  by_cases h : prefR d = true
  · rw [hasF_hasB h]; simp
  · have : hasB p d x.2.1 = false := by unfold hasB; cases hp : prefR d; rfl; exact absurd hp h
    rw [this]; rfl
theorem keysA_more (p : K25) (d : Int) (L : List (Nat × K25 × Nat)) (x : Nat × K25 × Nat) : keysA p d (L ++ [x]) = if hasB p d x.2.1 = true then keysA p d L ++ [row8 x.2.1.val] else keysA p d L := by
  unfold keysA
  rw [List.filter_append]
  by_cases h : hasB p d x.2.1 = true
  · rw [if_pos h]; simp [h]
  · rw [if_neg h]; simp [h]
theorem frontB_len (p : K25) (d : Int) : (frontB p d).length ≤ 25 := by
  unfold frontB
  split
  · rw [List.length_take, p.property]; omega
  · simp
theorem SlB.apart {w W : World} {B ob : Nat} {fv : Value} {fr : List UInt8} {a : Option Addr} {n c : Nat} {t : TypeId} (h : SlB w B fv fr) (hob : w.heap[ob]? = some (.cells #[.slice a n c] t)) (hk : ∀ b, b < B → b ≠ ob → W.heap[b]? = w.heap[b]?) : SlB W B fv fr := by
  obtain ⟨fa, cap, h1, h2, h3, h4⟩ := h
  refine ⟨fa, cap, h1, h2, h3, fun h0 => ?_⟩
  obtain ⟨b, o, rfl, hb, hc⟩ := h4 h0
  refine ⟨b, o, rfl, hb, ?_⟩
  rw [cut_of_heap (hk b hb ?_)]
  · exact hc
  · rintro rfl
    have h5 := (cut_spec hc).2 0 h0
    rw [row8_get fr 0 h0] at h5
    unfold World.cell? at h5
    rw [hob] at h5
    cases o with
    | zero => simp at h5
    | succ o => simp at h5
/-- a box with a slice of its own -/
def HoldK (M ob : Nat) (xs : List (Array Value)) (W : World) : Prop := ∃ v, Boxed W ob 129 v ∧ W.ownsRow M 44 25 v xs.length (flatA xs) ∧ True
theorem holdK_own {β : Type} (M ob : Nat) (f : β → List (Array Value)) : Own (fun s W => HoldK M ob (f s) W) := holdsRow_own M ob 129 44 25 (fun s => (f s).length) (fun s => flatA (f s)) (fun _ _ => True)
theorem keepS_own {β : Type} {S : Nat → Prop} {w : World} {B : Nat} (hS : ∀ b, S b → b < B) (hB : B ≤ w.heap.size) : OwnFrom B (fun (_ : β) W => KeepS S w W) := by
  intro s A C row h hg hr
  refine h.trans ⟨hg.os, hg.tape, hg.output, hg.size, fun b hb => hg.block b ?_ ?_⟩
  · have := hS b hb; have := h.size; omega
  · intro e; have := (hr b e.symm).1; have := hS b hb; omega
def kpK : Obj → Bool := fun o => match o with | .cells _ t _ => t != 44 | _ => true
theorem kpK_no (o : Obj) (h : o.isCells = false) : kpK o = true := by cases o <;> first | rfl | cases h
/-- one element in a block of its own -/
def OneK (a : Array Value) (t : TypeId) (v : Value) (w : World) : Prop := ∃ b, v = .slice (some ⟨b, 0, none⟩) 1 1 ∧ w.heap[b]? = some (.cells a t)
theorem OneK.keep {a : Array Value} {t : TypeId} {v : Value} {w w' : World} (h : OneK a t v w) (hb : Below w.heap.size w w') : OneK a t v w' := by
  obtain ⟨b, h1, h2⟩ := h
  exact ⟨b, h1, (hb.block _ (lt_of_heap h2)).trans h2⟩
theorem OneK.sl {a : Array Value} {t : TypeId} {v : Value} {w : World} {n : Nat} (h : OneK a t v w) (hn : a.size = n) : ∃ B2, SlA w B2 n v [a] := by
  obtain ⟨b, rfl, h2⟩ := h
  exact ⟨_, sl_one (Nat.le_refl _) (by decide) (cut_heap h2 hn)⟩
theorem row_keyK : RowType Tryz.prog 129 44 25 25 := ⟨Tryz.underlying129, by kernel_rfl, by decide, by decide⟩
theorem wpListIn_append {F : Fence} {n : Nat} {P : Program} {w : World} {B sz bytes : Nat} {t e : TypeId} {v : Value} {xs : List (Array Value)} {ops : Array Oper} {rest : List Oper} {o : Oper} {a : Act} {Q : Exit → Act → World → Prop} (R : RowType P t e sz bytes) (hgd : o.guard = none) (s x : Operand)
    (ho : o.op = .call { callee := .builtin .append, args := #[s, x], argTypes := #[t, t] }) (hs : a.eval s = v) (h : OwnA w B sz e v xs) {y : Value} {ys : List (Array Value)} (hx : a.eval x = y) (hy : ∃ B2, SlA w B2 sz y ys)
    (h1 : ∀ x ∈ ys, allOne x = true) (hn : xs.length + ys.length ≤ 100000) (hB : B ≤ w.heap.size)
    (hK : ∀ v' w', OwnA w' B sz e v' (xs ++ ys) → w.grownBy w' v.ownBlock → (v'.ownBlock = v.ownBlock ∨ v'.ownBlock = some w.heap.size) → wpListIn F n P ops Q rest (a.put o.dst v') w') : wpListIn F n P ops Q (o :: rest) a w := by
  refine wpListIn_plain hgd fun K' hK' => ?_
  obtain ⟨B2, hy⟩ := hy
  obtain ⟨v', w', hr, h2, h3, h4⟩ := append_run (ty := o.type) R h hy h1 hn hB
  unfold Oper.wpIn
  refine ⟨by simp [Oper.about, ho, resolve, Target.leads, Sem.run_pure], ?_⟩
  rw [Oper.semAt_plain F _ _ (by rw [ho]; intro c hc'; cases hc')]
  simp [execOp, ho, resolve, invoke, builtin, hs, hx, hr, Result.andThen]
  exact hK' _ _ (hK v' w' h2 h3 h4)
theorem own_cells {w : World} {B sz n : Nat} {e : TypeId} {v : Value} {xs : List Value} (h : w.ownsRow B e sz v n xs) : ∀ g, v.ownBlock = some g → B ≤ g ∧ ∃ c, w.heap[g]? = some (.cells c e (0, 0)) := by
  intro g hg
  rcases h.2 with ⟨rfl, _⟩ | ⟨g', cap, cur, rfl, hb, hh, _⟩
  · cases hg
  · obtain rfl : g' = g := by simpa [Value.ownBlock] using hg
    exact ⟨hb, _, hh⟩
theorem own_less {w : World} {B B' sz n : Nat} {e : TypeId} {v : Value} {xs : List Value} (h : w.ownsRow B e sz v n xs) (hB : B' ≤ B) : w.ownsRow B' e sz v n xs := by
  refine ⟨h.1, ?_⟩
  rcases h.2 with h0 | ⟨g, cap, cur, rfl, hb, hh⟩
  · exact .inl h0
  · exact .inr ⟨g, cap, cur, rfl, Nat.le_trans hB hb, hh⟩
/-- an append, then the store back into the box -/
theorem box_append {M ob : Nat} {W3 W4 w5 : World} {ov v5 : Value} {xs ys : List (Array Value)} (hoM : ob < M) (hM : M ≤ W3.heap.size) (hov : Boxed W4 ob 129 ov) (how : W4.ownsRow M 44 25 ov xs.length (flatA xs)) (hb : Below W3.heap.size W3 W4)
    (ho : OwnA w5 M 25 44 v5 (xs ++ ys)) (hg : W4.grownBy w5 ov.ownBlock) : Boxed w5 ob 129 ov ∧
      KeepsX kpK M W3 (w5.setCell ⟨ob, 0, none⟩ v5) ∧ KeepS (fun b => b < M ∧ b ≠ ob) W3 (w5.setCell ⟨ob, 0, none⟩ v5) ∧ HoldK M ob (xs ++ ys) (w5.setCell ⟨ob, 0, none⟩ v5) := by
  have hoc := own_cells how
  have hne : some ob ≠ ov.ownBlock := fun e => by have := (hoc ob e.symm).1; omega
  have hbx : Boxed w5 ob 129 ov := hov.kept hg hne
  have hbk : ∀ q : Nat, q ≠ ob → (w5.setCell ⟨ob, 0, none⟩ v5).heap[q]? = w5.heap[q]? := fun q hq => Below.heap_setCell w5 ⟨ob, 0, none⟩ v5 q hq
  refine ⟨hbx, ⟨?_, ?_⟩, ⟨?_, ?_, ?_, ?_, ?_⟩, v5, hbx.set v5, ?_, trivial⟩
  · have := hb.size; have := hg.size; simp; omega
  · intro k o hk ho2 hkp
    have h4 : W4.heap[k]? = some o := (hb.block k (lt_of_heap ho2)).trans ho2
    rw [hbk k (by omega), hg.block k (lt_of_heap h4) (fun e => ?_), h4]
    obtain ⟨c, hc⟩ := (hoc k e.symm).2
    rw [h4] at hc
    obtain rfl := Option.some.inj hc
    simp [kpK] at hkp
  · exact hg.os.trans hb.os
  · exact hg.tape.trans hb.tape
  · exact hg.output.trans hb.output
  · have := hb.size; have := hg.size; simp; omega
  · rintro b ⟨h1, h2⟩
    have := hb.size
    rw [hbk b h2, hg.block b (by omega) (fun e => by have := (hoc b e.symm).1; omega), hb.block b (by omega)]
  · exact (ho.keep fun g hgo hgl => hbk g (fun e => by have := (ho.lt g hgo).1; omega)).2
theorem keysA_len (p : K25) (d : Int) (L : List (Nat × K25 × Nat)) : (keysA p d L).length ≤ L.length := by
  unfold keysA; rw [List.length_map]; exact List.length_filter_le _ _
theorem list_foot : ∀ (T : CT K25) (x : Nat × K25 × Nat), x ∈ T.list → x.1 ∈ T.foot
  | .leaf a k c, x, h => by simp [CT.list] at h; subst h; simp [CT.foot]
  | .fork a bit l r, x, h => by
    simp only [CT.foot, List.mem_cons, List.mem_append]
    rcases List.mem_append.1 h with h | h
    · exact .inr (.inl (list_foot l x h))
    · exact .inr (.inr (list_foot r x h))
theorem _root_.Go.Proofs.YtfgpcflegodlmaaGreatDoor.TreeAt.leafAt {W : World} {t : Nat} {R : Option (CT K25)} {m : Int} (h : TreeAt W t R m) {x : Nat × K25 × Nat} (hx : x ∈ lvs R) :
    LeafAt W x ∧ ∀ n, (∀ T, R = some T → ∀ b ∈ T.foot, b < n) → x.1 < n := by
  cases hR : R with
  | none => rw [hR] at hx; exact absurd hx (by simp [lvs])
  | some T =>
    rw [hR] at hx
    exact ⟨(h.2 T hR).1.leaf _ hx, fun n hn => hn T rfl _ (list_foot T _ hx)⟩
set_option maxHeartbeats 8000000 in
theorem keys_calls (p : K25) (d : Int) (t : Nat) (R : Option (CT K25)) (m : Int) (w : World) (hT : TreeAt w t R m) (hlen : (lvs R).length ≤ 90000) :
    Calls Tryz.prog 74 #[.pointer (some ⟨t, 0, none⟩), .agg (prefA p d)] w fun e w' => ∃ v, e = .returned v ∧ OwnA w' w.heap.size 25 44 v (keysA p d (lvs R)) ∧ Below w.heap.size w w' := by
  have HT := Lib.hid hT
  have HF := Lib.hid (front_calls p d)
  clear hT
  refine (callsIn_wide (n := 9)).1 ?_
  refine callsIn_of_wp_marks Tryz.func74 rfl trivial ?_ rfl
  simp only [Tryz.ntmps74, List.size_toArray, List.length_cons, List.length_nil, Nat.reduceAdd, Nat.reduceSub, Array.replicate_succ, Array.replicate_zero, List.push_toArray, List.append_toArray, List.nil_append, List.cons_append]
  gi_wp2
  refine ⟨trivial, ?_⟩
  refine (callsIn_wide.2 (HF.out _)).mono ?_
  rintro e w1 ⟨fv, rfl, hS1, hb1⟩
  obtain ⟨fa, fc, rfl, -⟩ := id hS1
  have HS1 := Lib.hid (And.intro hS1 hb1)
  have hz1 : w.heap.size + 2 ≤ w1.heap.size := by have := hb1.size; simpa using this
  have cp1 : w1.heap[w.heap.size]? = some (.cells (prefA p d) 52) := by
    rw [hb1.block _ (by simp; omega), heap_al, if_neg (by simp), heap_al, if_pos rfl]
  have co1 : w1.heap[w.heap.size + 1]? = some (.cells #[.slice none 0 0] 129) := by
    rw [hb1.block _ (by simp), heap_al, if_pos (by simp)]
  have HC1 := Lib.hid (And.intro cp1 co1)
  clear hS1 hb1 cp1 co1 HF
  gi_wp2
  refine ⟨trivial, ?_⟩
  refine (callsIn_wide.2 (leaves_calls _ _ ⟨_, rfl⟩ ⟨_, _, _, rfl⟩ _)).mono ?_
  rintro e w2 ⟨rfl, rfl⟩
  gi_wp2
  obtain ⟨ob, hob⟩ : ∃ ob, ob = w.heap.size + 1 := ⟨_, rfl⟩
  rw [← hob] at HC1 ⊢
  have ho1 : w.heap.size < ob := by omega
  have ho2 : ob < w1.heap.size := by omega
  clear hob
  obtain ⟨W2, hW2⟩ : ∃ W2, W2 = (w1.alloc (.cells #[.pointer (some ⟨t, 0, none⟩)] 136)).alloc (.cells #[.slice fa (frontB p d).length fc] 213) := ⟨_, rfl⟩
  rw [← hW2]
  have hb12 : Below w1.heap.size w1 W2 := by rw [hW2]; exact ((Below.refl _ w1).alloc (Nat.le_refl _) _).alloc (by simp) _
  have hz2 : W2.heap.size = w1.heap.size + 2 := by rw [hW2]; simp
  have cTb : W2.heap[w1.heap.size]? = some (.cells #[pt t] 136) := by rw [hW2, heap_al, if_neg (by simp), heap_al, if_pos rfl]; rfl
  have cFb : W2.heap[w1.heap.size + 1]? = some (.cells #[.slice fa (frontB p d).length fc] 213) := by rw [hW2, heap_al, if_pos (by simp)]
  have hP2 := (hb12.block w.heap.size (by omega)).trans HC1.out.1
  have hO2 : Boxed W2 ob 129 (.slice none 0 0) := (hb12.block ob (by omega)).trans HC1.out.2
  have hbw : Below w.heap.size w W2 := (Below.trans (((Below.refl _ w).alloc (Nat.le_refl _) _).alloc (by simp) _) (HS1.out.2.mono (by simp; omega))).trans (hb12.mono (by omega))
  have hT2 : TreeAt W2 t R m := HT.out.keep hbw
  have htl := lt_of_heap HT.out.1
  have hfl : ∀ T, R = some T → ∀ b ∈ T.foot, b < w.heap.size := fun T hR b hb => (HT.out.2 T hR).1.lt b hb
  have hS2 : ∀ W, Sm (fun b => b < W2.heap.size ∧ b ≠ ob) W2 W → SlB W W2.heap.size (.slice fa (frontB p d).length fc) (frontB p d) := fun W hW =>
    (SlB.apart HS1.out.1 HC1.out.2 (fun b hb hn => (hW b ⟨by omega, hn⟩).trans (hb12.block b hb))).more (by omega)
  have cTc : W2.cell? ⟨w1.heap.size, 0, none⟩ = some (pt t) := by unfold World.cell?; rw [cTb]; rfl
  have cFc : W2.cell? ⟨w1.heap.size + 1, 0, none⟩ = some (.slice fa (frontB p d).length fc) := by unfold World.cell?; rw [cFb]; rfl
  clear hW2 cTb cFb HC1 HS1 hb12
  refine wpIn_rangeX kpK_no (n := 9) (gf := 132) (lb := #[.pointer (some ⟨w1.heap.size, 0, none⟩), .pointer (some ⟨w1.heap.size + 1, 0, none⟩)]) rfl (by decide) rfl trivial (enters_of Tryz.func132 (by kernel_rfl) rfl)
    (leaves_stops (kp := kpK) (fun _ => rfl) (fun b => b < W2.heap.size ∧ b ≠ ob) 8 t w1.heap.size (w1.heap.size + 1) R m (.slice fa (frontB p d).length fc) (frontB p d) W2 (fun b hb => hb.1) ⟨by omega, by omega⟩ ⟨by omega, by omega⟩ cTc cFc hT2 ⟨by omega, by omega⟩ (fun T hR b hb => by have := hfl T hR b hb; exact ⟨by omega, by omega⟩) hS2 (frontB_len p d))
    (fun h k => h.trans k) (keepS_b (fun b hb => hb.1)) (Below.refl _ _) (fun _ => rfl)
    (fun pre W' => HoldK W2.heap.size ob (keysA p d (valsL pre)) W' ∧ KeepS (fun b => b < W2.heap.size ∧ b ≠ ob) W2 W') (fun _ _ _ => False)
    ?hI ?hIx ⟨⟨_, hO2, ⟨rfl, .inl ⟨rfl, rfl⟩⟩, trivial⟩, KeepS.refl _ _⟩
    (fun x a' W' => a' = { tmps := #[.pointer (some ⟨t, 0, none⟩), .agg (prefA p d), undef, .pointer (some ⟨w.heap.size, 0, none⟩), .slice none 0 0, .pointer (some ⟨ob, 0, none⟩), .pointer (some ⟨x.1.1, 0, none⟩), .pointer (some ⟨t, 0, none⟩), .agg (prefA p d), .slice fa (frontB p d).length fc, .func (.func 132) #[] #[.pointer (some ⟨w1.heap.size, 0, none⟩), .pointer (some ⟨w1.heap.size + 1, 0, none⟩)], .pointer (some ⟨x.1.1, 0, none⟩), undef, undef, undef, undef, undef, undef, undef, undef, undef, undef, undef, undef, undef, undef], defers := [] })
    ?hAx ?assign ?body ?done ?stop
  case hI => exact OwnFrom.and ((holdK_own _ _ _).from _) (keepS_own (fun b hb => hb.1) (Nat.le_refl _))
  case hIx => exact fun c s A B row h => h.elim
  case hAx => exact fun x a' s A B row h _ _ => h
  case assign =>
    intro l2 pre x W3 K hI hK
    simp only [encLf, pt]
    gi_wp2
    exact hK _ _ (KeepsX.refl _ _) (KeepS.refl _ _) hI rfl
  case body =>
    rintro l2 pre x a' W3 ⟨⟨ov, hov, how, -⟩, hk3⟩ rfl hlen
    have hlf := hT2.leafAt x.2
    have hxl := hlf.2 _ hfl
    have hnode : NodeAt W3 x.1.1 true x.1.2.1.val x.1.2.1.val (pt x.1.2.2) 0 (.pointer none) (.pointer none) := (hk3.same _ ⟨by omega, by omega⟩).trans hlf.1
    have hkc := NodeAt.key hnode x.1.2.1.property x.1.2.1.property
    have hal := lt_of_heap hnode
    have cP := cut_heap ((hk3.same w.heap.size ⟨by omega, by omega⟩).trans hP2) (prefA_size p d)
    have lP : w.heap.size < W3.heap.size := by have := hk3.size; omega
    have hmore := keysA_more p d (valsL pre) x.1
    have hvs : valsL (pre ++ [x]) = valsL pre ++ [x.1] := List.map_append
    rw [← hvs] at hmore
    have HH := Lib.hid (has_gives p x.1.2.1 d)
    have hks : (keysA p d (valsL pre)).length < 90000 := by
      have h1 := keysA_len p d (valsL pre)
      have h2 : (valsL pre).length = pre.length := List.length_map _
      have h3 : (frontL (frontB p d) (lvs R)).length ≤ (lvs R).length := List.length_filter_le _ _
      omega
    have hksz : ∀ x ∈ keysA p d (valsL pre), x.size = 25 := fun x hx => by
      obtain ⟨y, _, rfl⟩ := List.mem_map.1 hx
      simp [y.2.1.property]
    have HKS := Lib.hid hksz
    clear hksz
    generalize keysA p d (valsL pre) = ks at *
    have HI := Lib.hid (And.intro hov (And.intro how hk3))
    have lO := hov.lt
    have cO := hov.cell
    have fO := hov.frozen
    generalize x.1.1 = a at *
    generalize x.1.2.1 = k at *
    clear hnode hov how hk3 hvs hlf hxl
    cases hh : hasB p d k with
    | false =>
      rw [hh] at HH hmore
      rw [if_neg (by decide)] at hmore
      have HM := Lib.hid hmore
      clear hh hmore
      gi_wp2
      apply wp_region_specs (by rfl) [.val _, .val _, .val _, .val _, .val _, .val _] 6 (by rfl) [12, 13, 14, 15, 16, 17] [] [] (by rfl) (by rfl) (by decide) (by decide +kernel) (fun _ _ _ _ _ h => h)
      case hF => intro x; simp only [over, List.foldl_cons, List.foldl_nil, List.setIfInBounds_toArray, List.set_cons_succ, List.set_cons_zero]; exact rfl
      case hops =>
        refine ⟨?o0, ?o1, ?o2, ?o3, ?o4, ?o5, trivial⟩
        case o0 =>
          intro x w1 hH K hK
          obtain ⟨xs, d, rfl⟩ := grow_of_below hH.below
          clear hH
          try simp only [World.grow_drew] at hK ⊢
          try simp only [World.grow_grow] at hK ⊢
          go_simp
          go_wp2_with fail
          exact ⟨_, rfl, rfl, (by repeat (first | exact below_of_grow _ _ | exact Below.refl _ _ | exact below_more _ _ _ _ | (simp only [← Array.append_assoc]; first | exact below_more _ _ _ _ | exact below_same _ _ _ | exact Below.refl _ _) | exact below_same _ _ _ | (refine Below.alloc ?_ (by first | (simp; done) | (simp; omega)) _) | (refine Below.grow ?_ (by first | (simp; done) | (simp; omega)) _ _) | refine Below.drew ?_ | refine Below.drewN ?_ _ | (refine Below.putF ?_ (by first | (simp; done) | omega | (simp; omega)) _) | (refine Below.setCell ?_ (by first | (simp; done) | (simp; omega)) _))), fun h => by cases h⟩
        case o1 =>
          intro x w1 hH K hK
          obtain ⟨xs, d, rfl⟩ := grow_of_below hH.below
          clear hH
          try simp only [World.grow_drew] at hK ⊢
          try simp only [World.grow_grow] at hK ⊢
          go_simp
          go_wp2_with fail
          exact ⟨_, rfl, rfl, (by repeat (first | exact below_of_grow _ _ | exact Below.refl _ _ | exact below_more _ _ _ _ | (simp only [← Array.append_assoc]; first | exact below_more _ _ _ _ | exact below_same _ _ _ | exact Below.refl _ _) | exact below_same _ _ _ | (refine Below.alloc ?_ (by first | (simp; done) | (simp; omega)) _) | (refine Below.grow ?_ (by first | (simp; done) | (simp; omega)) _ _) | refine Below.drew ?_ | refine Below.drewN ?_ _ | (refine Below.putF ?_ (by first | (simp; done) | omega | (simp; omega)) _) | (refine Below.setCell ?_ (by first | (simp; done) | (simp; omega)) _))), fun h => by cases h⟩
        case o2 =>
          intro x w1 hH K hK
          have e13 : x 13 = _ := hH.holds 1 (by decide) (by decide +kernel) 13 rfl
          obtain ⟨xs, d, rfl⟩ := grow_of_below hH.below
          clear hH
          try simp only [World.grow_drew] at hK ⊢
          try simp only [World.grow_grow] at hK ⊢
          simp only [e13] at hK ⊢
          clear e13
          go_simp
          go_wp2_with fail
          exact ⟨_, rfl, rfl, (by repeat (first | exact below_of_grow _ _ | exact Below.refl _ _ | exact below_more _ _ _ _ | (simp only [← Array.append_assoc]; first | exact below_more _ _ _ _ | exact below_same _ _ _ | exact Below.refl _ _) | exact below_same _ _ _ | (refine Below.alloc ?_ (by first | (simp; done) | (simp; omega)) _) | (refine Below.grow ?_ (by first | (simp; done) | (simp; omega)) _ _) | refine Below.drew ?_ | refine Below.drewN ?_ _ | (refine Below.putF ?_ (by first | (simp; done) | omega | (simp; omega)) _) | (refine Below.setCell ?_ (by first | (simp; done) | (simp; omega)) _))), fun h => by cases h⟩
        case o3 =>
          intro x w1 hH K hK
          have e14 : x 14 = _ := hH.holds 2 (by decide) (by decide +kernel) 14 rfl
          obtain ⟨xs, d, rfl⟩ := grow_of_below hH.below
          clear hH
          try simp only [World.grow_drew] at hK ⊢
          try simp only [World.grow_grow] at hK ⊢
          simp only [e14] at hK ⊢
          clear e14
          go_simp
          go_wp2_with fail
          exact ⟨_, rfl, rfl, (by repeat (first | exact below_of_grow _ _ | exact Below.refl _ _ | exact below_more _ _ _ _ | (simp only [← Array.append_assoc]; first | exact below_more _ _ _ _ | exact below_same _ _ _ | exact Below.refl _ _) | exact below_same _ _ _ | (refine Below.alloc ?_ (by first | (simp; done) | (simp; omega)) _) | (refine Below.grow ?_ (by first | (simp; done) | (simp; omega)) _ _) | refine Below.drew ?_ | refine Below.drewN ?_ _ | (refine Below.putF ?_ (by first | (simp; done) | omega | (simp; omega)) _) | (refine Below.setCell ?_ (by first | (simp; done) | (simp; omega)) _))), fun h => by cases h⟩
        case o4 =>
          intro x w1 hH K hK
          have e15 : x 15 = _ := hH.holds 3 (by decide) (by decide +kernel) 15 rfl
          obtain ⟨xs, d, rfl⟩ := grow_of_below hH.below
          clear hH
          try simp only [World.grow_drew] at hK ⊢
          try simp only [World.grow_grow] at hK ⊢
          simp only [e15] at hK ⊢
          clear e15
          go_simp
          go_wp2_with fail
          exact ⟨_, rfl, rfl, (by repeat (first | exact below_of_grow _ _ | exact Below.refl _ _ | exact below_more _ _ _ _ | (simp only [← Array.append_assoc]; first | exact below_more _ _ _ _ | exact below_same _ _ _ | exact Below.refl _ _) | exact below_same _ _ _ | (refine Below.alloc ?_ (by first | (simp; done) | (simp; omega)) _) | (refine Below.grow ?_ (by first | (simp; done) | (simp; omega)) _ _) | refine Below.drew ?_ | refine Below.drewN ?_ _ | (refine Below.putF ?_ (by first | (simp; done) | omega | (simp; omega)) _) | (refine Below.setCell ?_ (by first | (simp; done) | (simp; omega)) _))), fun h => by cases h⟩
        case o5 =>
          intro x w1 hH K hK
          have e12 : x 12 = _ := hH.holds 0 (by decide) (by decide +kernel) 12 rfl
          have e16 : x 16 = _ := hH.holds 4 (by decide) (by decide +kernel) 16 rfl
          obtain ⟨xs, d, rfl⟩ := grow_of_below hH.below
          clear hH
          try simp only [World.grow_drew] at hK ⊢
          try simp only [World.grow_grow] at hK ⊢
          simp only [e12, e16] at hK ⊢
          clear e12 e16
          go_simp
          go_wp2_with (refine Gives.use (HH.out _) ?_; intro ys e)
          exact ⟨_, rfl, rfl, (by first | exact below_more _ _ _ _ | exact (by repeat (first | exact below_of_grow _ _ | exact Below.refl _ _ | exact below_more _ _ _ _ | (simp only [← Array.append_assoc]; first | exact below_more _ _ _ _ | exact below_same _ _ _ | exact Below.refl _ _) | exact below_same _ _ _ | (refine Below.alloc ?_ (by first | (simp; done) | (simp; omega)) _) | (refine Below.grow ?_ (by first | (simp; done) | (simp; omega)) _ _) | refine Below.drew ?_ | refine Below.drewN ?_ _ | (refine Below.putF ?_ (by first | (simp; done) | omega | (simp; omega)) _) | (refine Below.setCell ?_ (by first | (simp; done) | (simp; omega)) _)))), fun h => by cases h⟩
      case hend =>
        intro x w1 hH
        have e12 : x 12 = _ := hH.holds 0 (by decide) trivial 12 rfl
        have e13 : x 13 = _ := hH.holds 1 (by decide) trivial 13 rfl
        have e14 : x 14 = _ := hH.holds 2 (by decide) trivial 14 rfl
        have e15 : x 15 = _ := hH.holds 3 (by decide) trivial 15 rfl
        have e16 : x 16 = _ := hH.holds 4 (by decide) trivial 16 rfl
        have e17 : x 17 = _ := hH.holds 5 (by decide) trivial 17 rfl
        obtain ⟨xs, d, rfl⟩ := grow_of_below hH.below
        clear hH
        simp only [e12, e13, e14, e15, e16, e17]; clear e12 e13 e14 e15 e16 e17
        simp only [List.drop_succ_cons, List.drop_nil]
        gi_wp2
        have hb : Below W3.heap.size W3 (W3.drew.grow xs d) := below_of_grow _ _
        have hks : KeepS (fun b => b < W2.heap.size ∧ b ≠ ob) W3 (W3.drew.grow xs d) := KeepS.of_below hb (fun b hb' => by have := HI.out.2.2.size; have := hb'.1; omega)
        refine ⟨KeepsX.of_below hb, hks, ?_, HI.out.2.2.trans hks⟩
        rw [HM.out]
        exact ⟨ov, (hb.block _ lO).trans HI.out.1, own_below HI.out.2.1 hb, trivial⟩
    | true =>
      rw [hh] at HH hmore
      rw [if_pos rfl] at hmore
      have HM := Lib.hid hmore
      clear hh hmore
      gi_wp2
      apply wp_region_specs (by rfl) [.val _, .val _, .val _, .val _, .val _, .val _] 6 (by rfl) [12, 13, 14, 15, 16, 17] [] [] (by rfl) (by rfl) (by decide) (by decide +kernel) (fun _ _ _ _ _ h => h)
      case hF => intro x; simp only [over, List.foldl_cons, List.foldl_nil, List.setIfInBounds_toArray, List.set_cons_succ, List.set_cons_zero]; exact rfl
      case hops =>
        refine ⟨?o0, ?o1, ?o2, ?o3, ?o4, ?o5, trivial⟩
        case o0 =>
          intro x w1 hH K hK
          obtain ⟨xs, d, rfl⟩ := grow_of_below hH.below
          clear hH
          try simp only [World.grow_drew] at hK ⊢
          try simp only [World.grow_grow] at hK ⊢
          go_simp
          go_wp2_with fail
          exact ⟨_, rfl, rfl, (by repeat (first | exact below_of_grow _ _ | exact Below.refl _ _ | exact below_more _ _ _ _ | (simp only [← Array.append_assoc]; first | exact below_more _ _ _ _ | exact below_same _ _ _ | exact Below.refl _ _) | exact below_same _ _ _ | (refine Below.alloc ?_ (by first | (simp; done) | (simp; omega)) _) | (refine Below.grow ?_ (by first | (simp; done) | (simp; omega)) _ _) | refine Below.drew ?_ | refine Below.drewN ?_ _ | (refine Below.putF ?_ (by first | (simp; done) | omega | (simp; omega)) _) | (refine Below.setCell ?_ (by first | (simp; done) | (simp; omega)) _))), fun h => by cases h⟩
        case o1 =>
          intro x w1 hH K hK
          obtain ⟨xs, d, rfl⟩ := grow_of_below hH.below
          clear hH
          try simp only [World.grow_drew] at hK ⊢
          try simp only [World.grow_grow] at hK ⊢
          go_simp
          go_wp2_with fail
          exact ⟨_, rfl, rfl, (by repeat (first | exact below_of_grow _ _ | exact Below.refl _ _ | exact below_more _ _ _ _ | (simp only [← Array.append_assoc]; first | exact below_more _ _ _ _ | exact below_same _ _ _ | exact Below.refl _ _) | exact below_same _ _ _ | (refine Below.alloc ?_ (by first | (simp; done) | (simp; omega)) _) | (refine Below.grow ?_ (by first | (simp; done) | (simp; omega)) _ _) | refine Below.drew ?_ | refine Below.drewN ?_ _ | (refine Below.putF ?_ (by first | (simp; done) | omega | (simp; omega)) _) | (refine Below.setCell ?_ (by first | (simp; done) | (simp; omega)) _))), fun h => by cases h⟩
        case o2 =>
          intro x w1 hH K hK
          have e13 : x 13 = _ := hH.holds 1 (by decide) (by decide +kernel) 13 rfl
          obtain ⟨xs, d, rfl⟩ := grow_of_below hH.below
          clear hH
          try simp only [World.grow_drew] at hK ⊢
          try simp only [World.grow_grow] at hK ⊢
          simp only [e13] at hK ⊢
          clear e13
          go_simp
          go_wp2_with fail
          exact ⟨_, rfl, rfl, (by repeat (first | exact below_of_grow _ _ | exact Below.refl _ _ | exact below_more _ _ _ _ | (simp only [← Array.append_assoc]; first | exact below_more _ _ _ _ | exact below_same _ _ _ | exact Below.refl _ _) | exact below_same _ _ _ | (refine Below.alloc ?_ (by first | (simp; done) | (simp; omega)) _) | (refine Below.grow ?_ (by first | (simp; done) | (simp; omega)) _ _) | refine Below.drew ?_ | refine Below.drewN ?_ _ | (refine Below.putF ?_ (by first | (simp; done) | omega | (simp; omega)) _) | (refine Below.setCell ?_ (by first | (simp; done) | (simp; omega)) _))), fun h => by cases h⟩
        case o3 =>
          intro x w1 hH K hK
          have e14 : x 14 = _ := hH.holds 2 (by decide) (by decide +kernel) 14 rfl
          obtain ⟨xs, d, rfl⟩ := grow_of_below hH.below
          clear hH
          try simp only [World.grow_drew] at hK ⊢
          try simp only [World.grow_grow] at hK ⊢
          simp only [e14] at hK ⊢
          clear e14
          go_simp
          go_wp2_with fail
          exact ⟨_, rfl, rfl, (by repeat (first | exact below_of_grow _ _ | exact Below.refl _ _ | exact below_more _ _ _ _ | (simp only [← Array.append_assoc]; first | exact below_more _ _ _ _ | exact below_same _ _ _ | exact Below.refl _ _) | exact below_same _ _ _ | (refine Below.alloc ?_ (by first | (simp; done) | (simp; omega)) _) | (refine Below.grow ?_ (by first | (simp; done) | (simp; omega)) _ _) | refine Below.drew ?_ | refine Below.drewN ?_ _ | (refine Below.putF ?_ (by first | (simp; done) | omega | (simp; omega)) _) | (refine Below.setCell ?_ (by first | (simp; done) | (simp; omega)) _))), fun h => by cases h⟩
        case o4 =>
          intro x w1 hH K hK
          have e15 : x 15 = _ := hH.holds 3 (by decide) (by decide +kernel) 15 rfl
          obtain ⟨xs, d, rfl⟩ := grow_of_below hH.below
          clear hH
          try simp only [World.grow_drew] at hK ⊢
          try simp only [World.grow_grow] at hK ⊢
          simp only [e15] at hK ⊢
          clear e15
          go_simp
          go_wp2_with fail
          exact ⟨_, rfl, rfl, (by repeat (first | exact below_of_grow _ _ | exact Below.refl _ _ | exact below_more _ _ _ _ | (simp only [← Array.append_assoc]; first | exact below_more _ _ _ _ | exact below_same _ _ _ | exact Below.refl _ _) | exact below_same _ _ _ | (refine Below.alloc ?_ (by first | (simp; done) | (simp; omega)) _) | (refine Below.grow ?_ (by first | (simp; done) | (simp; omega)) _ _) | refine Below.drew ?_ | refine Below.drewN ?_ _ | (refine Below.putF ?_ (by first | (simp; done) | omega | (simp; omega)) _) | (refine Below.setCell ?_ (by first | (simp; done) | (simp; omega)) _))), fun h => by cases h⟩
        case o5 =>
          intro x w1 hH K hK
          have e12 : x 12 = _ := hH.holds 0 (by decide) (by decide +kernel) 12 rfl
          have e16 : x 16 = _ := hH.holds 4 (by decide) (by decide +kernel) 16 rfl
          obtain ⟨xs, d, rfl⟩ := grow_of_below hH.below
          clear hH
          try simp only [World.grow_drew] at hK ⊢
          try simp only [World.grow_grow] at hK ⊢
          simp only [e12, e16] at hK ⊢
          clear e12 e16
          go_simp
          go_wp2_with (refine Gives.use (HH.out _) ?_; intro ys e)
          exact ⟨_, rfl, rfl, (by first | exact below_more _ _ _ _ | exact (by repeat (first | exact below_of_grow _ _ | exact Below.refl _ _ | exact below_more _ _ _ _ | (simp only [← Array.append_assoc]; first | exact below_more _ _ _ _ | exact below_same _ _ _ | exact Below.refl _ _) | exact below_same _ _ _ | (refine Below.alloc ?_ (by first | (simp; done) | (simp; omega)) _) | (refine Below.grow ?_ (by first | (simp; done) | (simp; omega)) _ _) | refine Below.drew ?_ | refine Below.drewN ?_ _ | (refine Below.putF ?_ (by first | (simp; done) | omega | (simp; omega)) _) | (refine Below.setCell ?_ (by first | (simp; done) | (simp; omega)) _)))), fun h => by cases h⟩
      case hend =>
        intro x w1 hH
        have e12 : x 12 = _ := hH.holds 0 (by decide) trivial 12 rfl
        have e13 : x 13 = _ := hH.holds 1 (by decide) trivial 13 rfl
        have e14 : x 14 = _ := hH.holds 2 (by decide) trivial 14 rfl
        have e15 : x 15 = _ := hH.holds 3 (by decide) trivial 15 rfl
        have e16 : x 16 = _ := hH.holds 4 (by decide) trivial 16 rfl
        have e17 : x 17 = _ := hH.holds 5 (by decide) trivial 17 rfl
        obtain ⟨xs, d, rfl⟩ := grow_of_below hH.below
        clear hH
        simp only [e12, e13, e14, e15, e16, e17]; clear e12 e13 e14 e15 e16 e17
        simp only [List.drop_succ_cons, List.drop_nil]
        gi_wp2
        have hb0 : Below W3.heap.size W3 (W3.drew.grow xs d) := below_of_grow _ _
        obtain ⟨V4, hV4⟩ : ∃ V4, V4 = W3.drew.grow xs d := ⟨_, rfl⟩
        rw [← hV4] at hb0 ⊢
        have hkc4 : V4.cut? a 1 25 = some (row8 k.val) := (cut_of_heap (hb0.block _ hal) _ _).trans hkc
        have hal4 : a < V4.heap.size := Nat.lt_of_lt_of_le hal hb0.size
        have cO4 := (hb0.cell (p := ⟨ob, 0, none⟩) lO).trans cO
        have lO4 : ob < V4.heap.size := Nat.lt_of_lt_of_le lO hb0.size
        have HB0 := Lib.hid hb0
        clear hb0 hV4 cP lP hkc hal cO fO
        apply wp_region_specs (by rfl) [.val _, .val _, .val _, .val _, .val _, .rel (OneK (row8 k.val) 44)] 6 (by rfl) [18, 19, 20, 21, 22, 23] [] [] (by rfl) (by rfl) (by decide) (by decide +kernel) (fun _ _ _ _ _ h => h)
        case hF => intro x; simp only [over, List.foldl_cons, List.foldl_nil, List.setIfInBounds_toArray, List.set_cons_succ, List.set_cons_zero]; exact rfl
        case hops =>
          refine ⟨?o0, ?o1, ?o2, ?o3, ?o4, ?o5, trivial⟩
          case o0 =>
            intro x w1 hH K hK
            obtain ⟨xs, d, rfl⟩ := grow_of_below hH.below
            clear hH
            try simp only [World.grow_drew] at hK ⊢
            try simp only [World.grow_grow] at hK ⊢
            go_simp
            go_wp2_with fail
            exact ⟨_, rfl, rfl, (by repeat (first | exact below_of_grow _ _ | exact Below.refl _ _ | exact below_more _ _ _ _ | (simp only [← Array.append_assoc]; first | exact below_more _ _ _ _ | exact below_same _ _ _ | exact Below.refl _ _) | exact below_same _ _ _ | (refine Below.alloc ?_ (by first | (simp; done) | (simp; omega)) _) | (refine Below.grow ?_ (by first | (simp; done) | (simp; omega)) _ _) | refine Below.drew ?_ | refine Below.drewN ?_ _ | (refine Below.putF ?_ (by first | (simp; done) | omega | (simp; omega)) _) | (refine Below.setCell ?_ (by first | (simp; done) | (simp; omega)) _))), fun h => by cases h⟩
          case o1 =>
            intro x w1 hH K hK
            obtain ⟨xs, d, rfl⟩ := grow_of_below hH.below
            clear hH
            try simp only [World.grow_drew] at hK ⊢
            try simp only [World.grow_grow] at hK ⊢
            go_simp
            go_wp2_with fail
            exact ⟨_, rfl, rfl, (by repeat (first | exact below_of_grow _ _ | exact Below.refl _ _ | exact below_more _ _ _ _ | (simp only [← Array.append_assoc]; first | exact below_more _ _ _ _ | exact below_same _ _ _ | exact Below.refl _ _) | exact below_same _ _ _ | (refine Below.alloc ?_ (by first | (simp; done) | (simp; omega)) _) | (refine Below.grow ?_ (by first | (simp; done) | (simp; omega)) _ _) | refine Below.drew ?_ | refine Below.drewN ?_ _ | (refine Below.putF ?_ (by first | (simp; done) | omega | (simp; omega)) _) | (refine Below.setCell ?_ (by first | (simp; done) | (simp; omega)) _))), fun h => by cases h⟩
          case o2 =>
            intro x w1 hH K hK
            have e19 : x 19 = _ := hH.holds 1 (by decide) (by decide +kernel) 19 rfl
            obtain ⟨xs, d, rfl⟩ := grow_of_below hH.below
            clear hH
            try simp only [World.grow_drew] at hK ⊢
            try simp only [World.grow_grow] at hK ⊢
            simp only [e19] at hK ⊢
            clear e19
            go_simp
            go_wp2_with fail
            exact ⟨_, rfl, rfl, (by repeat (first | exact below_of_grow _ _ | exact Below.refl _ _ | exact below_more _ _ _ _ | (simp only [← Array.append_assoc]; first | exact below_more _ _ _ _ | exact below_same _ _ _ | exact Below.refl _ _) | exact below_same _ _ _ | (refine Below.alloc ?_ (by first | (simp; done) | (simp; omega)) _) | (refine Below.grow ?_ (by first | (simp; done) | (simp; omega)) _ _) | refine Below.drew ?_ | refine Below.drewN ?_ _ | (refine Below.putF ?_ (by first | (simp; done) | omega | (simp; omega)) _) | (refine Below.setCell ?_ (by first | (simp; done) | (simp; omega)) _))), fun h => by cases h⟩
          case o3 =>
            intro x w1 hH K hK
            have e20 : x 20 = _ := hH.holds 2 (by decide) (by decide +kernel) 20 rfl
            obtain ⟨xs, d, rfl⟩ := grow_of_below hH.below
            clear hH
            try simp only [World.grow_drew] at hK ⊢
            try simp only [World.grow_grow] at hK ⊢
            simp only [e20] at hK ⊢
            clear e20
            go_simp
            go_wp2_with fail
            exact ⟨_, rfl, rfl, (by repeat (first | exact below_of_grow _ _ | exact Below.refl _ _ | exact below_more _ _ _ _ | (simp only [← Array.append_assoc]; first | exact below_more _ _ _ _ | exact below_same _ _ _ | exact Below.refl _ _) | exact below_same _ _ _ | (refine Below.alloc ?_ (by first | (simp; done) | (simp; omega)) _) | (refine Below.grow ?_ (by first | (simp; done) | (simp; omega)) _ _) | refine Below.drew ?_ | refine Below.drewN ?_ _ | (refine Below.putF ?_ (by first | (simp; done) | omega | (simp; omega)) _) | (refine Below.setCell ?_ (by first | (simp; done) | (simp; omega)) _))), fun h => by cases h⟩
          case o4 =>
            intro x w1 hH K hK
            have e21 : x 21 = _ := hH.holds 3 (by decide) (by decide +kernel) 21 rfl
            obtain ⟨xs, d, rfl⟩ := grow_of_below hH.below
            clear hH
            try simp only [World.grow_drew] at hK ⊢
            try simp only [World.grow_grow] at hK ⊢
            simp only [e21] at hK ⊢
            clear e21
            go_simp
            go_wp2_with fail
            exact ⟨_, rfl, rfl, (by repeat (first | exact below_of_grow _ _ | exact Below.refl _ _ | exact below_more _ _ _ _ | (simp only [← Array.append_assoc]; first | exact below_more _ _ _ _ | exact below_same _ _ _ | exact Below.refl _ _) | exact below_same _ _ _ | (refine Below.alloc ?_ (by first | (simp; done) | (simp; omega)) _) | (refine Below.grow ?_ (by first | (simp; done) | (simp; omega)) _ _) | refine Below.drew ?_ | refine Below.drewN ?_ _ | (refine Below.putF ?_ (by first | (simp; done) | omega | (simp; omega)) _) | (refine Below.setCell ?_ (by first | (simp; done) | (simp; omega)) _))), fun h => by cases h⟩
          case o5 =>
            intro x w1 hH K hK
            have e22 : x 22 = _ := hH.holds 4 (by decide) (by decide +kernel) 22 rfl
            obtain ⟨xs, d, rfl⟩ := grow_of_below hH.below
            clear hH
            try simp only [World.grow_drew] at hK ⊢
            try simp only [World.grow_grow] at hK ⊢
            simp only [e22] at hK ⊢
            clear e22
            go_simp
            go_wp2_with fail
            exact ⟨_, rfl, fun w3 h3 => OneK.keep ⟨_, rfl, by rw [heap_al, if_pos (by simp)]⟩ h3, (by repeat (first | exact below_of_grow _ _ | exact Below.refl _ _ | exact below_more _ _ _ _ | (simp only [← Array.append_assoc]; first | exact below_more _ _ _ _ | exact below_same _ _ _ | exact Below.refl _ _) | exact below_same _ _ _ | (refine Below.alloc ?_ (by first | (simp; done) | (simp; omega)) _) | (refine Below.grow ?_ (by first | (simp; done) | (simp; omega)) _ _) | refine Below.drew ?_ | refine Below.drewN ?_ _ | (refine Below.putF ?_ (by first | (simp; done) | omega | (simp; omega)) _) | (refine Below.setCell ?_ (by first | (simp; done) | (simp; omega)) _))), fun h => by cases h⟩
        case hend =>
          intro x w1 hH
          have e18 : x 18 = _ := hH.holds 0 (by decide) trivial 18 rfl
          have e19 : x 19 = _ := hH.holds 1 (by decide) trivial 19 rfl
          have e20 : x 20 = _ := hH.holds 2 (by decide) trivial 20 rfl
          have e21 : x 21 = _ := hH.holds 3 (by decide) trivial 21 rfl
          have e22 : x 22 = _ := hH.holds 4 (by decide) trivial 22 rfl
          have r23 := hH.holds 5 (by decide) trivial 23 rfl (_) (Below.refl _ _)
          obtain ⟨xs, d, rfl⟩ := grow_of_below hH.below
          clear hH
          simp only [e18, e19, e20, e21, e22]; clear e18 e19 e20 e21 e22
          simp only [List.drop_succ_cons, List.drop_zero]
          obtain ⟨v23, hv23⟩ : ∃ v23, v23 = x 23 := ⟨_, rfl⟩
          rw [← hv23] at r23 ⊢
          clear hv23
          have hb4 : Below W3.heap.size W3 (V4.drew.grow xs d) := HB0.out.drew.trans ((below_of_grow (w := V4.drew) xs d).mono HB0.out.size)
          obtain ⟨W4, hW4⟩ : ∃ W4, W4 = V4.drew.grow xs d := ⟨_, rfl⟩
          rw [← hW4] at hb4 r23 ⊢
          have hM : W2.heap.size ≤ W3.heap.size := HI.out.2.2.size
          have hov4 : Boxed W4 ob 129 ov := (hb4.block _ lO).trans HI.out.1
          have how4 := own_below HI.out.2.1 hb4
          clear hW4 hkc4 hal4 cO4 lO4
          refine wpListIn_append (B := W2.heap.size) (xs := ks) (ys := [row8 k.val]) row_keyK rfl (.tmp 18) (.tmp 23) rfl (v := ov) rfl ⟨HKS.out, how4⟩ rfl (r23.sl (by simp [k.property])) ?_ ?_ ?_ ?_
          · intro x hx; simp at hx; subst hx; exact allOne_row8 _
          · simp; omega
          · have := hb4.size; omega
          intro v5 w5 ho hg _
          have hfin := box_append (by omega) hM hov4 how4 hb4 ho hg
          obtain ⟨va, vc, rfl, -, -⟩ := ho.form
          rw [show (ks ++ [row8 k.val]).length = ks.length + 1 by simp] at hfin
          have cO5 := hfin.1.cell
          have fO5 := hfin.1.frozen
          have lO5 := hfin.1.lt
          have HN := Lib.hid hfin
          clear hfin hov4 how4 hb4 ho hg r23
          gi_wp2
          refine ⟨HN.out.2.1, HN.out.2.2.1, ?_, HI.out.2.2.trans HN.out.2.2.1⟩
          rw [HM.out]
          exact HN.out.2.2.2
  case done =>
    rintro D ys W3 hD hys ⟨⟨ov, hov, how, -⟩, hk3⟩ hK
    have hke : keysA p d (valsL ys) = keysA p d (lvs R) := by rw [hys, keysA_front]
    rw [hke] at how
    have hown : OwnA W3 w.heap.size 25 44 ov (keysA p d (lvs R)) := ⟨fun x hx => by
      obtain ⟨y, _, rfl⟩ := List.mem_map.1 hx
      simp [y.2.1.property], own_less how (by omega)⟩
    obtain ⟨va, vc, rfl, -, -⟩ := hown.form
    have cO := hov.cell
    have hb3 : Below w.heap.size w W3 := hbw.trans ⟨hk3.os, hk3.tape, hk3.output, hk3.size, fun b hb => hk3.same b ⟨by omega, by omega⟩⟩
    have HO := Lib.hid (And.intro hown hb3)
    clear hys hov how hk3 hke hown hb3
    gi_wp2
    refine ⟨by simp, .inl ⟨_, _, rfl, run_takeDeferred hK, ?_⟩⟩
    refine ⟨.slice va (keysA p d (lvs R)).length vc, by simp [results, Tryz.results74, go_sem], _, rfl, ?_, ?_⟩
    · exact ⟨HO.out.1.1, ownsRow_putObj HO.out.1.2 _ hK rfl⟩
    · exact HO.out.2.trans (belowK_b (w := W2) (by omega) _ D _ _ (by omega) hK rfl rfl)
  case stop => exact fun D c pre W3 hD hSp h => h.elim
end Go.Proofs.YtfgpcflegodlmaaGreatDoor.Rd
namespace Go.Proofs.YtfgpcflegodlmaaGreatDoor
set_option maxRecDepth 100000
open Go.RowKit Go.Shelf Rd

theorem lvs_eq (R : Option (CT K25)) : lvs R = leavesR R := by cases R <;> rfl
set_option maxHeartbeats 4000000 in
theorem skeys_calls {B s : Nat} {G : SG} (p : K25) (dp : Int) (w : World) (h : StoreAt w B s G) (hlen : (lvs G.R).length ≤ 90000) :
    Calls Tryz.prog 39 #[.pointer (some ⟨s, 0, none⟩), .agg (prefA p dp)] w fun e w' => ∃ v, e = .returned v ∧ OwnA w' w.heap.size 25 44 v (keysA p dp (lvs G.R)) ∧ Below w.heap.size w w' := by
  obtain ⟨c0, _, _, _, _, ls⟩ := h.cells
  have HK := Lib.hid (fun (W : World) (hb : Below w.heap.size w W) => keys_calls p dp G.t G.R G.n W ((h.keep hb).tree) hlen)
  clear h
  go_enter Tryz.func39, Tryz.ntmps39
  go_wp2_with fail
  apply wp_region_specs (by rfl) [.val _, .val _, .val _, .val _, .val _] 5 (by rfl) [7, 8, 9, 10, 11] [] [] (by rfl) (by rfl) (by decide) (by decide +kernel) (fun _ _ _ _ _ h => h)
  case hF => intro x; simp only [over, List.foldl_cons, List.foldl_nil, List.setIfInBounds_toArray, List.set_cons_succ, List.set_cons_zero]; exact rfl
  case hops =>
    refine ⟨?o0, ?o1, ?o2, ?o3, ?o4, trivial⟩
    case o0 =>
      intro x w1 hH K hK
      obtain ⟨xs, d, rfl⟩ := grow_of_below hH.below
      clear hH
      try simp only [World.grow_drew] at hK ⊢
      try simp only [World.grow_grow] at hK ⊢
      go_simp
      go_wp2_with fail
      exact ⟨_, rfl, rfl, (by repeat (first | exact below_of_grow _ _ | exact Below.refl _ _ | exact below_more _ _ _ _ | (simp only [← Array.append_assoc]; first | exact below_more _ _ _ _ | exact below_same _ _ _ | exact Below.refl _ _) | exact below_same _ _ _ | (refine Below.alloc ?_ (by first | (simp; done) | (simp; omega)) _) | (refine Below.grow ?_ (by first | (simp; done) | (simp; omega)) _ _) | refine Below.drew ?_ | refine Below.drewN ?_ _ | (refine Below.putF ?_ (by first | (simp; done) | omega | (simp; omega)) _) | (refine Below.setCell ?_ (by first | (simp; done) | (simp; omega)) _))), fun h => by cases h⟩
    case o1 =>
      intro x w1 hH K hK
      have e7 : x 7 = _ := hH.holds 0 (by decide) (by decide +kernel) 7 rfl
      obtain ⟨xs, d, rfl⟩ := grow_of_below hH.below
      clear hH
      try simp only [World.grow_drew] at hK ⊢
      try simp only [World.grow_grow] at hK ⊢
      simp only [e7] at hK ⊢
      clear e7
      go_simp
      go_wp2_with fail
      exact ⟨_, rfl, rfl, (by repeat (first | exact below_of_grow _ _ | exact Below.refl _ _ | exact below_more _ _ _ _ | (simp only [← Array.append_assoc]; first | exact below_more _ _ _ _ | exact below_same _ _ _ | exact Below.refl _ _) | exact below_same _ _ _ | (refine Below.alloc ?_ (by first | (simp; done) | (simp; omega)) _) | (refine Below.grow ?_ (by first | (simp; done) | (simp; omega)) _ _) | refine Below.drew ?_ | refine Below.drewN ?_ _ | (refine Below.putF ?_ (by first | (simp; done) | omega | (simp; omega)) _) | (refine Below.setCell ?_ (by first | (simp; done) | (simp; omega)) _))), fun h => by cases h⟩
    case o2 =>
      intro x w1 hH K hK
      have e8 : x 8 = _ := hH.holds 1 (by decide) (by decide +kernel) 8 rfl
      obtain ⟨xs, d, rfl⟩ := grow_of_below hH.below
      clear hH
      try simp only [World.grow_drew] at hK ⊢
      try simp only [World.grow_grow] at hK ⊢
      simp only [e8] at hK ⊢
      clear e8
      go_simp
      go_wp2_with fail
      exact ⟨_, rfl, rfl, (by repeat (first | exact below_of_grow _ _ | exact Below.refl _ _ | exact below_more _ _ _ _ | (simp only [← Array.append_assoc]; first | exact below_more _ _ _ _ | exact below_same _ _ _ | exact Below.refl _ _) | exact below_same _ _ _ | (refine Below.alloc ?_ (by first | (simp; done) | (simp; omega)) _) | (refine Below.grow ?_ (by first | (simp; done) | (simp; omega)) _ _) | refine Below.drew ?_ | refine Below.drewN ?_ _ | (refine Below.putF ?_ (by first | (simp; done) | omega | (simp; omega)) _) | (refine Below.setCell ?_ (by first | (simp; done) | (simp; omega)) _))), fun h => by cases h⟩
    case o3 =>
      intro x w1 hH K hK
      have e9 : x 9 = _ := hH.holds 2 (by decide) (by decide +kernel) 9 rfl
      obtain ⟨xs, d, rfl⟩ := grow_of_below hH.below
      clear hH
      try simp only [World.grow_drew] at hK ⊢
      try simp only [World.grow_grow] at hK ⊢
      simp only [e9] at hK ⊢
      clear e9
      go_simp
      go_wp2_with fail
      exact ⟨_, rfl, rfl, (by repeat (first | exact below_of_grow _ _ | exact Below.refl _ _ | exact below_more _ _ _ _ | (simp only [← Array.append_assoc]; first | exact below_more _ _ _ _ | exact below_same _ _ _ | exact Below.refl _ _) | exact below_same _ _ _ | (refine Below.alloc ?_ (by first | (simp; done) | (simp; omega)) _) | (refine Below.grow ?_ (by first | (simp; done) | (simp; omega)) _ _) | refine Below.drew ?_ | refine Below.drewN ?_ _ | (refine Below.putF ?_ (by first | (simp; done) | omega | (simp; omega)) _) | (refine Below.setCell ?_ (by first | (simp; done) | (simp; omega)) _))), fun h => by cases h⟩
    case o4 =>
      intro x w1 hH K hK
      obtain ⟨xs, d, rfl⟩ := grow_of_below hH.below
      clear hH
      try simp only [World.grow_drew] at hK ⊢
      try simp only [World.grow_grow] at hK ⊢
      go_simp
      go_wp2_with fail
      exact ⟨_, rfl, rfl, (by repeat (first | exact below_of_grow _ _ | exact Below.refl _ _ | exact below_more _ _ _ _ | (simp only [← Array.append_assoc]; first | exact below_more _ _ _ _ | exact below_same _ _ _ | exact Below.refl _ _) | exact below_same _ _ _ | (refine Below.alloc ?_ (by first | (simp; done) | (simp; omega)) _) | (refine Below.grow ?_ (by first | (simp; done) | (simp; omega)) _ _) | refine Below.drew ?_ | refine Below.drewN ?_ _ | (refine Below.putF ?_ (by first | (simp; done) | omega | (simp; omega)) _) | (refine Below.setCell ?_ (by first | (simp; done) | (simp; omega)) _))), fun h => by cases h⟩
  case hend =>
    intro x w1 hH
    have e7 : x 7 = _ := hH.holds 0 (by decide) trivial 7 rfl
    have e8 : x 8 = _ := hH.holds 1 (by decide) trivial 8 rfl
    have e9 : x 9 = _ := hH.holds 2 (by decide) trivial 9 rfl
    have e10 : x 10 = _ := hH.holds 3 (by decide) trivial 10 rfl
    have e11 : x 11 = _ := hH.holds 4 (by decide) trivial 11 rfl
    obtain ⟨xs, d, rfl⟩ := grow_of_below hH.below
    clear hH
    simp only [e7, e8, e9, e10, e11]; clear e7 e8 e9 e10 e11
    simp only [List.drop_succ_cons, List.drop_zero]
    have hb : Below w.heap.size w ((w.alloc (.cells (prefA p dp) 52)).grow xs d) := ((Below.refl _ w).alloc (Nat.le_refl _) _).grow (by simp) _ _
    go_wp2_with fail
    refine (HK.out _ hb).mono ?_
    rintro e w2 ⟨v, rfl, ho, hb2⟩
    have HO := Lib.hid (And.intro ho hb2)
    have hz := hb.size
    clear ho hb2
    go_wp2_with fail
    go_ret
    exact ⟨v, rfl, ⟨HO.out.1.1, own_less HO.out.1.2 hz⟩, hb.trans (HO.out.2.mono hz)⟩
/-- the leaves of a prefix's keys -/
def prefL (p : K25) (dp : Int) (R : Option (CT K25)) : List (Nat × K25 × Nat) := (lvs R).filter fun x => hasB p dp x.2.1
set_option maxHeartbeats 4000000 in
theorem each_calls {kp : Obj → Bool} (hkk : ∀ c, kp (.cells c 44) = true) {B s : Nat} {G : SG} (p : K25) (dp : Int) (g : Nat) (caps : Array Value) (eg : ∀ args w, (callFunc g args).run Tryz.prog w = .ok (.enter g args) w)
    (w : World) (hlen : (lvs G.R).length ≤ 90000) (J : List (Nat × K25 × Nat) → World → Prop) (hJS : ∀ pre W, J pre W → StoreAt W B s G) (hJb : ∀ pre W W', J pre W → Below W.heap.size W W' → J pre W')
    (hY : ∀ pre x W, pre ++ [x] <+: prefL p dp G.R → J pre W → w.heap.size ≤ W.heap.size → Calls Tryz.prog g (#[.agg (row8 x.2.1.val), .pointer (some ⟨x.2.2, 0, none⟩)] ++ caps) W fun e W' => (∃ v, e = .returned v) ∧ J (pre ++ [x]) W' ∧ KeepsX kp w.heap.size W W') (h0 : J [] w) :
    Calls Tryz.prog 48 #[.pointer (some ⟨s, 0, none⟩), .agg (prefA p dp), .func (.func g) #[] caps] w fun e W' => (∃ v, e = .returned v) ∧ J (prefL p dp G.R) W' := by
  have HK := Lib.hid (fun (W : World) (h : StoreAt W B s G) => skeys_calls p dp W h hlen)
  have HJ := Lib.hid (And.intro hJS (And.intro hJb (And.intro hY h0)))
  have HG := Lib.hid eg
  have HKK := Lib.hid hkk
  clear hJS hJb hY h0 hlen hkk eg
  go_enter Tryz.func48, Tryz.ntmps48
  go_wp2_with fail
  have hb0 : Below w.heap.size w (w.alloc (.cells (prefA p dp) 52)) := (Below.refl _ w).alloc (Nat.le_refl _) _
  refine (HK.out _ (HJ.out.1 _ _ (HJ.out.2.1 _ _ _ HJ.out.2.2.2 hb0))).mono ?_
  rintro e W1 ⟨kv, rfl, ho, hb1⟩
  have hbw : Below w.heap.size w W1 := hb0.trans (hb1.mono hb0.size)
  have hJ1 := HJ.out.2.1 _ _ _ HJ.out.2.2.2 hbw
  obtain ⟨ka, kc, rfl, -, -⟩ := ho.form
  have hlk : (keysA p dp (lvs G.R)).length = (prefL p dp G.R).length := List.length_map _
  rw [hlk]
  have ho' : OwnA W1 w.heap.size 25 44 (.slice ka (prefL p dp G.R).length kc) ((prefL p dp G.R).map fun x => row8 x.2.1.val) := by
    have h1 : OwnA W1 w.heap.size 25 44 (.slice ka (keysA p dp (lvs G.R)).length kc) (keysA p dp (lvs G.R)) := ⟨ho.1, own_less ho.2 hb0.size⟩
    rw [hlk] at h1
    exact h1
  have hkeep : ∀ W, KeepsX kp w.heap.size W1 W → OwnA W w.heap.size 25 44 (.slice ka (prefL p dp G.R).length kc) ((prefL p dp G.R).map fun x => row8 x.2.1.val) := fun W hk =>
    ho'.keep fun gb hgo hgl => by
      obtain ⟨hB, c, hc⟩ := own_cells ho'.2 gb hgo
      rw [hc]; exact hk.some (HKK.out c) hB hc
  have hN : (prefL p dp G.R).length ≤ maxLen := by
    have := ho'.2.1
    obtain ⟨_, _, he, h2, h3⟩ := ho'.form
    simp only [Value.slice.injEq, List.length_map] at he h3
    omega
  unfold maxLen at hN
  have hls : s < W1.heap.size := (HJ.out.1 _ _ hJ1).cells.2.2.2.2.2
  have hmem : ∀ x ∈ prefL p dp G.R, getR G.R x.2.1 = some x.2.2 := by
    intro x hx
    have hx1 := (List.mem_filter.1 hx).1
    have hS := HJ.out.1 _ _ hJ1
    cases hR : G.R with
    | none => rw [hR] at hx1; simp [lvs] at hx1
    | some T =>
      rw [hR] at hx1
      exact (OkR.get (hS.tree.2 T hR).2 _ _).2 ⟨x.1, hx1⟩
  obtain ⟨L, hL⟩ : ∃ L, L = prefL p dp G.R := ⟨_, rfl⟩
  rw [← hL] at ho' hkeep hN HJ hmem ⊢
  have HLE := Lib.hid hL
  have H1 := Lib.hid (And.intro hJ1 (And.intro hbw (And.intro hkeep hmem)))
  clear hJ1 hbw hkeep hlk ho ho' hb1 hb0 HK hL HKK hmem
  go_wp2_with fail
  go_loopw [12] (fun s12 wr => ∃ i : Nat, i ≤ L.length ∧ s12 = .int .i64 i ∧ Hid (J (L.take i) wr ∧ KeepsX kp w.heap.size W1 wr)) (fun s12 _ => L.length - (intOf s12).toNat)
  case atStart => exact ⟨0, Nat.zero_le _, rfl, Lib.hid ⟨by rw [List.take_zero]; exact H1.out.1, KeepsX.refl _ _⟩⟩
  case round =>
    obtain ⟨i, hi, rfl, HR⟩ := hrel
    by_cases hlt : i < L.length
    · have hltI : (i : Int) < L.length := by omega
      obtain ⟨-, a', cap', he, -, -, hc⟩ := (H1.out.2.2.1 wr HR.out.2).sl
      simp only [Value.slice.injEq, List.length_map, true_and] at he
      obtain ⟨rfl, rfl⟩ := he
      obtain ⟨gb, q0, rfl, hlb, hcut⟩ := hc (by simp; omega)
      have hcutk := hcut i (row8 L[i].2.1.val) (by simp [hlt])
      have htk : L.take (i + 1) = L.take i ++ [L[i]] := List.take_succ_eq_append_getElem hlt
      have hpx : L.take i ++ [L[i]] <+: L := by rw [← htk]; exact List.take_prefix _ _
      have hgm := H1.out.2.2.2 L[i] (List.getElem_mem hlt)
      have HT := Lib.hid (And.intro htk hpx)
      have HS := Lib.hid (HJ.out.1 _ _ HR.out.1)
      generalize L[i] = lf at *
      have HCH := Lib.hid (fun (W : World) (hb : Below wr.heap.size wr W) => by have := (HS.out.keep hb).chain_gives' lf.2.1; rw [hgm] at this; exact this)
      have hlsr : s < wr.heap.size := by have := HR.out.2.size; omega
      have hzr : w.heap.size ≤ wr.heap.size := by have := HR.out.2.size; have := H1.out.2.1.size; omega
      clear hcut hc htk hpx hgm
      go_wp2_with fail
      apply wp_region_specs (by rfl) [.val _, .val _, .val _, .val _, .val _] 5 (by rfl) [16, 17, 18, 19, 20] [] [] (by rfl) (by rfl) (by decide) (by decide +kernel) (fun _ _ _ _ _ h => h)
      case hF => intro x; simp only [over, List.foldl_cons, List.foldl_nil, List.setIfInBounds_toArray, List.set_cons_succ, List.set_cons_zero]; exact rfl
      case hops =>
        refine ⟨?o0, ?o1, ?o2, ?o3, ?o4, trivial⟩
        case o0 =>
          intro x w1 hH K hK
          obtain ⟨xs, d, rfl⟩ := grow_of_below hH.below
          clear hH
          try simp only [World.grow_drew] at hK ⊢
          try simp only [World.grow_grow] at hK ⊢
          go_simp
          go_wp2_with fail
          exact ⟨_, rfl, rfl, (by repeat (first | exact below_of_grow _ _ | exact Below.refl _ _ | exact below_more _ _ _ _ | (simp only [← Array.append_assoc]; first | exact below_more _ _ _ _ | exact below_same _ _ _ | exact Below.refl _ _) | exact below_same _ _ _ | (refine Below.alloc ?_ (by first | (simp; done) | (simp; omega)) _) | (refine Below.grow ?_ (by first | (simp; done) | (simp; omega)) _ _) | refine Below.drew ?_ | refine Below.drewN ?_ _ | (refine Below.putF ?_ (by first | (simp; done) | omega | (simp; omega)) _) | (refine Below.setCell ?_ (by first | (simp; done) | (simp; omega)) _))), fun h => by cases h⟩
        case o1 =>
          intro x w1 hH K hK
          obtain ⟨xs, d, rfl⟩ := grow_of_below hH.below
          clear hH
          try simp only [World.grow_drew] at hK ⊢
          try simp only [World.grow_grow] at hK ⊢
          go_simp
          go_wp2_with fail
          exact ⟨_, rfl, rfl, (by repeat (first | exact below_of_grow _ _ | exact Below.refl _ _ | exact below_more _ _ _ _ | (simp only [← Array.append_assoc]; first | exact below_more _ _ _ _ | exact below_same _ _ _ | exact Below.refl _ _) | exact below_same _ _ _ | (refine Below.alloc ?_ (by first | (simp; done) | (simp; omega)) _) | (refine Below.grow ?_ (by first | (simp; done) | (simp; omega)) _ _) | refine Below.drew ?_ | refine Below.drewN ?_ _ | (refine Below.putF ?_ (by first | (simp; done) | omega | (simp; omega)) _) | (refine Below.setCell ?_ (by first | (simp; done) | (simp; omega)) _))), fun h => by cases h⟩
        case o2 =>
          intro x w1 hH K hK
          obtain ⟨xs, d, rfl⟩ := grow_of_below hH.below
          clear hH
          try simp only [World.grow_drew] at hK ⊢
          try simp only [World.grow_grow] at hK ⊢
          go_simp
          go_wp2_with fail
          exact ⟨_, rfl, rfl, (by repeat (first | exact below_of_grow _ _ | exact Below.refl _ _ | exact below_more _ _ _ _ | (simp only [← Array.append_assoc]; first | exact below_more _ _ _ _ | exact below_same _ _ _ | exact Below.refl _ _) | exact below_same _ _ _ | (refine Below.alloc ?_ (by first | (simp; done) | (simp; omega)) _) | (refine Below.grow ?_ (by first | (simp; done) | (simp; omega)) _ _) | refine Below.drew ?_ | refine Below.drewN ?_ _ | (refine Below.putF ?_ (by first | (simp; done) | omega | (simp; omega)) _) | (refine Below.setCell ?_ (by first | (simp; done) | (simp; omega)) _))), fun h => by cases h⟩
        case o3 =>
          intro x w1 hH K hK
          obtain ⟨xs, d, rfl⟩ := grow_of_below hH.below
          clear hH
          try simp only [World.grow_drew] at hK ⊢
          try simp only [World.grow_grow] at hK ⊢
          go_simp
          go_wp2_with fail
          exact ⟨_, rfl, rfl, (by repeat (first | exact below_of_grow _ _ | exact Below.refl _ _ | exact below_more _ _ _ _ | (simp only [← Array.append_assoc]; first | exact below_more _ _ _ _ | exact below_same _ _ _ | exact Below.refl _ _) | exact below_same _ _ _ | (refine Below.alloc ?_ (by first | (simp; done) | (simp; omega)) _) | (refine Below.grow ?_ (by first | (simp; done) | (simp; omega)) _ _) | refine Below.drew ?_ | refine Below.drewN ?_ _ | (refine Below.putF ?_ (by first | (simp; done) | omega | (simp; omega)) _) | (refine Below.setCell ?_ (by first | (simp; done) | (simp; omega)) _))), fun h => by cases h⟩
        case o4 =>
          intro x w1 hH K hK
          have e18 : x 18 = _ := hH.holds 2 (by decide) (by decide +kernel) 18 rfl
          have e19 : x 19 = _ := hH.holds 3 (by decide) (by decide +kernel) 19 rfl
          obtain ⟨xs, d, rfl⟩ := grow_of_below hH.below
          clear hH
          try simp only [World.grow_drew] at hK ⊢
          try simp only [World.grow_grow] at hK ⊢
          simp only [e18, e19] at hK ⊢
          clear e18 e19
          go_simp
          go_wp2_with (refine Gives.use (HCH.out _ (by repeat (first | exact below_of_grow _ _ | exact Below.refl _ _ | exact below_more _ _ _ _ | (simp only [← Array.append_assoc]; first | exact below_more _ _ _ _ | exact below_same _ _ _ | exact Below.refl _ _) | exact below_same _ _ _ | (refine Below.alloc ?_ (by first | (simp; done) | (simp; omega)) _) | (refine Below.grow ?_ (by first | (simp; done) | (simp; omega)) _ _) | refine Below.drew ?_ | refine Below.drewN ?_ _ | (refine Below.putF ?_ (by first | (simp; done) | omega | (simp; omega)) _) | (refine Below.setCell ?_ (by first | (simp; done) | (simp; omega)) _)))) ?_; intro ys e)
          exact ⟨_, rfl, rfl, (by first | exact below_more _ _ _ _ | exact (by repeat (first | exact below_of_grow _ _ | exact Below.refl _ _ | exact below_more _ _ _ _ | (simp only [← Array.append_assoc]; first | exact below_more _ _ _ _ | exact below_same _ _ _ | exact Below.refl _ _) | exact below_same _ _ _ | (refine Below.alloc ?_ (by first | (simp; done) | (simp; omega)) _) | (refine Below.grow ?_ (by first | (simp; done) | (simp; omega)) _ _) | refine Below.drew ?_ | refine Below.drewN ?_ _ | (refine Below.putF ?_ (by first | (simp; done) | omega | (simp; omega)) _) | (refine Below.setCell ?_ (by first | (simp; done) | (simp; omega)) _)))), fun h => by cases h⟩
      case hend =>
        intro x w1 hH
        have e16 : x 16 = _ := hH.holds 0 (by decide) trivial 16 rfl
        have e17 : x 17 = _ := hH.holds 1 (by decide) trivial 17 rfl
        have e18 : x 18 = _ := hH.holds 2 (by decide) trivial 18 rfl
        have e19 : x 19 = _ := hH.holds 3 (by decide) trivial 19 rfl
        have e20 : x 20 = _ := hH.holds 4 (by decide) trivial 20 rfl
        obtain ⟨xs, d, rfl⟩ := grow_of_below hH.below
        clear hH
        simp only [e16, e17, e18, e19, e20]; clear e16 e17 e18 e19 e20
        simp only [List.drop_succ_cons, List.drop_zero]
        have eg := HG.out
        simp only [optA]
        go_wp2_with fail
        have hb5 : Below wr.heap.size wr ((wr.alloc (.cells (row8 lf.2.1.val) 44)).grow xs d) := ((Below.refl _ wr).alloc (Nat.le_refl _) _).grow (by simp) _ _
        have hz5 := hb5.size
        refine (HJ.out.2.2.1 (L.take i) lf _ HT.out.2 (HJ.out.2.1 _ _ _ HR.out.1 hb5) (by omega)).mono ?_
        rintro e W6 ⟨⟨v6, rfl⟩, h6, k6⟩
        have H6 := Lib.hid (And.intro h6 (And.intro k6 hb5))
        clear h6 k6 hb5 eg hz5
        go_wp2_with fail
        go_roundw
        case rel => exact ⟨i + 1, by omega, by go_num, Lib.hid ⟨by rw [HT.out.1]; exact H6.out.1, HR.out.2.trans ((KeepsX.of_below H6.out.2.2).trans H6.out.2.1)⟩⟩
        case measure => simp [intOf]; omega
    · obtain rfl : i = L.length := by omega
      have hltI : ¬ (L.length : Int) < L.length := by omega
      go_wp2_with fail
      go_end0
      exact ⟨⟨_, rfl⟩, by have := HR.out.1; rwa [List.take_length, HLE.out] at this⟩
end Go.Proofs.YtfgpcflegodlmaaGreatDoor
namespace Go.Proofs.YtfgpcflegodlmaaGreatDoor
set_option maxRecDepth 100000
open Go.RowKit Go.Shelf Rd

@[go_sem] theorem agg_ent : Tryz.prog.aggSize 73 = some 34 := by kernel_rfl
@[go_sem ↓ high] theorem ld_ent (a : Addr) : loadVar 73 a = rowLoad 73 a := rfl
@[go_sem ↓ high] theorem st_ent (a : Addr) (v : Value) : storeVar 73 a v = rowStore 73 a v := rfl
theorem row_entE : RowType Tryz.prog 69 73 34 72 := ⟨Tryz.underlying69, by kernel_rfl, by decide, by decide⟩
theorem entA_parts (e : Ent) : row8 e.k.val ++ recA e.r = entA e := by apply Array.ext'; simp [row8, recA, entA, keyL]
@[go_sem ↓ high] theorem bEnt_eq (f : Nat × Operand → Nat × Value) (p q : Nat × Operand) : Instr.build 73 (Array.map f #[p, q]) = bld2 73 (f p) (f q) := by simp [bld2]
@[go_sem] theorem bEnt_run (k : K25) (r : Rec) (w : World) : (bld2 73 (0, .agg (row8 k.val)) (1, .agg (recA r))).run Tryz.prog w = .ok (.agg (entA ⟨k, r⟩)) w := by
  unfold bld2
  have := build_two (P := Tryz.prog) (w := w) (n := 25) (m := 9) (a := .agg (row8 k.val)) (b := .agg (recA r)) Tryz.zeroValue73 Tryz.underlying73 (by intro w; kernel_rfl) (by simp [Value.cells]) (by simp [Value.cells]) (by rfl)
  rw [this]
  exact congrArg (fun c => Result.ok (Value.agg c) w) (entA_parts ⟨k, r⟩)
def kpT (e : TypeId) : Obj → Bool := fun o => match o with | .cells _ t _ => t != e | _ => true
def kpE : Obj → Bool := kpT 73
/-- an append, then the store back into the box -/
theorem box_put {M ob sz : Nat} {tx e : TypeId} {W4 w5 : World} {ov v5 : Value} {xs zs : List (Array Value)} {W3 : World} (hoM : ob < M) (hM : M ≤ W3.heap.size) (hov : Boxed W4 ob tx ov) (how : OwnA W4 M sz e ov xs) (hb : Below W3.heap.size W3 W4)
    (ho : OwnA w5 M sz e v5 zs) (hg : W4.grownBy w5 ov.ownBlock) : Boxed w5 ob tx ov ∧
      KeepsX (kpT e) M W3 (w5.setCell ⟨ob, 0, none⟩ v5) ∧ KeepS (fun b => b < M ∧ b ≠ ob) W3 (w5.setCell ⟨ob, 0, none⟩ v5) ∧ Boxed (w5.setCell ⟨ob, 0, none⟩ v5) ob tx v5 ∧ OwnA (w5.setCell ⟨ob, 0, none⟩ v5) M sz e v5 zs := by
  have hoc := own_cells how.2
  have hne : some ob ≠ ov.ownBlock := fun e => by have := (hoc ob e.symm).1; omega
  have hbx : Boxed w5 ob tx ov := hov.kept hg hne
  have hbk : ∀ q : Nat, q ≠ ob → (w5.setCell ⟨ob, 0, none⟩ v5).heap[q]? = w5.heap[q]? := fun q hq => Below.heap_setCell w5 ⟨ob, 0, none⟩ v5 q hq
  refine ⟨hbx, ⟨?_, ?_⟩, ⟨?_, ?_, ?_, ?_, ?_⟩, hbx.set v5, ?_⟩
  · have := hb.size; have := hg.size; simp; omega
  · intro k o hk ho2 hkp
    have h4 : W4.heap[k]? = some o := (hb.block k (lt_of_heap ho2)).trans ho2
    rw [hbk k (by omega), hg.block k (lt_of_heap h4) (fun e => ?_), h4]
    obtain ⟨c, hc⟩ := (hoc k e.symm).2
    rw [h4] at hc
    obtain rfl := Option.some.inj hc
    simp [kpT] at hkp
  · exact hg.os.trans hb.os
  · exact hg.tape.trans hb.tape
  · exact hg.output.trans hb.output
  · have := hb.size; have := hg.size; simp; omega
  · rintro b ⟨h1, h2⟩
    have := hb.size
    rw [hbk b h2, hg.block b (by omega) (fun e => by have := (hoc b e.symm).1; omega), hb.block b (by omega)]
  · exact ho.keep fun g hgo hgl => hbk g (fun e => by have := (ho.lt g hgo).1; omega)
/-- a key's entry, if it is seen -/
def entOf (G : SG) (t : UInt64) (k : K25) : List Ent := if (atV (versG G k) t).2 = true then [⟨k, (atV (versG G k) t).1⟩] else []
/-- what a scan has come to -/
structure ScanJ (w0 : World) (B s : Nat) (G : SG) (t : UInt64) (most : Int) (tb ob mb qb M : Nat) (es : List Ent) (W : World) : Prop where
  st : StoreAt W B s G
  bt : Boxed W tb 34 (.int .u64 t.toNat)
  bm : Boxed W mb 3 (.int .i64 most)
  bq : Boxed W qb 4 (.bool (decide (most.toNat < es.length)))
  bo : ∃ ov, Boxed W ob 69 ov ∧ OwnA W M 34 73 ov ((es.take most.toNat).map entA)
  low : Below w0.heap.size w0 W
  size : M ≤ W.heap.size
section
variable {w0 : World} {B s : Nat} {G : SG} {t : UInt64} {most : Int} {tb ob mb qb M : Nat} {es : List Ent} {W W' : World}
theorem _root_.Go.Boxed.bel {W W' : World} {b : Nat} {t : TypeId} {v : Value} (h : Boxed W b t v) (hb : Below W.heap.size W W') : Boxed W' b t v := (hb.block _ h.lt).trans h
theorem ScanJ.below (h : ScanJ w0 B s G t most tb ob mb qb M es W) (hb : Below W.heap.size W W') : ScanJ w0 B s G t most tb ob mb qb M es W' := by
  obtain ⟨ov, h1, h2⟩ := h.bo
  exact ⟨h.st.keep hb, h.bt.bel hb, h.bm.bel hb, h.bq.bel hb, ⟨ov, h1.bel hb, h2.below hb⟩, h.low.trans (hb.mono h.low.size), Nat.le_trans h.size hb.size⟩
theorem OwnA.ne' {w : World} {B sz : Nat} {e : TypeId} {v : Value} {xs : List (Array Value)} (h : OwnA w B sz e v xs) {b : Nat} (hb : b < B) : some b ≠ v.ownBlock := fun e' => by
  have := (h.lt b e'.symm).1; omega
theorem StoreAt.turn {x : Nat} (h : StoreAt W B s G) (hk : KeepS (fun b => b < M ∧ b ≠ x) W W') (hG : x ∉ G.blocks s) (hGM : ∀ b ∈ G.blocks s, b < M) : StoreAt W' B s G :=
  h.keepAll (fun b hb => hk.same b ⟨hGM b hb, fun e => hG (e ▸ hb)⟩) hk.size
theorem Below.turn {x B0 : Nat} (h : Below B0 w0 W) (hk : KeepS (fun b => b < M ∧ b ≠ x) W W') (h1 : B0 ≤ x) (h2 : B0 ≤ M) : Below B0 w0 W' :=
  h.trans ⟨hk.os, hk.tape, hk.output, hk.size, fun b hb => hk.same b ⟨by omega, by omega⟩⟩
theorem _root_.Go.Boxed.turn {x b : Nat} {t : TypeId} {v : Value} (h : Boxed W b t v) (hk : KeepS (fun b => b < M ∧ b ≠ x) W W') (h1 : b < M) (h2 : b ≠ x) : Boxed W' b t v := (hk.same b ⟨h1, h2⟩).trans h
set_option maxHeartbeats 8000000 in
theorem scan1_calls (hGM : ∀ b ∈ G.blocks s, b < M) (hs : Short G 100000) (hd : ob ≠ tb ∧ ob ≠ mb ∧ ob ≠ qb ∧ qb ≠ tb ∧ qb ≠ mb) (hM : tb < M ∧ ob < M ∧ mb < M ∧ qb < M) (h0 : w0.heap.size ≤ ob ∧ w0.heap.size ≤ qb) (hG : ob ∉ G.blocks s ∧ qb ∉ G.blocks s) (hes : es.length ≤ 90000)
    (k : K25) (c : Nat) (hk : getR G.R k = some c) (h : ScanJ w0 B s G t most tb ob mb qb M es W) :
    Calls Tryz.prog 57 #[.agg (row8 k.val), .pointer (some ⟨c, 0, none⟩), .pointer (some ⟨tb, 0, none⟩), .pointer (some ⟨ob, 0, none⟩), .pointer (some ⟨mb, 0, none⟩), .pointer (some ⟨qb, 0, none⟩)] W fun e W' =>
      (∃ v, e = .returned v) ∧ ScanJ w0 B s G t most tb ob mb qb M (es ++ entOf G t k) W' ∧ KeepsX kpE M W W' := by
  have HA := Lib.hid (fun (V : World) (hb : Below W.heap.size W V) => at_gives (some c) (versG G k) (hs k) t V (by have := (h.st.keep hb).chainV k; rw [hk] at this; exact this))
  have HE := Lib.hid (show entOf G t k = if (atV (versG G k) t).2 = true then [⟨k, (atV (versG G k) t).1⟩] else [] from rfl)
  generalize atV (versG G k) t = ap at *
  obtain ⟨r, is_⟩ := ap
  generalize entOf G t k = ek at *
  have HJ := Lib.hid h
  have lt_ := h.bt.lt
  have lo : ob < W.heap.size := by obtain ⟨ov, h1, _⟩ := h.bo; exact h1.lt
  have lm := h.bm.lt
  have lq := h.bq.lt
  have ct := h.bt.cell
  have cm := h.bm.cell
  clear h hs hk
  simp only [optA] at HA
  cases is_ with
  | false =>
    have he : ek = [] := HE.out
    subst he
    go_enter Tryz.func57, Tryz.ntmps57
    go_wp2_with fail
    refine Gives.use (HA.out _ (by repeat (first | exact below_of_grow _ _ | exact Below.refl _ _ | exact below_more _ _ _ _ | (simp only [← Array.append_assoc]; first | exact below_more _ _ _ _ | exact below_same _ _ _ | exact Below.refl _ _) | exact below_same _ _ _ | (refine Below.alloc ?_ (by first | (simp; done) | (simp; omega)) _) | (refine Below.grow ?_ (by first | (simp; done) | (simp; omega)) _ _) | refine Below.drew ?_ | refine Below.drewN ?_ _ | (refine Below.putF ?_ (by first | (simp; done) | omega | (simp; omega)) _) | (refine Below.setCell ?_ (by first | (simp; done) | (simp; omega)) _)))) ?_
    intro xs1 d1
    go_wp2_with fail
    go_end0
    have hb5 : Below W.heap.size W (((W.alloc (.cells (row8 k.val) 44)).grow xs1 d1).alloc (.cells (recA r) 55)) := (((Below.refl _ W).alloc (Nat.le_refl _) _).grow (by simp) _ _).alloc (by simp; omega) _
    exact ⟨⟨_, rfl⟩, by rw [List.append_nil]; exact HJ.out.below hb5, KeepsX.of_below hb5⟩
  | true =>
    have he : ek = [⟨k, r⟩] := HE.out
    subst he
    go_enter Tryz.func57, Tryz.ntmps57
    go_wp2_with fail
    refine Gives.use (HA.out _ (by repeat (first | exact below_of_grow _ _ | exact Below.refl _ _ | exact below_more _ _ _ _ | (simp only [← Array.append_assoc]; first | exact below_more _ _ _ _ | exact below_same _ _ _ | exact Below.refl _ _) | exact below_same _ _ _ | (refine Below.alloc ?_ (by first | (simp; done) | (simp; omega)) _) | (refine Below.grow ?_ (by first | (simp; done) | (simp; omega)) _ _) | refine Below.drew ?_ | refine Below.drewN ?_ _ | (refine Below.putF ?_ (by first | (simp; done) | omega | (simp; omega)) _) | (refine Below.setCell ?_ (by first | (simp; done) | (simp; omega)) _)))) ?_
    intro xs1 d1
    go_upto_block 0 with fail
    refine wp_name ?_
    intro W5 hW5
    obtain ⟨kb, hkb⟩ : ∃ kb, kb = W.heap.size := ⟨_, rfl⟩
    obtain ⟨rb, hrb⟩ : ∃ rb, rb = W.heap.size + 1 + xs1.size := ⟨_, rfl⟩
    have hb5 : Below W.heap.size W W5 := by rw [hW5]; exact (((Below.refl _ W).alloc (Nat.le_refl _) _).grow (by simp) _ _).alloc (by simp; omega) _
    have hk5 : W5.heap[kb]? = some (.cells (row8 k.val) 44) := by
      rw [hW5, hkb, heap_al, if_neg (by simp; omega), World.grow_heap _ _ _ (by simp), heap_al, if_pos rfl]
    have hr5 : W5.heap[rb]? = some (.cells (recA r) 55) := by
      rw [hW5, hrb, heap_al, if_pos (by simp)]
    rw [← hrb, ← hkb]
    have ckk := cut_heap hk5 (by simp : (row8 k.val).size = 25)
    have crr := cut_heap hr5 (recA_size r)
    have lkb := lt_of_heap hk5
    have lrb := lt_of_heap hr5
    have h5 := HJ.out.below hb5
    obtain ⟨ov, hov, how⟩ := h5.bo
    have cm5 := h5.bm.cell
    have lo5 := hov.lt
    have lm5 := h5.bm.lt
    have lq5 := h5.bq.lt
    have cq5 := h5.bq.cell
    have fq5 := h5.bq.frozen
    have H5 := Lib.hid (And.intro h5 hb5)
    have hmz : M ≤ W5.heap.size := h5.size
    have hMW := HJ.out.size
    clear hW5 hkb hrb hb5 hk5 hr5 h5 ct cm HA
    by_cases hlt : (es.length : Int) < most
    · have htk : es.take most.toNat = es := List.take_of_length_le (by omega)
      rw [htk] at how
      obtain ⟨oa, oc, rfl, -, -⟩ := how.form
      rw [List.length_map] at *
      have cO := hov.cell
      have fO := hov.frozen
      have HO := Lib.hid (And.intro hov how)
      clear hov how htk
      go_wp2_with (at_builtin; refine wpList_append (B := M) (xs := es.map entA) (ys := [entA ⟨k, r⟩]) row_entE rfl (.tmp 24) (.tmp 28) rfl rfl ?_ rfl ?_ ?_ ?_ ?_ ?_)
      case refine_1 => exact HO.out.2.alloc _
      case refine_2 => exact ⟨_, sl_one (Nat.le_refl _) (by decide) (cut_heap ((heap_al _ _ _).trans (if_pos rfl)) (entA_size _))⟩
      case refine_3 => intro x hx; simp at hx; subst hx; exact one_entA _
      case refine_4 => simp; omega
      case refine_5 => simp; omega
      intro v5 w5 ho hg _
      have hb6 : Below W5.heap.size W5 (W5.alloc (.cells (entA ⟨k, r⟩) 73)) := (Below.refl _ W5).alloc (Nat.le_refl _) _
      have hfin := box_put (by omega) hmz (HO.out.1.bel hb6) (HO.out.2.alloc _) hb6 ho hg
      obtain ⟨va, vc, rfl, -, -⟩ := ho.form
      rw [show (es.map entA ++ [entA ⟨k, r⟩]).length = es.length + 1 by simp] at *
      have cO5 := hfin.1.cell
      have fO5 := hfin.1.frozen
      have lO5 := hfin.1.lt
      have HN := Lib.hid hfin
      have HLT := Lib.hid hlt
      clear hfin ho hg hb6 cO fO
      go_wp2_with fail
      go_end0
      have hbx := Lib.hid (And.intro H5.out HN.out)
      obtain ⟨⟨g1, g2⟩, -, n1, n2, n3, n4⟩ := hbx.out
      have hlt' := HLT.out
      refine ⟨⟨_, rfl⟩, ⟨StoreAt.turn g1.st n2 hG.1 hGM, g1.bt.turn n2 hM.1 hd.1.symm, g1.bm.turn n2 hM.2.2.1 hd.2.1.symm, ?_, ⟨_, n3, ?_⟩, Below.turn g1.low n2 h0.1 (by omega), Nat.le_trans g1.size n2.size⟩, (KeepsX.of_below g2).trans n1⟩
      · have := g1.bq.turn n2 hM.2.2.2 hd.2.2.1.symm
        rwa [show decide (most.toNat < (es ++ [⟨k, r⟩] : List Ent).length) = decide (most.toNat < es.length) by rw [decide_eq_decide, List.length_append, List.length_singleton]; omega]
      · rw [List.take_of_length_le (by simp; omega)]
        simpa using n4
    · have hn : (es.take most.toNat).length = most.toNat := by rw [List.length_take]; omega
      obtain ⟨oa, oc, rfl, -, -⟩ := how.form
      rw [List.length_map, hn] at *
      have hnI : ¬ (most.toNat : Int) < most := by omega
      have cO := hov.cell
      have HL := Lib.hid hlt
      clear hov how hn hlt
      obtain ⟨mn, hmn⟩ : ∃ mn, mn = most.toNat := ⟨_, rfl⟩
      rw [← hmn] at cO cq5 hnI
      clear hmn
      go_wp2_with fail
      go_end0
      obtain ⟨g1, g2⟩ := H5.out
      have hle := HL.out
      have n2 : KeepS (fun b => b < M ∧ b ≠ qb) W5 (W5.setCell ⟨qb, 0, none⟩ (.bool true)) := ⟨rfl, rfl, rfl, by simp, fun b hb => Below.heap_setCell _ _ _ b hb.2⟩
      obtain ⟨ov, o1, o2⟩ := g1.bo
      refine ⟨⟨_, rfl⟩, ⟨StoreAt.turn g1.st n2 hG.2 hGM, g1.bt.turn n2 hM.1 hd.2.2.2.1.symm, g1.bm.turn n2 hM.2.2.1 hd.2.2.2.2.symm, ?_, ⟨ov, o1.turn n2 hM.2.1 hd.2.2.1, ?_⟩, Below.turn g1.low n2 h0.2 (by omega), Nat.le_trans g1.size n2.size⟩, (KeepsX.of_below g2).trans (KeepsX.setCell _ hM.2.2.2)⟩
      · rw [show decide (most.toNat < (es ++ [⟨k, r⟩] : List Ent).length) = true by rw [decide_eq_true_eq, List.length_append, List.length_singleton]; omega]
        exact g1.bq.set (.bool true)
      · rw [List.take_append_of_le_length (by omega)]
        exact o2.keep fun g hgo hgl => Below.heap_setCell _ _ _ g (fun e => by have := (o2.lt g hgo).1; have e' : g = qb := e; omega)
/-- what is seen of some leaves' keys -/
def scanE (G : SG) (t : UInt64) (L : List (Nat × K25 × Nat)) : List Ent := (L.map fun x => entOf G t x.2.1).flatten
theorem scanE_more (G : SG) (t : UInt64) (L : List (Nat × K25 × Nat)) (x : Nat × K25 × Nat) : scanE G t (L ++ [x]) = scanE G t L ++ entOf G t x.2.1 := by simp [scanE]
theorem scanE_len (G : SG) (t : UInt64) : ∀ L : List (Nat × K25 × Nat), (scanE G t L).length ≤ L.length
  | [] => Nat.le_refl _
  | x :: L => by
    have := scanE_len G t L
    have h1 : (entOf G t x.2.1).length ≤ 1 := by unfold entOf; split <;> simp
    have e : scanE G t (x :: L) = entOf G t x.2.1 ++ scanE G t L := by simp [scanE]
    rw [e, List.length_append, List.length_cons]; omega
set_option maxHeartbeats 4000000 in
theorem scan_calls (p : K25) (dp : Int) (h : StoreAt W B s G) (hs : Short G 100000) (hlen : (lvs G.R).length ≤ 90000) (t : UInt64) (most : Int) :
    Calls Tryz.prog 25 #[.pointer (some ⟨s, 0, none⟩), .agg (prefA p dp), .int .u64 t.toNat, .int .i64 most] W fun e W' =>
      ∃ v, e = .returned (.tuple #[v, .bool (decide (most.toNat < (scanE G t (prefL p dp G.R)).length))]) ∧ OwnA W' W.heap.size 34 73 v (((scanE G t (prefL p dp G.R)).take most.toNat).map entA) ∧ Below W.heap.size W W' := by
  have HS := Lib.hid (And.intro h (And.intro hs hlen))
  have hmf : ∀ (fn : Fn) (first cap : Array Value) (w : World), (Instr.makeFunc fn first cap).run Tryz.prog w = .ok (.func fn first cap) w := fun _ _ _ _ => rfl
  clear h hs hlen
  go_enter Tryz.func25, Tryz.ntmps25
  go_wp2_with fail
  obtain ⟨W5, hW5⟩ : ∃ W5, W5 = (((((W.alloc (.cells (prefA p dp) 52)).alloc (.cells #[.int .u64 t.toNat] 34)).alloc (.cells #[.int .i64 most] 3)).alloc (.cells #[.slice none 0 0] 69)).alloc (.cells #[.bool false] 4)) := ⟨_, rfl⟩
  rw [← hW5]
  obtain ⟨n, hn⟩ : ∃ n, n = W.heap.size := ⟨_, rfl⟩
  have hb5 : Below W.heap.size W W5 := by rw [hW5]; exact (((((Below.refl _ W).alloc (Nat.le_refl _) _).alloc (by simp) _).alloc (by simp; omega) _).alloc (by simp; omega) _).alloc (by simp; omega) _
  have hz5 : W5.heap.size = n + 5 := by rw [hW5, hn]; simp
  have bt : Boxed W5 (n + 1) 34 (.int .u64 t.toNat) := by rw [hW5, hn]; show _ = _; rw [heap_al, if_neg (by simp), heap_al, if_neg (by simp), heap_al, if_neg (by simp), heap_al, if_pos (by simp)]
  have bm : Boxed W5 (n + 2) 3 (.int .i64 most) := by rw [hW5, hn]; show _ = _; rw [heap_al, if_neg (by simp), heap_al, if_neg (by simp), heap_al, if_pos (by simp)]
  have bo : Boxed W5 (n + 3) 69 (.slice none 0 0) := by rw [hW5, hn]; show _ = _; rw [heap_al, if_neg (by simp), heap_al, if_pos (by simp)]
  have bq : Boxed W5 (n + 4) 4 (.bool false) := by rw [hW5, hn]; show _ = _; rw [heap_al, if_pos (by simp)]
  have hS5 := HS.out.1.keep hb5
  have hlow : ∀ b ∈ G.blocks s, b < n := fun b hb => by have := HS.out.1.lt b hb; omega
  have h0 : ScanJ W B s G t most (n + 1) (n + 3) (n + 2) (n + 4) (n + 5) [] W5 :=
    ⟨hS5, bt, bm, by simpa using bq, ⟨_, bo, by simpa using OwnA.nil _ _ _ _⟩, hb5, by omega⟩
  have he := each_calls (kp := kpE) (fun _ => rfl) p dp 57 #[.pointer (some ⟨n + 1, 0, none⟩), .pointer (some ⟨n + 3, 0, none⟩), .pointer (some ⟨n + 2, 0, none⟩), .pointer (some ⟨n + 4, 0, none⟩)] (enters_of Tryz.func57 (by kernel_rfl) rfl) W5 HS.out.2.2
    (fun pre V => ScanJ W B s G t most (n + 1) (n + 3) (n + 2) (n + 4) (n + 5) (scanE G t pre) V) (fun pre V h => h.st) (fun pre V V' h hb => h.below hb)
    (fun pre x V hpx h hV => by
      have hxm : x ∈ prefL p dp G.R := hpx.subset (by simp)
      have hx1 := (List.mem_filter.1 hxm).1
      have hl : (scanE G t pre).length ≤ 90000 := by
        have h1 := scanE_len G t pre
        have h2 := hpx.length_le
        have h3 : (prefL p dp G.R).length ≤ (lvs G.R).length := List.length_filter_le _ _
        have := HS.out.2.2
        simp at h2; omega
      have hg : getR G.R x.2.1 = some x.2.2 := by
        cases hR : G.R with
        | none => rw [hR] at hx1; simp [lvs] at hx1
        | some T => rw [hR] at hx1; exact (OkR.get (HS.out.1.tree.2 T hR).2 _ _).2 ⟨x.1, hx1⟩
      rw [scanE_more, hz5]
      exact scan1_calls (fun b hb => by have := hlow b hb; omega) HS.out.2.1 (by omega) (by omega) (by omega) ⟨fun hm => by have := hlow _ hm; omega, fun hm => by have := hlow _ hm; omega⟩ hl x.2.1 x.2.2 hg h) h0
  rw [show W.heap.size + 1 + 1 + 1 + 1 = n + 4 by omega, show W.heap.size + 1 + 1 + 1 = n + 3 by omega, show W.heap.size + 1 + 1 = n + 2 by omega, show W.heap.size + 1 = n + 1 by omega]
  have HE := Lib.hid he
  have HN := Lib.hid hn
  clear he h0 hS5 bt bm bo bq hb5 hlow hW5 hn hz5
  refine HE.out.mono ?_
  rintro e W6 ⟨⟨v, rfl⟩, h6⟩
  obtain ⟨ov, o1, o2⟩ := h6.bo
  obtain ⟨oa, oc, rfl, -, -⟩ := o2.form
  rw [List.length_map] at o1 o2
  have c1 := o1.cell
  have c2 := h6.bq.cell
  have l1 := o1.lt
  have l2 := h6.bq.lt
  have HR := Lib.hid (And.intro h6.low o2)
  clear h6 o1 o2 HE
  obtain ⟨qv, hqv⟩ : ∃ qv, qv = decide (most.toNat < (scanE G t (prefL p dp G.R)).length) := ⟨_, rfl⟩
  obtain ⟨ls, hls⟩ : ∃ ls, ls = (scanE G t (prefL p dp G.R)).take most.toNat := ⟨_, rfl⟩
  rw [← hqv] at c2
  rw [← hls] at c1 HR
  have HQ := Lib.hid (And.intro hqv hls)
  clear hqv hls
  go_wp2_with fail
  apply wp_region_specs (by rfl) [.val _, .val _, .val _] 3 (by rfl) [16, 17, 8] [] [] (by rfl) (by rfl) (by decide) (by decide +kernel) (fun _ _ _ _ _ h => h)
  case hF => intro x; simp only [over, List.foldl_cons, List.foldl_nil, List.setIfInBounds_toArray, List.set_cons_succ, List.set_cons_zero]; exact rfl
  case hops =>
    refine ⟨?o0, ?o1, ?o2, trivial⟩
    case o0 =>
      intro x w1 hH K hK
      obtain ⟨xs, d, rfl⟩ := grow_of_below hH.below
      clear hH
      try simp only [World.grow_drew] at hK ⊢
      try simp only [World.grow_grow] at hK ⊢
      go_simp
      go_wp2_with fail
      exact ⟨_, rfl, rfl, (by repeat (first | exact below_of_grow _ _ | exact Below.refl _ _ | exact below_more _ _ _ _ | (simp only [← Array.append_assoc]; first | exact below_more _ _ _ _ | exact below_same _ _ _ | exact Below.refl _ _) | exact below_same _ _ _ | (refine Below.alloc ?_ (by first | (simp; done) | (simp; omega)) _) | (refine Below.grow ?_ (by first | (simp; done) | (simp; omega)) _ _) | refine Below.drew ?_ | refine Below.drewN ?_ _ | (refine Below.putF ?_ (by first | (simp; done) | omega | (simp; omega)) _) | (refine Below.setCell ?_ (by first | (simp; done) | (simp; omega)) _))), fun h => by cases h⟩
    case o1 =>
      intro x w1 hH K hK
      obtain ⟨xs, d, rfl⟩ := grow_of_below hH.below
      clear hH
      try simp only [World.grow_drew] at hK ⊢
      try simp only [World.grow_grow] at hK ⊢
      go_simp
      go_wp2_with fail
      exact ⟨_, rfl, rfl, (by repeat (first | exact below_of_grow _ _ | exact Below.refl _ _ | exact below_more _ _ _ _ | (simp only [← Array.append_assoc]; first | exact below_more _ _ _ _ | exact below_same _ _ _ | exact Below.refl _ _) | exact below_same _ _ _ | (refine Below.alloc ?_ (by first | (simp; done) | (simp; omega)) _) | (refine Below.grow ?_ (by first | (simp; done) | (simp; omega)) _ _) | refine Below.drew ?_ | refine Below.drewN ?_ _ | (refine Below.putF ?_ (by first | (simp; done) | omega | (simp; omega)) _) | (refine Below.setCell ?_ (by first | (simp; done) | (simp; omega)) _))), fun h => by cases h⟩
    case o2 =>
      intro x w1 hH K hK
      have e16 : x 16 = _ := hH.holds 0 (by decide) (by decide +kernel) 16 rfl
      obtain ⟨xs, d, rfl⟩ := grow_of_below hH.below
      clear hH
      try simp only [World.grow_drew] at hK ⊢
      try simp only [World.grow_grow] at hK ⊢
      simp only [e16] at hK ⊢
      clear e16
      go_simp
      go_wp2_with fail
      exact ⟨_, rfl, rfl, (by repeat (first | exact below_of_grow _ _ | exact Below.refl _ _ | exact below_more _ _ _ _ | (simp only [← Array.append_assoc]; first | exact below_more _ _ _ _ | exact below_same _ _ _ | exact Below.refl _ _) | exact below_same _ _ _ | (refine Below.alloc ?_ (by first | (simp; done) | (simp; omega)) _) | (refine Below.grow ?_ (by first | (simp; done) | (simp; omega)) _ _) | refine Below.drew ?_ | refine Below.drewN ?_ _ | (refine Below.putF ?_ (by first | (simp; done) | omega | (simp; omega)) _) | (refine Below.setCell ?_ (by first | (simp; done) | (simp; omega)) _))), fun h => by cases h⟩
  case hend =>
    intro x w1 hH
    have e16 : x 16 = _ := hH.holds 0 (by decide) trivial 16 rfl
    have e17 : x 17 = _ := hH.holds 1 (by decide) trivial 17 rfl
    have e8 : x 8 = _ := hH.holds 2 (by decide) trivial 8 rfl
    obtain ⟨xs, d, rfl⟩ := grow_of_below hH.below
    clear hH
    simp only [e16, e17, e8]; clear e16 e17 e8
    simp only [List.drop_succ_cons, List.drop_zero]
    go_wp2_with fail
    have hb := below_of_grow (w := W6) xs d
    refine bodyPost_ret (v := .tuple #[.slice oa ls.length oc, .bool qv]) (by simp [results, Tryz.results25, go_sem]) rfl ⟨_, by rw [HQ.out.1], ?_, ?_⟩
    · rw [← HQ.out.2]
      exact ⟨HR.out.2.1, own_less (own_below HR.out.2.2 hb) (by have := HN.out; omega)⟩
    · exact HR.out.1.trans (hb.mono HR.out.1.size)
end
end Go.Proofs.YtfgpcflegodlmaaGreatDoor
namespace Go.Proofs.YtfgpcflegodlmaaGreatDoor
set_option maxRecDepth 100000
open Go.RowKit Rd

theorem dn_snoc (vs : List Ver) (v : Ver) : dn (vs ++ [v]) (vs ++ [v]).length = (vs.length, v) :: dn vs vs.length := by
  unfold dn
  rw [List.length_append, List.length_singleton, List.range_succ_eq_map, List.map_cons, List.map_map]
  congr 1
  · simp [List.getD_eq_getElem?_getD]
  · apply List.map_congr_left
    intro j hj
    rw [List.mem_range] at hj
    simp only [Function.comp]
    rw [show vs.length + 1 - 1 - (j + 1) = vs.length - 1 - j by omega]
    congr 1
    rw [List.getD_eq_getElem?_getD, List.getD_eq_getElem?_getD, List.getElem?_append_left (by omega)]
theorem atV_skip (vs : List Ver) (v : Ver) (t : UInt64) (h : ¬ v.at_ ≤ t) : atV (vs ++ [v]) t = atV vs t := by
  have hs : seenO (vs ++ [v]) t = seenO vs t := by
    unfold seenO
    rw [dn_snoc, List.find?_cons_of_neg (by simpa using h)]
  unfold atV
  rw [hs]
  cases hi : seenO vs t with
  | none => rfl
  | some i =>
    simp only
    have hl := seenO_lt hi
    rw [List.getD_eq_getElem?_getD, List.getElem?_append_left hl, ← List.getD_eq_getElem?_getD]
theorem atV_apply {a : UInt64} {l : List Wr} (hn : (l.map (·.k)).Nodup) (f : K25 → List Ver) (k : K25) (t : UInt64) (h : ¬ a ≤ t) : atV (applyL a f l k) t = atV (f k) t := by
  by_cases hk : k ∈ l.map (·.k)
  · obtain ⟨x, hx, rfl⟩ := List.mem_map.1 hk
    rw [applyL_one a l f hn x hx, atV_skip _ _ _ (show ¬ (verOf a x).at_ ≤ t from h)]
  · rw [applyL_other a l f k (fun x hx e => hk (List.mem_map.2 ⟨x, hx, e⟩))]
/-- a store behind some calls, and how many leaves it has -/
structure Fine3 (n : Nat) (G : SG) : Prop where
  fine : Fine n G
  lvs : (lvs G.R).length ≤ 16 * n
theorem Fine3.short {n : Nat} {G : SG} (h : Fine3 n G) (hn : n ≤ 1000) : Short G 100000 := fun k => Nat.le_trans (h.fine.inv.short k) (by omega)
section
variable {w : World} {B s : Nat} {G : SG}
theorem pub_any3 {n : Nat} (hn : n ≤ 900) (h : StoreAt w B s G) (hf : Fine3 n G) (lv : Value) (l : List Wr) (hl : SlA w w.heap.size 35 lv (l.map wrtA)) (ho : OutS s G lv) :
    Calls Tryz.prog 15 #[.pointer (some ⟨s, 0, none⟩), lv] w fun e w' => (∃ a b, e = .returned (.tuple #[.int .u64 a, .int .i64 b])) ∧ ∃ G', StoreAt w' B s G' ∧ Evo s w G w' G' ∧ Fine3 (n + 1) G' ∧
      G.last.toNat ≤ G'.last.toNat ∧ ∀ k t, t.toNat ≤ G.last.toNat → atV (versG G' k) t = atV (versG G k) t := by
  have hlv : -1000000 ≤ G.live ∧ G.live ≤ 1000000 := by have := hf.fine.low; have := hf.fine.high; omega
  by_cases he : pubE (versG G) G.live l = 0
  · have hlst := hf.fine.last
    have hl1 : (G.last + 1).toNat = G.last.toNat + 1 := by rw [UInt64.toNat_add]; simp; omega
    have hck : checkE l = 0 := by
      unfold pubE at he
      split at he
      · rename_i hc; exact hc
      · exact he
    have hsp := checkE_spec hck
    have hbd := moreI_bound (versG G) l 0
    refine (publish_yesL (G.last + 1) hl1 h (hf.fine.inv.more (by omega)) (by omega) hlv lv l hl ho he).mono ?_
    rintro e w' ⟨rfl, G', g1, g2, g3, g4, g5⟩
    refine ⟨⟨_, _, rfl⟩, G', g1, g2, ⟨⟨?_, ?_, ?_, ?_⟩, ?_⟩, ?_, ?_⟩
    · rw [show versG G' = applyL (G.last + 1) (versG G) l from funext g5, g3.1]
      exact hf.fine.inv.apply hl1 hsp.2.2
    · rw [g3.1]; omega
    · have := hf.fine.low; rw [g4]; unfold moreI; omega
    · have := hf.fine.high; rw [g4]; unfold moreI; omega
    · have h1 := hf.lvs
      have h2 := g3.2
      rw [lvs_eq] at h1 ⊢
      omega
    · rw [g3.1]; omega
    · intro k t ht
      rw [g5]
      exact atV_apply hsp.2.2 _ _ _ (fun hle => by rw [UInt64.le_iff_toNat_le] at hle; omega)
  · refine (publish_no h (fun k => Nat.le_trans (hf.fine.inv.short k) (by omega)) hlv lv l hl he).mono ?_
    rintro e w' ⟨rfl, hb⟩
    exact ⟨⟨_, _, rfl⟩, G, h.keep hb, Evo.grow G hb, ⟨⟨hf.fine.inv.more (by omega), by have := hf.fine.last; omega, by have := hf.fine.low; omega, by have := hf.fine.high; omega⟩, by have := hf.lvs; omega⟩, Nat.le_refl _, fun _ _ _ => rfl⟩
/-! a list in order is told by its members -/
def EntB (x y : Ent) : Prop := Bef x.k.val y.k.val
theorem sorted_eq : ∀ {l m : List Ent}, l.Pairwise EntB → m.Pairwise EntB → (∀ e, e ∈ l ↔ e ∈ m) → l = m
  | [], [], _, _, _ => rfl
  | [], b :: m, _, _, h => by have := (h b).2 List.mem_cons_self; simp at this
  | a :: l, [], _, _, h => by have := (h a).1 List.mem_cons_self; simp at this
  | a :: l, b :: m, hl, hm, h => by
    rw [List.pairwise_cons] at hl hm
    have hab : a = b := by
      rcases List.mem_cons.1 ((h a).1 List.mem_cons_self) with e | h1
      · exact e
      · rcases List.mem_cons.1 ((h b).2 List.mem_cons_self) with e | h2
        · exact e.symm
        · exact absurd (hm.1 a h1) (Bef.asymm (hl.1 b h2))
    subst hab
    rw [sorted_eq hl.2 hm.2 fun e => ⟨fun he => ?_, fun he => ?_⟩]
    · rcases List.mem_cons.1 ((h e).1 (List.mem_cons_of_mem _ he)) with rfl | h1
      · exact absurd (hl.1 e he) (Bef.irrefl _)
      · exact h1
    · rcases List.mem_cons.1 ((h e).2 (List.mem_cons_of_mem _ he)) with rfl | h1
      · exact absurd (hm.1 e he) (Bef.irrefl _)
      · exact h1
theorem mem_scanE {t : UInt64} {L : List (Nat × K25 × Nat)} {e : Ent} : e ∈ scanE G t L ↔ (∃ x ∈ L, x.2.1 = e.k) ∧ atV (versG G e.k) t = (e.r, true) := by
  unfold scanE
  rw [List.mem_flatten]
  constructor
  · rintro ⟨l, hl, he⟩
    obtain ⟨x, hx, rfl⟩ := List.mem_map.1 hl
    unfold entOf at he
    split at he
    · rename_i hh
      rw [List.mem_singleton] at he
      subst he
      exact ⟨⟨x, hx, rfl⟩, Prod.ext rfl hh⟩
    · simp at he
  · rintro ⟨⟨x, hx, hk⟩, ha⟩
    refine ⟨entOf G t x.2.1, List.mem_map.2 ⟨x, hx, rfl⟩, ?_⟩
    unfold entOf
    rw [hk, ha, if_pos rfl, List.mem_singleton]
theorem scanE_sorted (t : UInt64) : ∀ {L : List (Nat × K25 × Nat)}, (L.Pairwise fun x y => Bef x.2.1.val y.2.1.val) → (scanE G t L).Pairwise EntB
  | [], _ => List.Pairwise.nil
  | x :: L, h => by
    rw [List.pairwise_cons] at h
    have e : scanE G t (x :: L) = entOf G t x.2.1 ++ scanE G t L := by simp [scanE]
    rw [e, List.pairwise_append]
    refine ⟨?_, scanE_sorted t h.2, ?_⟩
    · unfold entOf; split <;> simp
    · intro a ha b hb
      obtain ⟨⟨y, hy, hyk⟩, _⟩ := mem_scanE.1 hb
      unfold entOf at ha
      split at ha
      · rw [List.mem_singleton] at ha
        subst ha
        unfold EntB
        rw [← hyk]
        exact h.1 y hy
      · simp at ha
theorem prefL_sorted (h : StoreAt w B s G) (p : K25) (dp : Int) : (prefL p dp G.R).Pairwise fun x y => Bef x.2.1.val y.2.1.val := by
  unfold prefL
  apply List.Pairwise.filter
  cases hR : G.R with
  | none => exact List.Pairwise.nil
  | some T => exact list_sorted (f := keyBytes) (h.tree.2 T hR).2
theorem atV_nil (t : UInt64) : atV [] t = (Rec.zero, false) := rfl
theorem mem_scan (h : StoreAt w B s G) (p : K25) (dp : Int) (t : UInt64) (e : Ent) : e ∈ scanE G t (prefL p dp G.R) ↔ hasB p dp e.k = true ∧ atV (versG G e.k) t = (e.r, true) := by
  rw [mem_scanE]
  constructor
  · rintro ⟨⟨x, hx, hk⟩, ha⟩
    exact ⟨by rw [← hk]; exact (List.mem_filter.1 hx).2, ha⟩
  · rintro ⟨hb, ha⟩
    refine ⟨?_, ha⟩
    cases hg : getR G.R e.k with
    | none =>
      have hv : versG G e.k = [] := by unfold versG; rw [hg]
      rw [hv, atV_nil] at ha
      exact absurd (congrArg Prod.snd ha) (by simp)
    | some c =>
      cases hR : G.R with
      | none => rw [hR] at hg; cases hg
      | some T =>
        rw [hR] at hg
        obtain ⟨a, ha2⟩ := (OkR.get (h.tree.2 T hR).2 _ _).1 hg
        exact ⟨(a, e.k, c), List.mem_filter.2 ⟨ha2, hb⟩, rfl⟩
theorem scan_stays {w' : World} {G' : SG} (h : StoreAt w B s G) (h' : StoreAt w' B s G') (p : K25) (dp : Int) (t : UInt64) (ha : ∀ k, atV (versG G' k) t = atV (versG G k) t) : scanE G' t (prefL p dp G'.R) = scanE G t (prefL p dp G.R) :=
  sorted_eq (scanE_sorted t (prefL_sorted h' p dp)) (scanE_sorted t (prefL_sorted h p dp)) fun e => by rw [mem_scan h', mem_scan h, ha]
theorem slast_gives (h : StoreAt w B s G) : Gives Tryz.prog 16 #[.pointer (some ⟨s, 0, none⟩)] w (.int .u64 G.last.toNat) := by
  obtain ⟨c0, c1, c2, -, -, ls⟩ := h.cells
  clear h
  unfold Gives
  go_enter Tryz.func16, Tryz.ntmps16
  go_wp2_with fail
  go_ret
  exact ⟨rfl, (by repeat (first | exact below_of_grow _ _ | exact Below.refl _ _ | exact below_more _ _ _ _ | (simp only [← Array.append_assoc]; first | exact below_more _ _ _ _ | exact below_same _ _ _ | exact Below.refl _ _) | exact below_same _ _ _ | (refine Below.alloc ?_ (by first | (simp; done) | (simp; omega)) _) | (refine Below.grow ?_ (by first | (simp; done) | (simp; omega)) _ _) | refine Below.drew ?_ | refine Below.drewN ?_ _ | (refine Below.putF ?_ (by first | (simp; done) | omega | (simp; omega)) _) | (refine Below.setCell ?_ (by first | (simp; done) | (simp; omega)) _)))⟩
end
end Go.Proofs.YtfgpcflegodlmaaGreatDoor
namespace Go.Proofs.YtfgpcflegodlmaaGreatDoor
set_option maxRecDepth 100000
open Go.RowKit Go.ChangeShapes Go.WideShapes

theorem flat_ent : FlatType Tryz.prog 73 (byteKinds 25 ++ recKs) := ⟨by kernel_rfl, by kernel_rfl, agg_ent⟩
@[go_sem ↓ high] theorem eq_ent (a b : Ent) (w : World) : (Op.equalIn 10000 73 (.agg (entA a)) (.agg (entA b))).run Tryz.prog w = .ok (decide (a = b)) w :=
  eq_of_flat (f := fun e : Ent => keyL e.k ++ recL e.r) (g := fun e => keyLs e.k ++ recLs e.r) flat_ent (fun e => (key_fit _).append (rec_fit _)) (fun a b h => by
    have hl : (keyLs a.k).length = (keyLs b.k).length := by rw [(key_fit a.k).l, (key_fit b.k).l]
    obtain ⟨h1, h2⟩ := List.append_inj h hl
    have e1 := key_inj h1
    have e2 := rec_inj h2
    cases a; cases b; simp only at e1 e2; subst e1 e2; rfl) a b w
theorem out_own {w : World} {B s sz : Nat} {G : SG} {e : TypeId} {v : Value} {xs : List (Array Value)} {W : World} (h : OwnA W w.heap.size sz e v xs) (hS : StoreAt w B s G) : OutS s G v := by
  intro b o n c he _ hm
  have := hS.lt b hm
  have h2 := (h.lt b (by rw [he]; rfl)).1
  omega
theorem u64_read {w : World} {v : Value} (h : Reads Tryz.prog w 34 v) : ∃ t : UInt64, v = .int .u64 t.toNat := by
  obtain ⟨n, rfl, _⟩ := h.int Tryz.underlying34
  obtain ⟨t, ht⟩ := FitsAll.u64 (h.flat 1 (ks := [CK.i .u64]) (by kernel_rfl))
  simp [Value.cells] at ht
  exact ⟨t, by rw [ht]⟩
theorem key_read {w : World} {v : Value} (h : Reads Tryz.prog w 44 v) : ∃ k : K25, v = .agg (row8 k.val) := by
  have hf := h.flat 5 (ks := List.replicate 25 (CK.i .u8)) (by kernel_rfl)
  obtain ⟨cs, rfl⟩ := h.agg Tryz.underlying44
  obtain ⟨k, hk⟩ := FitsAll.key hf
  refine ⟨k, congrArg Value.agg (Array.ext' ?_)⟩
  exact hk
theorem pref_read {w : World} {v : Value} (h : Reads Tryz.prog w 52 v) : ∃ (k : K25) (d : Int), v = .agg (prefA k d) := by
  have hf := h.flat 6 (ks := List.replicate 25 (CK.i .u8) ++ [CK.i .i64]) (by kernel_rfl)
  obtain ⟨cs, rfl⟩ := h.agg Tryz.underlying52
  obtain ⟨x, y, e, hx, hy⟩ := FitsAll.split hf
  obtain ⟨k, rfl⟩ := FitsAll.key hx
  obtain ⟨d, rfl, _⟩ := FitsAll.int hy
  exact ⟨k, d, congrArg Value.agg (Array.ext' (by unfold prefA; rw [Array.toList_append]; exact e))⟩
theorem writes_read {w : World} {v : Value} (h : Reads Tryz.prog w 22 v) : ∃ l : List Wr, SlA w w.heap.size 35 v (l.map wrtA) := by
  obtain ⟨u, l, hu, h1⟩ := writes_tr h.tr
  have huv : u = v := by
    obtain ⟨⟨base, hv⟩, _⟩ := h
    obtain ⟨a0, len, cap, rfl⟩ := okWide_slice Tryz.underlying22 hv
    simp [Value.cells] at hu
    exact hu.symm
  subst huv
  exact ⟨l, h1⟩
section
variable {w w' : World} {B s : Nat} {G G' : SG}
/-- a block that is none of the store's stays as it is, and none of the store's -/
theorem Evo.out {b : Nat} (he : Evo s w G w' G') (hb : b < w.heap.size) (hn : b ∉ G.blocks s) : w'.heap[b]? = w.heap[b]? ∧ b ∉ G'.blocks s :=
  ⟨he.1.same b hb hn, fun hm => by
    rcases he.2 b hm with h | h
    · exact hn h
    · omega⟩
/-- any slice whose writes are cut -/
theorem cutW_len (l : List Wr) : (cutW l).length ≤ 20 := by unfold cutW; simp; omega
end
end Go.Proofs.YtfgpcflegodlmaaGreatDoor

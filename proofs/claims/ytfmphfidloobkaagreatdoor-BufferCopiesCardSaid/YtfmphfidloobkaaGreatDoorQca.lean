/- Layer 17: a prefix is guarded in a buffer. -/
import Derived.Test.YtfmphfidloobkaaGreatDoorQbz
import Derived.Test.YtfmphfidloobkaaGreatDoorQbr
import Derived.BigRegion
import Derived.Deep.CutBlock
import Derived.Deep.Cut
import Derived.Handy
import Derived.Test.YtfmphfidloobkaaGreatDoorQbo
import Derived.Deep.LoopGhost
namespace Go.Proofs.YtfmphfidloobkaaGreatDoor.Dn
set_option maxRecDepth 100000
open Go.RowKit Go.Shelf

@[go_sem] theorem one_prefAB (k : K25) (d : Int) : allOne (prefA k d) = true := one_prefP (k, d)
/-- a new block with one thing -/
def OneAt (B : Nat) (x : Array Value) (v : Value) (w : World) : Prop := ∃ q t, v = .slice (some ⟨q, 0, none⟩) 1 1 ∧ B ≤ q ∧ w.heap[q]? = some (.cells x t)
theorem OneAt.keep {B : Nat} {x : Array Value} {v : Value} {w w' : World} (h : OneAt B x v w) (hb : Below w.heap.size w w') : OneAt B x v w' := by
  obtain ⟨q, t, e, h1, h2⟩ := h
  exact ⟨q, t, e, h1, (hb.block q (Array.getElem?_eq_some_iff.1 h2).1).trans h2⟩
abbrev PD := {p : K25 × Int // 0 ≤ p.2 ∧ p.2 ≤ 5}
instance : Inhabited PD := ⟨⟨(kZB, 0), by decide⟩⟩
def encPD (x : PD) : List Value := (prefA x.1.1 x.1.2).toList
theorem prefD_fit (x : PD) : FitAll (byteKinds 25 ++ [.int .i64]) (encPD x) (byteLits x.1.1.val ++ [.int .i64 x.1.2]) := by
  have h1 := row8_fit x.1.1.val
  rw [x.1.1.len] at h1
  have h2 : FitAll [.int .i64] [.int .i64 x.1.2] [.int .i64 x.1.2] := ⟨rfl, rfl, fun i k v m hk hv hm => by
    cases i with
    | zero =>
      simp at hk hv hm
      subst hk hv hm
      refine ⟨rfl, rfl, rfl, ?_⟩
      have e1 : IntKind.i64.min = -9223372036854775808 := rfl
      have e2 : IntKind.i64.max = 9223372036854775807 := rfl
      have := x.2
      simp only [Lit.wf, e1, e2, Bool.and_eq_true, decide_eq_true_eq]
      omega
    | succ i => simp at hk⟩
  have := h1.append h2
  unfold encPD prefA
  rw [Array.toList_append]
  exact this
theorem flat_prefT : FlatType Tryz.prog 102 (byteKinds 25 ++ [.int .i64]) := ⟨by kernel_rfl, by kernel_rfl, agg_pref⟩
theorem eqlPD : EqlAt Tryz.prog (Tryz.hasP_ren.t 24) (fun x : PD => .agg (encPD x).toArray) (fun x y => decide (x = y)) := by
  refine ⟨fun x y w => ?_, GuardAt.agg _ (by kernel_rfl)⟩
  obtain ⟨r, h1, h2⟩ := flat_eq (P := Tryz.prog) (t := 102) flat_prefT w (a := (encPD x).toArray) (b := (encPD y).toArray) (by simpa using prefD_fit x) (by simpa using prefD_fit y)
  have h3 : r = decide (x = y) := by
    rw [Bool.eq_iff_iff, h2, decide_eq_true_eq]
    constructor
    · intro h
      have hl : (byteLits x.1.1.val).length = (byteLits y.1.1.val).length := by simp [byteLits, x.1.1.len, y.1.1.len]
      obtain ⟨e1, e2⟩ := List.append_inj h hl
      have e3 : x.1.1 = y.1.1 := Subtype.ext (byteLits_inj e1)
      have e4 : x.1.2 = y.1.2 := by simpa using e2
      exact Subtype.ext (Prod.ext e3 e4)
    · intro h; subst h; rfl
  rw [h3] at h1
  show (binOp .eql 102 (.agg (encPD x).toArray) (.agg (encPD y).toArray)).run Tryz.prog w = .ok (.bool (decide (x = y))) w
  rw [run_eql_struct, h1]
  rfl
theorem contNil_gives (v : Value) (hv : ∃ p, v = .agg (prefP p)) (w : World) : Gives Tryz.prog 78 #[.slice none 0 0, v] w (.bool false) := by
  obtain ⟨p, rfl⟩ := hv
  have hI : ∀ w, Gives Tryz.prog 115 #[.slice none 0 0, .agg (prefP p)] w (.int .i64 (-1)) := by
    intro w
    unfold prefP
    unfold Gives
    go_enter Tryz.func115, Tryz.ntmps115
    go_wp2_with fail
    refine wp_loop_rounds 1 ?_
    rw [rounds_succ]
    go_wp2_with fail
    go_ret
    exact ⟨rfl, (by repeat (first | exact below_of_grow _ _ | exact Below.refl _ _ | exact below_more _ _ _ _ | (simp only [← Array.append_assoc]; first | exact below_more _ _ _ _ | exact below_same _ _ _ | exact Below.refl _ _) | exact below_same _ _ _ | (refine Below.alloc ?_ (by first | (simp; done) | (simp; omega)) _) | (refine Below.grow ?_ (by first | (simp; done) | (simp; omega)) _ _) | refine Below.drew ?_ | refine Below.drewN ?_ _ | (refine Below.putF ?_ (by first | (simp; done) | omega | (simp; omega)) _) | (refine Below.setCell ?_ (by first | (simp; done) | (simp; omega)) _)))⟩
  unfold prefP at hI ⊢
  have HI := Lib.hid hI
  clear hI
  unfold Gives
  go_enter Tryz.func78, Tryz.ntmps78
  go_wp2_with fail
  refine Gives.use (HI.out _) ?_
  intro xs d
  go_wp2_with fail
  go_ret
  exact ⟨rfl, (by repeat (first | exact below_of_grow _ _ | exact Below.refl _ _ | exact below_more _ _ _ _ | (simp only [← Array.append_assoc]; first | exact below_more _ _ _ _ | exact below_same _ _ _ | exact Below.refl _ _) | exact below_same _ _ _ | (refine Below.alloc ?_ (by first | (simp; done) | (simp; omega)) _) | (refine Below.grow ?_ (by first | (simp; done) | (simp; omega)) _ _) | refine Below.drew ?_ | refine Below.drewN ?_ _ | (refine Below.putF ?_ (by first | (simp; done) | omega | (simp; omega)) _) | (refine Below.setCell ?_ (by first | (simp; done) | (simp; omega)) _)))⟩
theorem hasP_gives {w : World} {B : Nat} {pv : Value} {P : MP} (h : OwnA w B 26 102 pv (P.map prefP)) (hP : OkP P) (p : K25 × Int) (hp : 0 ≤ p.2 ∧ p.2 ≤ 5) (hn : P.length ≤ 1000000) :
    Gives Tryz.prog 78 #[pv, .agg (prefA p.1 p.2)] w (.bool (decide (p ∈ P))) := by
  have hsl := h.sl
  obtain ⟨hs, hl, hc⟩ := h
  rcases hc with ⟨rfl, hz⟩ | ⟨g, cap, cur, rfl, _, hh, _, _, hcs, ht⟩
  · have hP0 : P = [] := by simpa using hz
    subst hP0
    exact contNil_gives _ ⟨p, rfl⟩ w
  · obtain ⟨zs, hzs⟩ : ∃ zs : List PD, zs.map (·.1) = P := ⟨P.attach.map fun q => ⟨q.1, hP q.1 q.2⟩, by
      rw [List.map_map]
      exact List.attach_map_subtype_val P⟩
    have hlen : zs.length = P.length := by rw [← hzs]; simp
    have hkey := AnyQ.slices_Contains Tryz.hasP 26 (fun w => Tryz.isAgg102 w) (fun w => Tryz.sizeOf102 w) encPD (fun x => by unfold encPD; simp) _ eqlPD g 0 (P.map prefP).length cap zs ⟨p, hp⟩ w (by simp [hlen]) (by simp; omega) (by
      intro j hj i v hi
      obtain ⟨_, a', cap', he, _, _, hcc⟩ := hsl
      simp only [Value.slice.injEq, true_and] at he
      obtain ⟨rfl, rfl⟩ := he
      obtain ⟨g', o', he2, _, hcut⟩ := hcc (by simp; omega)
      simp only [Option.some.injEq, Addr.mk.injEq, and_true] at he2
      obtain ⟨rfl, rfl⟩ := he2
      have hPj : P[j]? = some (zs[j]).1 := by rw [← hzs]; simp [hj]
      have h1 := hcut j (prefP (zs[j]).1) (by rw [List.getElem?_map, hPj]; rfl)
      have hz : zs[j]! = zs[j] := by simp [hj]
      rw [hz] at hi
      have hi26 : i < 26 := by
        have := (List.getElem?_eq_some_iff.1 hi).1
        unfold encPD at this; simpa using this
      have h2 := (cut_spec h1).2 i hi26
      rw [h2]
      unfold encPD at hi
      unfold prefP
      simpa using hi)
    unfold Gives
    refine hkey.mono ?_
    rintro e w' ⟨rfl, hb⟩
    refine ⟨?_, hb⟩
    congr 2
    rw [Bool.eq_iff_iff, List.any_eq_true, decide_eq_true_eq]
    have ht2 : zs.take (P.map prefP).length = zs := List.take_of_length_le (by simp [hlen])
    rw [ht2]
    constructor
    · rintro ⟨x, hx, he⟩
      have := of_decide_eq_true he
      subst this
      rw [← hzs]
      exact List.mem_map.2 ⟨_, hx, rfl⟩
    · intro hm
      rw [← hzs] at hm
      obtain ⟨x, hx, he⟩ := List.mem_map.1 hm
      exact ⟨x, hx, decide_eq_true (Subtype.ext he.symm)⟩
section
variable {w : World} {B b : Nat} {g : BG}
/-- a prefix is put behind the others -/
theorem BufAt.add3 (h : BufAt w B b g) (p : K25 × Int) {v' : Value} {w' : World} (ho : OwnA w' B 26 102 v' ((g.P ++ [p]).map prefP)) (hg : w.grownBy w' g.pv.ownBlock) (hv : v'.ownBlock = g.pv.ownBlock ∨ v'.ownBlock = some w.heap.size) :
    BufAt (w'.setCell ⟨b, 2, none⟩ v') B b { g with pv := v', P := g.P ++ [p] } ∧ BEvo b w g (w'.setCell ⟨b, 2, none⟩ v') { g with pv := v', P := g.P ++ [p] } := by
  have hnd := h.nodup
  have hlt := h.lt
  have hbl : b < w.heap.size := hlt b (by simp [BG.blocks])
  have hs : ∀ x, x ≠ b → (w'.setCell ⟨b, 2, none⟩ v').heap[x]? = w'.heap[x]? := fun x hx => Below.heap_setCell w' ⟨b, 2, none⟩ _ x (by simpa using hx)
  have hbo : some b ≠ g.pv.ownBlock := by
    intro e
    simp [BG.blocks, ← e] at hnd
  have hm1 : ∀ m, g.m1 = some m → m < w.heap.size ∧ m ≠ b ∧ some m ≠ g.pv.ownBlock := by
    intro m e
    refine ⟨hlt m (by simp [BG.blocks, e]), ?_, ?_⟩
    · intro e2; subst e2; simp [BG.blocks, e] at hnd
    · intro e2; simp [BG.blocks, e, ← e2, List.nodup_append] at hnd
  have hm2 : ∀ m, g.m2 = some m → m < w.heap.size ∧ m ≠ b ∧ some m ≠ g.pv.ownBlock := by
    intro m e
    refine ⟨hlt m (by simp [BG.blocks, e]), ?_, ?_⟩
    · intro e2; subst e2; simp [BG.blocks, e] at hnd
    · intro e2; simp [BG.blocks, e, ← e2, List.nodup_append] at hnd
  have hvb : ∀ x, v'.ownBlock = some x → x ≠ b ∧ B ≤ x := by
    intro x e
    refine ⟨?_, (ho.lt x e).1⟩
    rintro rfl
    rcases hv with hv | hv
    · rw [hv] at e; exact hbo e.symm
    · rw [hv] at e; cases e; omega
  refine ⟨⟨?_, ?_, ?_, ?_, ?_, ?_, h.keys⟩, ⟨⟨hg.os, hg.tape, hg.output, ?_, ?_⟩, ?_⟩⟩
  · have := set_cells ((hg.block b hbl hbo).trans h.cells) 2 v'
    exact this
  · exact h.w1.keep fun m e => (hs m (hm1 m e).2.1).trans (hg.block m (hm1 m e).1 (hm1 m e).2.2)
  · exact h.w2.keep fun m e => (hs m (hm2 m e).2.1).trans (hg.block m (hm2 m e).1 (hm2 m e).2.2)
  · exact ho.keep fun x e _ => hs x (hvb x e).1
  · unfold BG.blocks at hnd ⊢
    rcases hv with hv | hv
    · rw [hv]; exact hnd
    · simp only [hv, Option.toList_some]
      have hnw : w.heap.size ∉ b :: (g.m1.toList ++ (g.m2.toList ++ g.pv.ownBlock.toList)) := fun hm => Nat.lt_irrefl _ (hlt _ hm)
      simp only [List.mem_cons, List.mem_append, not_or] at hnw
      simp only [List.nodup_cons, List.mem_append, not_or, List.nodup_append, List.mem_cons, List.not_mem_nil, or_false] at hnd ⊢
      refine ⟨⟨hnd.1.1, hnd.1.2.1, fun e => hnw.1 e.symm⟩, hnd.2.1, ⟨hnd.2.2.1.1, by simp, ?_⟩, ?_⟩
      · intro x hx y hy e
        rw [hy] at e; subst e; exact hnw.2.2.1 hx
      · intro x hx y hy e
        rcases hy with hy | hy
        · exact hnd.2.2.2 x hx y (.inl hy) e
        · rw [hy] at e; subst e; exact hnw.2.1 hx
  · intro x hx
    simp only [BG.blocks, List.mem_cons, List.mem_append, Option.mem_toList] at hx
    rcases hx with rfl | hx | hx | hx
    · exact h.low _ (by simp [BG.blocks])
    · exact h.low x (by simp [BG.blocks, hx])
    · exact h.low x (by simp [BG.blocks, hx])
    · exact (hvb x hx).2
  · have := hg.size; simpa using this
  · intro x hx hn
    refine (hs x (fun e => hn (by rw [e]; simp [BG.blocks]))).trans (hg.block x hx (fun e => hn ?_))
    simp [BG.blocks, ← e]
  · intro x hx
    simp only [BG.blocks, List.mem_cons, List.mem_append, Option.mem_toList] at hx
    rcases hx with rfl | hx | hx | hx
    · exact .inl (by simp [BG.blocks])
    · exact .inl (by simp [BG.blocks, hx])
    · exact .inl (by simp [BG.blocks, hx])
    · rcases hv with hv | hv
      · exact .inl (by rw [hv] at hx; simp [BG.blocks, hx])
      · rw [hv] at hx; cases hx; exact .inr (Nat.le_refl _)
set_option maxHeartbeats 20000000 in
theorem guardIn_calls (h : BufAt w B b g) (hP : OkP g.P) (lv : Value) (l : List (K25 × Int)) (hlP : g.P.length + l.length ≤ 90000) (hl : SlA w w.heap.size 26 lv (l.map prefP)) (ho : OutB b g lv) :
    Calls Tryz.prog 32 #[.pointer (some ⟨b, 0, none⟩), lv] w fun e w' => e = .returned (.int .i64 (ginL g.P l).2) ∧ ∃ g', BufAt w' B b g' ∧ BEvo b w g w' g' ∧ g'.W = g.W ∧ g'.G = g.G ∧ g'.P = (ginL g.P l).1 := by
  obtain ⟨a, cap, rfl, hcap, hmx⟩ := hl.form
  rw [List.length_map] at *
  unfold maxLen at hmx
  have hbl : b < w.heap.size := h.lt b (by simp [BG.blocks])
  have HH := Lib.hid h
  have HL := Lib.hid hl
  have HOUT := Lib.hid ho
  obtain ⟨res, hres⟩ : ∃ res, res = ginL g.P l := ⟨_, rfl⟩
  rw [← hres]
  have HRES := Lib.hid hres
  have HP0 := Lib.hid hP
  have hl9 : l.length ≤ 90000 := by omega
  have HLP := Lib.hid hlP
  clear h hl ho hres hP hlP
  go_enter Tryz.func32, Tryz.ntmps32
  go_wp2_with fail
  go_loopw [5, 12] (fun s5 s12 wr => ∃ (i : Nat) (n : Int), i ≤ l.length ∧ 0 ≤ n ∧ n ≤ i ∧ s12 = .int .i64 i ∧ s5 = .int .i64 n ∧ Hid (∃ g1, BufAt wr B b g1 ∧ BEvo b w g wr g1 ∧ g1.W = g.W ∧ g1.G = g.G ∧ OkP g1.P ∧ g1.P.length ≤ g.P.length + i ∧ res = addP n (ginL g1.P (l.drop i)))) (fun _ s12 _ => l.length - (intOf s12).toNat)
  case atStart => exact ⟨0, 0, Nat.zero_le _, Int.le_refl _, Int.le_refl _, rfl, rfl, Lib.hid ⟨g, HH.out, BEvo.refl _ _ _, rfl, rfl, HP0.out, Nat.le_refl _, by rw [HRES.out]; unfold addP; simp⟩⟩
  case round =>
    obtain ⟨i, n, hi, hn0, hn, rfl, rfl, HR⟩ := hrel
    obtain ⟨g1, hA, hE, hW, hG, hOk, hPl, hr⟩ := HR.out
    clear HR
    by_cases hlt : i < l.length
    · have hltI : (i : Int) < l.length := by omega
      obtain ⟨_, a', cap', he, _, _, hcc⟩ := HL.out
      simp only [Value.slice.injEq, List.length_map, true_and] at he
      obtain ⟨rfl, rfl⟩ := he
      obtain ⟨q0, o0, rfl, hlb, hcut⟩ := hcc (by simp; omega)
      have hout : q0 ∉ g.blocks b := HOUT.out q0 o0 _ _ rfl (by omega)
      have hcutk : wr.cut? q0 (o0 + i * 26) 26 = some (prefP l[i]) := by
        rw [cut_of_heap (hE.1.same q0 hlb hout)]
        exact hcut i (prefP l[i]) (by simp [hlt])
      have hsz := hE.1.size
      have hgr : q0 < wr.heap.size := by omega
      have hdrop : l.drop i = l[i] :: l.drop (i + 1) := List.drop_eq_getElem_cons hlt
      rw [hdrop] at hr
      generalize l[i] = p at *
      obtain ⟨pk, pd⟩ := p
      unfold prefP at hcutk
      have hbr : b < wr.heap.size := hA.lt b (by simp [BG.blocks])
      have hw1 : IntKind.i64.wrap (n + 1) = n + 1 := by rw [IntWalk.i64_in _ (by omega)]
      have H1 := Lib.hid (And.intro hA (And.intro hE (And.intro hW (And.intro hG (And.intro hOk hPl)))))
      have HR := Lib.hid hr
      clear hcut hcc hdrop hA hE hW hG hr hout hOk hPl
      go_upto_region 7 with fail
      refine wp_name ?_
      intro W hW
      obtain ⟨p7, hp7⟩ : ∃ p7, p7 = wr.heap.size := ⟨_, rfl⟩
      have hbW : Below wr.heap.size wr W := by rw [hW]; exact (by repeat (first | exact below_of_grow _ _ | exact Below.refl _ _ | exact below_more _ _ _ _ | (simp only [← Array.append_assoc]; first | exact below_more _ _ _ _ | exact below_same _ _ _ | exact Below.refl _ _) | exact below_same _ _ _ | (refine Below.alloc ?_ (by first | (simp; done) | (simp; omega)) _) | (refine Below.grow ?_ (by first | (simp; done) | (simp; omega)) _ _) | refine Below.drew ?_ | refine Below.drewN ?_ _ | (refine Below.putF ?_ (by first | (simp; done) | omega | (simp; omega)) _) | (refine Below.setCell ?_ (by first | (simp; done) | (simp; omega)) _)))
      have h7 : W.heap[p7]? = some (.cells (prefA pk pd) 102) := by rw [hW, hp7, heap_al, if_pos rfl]
      have l7 : p7 < W.heap.size := (Array.getElem?_eq_some_iff.1 h7).1
      have c7 : W.cut? p7 0 26 = some (prefA pk pd) := cut_heap h7 (by simp)
      have d7 : W.cell? ⟨p7, 25, none⟩ = some (.int .i64 pd) := by
        have := (cut_spec c7).2 25 (by decide)
        rw [prefA_d] at this
        simpa using this
      have hAW := H1.out.1.keep hbW
      have hbc : W.cell? ⟨b, 2, none⟩ = some g1.pv := (cells_is hAW.cells 2).1
      have hbW' : b < W.heap.size := Nat.lt_of_lt_of_le hbr hbW.size
      obtain ⟨a3, c3, hpv, _, _⟩ := hAW.own.form
      rw [List.length_map] at hpv
      obtain ⟨np, hnp⟩ : ∃ np, np = g1.P.length := ⟨_, rfl⟩
      obtain ⟨is_, his⟩ : ∃ is_, is_ = decide ((pk, pd) ∈ g1.P) := ⟨_, rfl⟩
      have HC := Lib.hid (fun (W' : World) (hb : Below W.heap.size W W') (h0 : 0 ≤ pd) (h5 : pd ≤ 5) => by
        have := hasP_gives (hAW.own.below hb) H1.out.2.2.2.2.1 (pk, pd) ⟨h0, h5⟩ (by have := H1.out.2.2.2.2.2; have := HLP.out; omega)
        rw [← his, hpv, ← hnp] at this
        exact this)
      have HG := Lib.hid (show ginL g1.P ((pk, pd) :: l.drop (i + 1)) = if (0 ≤ pd ∧ pd ≤ 5) ∧ is_ = false then ((ginL (g1.P ++ [(pk, pd)]) (l.drop (i + 1))).1, (ginL (g1.P ++ [(pk, pd)]) (l.drop (i + 1))).2 + 1) else ginL g1.P (l.drop (i + 1)) by
        rw [his]
        show (if (0 ≤ pd ∧ pd ≤ 5) ∧ (pk, pd) ∉ g1.P then _ else _) = _
        simp only [decide_eq_false_iff_not])
      have HW := Lib.hid (And.intro hbW hAW)
      rw [hpv, ← hnp] at hbc
      have HPV := Lib.hid (And.intro hpv hnp)
      simp only [← hp7]
      clear hW h7 hp7 hbW hAW hcutk hpv hnp his
      obtain ⟨cb, hcb⟩ : ∃ cb, cb = decide ((0 ≤ pd ∧ pd ≤ 5) ∧ is_ = false) := ⟨_, rfl⟩
      have HCB := Lib.hid hcb
      clear hcb
      go_cut [32] (fun v wx => v = .bool cb ∧ Below W.heap.size W wx)
      case first =>
        clear HG HR HRES HL HOUT HH hw1 hn0 hn hi hltI hlt hcap hmx HP0 HLP HPV H1
        by_cases h0 : 0 ≤ pd
        · by_cases h5 : pd ≤ 5
          · --@1
            have hd : decide ((0 ≤ pd ∧ pd ≤ 5) ∧ is_ = false) = !is_ := by cases is_ <;> simp [h0, h5]
            have HC2 := Lib.hid (fun (W' : World) (hb : Below W.heap.size W W') => HC.out W' hb h0 h5)
            have HD := Lib.hid (HCB.out.trans hd)
            clear hd HC HCB
            apply wp_region_specs (by rfl) [.val _, .val _, .val _, .val _, .val _, .val _, .val _, .val _, .val _, .val _, .val _, .val _, .val _, .val _, .val _, .val _, .val _] 17 (by rfl) [16, 17, 18, 19, 20, 21, 22, 23, 24, 25, 26, 27, 28, 29, 30, 31, 32] [] [] (by rfl) (by rfl) (by decide) (by decide +kernel) (fun _ _ _ _ _ h => h)
            case hF => intro x; simp only [over, List.foldl_cons, List.foldl_nil, List.setIfInBounds_toArray, List.set_cons_succ, List.set_cons_zero]; exact rfl
            case hops =>
              refine ⟨?o0, ?o1, ?o2, ?o3, ?o4, ?o5, ?o6, ?o7, ?o8, ?o9, ?o10, ?o11, ?o12, ?o13, ?o14, ?o15, ?o16, trivial⟩
              case o0 =>
                intro x w1 hH K hK
                obtain ⟨xs, d, rfl⟩ := grow_of_below hH.below
                clear hH
                try simp only [World.grow_drew] at hK ⊢
                try simp only [World.grow_grow] at hK ⊢
                go_simp
                first | (with_reducible refine hK _ _ ?_) | go_wp2_with fail
                exact ⟨_, rfl, rfl, (by first | exact Below.refl _ _ | exact below_same _ _ _ | exact below_more _ _ _ _ | exact below_of_grow _ _), fun h => by cases h⟩
              case o1 =>
                intro x w1 hH K hK
                have e16 : x 16 = _ := hH.holds 0 (by decide) (by decide +kernel) 16 rfl
                obtain ⟨xs, d, rfl⟩ := grow_of_below hH.below
                clear hH
                try simp only [World.grow_drew] at hK ⊢
                try simp only [World.grow_grow] at hK ⊢
                simp only [e16] at hK ⊢
                clear e16
                go_simp
                first | (with_reducible refine hK _ _ ?_) | go_wp2_with fail
                exact ⟨_, rfl, rfl, (by first | exact Below.refl _ _ | exact below_same _ _ _ | exact below_more _ _ _ _ | exact below_of_grow _ _), fun h => by cases h⟩
              case o2 =>
                intro x w1 hH K hK
                have e17 : x 17 = _ := hH.holds 1 (by decide) (by decide +kernel) 17 rfl
                obtain ⟨xs, d, rfl⟩ := grow_of_below hH.below
                clear hH
                try simp only [World.grow_drew] at hK ⊢
                try simp only [World.grow_grow] at hK ⊢
                simp only [e17] at hK ⊢
                clear e17
                go_simp
                first | (with_reducible refine hK _ _ ?_) | go_wp2_with fail
                exact ⟨_, rfl, rfl, (by first | exact Below.refl _ _ | exact below_same _ _ _ | exact below_more _ _ _ _ | exact below_of_grow _ _), fun h => by cases h⟩
              case o3 =>
                intro x w1 hH K hK
                have e18 : x 18 = _ := hH.holds 2 (by decide) (by decide +kernel) 18 rfl
                obtain ⟨xs, d, rfl⟩ := grow_of_below hH.below
                clear hH
                try simp only [World.grow_drew] at hK ⊢
                try simp only [World.grow_grow] at hK ⊢
                simp only [e18] at hK ⊢
                clear e18
                go_simp
                first | (with_reducible refine hK _ _ ?_) | go_wp2_with fail
                exact ⟨_, rfl, rfl, (by first | exact Below.refl _ _ | exact below_same _ _ _ | exact below_more _ _ _ _ | exact below_of_grow _ _), fun h => by cases h⟩
              case o4 =>
                intro x w1 hH K hK
                have e19 : x 19 = _ := hH.holds 3 (by decide) (by decide +kernel) 19 rfl
                obtain ⟨xs, d, rfl⟩ := grow_of_below hH.below
                clear hH
                try simp only [World.grow_drew] at hK ⊢
                try simp only [World.grow_grow] at hK ⊢
                simp only [e19] at hK ⊢
                clear e19
                go_simp
                first | (with_reducible refine hK _ _ ?_) | go_wp2_with fail
                exact ⟨_, rfl, rfl, (by first | exact Below.refl _ _ | exact below_same _ _ _ | exact below_more _ _ _ _ | exact below_of_grow _ _), fun h => by cases h⟩
              case o5 =>
                intro x w1 hH K hK
                have e19 : x 19 = _ := hH.holds 3 (by decide) (by decide +kernel) 19 rfl
                have e20 : x 20 = _ := hH.holds 4 (by decide) (by decide +kernel) 20 rfl
                obtain ⟨xs, d, rfl⟩ := grow_of_below hH.below
                clear hH
                try simp only [World.grow_drew] at hK ⊢
                try simp only [World.grow_grow] at hK ⊢
                simp only [e19, e20] at hK ⊢
                clear e19 e20
                go_simp
                first | (with_reducible refine hK _ _ ?_) | go_wp2_with fail
                exact ⟨_, rfl, rfl, (by first | exact Below.refl _ _ | exact below_same _ _ _ | exact below_more _ _ _ _ | exact below_of_grow _ _), fun h => by cases h⟩
              case o6 =>
                intro x w1 hH K hK
                have e19 : x 19 = _ := hH.holds 3 (by decide) (by decide +kernel) 19 rfl
                have e21 : x 21 = _ := hH.holds 5 (by decide) (by decide +kernel) 21 rfl
                obtain ⟨xs, d, rfl⟩ := grow_of_below hH.below
                clear hH
                try simp only [World.grow_drew] at hK ⊢
                try simp only [World.grow_grow] at hK ⊢
                simp only [e19, e21] at hK ⊢
                clear e19 e21
                go_simp
                first | (with_reducible refine hK _ _ ?_) | go_wp2_with fail
                exact ⟨_, rfl, rfl, (by first | exact Below.refl _ _ | exact below_same _ _ _ | exact below_more _ _ _ _ | exact below_of_grow _ _), fun h => by cases h⟩
              case o7 =>
                intro x w1 hH K hK
                have e19 : x 19 = _ := hH.holds 3 (by decide) (by decide +kernel) 19 rfl
                have e22 : x 22 = _ := hH.holds 6 (by decide) (by decide +kernel) 22 rfl
                obtain ⟨xs, d, rfl⟩ := grow_of_below hH.below
                clear hH
                try simp only [World.grow_drew] at hK ⊢
                try simp only [World.grow_grow] at hK ⊢
                simp only [e19, e22] at hK ⊢
                clear e19 e22
                go_simp
                first | (with_reducible refine hK _ _ ?_) | go_wp2_with fail
                exact ⟨_, rfl, rfl, (by first | exact Below.refl _ _ | exact below_same _ _ _ | exact below_more _ _ _ _ | exact below_of_grow _ _), fun h => by cases h⟩
              case o8 =>
                intro x w1 hH K hK
                have e23 : x 23 = _ := hH.holds 7 (by decide) (by decide +kernel) 23 rfl
                obtain ⟨xs, d, rfl⟩ := grow_of_below hH.below
                clear hH
                try simp only [World.grow_drew] at hK ⊢
                try simp only [World.grow_grow] at hK ⊢
                simp only [e23] at hK ⊢
                clear e23
                go_simp
                first | (with_reducible refine hK _ _ ?_) | go_wp2_with fail
                exact ⟨_, rfl, rfl, (by first | exact Below.refl _ _ | exact below_same _ _ _ | exact below_more _ _ _ _ | exact below_of_grow _ _), fun h => by cases h⟩
              case o9 =>
                intro x w1 hH K hK
                have e24 : x 24 = _ := hH.holds 8 (by decide) (by decide +kernel) 24 rfl
                obtain ⟨xs, d, rfl⟩ := grow_of_below hH.below
                clear hH
                try simp only [World.grow_drew] at hK ⊢
                try simp only [World.grow_grow] at hK ⊢
                simp only [e24] at hK ⊢
                clear e24
                go_simp
                first | (with_reducible refine hK _ _ ?_) | go_wp2_with fail
                exact ⟨_, rfl, rfl, (by first | exact Below.refl _ _ | exact below_same _ _ _ | exact below_more _ _ _ _ | exact below_of_grow _ _), fun h => by cases h⟩
              case o10 =>
                intro x w1 hH K hK
                have e24 : x 24 = _ := hH.holds 8 (by decide) (by decide +kernel) 24 rfl
                have e25 : x 25 = _ := hH.holds 9 (by decide) (by decide +kernel) 25 rfl
                obtain ⟨xs, d, rfl⟩ := grow_of_below hH.below
                clear hH
                try simp only [World.grow_drew] at hK ⊢
                try simp only [World.grow_grow] at hK ⊢
                simp only [e24, e25] at hK ⊢
                clear e24 e25
                go_simp
                first | (with_reducible refine hK _ _ ?_) | go_wp2_with fail
                exact ⟨_, rfl, rfl, (by first | exact Below.refl _ _ | exact below_same _ _ _ | exact below_more _ _ _ _ | exact below_of_grow _ _), fun h => by cases h⟩
              case o11 =>
                intro x w1 hH K hK
                have e24 : x 24 = _ := hH.holds 8 (by decide) (by decide +kernel) 24 rfl
                have e26 : x 26 = _ := hH.holds 10 (by decide) (by decide +kernel) 26 rfl
                obtain ⟨xs, d, rfl⟩ := grow_of_below hH.below
                clear hH
                try simp only [World.grow_drew] at hK ⊢
                try simp only [World.grow_grow] at hK ⊢
                simp only [e24, e26] at hK ⊢
                clear e24 e26
                go_simp
                first | (with_reducible refine hK _ _ ?_) | go_wp2_with fail
                exact ⟨_, rfl, rfl, (by first | exact Below.refl _ _ | exact below_same _ _ _ | exact below_more _ _ _ _ | exact below_of_grow _ _), fun h => by cases h⟩
              case o12 =>
                intro x w1 hH K hK
                have e24 : x 24 = _ := hH.holds 8 (by decide) (by decide +kernel) 24 rfl
                have e27 : x 27 = _ := hH.holds 11 (by decide) (by decide +kernel) 27 rfl
                obtain ⟨xs, d, rfl⟩ := grow_of_below hH.below
                clear hH
                try simp only [World.grow_drew] at hK ⊢
                try simp only [World.grow_grow] at hK ⊢
                simp only [e24, e27] at hK ⊢
                clear e24 e27
                go_simp
                first | (with_reducible refine hK _ _ ?_) | go_wp2_with fail
                exact ⟨_, rfl, rfl, (by first | exact Below.refl _ _ | exact below_same _ _ _ | exact below_more _ _ _ _ | exact below_of_grow _ _), fun h => by cases h⟩
              case o13 =>
                intro x w1 hH K hK
                have e24 : x 24 = _ := hH.holds 8 (by decide) (by decide +kernel) 24 rfl
                obtain ⟨xs, d, rfl⟩ := grow_of_below hH.below
                clear hH
                try simp only [World.grow_drew] at hK ⊢
                try simp only [World.grow_grow] at hK ⊢
                simp only [e24] at hK ⊢
                clear e24
                go_simp
                first | (with_reducible refine hK _ _ ?_) | go_wp2_with fail
                exact ⟨_, rfl, rfl, (by first | exact Below.refl _ _ | exact below_same _ _ _ | exact below_more _ _ _ _ | exact below_of_grow _ _), fun h => by cases h⟩
              case o14 =>
                intro x w1 hH K hK
                have e24 : x 24 = _ := hH.holds 8 (by decide) (by decide +kernel) 24 rfl
                have e28 : x 28 = _ := hH.holds 12 (by decide) (by decide +kernel) 28 rfl
                have e29 : x 29 = _ := hH.holds 13 (by decide) (by decide +kernel) 29 rfl
                obtain ⟨xs, d, rfl⟩ := grow_of_below hH.below
                clear hH
                try simp only [World.grow_drew] at hK ⊢
                try simp only [World.grow_grow] at hK ⊢
                simp only [e24, e28, e29] at hK ⊢
                clear e24 e28 e29
                go_simp
                go_wp2_with (refine Gives.use (HC2.out _ (by first | exact below_of_grow _ _ | exact (by repeat (first | exact below_of_grow _ _ | exact Below.refl _ _ | exact below_more _ _ _ _ | (simp only [← Array.append_assoc]; first | exact below_more _ _ _ _ | exact below_same _ _ _ | exact Below.refl _ _) | exact below_same _ _ _ | (refine Below.alloc ?_ (by first | (simp; done) | (simp; omega)) _) | (refine Below.grow ?_ (by first | (simp; done) | (simp; omega)) _ _) | refine Below.drew ?_ | refine Below.drewN ?_ _ | (refine Below.putF ?_ (by first | (simp; done) | omega | (simp; omega)) _) | (refine Below.setCell ?_ (by first | (simp; done) | (simp; omega)) _))))) ?_; intro ys e)
                exact ⟨_, rfl, rfl, (by first | exact below_more _ _ _ _ | exact (by repeat (first | exact below_of_grow _ _ | exact Below.refl _ _ | exact below_more _ _ _ _ | (simp only [← Array.append_assoc]; first | exact below_more _ _ _ _ | exact below_same _ _ _ | exact Below.refl _ _) | exact below_same _ _ _ | (refine Below.alloc ?_ (by first | (simp; done) | (simp; omega)) _) | (refine Below.grow ?_ (by first | (simp; done) | (simp; omega)) _ _) | refine Below.drew ?_ | refine Below.drewN ?_ _ | (refine Below.putF ?_ (by first | (simp; done) | omega | (simp; omega)) _) | (refine Below.setCell ?_ (by first | (simp; done) | (simp; omega)) _)))), fun h => by cases h⟩
              case o15 =>
                intro x w1 hH K hK
                have e24 : x 24 = _ := hH.holds 8 (by decide) (by decide +kernel) 24 rfl
                have e30 : x 30 = _ := hH.holds 14 (by decide) (by decide +kernel) 30 rfl
                obtain ⟨xs, d, rfl⟩ := grow_of_below hH.below
                clear hH
                try simp only [World.grow_drew] at hK ⊢
                try simp only [World.grow_grow] at hK ⊢
                simp only [e24, e30] at hK ⊢
                clear e24 e30
                go_simp
                first | (with_reducible refine hK _ _ ?_) | go_wp2_with fail
                exact ⟨_, rfl, rfl, (by first | exact Below.refl _ _ | exact below_same _ _ _ | exact below_more _ _ _ _ | exact below_of_grow _ _), fun h => by cases h⟩
              case o16 =>
                intro x w1 hH K hK
                have e24 : x 24 = _ := hH.holds 8 (by decide) (by decide +kernel) 24 rfl
                have e31 : x 31 = _ := hH.holds 15 (by decide) (by decide +kernel) 31 rfl
                obtain ⟨xs, d, rfl⟩ := grow_of_below hH.below
                clear hH
                try simp only [World.grow_drew] at hK ⊢
                try simp only [World.grow_grow] at hK ⊢
                simp only [e24, e31] at hK ⊢
                clear e24 e31
                go_simp
                first | (with_reducible refine hK _ _ ?_) | go_wp2_with fail
                exact ⟨_, rfl, rfl, (by first | exact Below.refl _ _ | exact below_same _ _ _ | exact below_more _ _ _ _ | exact below_of_grow _ _), fun h => by cases h⟩
            case hend =>
              intro x w1 hH
              have e16 : x 16 = _ := hH.holds 0 (by decide) trivial 16 rfl
              have e17 : x 17 = _ := hH.holds 1 (by decide) trivial 17 rfl
              have e18 : x 18 = _ := hH.holds 2 (by decide) trivial 18 rfl
              have e19 : x 19 = _ := hH.holds 3 (by decide) trivial 19 rfl
              have e20 : x 20 = _ := hH.holds 4 (by decide) trivial 20 rfl
              have e21 : x 21 = _ := hH.holds 5 (by decide) trivial 21 rfl
              have e22 : x 22 = _ := hH.holds 6 (by decide) trivial 22 rfl
              have e23 : x 23 = _ := hH.holds 7 (by decide) trivial 23 rfl
              have e24 : x 24 = _ := hH.holds 8 (by decide) trivial 24 rfl
              have e25 : x 25 = _ := hH.holds 9 (by decide) trivial 25 rfl
              have e26 : x 26 = _ := hH.holds 10 (by decide) trivial 26 rfl
              have e27 : x 27 = _ := hH.holds 11 (by decide) trivial 27 rfl
              have e28 : x 28 = _ := hH.holds 12 (by decide) trivial 28 rfl
              have e29 : x 29 = _ := hH.holds 13 (by decide) trivial 29 rfl
              have e30 : x 30 = _ := hH.holds 14 (by decide) trivial 30 rfl
              have e31 : x 31 = _ := hH.holds 15 (by decide) trivial 31 rfl
              have e32 : x 32 = _ := hH.holds 16 (by decide) trivial 32 rfl
              obtain ⟨xs, d, rfl⟩ := grow_of_below hH.below
              clear hH
              simp only [e16, e17, e18, e19, e20, e21, e22, e23, e24, e25, e26, e27, e28, e29, e30, e31, e32]; clear e16 e17 e18 e19 e20 e21 e22 e23 e24 e25 e26 e27 e28 e29 e30 e31 e32
              simp only [List.drop_succ_cons, List.drop_nil]
              go_wp2_with fail
              go_meet
              exact ⟨congrArg Value.bool HD.out.symm, (by repeat (first | exact below_of_grow _ _ | exact Below.refl _ _ | exact below_more _ _ _ _ | (simp only [← Array.append_assoc]; first | exact below_more _ _ _ _ | exact below_same _ _ _ | exact Below.refl _ _) | exact below_same _ _ _ | (refine Below.alloc ?_ (by first | (simp; done) | (simp; omega)) _) | (refine Below.grow ?_ (by first | (simp; done) | (simp; omega)) _ _) | refine Below.drew ?_ | refine Below.drewN ?_ _ | (refine Below.putF ?_ (by first | (simp; done) | omega | (simp; omega)) _) | (refine Below.setCell ?_ (by first | (simp; done) | (simp; omega)) _)))⟩
          · --@2
            have hd : decide ((0 ≤ pd ∧ pd ≤ 5) ∧ is_ = false) = false := by simp [h5]
            have HD := Lib.hid (HCB.out.trans hd)
            have h5' : (pd ≤ 5) = False := eq_false h5
            clear hd HC h5 HCB
            apply wp_region_specs (by rfl) [.val _, .val _, .val _, .val _, .val _, .val _, .val _, .val _, .val _, .val _, .val _, .val _, .val _, .val _, .val _, .val _, .val _] 17 (by rfl) [16, 17, 18, 19, 20, 21, 22, 23, 24, 25, 26, 27, 28, 29, 30, 31, 32] [] [] (by rfl) (by rfl) (by decide) (by decide +kernel) (fun _ _ _ _ _ h => h)
            case hF => intro x; simp only [over, List.foldl_cons, List.foldl_nil, List.setIfInBounds_toArray, List.set_cons_succ, List.set_cons_zero]; exact rfl
            case hops =>
              refine ⟨?o0, ?o1, ?o2, ?o3, ?o4, ?o5, ?o6, ?o7, ?o8, ?o9, ?o10, ?o11, ?o12, ?o13, ?o14, ?o15, ?o16, trivial⟩
              case o0 =>
                intro x w1 hH K hK
                obtain ⟨xs, d, rfl⟩ := grow_of_below hH.below
                clear hH
                try simp only [World.grow_drew] at hK ⊢
                try simp only [World.grow_grow] at hK ⊢
                go_simp
                first | (with_reducible refine hK _ _ ?_) | go_wp2_with fail
                exact ⟨_, rfl, rfl, (by first | exact Below.refl _ _ | exact below_same _ _ _ | exact below_more _ _ _ _ | exact below_of_grow _ _), fun h => by cases h⟩
              case o1 =>
                intro x w1 hH K hK
                have e16 : x 16 = _ := hH.holds 0 (by decide) (by decide +kernel) 16 rfl
                obtain ⟨xs, d, rfl⟩ := grow_of_below hH.below
                clear hH
                try simp only [World.grow_drew] at hK ⊢
                try simp only [World.grow_grow] at hK ⊢
                simp only [e16] at hK ⊢
                clear e16
                go_simp
                first | (with_reducible refine hK _ _ ?_) | go_wp2_with fail
                exact ⟨_, rfl, rfl, (by first | exact Below.refl _ _ | exact below_same _ _ _ | exact below_more _ _ _ _ | exact below_of_grow _ _), fun h => by cases h⟩
              case o2 =>
                intro x w1 hH K hK
                have e17 : x 17 = _ := hH.holds 1 (by decide) (by decide +kernel) 17 rfl
                obtain ⟨xs, d, rfl⟩ := grow_of_below hH.below
                clear hH
                try simp only [World.grow_drew] at hK ⊢
                try simp only [World.grow_grow] at hK ⊢
                simp only [e17] at hK ⊢
                clear e17
                go_simp
                first | (with_reducible refine hK _ _ ?_) | go_wp2_with fail
                exact ⟨_, rfl, rfl, (by first | exact Below.refl _ _ | exact below_same _ _ _ | exact below_more _ _ _ _ | exact below_of_grow _ _), fun h => by cases h⟩
              case o3 =>
                intro x w1 hH K hK
                have e18 : x 18 = _ := hH.holds 2 (by decide) (by decide +kernel) 18 rfl
                obtain ⟨xs, d, rfl⟩ := grow_of_below hH.below
                clear hH
                try simp only [World.grow_drew] at hK ⊢
                try simp only [World.grow_grow] at hK ⊢
                simp only [e18] at hK ⊢
                clear e18
                go_simp
                first | (with_reducible refine hK _ _ ?_) | go_wp2_with fail
                exact ⟨_, rfl, rfl, (by first | exact Below.refl _ _ | exact below_same _ _ _ | exact below_more _ _ _ _ | exact below_of_grow _ _), fun h => by cases h⟩
              case o4 =>
                intro x w1 hH K hK
                have e19 : x 19 = _ := hH.holds 3 (by decide) (by decide +kernel) 19 rfl
                obtain ⟨xs, d, rfl⟩ := grow_of_below hH.below
                clear hH
                try simp only [World.grow_drew] at hK ⊢
                try simp only [World.grow_grow] at hK ⊢
                simp only [e19] at hK ⊢
                clear e19
                go_simp
                first | (with_reducible refine hK _ _ ?_) | go_wp2_with fail
                exact ⟨_, rfl, rfl, (by first | exact Below.refl _ _ | exact below_same _ _ _ | exact below_more _ _ _ _ | exact below_of_grow _ _), fun h => by cases h⟩
              case o5 =>
                intro x w1 hH K hK
                have e19 : x 19 = _ := hH.holds 3 (by decide) (by decide +kernel) 19 rfl
                have e20 : x 20 = _ := hH.holds 4 (by decide) (by decide +kernel) 20 rfl
                obtain ⟨xs, d, rfl⟩ := grow_of_below hH.below
                clear hH
                try simp only [World.grow_drew] at hK ⊢
                try simp only [World.grow_grow] at hK ⊢
                simp only [e19, e20] at hK ⊢
                clear e19 e20
                go_simp
                first | (with_reducible refine hK _ _ ?_) | go_wp2_with fail
                exact ⟨_, rfl, rfl, (by first | exact Below.refl _ _ | exact below_same _ _ _ | exact below_more _ _ _ _ | exact below_of_grow _ _), fun h => by cases h⟩
              case o6 =>
                intro x w1 hH K hK
                have e19 : x 19 = _ := hH.holds 3 (by decide) (by decide +kernel) 19 rfl
                have e21 : x 21 = _ := hH.holds 5 (by decide) (by decide +kernel) 21 rfl
                obtain ⟨xs, d, rfl⟩ := grow_of_below hH.below
                clear hH
                try simp only [World.grow_drew] at hK ⊢
                try simp only [World.grow_grow] at hK ⊢
                simp only [e19, e21] at hK ⊢
                clear e19 e21
                go_simp
                first | (with_reducible refine hK _ _ ?_) | go_wp2_with fail
                exact ⟨_, rfl, rfl, (by first | exact Below.refl _ _ | exact below_same _ _ _ | exact below_more _ _ _ _ | exact below_of_grow _ _), fun h => by cases h⟩
              case o7 =>
                intro x w1 hH K hK
                have e19 : x 19 = _ := hH.holds 3 (by decide) (by decide +kernel) 19 rfl
                have e22 : x 22 = _ := hH.holds 6 (by decide) (by decide +kernel) 22 rfl
                obtain ⟨xs, d, rfl⟩ := grow_of_below hH.below
                clear hH
                try simp only [World.grow_drew] at hK ⊢
                try simp only [World.grow_grow] at hK ⊢
                simp only [e19, e22] at hK ⊢
                clear e19 e22
                go_simp
                first | (with_reducible refine hK _ _ ?_) | go_wp2_with fail
                exact ⟨_, rfl, rfl, (by first | exact Below.refl _ _ | exact below_same _ _ _ | exact below_more _ _ _ _ | exact below_of_grow _ _), fun h => by cases h⟩
              case o8 =>
                intro x w1 hH K hK
                have e23 : x 23 = _ := hH.holds 7 (by decide) (by decide +kernel) 23 rfl
                obtain ⟨xs, d, rfl⟩ := grow_of_below hH.below
                clear hH
                try simp only [World.grow_drew] at hK ⊢
                try simp only [World.grow_grow] at hK ⊢
                simp only [e23] at hK ⊢
                clear e23
                go_simp
                first | (with_reducible refine hK _ _ ?_) | go_wp2_with fail
                exact ⟨_, rfl, rfl, (by first | exact Below.refl _ _ | exact below_same _ _ _ | exact below_more _ _ _ _ | exact below_of_grow _ _), fun h => by cases h⟩
              case o9 =>
                intro x w1 hH K hK
                have e24 : x 24 = _ := hH.holds 8 (by decide) (by decide +kernel) 24 rfl
                obtain ⟨xs, d, rfl⟩ := grow_of_below hH.below
                clear hH
                try simp only [World.grow_drew] at hK ⊢
                try simp only [World.grow_grow] at hK ⊢
                simp only [e24] at hK ⊢
                clear e24
                go_simp
                first | (with_reducible refine hK _ _ ?_) | go_wp2_with fail
                exact ⟨_, rfl, rfl, (by first | exact Below.refl _ _ | exact below_same _ _ _ | exact below_more _ _ _ _ | exact below_of_grow _ _), fun h => by cases h⟩
              case o10 =>
                intro x w1 hH K hK
                have e24 : x 24 = _ := hH.holds 8 (by decide) (by decide +kernel) 24 rfl
                have e25 : x 25 = _ := hH.holds 9 (by decide) (by decide +kernel) 25 rfl
                obtain ⟨xs, d, rfl⟩ := grow_of_below hH.below
                clear hH
                try simp only [World.grow_drew] at hK ⊢
                try simp only [World.grow_grow] at hK ⊢
                simp only [e24, e25] at hK ⊢
                clear e24 e25
                go_simp
                first | (with_reducible refine hK _ _ ?_) | go_wp2_with fail
                exact ⟨_, rfl, rfl, (by first | exact Below.refl _ _ | exact below_same _ _ _ | exact below_more _ _ _ _ | exact below_of_grow _ _), fun h => by cases h⟩
              case o11 =>
                intro x w1 hH K hK
                have e24 : x 24 = _ := hH.holds 8 (by decide) (by decide +kernel) 24 rfl
                have e26 : x 26 = _ := hH.holds 10 (by decide) (by decide +kernel) 26 rfl
                obtain ⟨xs, d, rfl⟩ := grow_of_below hH.below
                clear hH
                try simp only [World.grow_drew] at hK ⊢
                try simp only [World.grow_grow] at hK ⊢
                simp only [e24, e26] at hK ⊢
                clear e24 e26
                go_simp
                first | (with_reducible refine hK _ _ ?_) | go_wp2_with fail
                exact ⟨_, rfl, rfl, (by first | exact Below.refl _ _ | exact below_same _ _ _ | exact below_more _ _ _ _ | exact below_of_grow _ _), fun h => by cases h⟩
              case o12 =>
                intro x w1 hH K hK
                have e24 : x 24 = _ := hH.holds 8 (by decide) (by decide +kernel) 24 rfl
                have e27 : x 27 = _ := hH.holds 11 (by decide) (by decide +kernel) 27 rfl
                obtain ⟨xs, d, rfl⟩ := grow_of_below hH.below
                clear hH
                try simp only [World.grow_drew] at hK ⊢
                try simp only [World.grow_grow] at hK ⊢
                simp only [e24, e27] at hK ⊢
                clear e24 e27
                go_simp
                first | (with_reducible refine hK _ _ ?_) | go_wp2_with fail
                exact ⟨_, rfl, rfl, (by first | exact Below.refl _ _ | exact below_same _ _ _ | exact below_more _ _ _ _ | exact below_of_grow _ _), fun h => by cases h⟩
              case o13 =>
                intro x w1 hH K hK
                have e24 : x 24 = _ := hH.holds 8 (by decide) (by decide +kernel) 24 rfl
                obtain ⟨xs, d, rfl⟩ := grow_of_below hH.below
                clear hH
                try simp only [World.grow_drew] at hK ⊢
                try simp only [World.grow_grow] at hK ⊢
                simp only [e24] at hK ⊢
                clear e24
                go_simp
                first | (with_reducible refine hK _ _ ?_) | go_wp2_with fail
                exact ⟨_, rfl, rfl, (by first | exact Below.refl _ _ | exact below_same _ _ _ | exact below_more _ _ _ _ | exact below_of_grow _ _), fun h => by cases h⟩
              case o14 =>
                intro x w1 hH K hK
                have e24 : x 24 = _ := hH.holds 8 (by decide) (by decide +kernel) 24 rfl
                have e28 : x 28 = _ := hH.holds 12 (by decide) (by decide +kernel) 28 rfl
                have e29 : x 29 = _ := hH.holds 13 (by decide) (by decide +kernel) 29 rfl
                obtain ⟨xs, d, rfl⟩ := grow_of_below hH.below
                clear hH
                try simp only [World.grow_drew] at hK ⊢
                try simp only [World.grow_grow] at hK ⊢
                simp only [e24, e28, e29] at hK ⊢
                clear e24 e28 e29
                go_simp
                first | (with_reducible refine hK _ _ ?_) | go_wp2_with fail
                exact ⟨_, rfl, rfl, (by first | exact Below.refl _ _ | exact below_same _ _ _ | exact below_more _ _ _ _ | exact below_of_grow _ _), fun h => by cases h⟩
              case o15 =>
                intro x w1 hH K hK
                have e24 : x 24 = _ := hH.holds 8 (by decide) (by decide +kernel) 24 rfl
                have e30 : x 30 = _ := hH.holds 14 (by decide) (by decide +kernel) 30 rfl
                obtain ⟨xs, d, rfl⟩ := grow_of_below hH.below
                clear hH
                try simp only [World.grow_drew] at hK ⊢
                try simp only [World.grow_grow] at hK ⊢
                simp only [e24, e30] at hK ⊢
                clear e24 e30
                go_simp
                first | (with_reducible refine hK _ _ ?_) | go_wp2_with fail
                exact ⟨_, rfl, rfl, (by first | exact Below.refl _ _ | exact below_same _ _ _ | exact below_more _ _ _ _ | exact below_of_grow _ _), fun h => by cases h⟩
              case o16 =>
                intro x w1 hH K hK
                have e24 : x 24 = _ := hH.holds 8 (by decide) (by decide +kernel) 24 rfl
                have e31 : x 31 = _ := hH.holds 15 (by decide) (by decide +kernel) 31 rfl
                obtain ⟨xs, d, rfl⟩ := grow_of_below hH.below
                clear hH
                try simp only [World.grow_drew] at hK ⊢
                try simp only [World.grow_grow] at hK ⊢
                simp only [e24, e31] at hK ⊢
                clear e24 e31
                go_simp
                first | (with_reducible refine hK _ _ ?_) | go_wp2_with fail
                exact ⟨_, rfl, rfl, (by first | exact Below.refl _ _ | exact below_same _ _ _ | exact below_more _ _ _ _ | exact below_of_grow _ _), fun h => by cases h⟩
            case hend =>
              intro x w1 hH
              have e16 : x 16 = _ := hH.holds 0 (by decide) trivial 16 rfl
              have e17 : x 17 = _ := hH.holds 1 (by decide) trivial 17 rfl
              have e18 : x 18 = _ := hH.holds 2 (by decide) trivial 18 rfl
              have e19 : x 19 = _ := hH.holds 3 (by decide) trivial 19 rfl
              have e20 : x 20 = _ := hH.holds 4 (by decide) trivial 20 rfl
              have e21 : x 21 = _ := hH.holds 5 (by decide) trivial 21 rfl
              have e22 : x 22 = _ := hH.holds 6 (by decide) trivial 22 rfl
              have e23 : x 23 = _ := hH.holds 7 (by decide) trivial 23 rfl
              have e24 : x 24 = _ := hH.holds 8 (by decide) trivial 24 rfl
              have e25 : x 25 = _ := hH.holds 9 (by decide) trivial 25 rfl
              have e26 : x 26 = _ := hH.holds 10 (by decide) trivial 26 rfl
              have e27 : x 27 = _ := hH.holds 11 (by decide) trivial 27 rfl
              have e28 : x 28 = _ := hH.holds 12 (by decide) trivial 28 rfl
              have e29 : x 29 = _ := hH.holds 13 (by decide) trivial 29 rfl
              have e30 : x 30 = _ := hH.holds 14 (by decide) trivial 30 rfl
              have e31 : x 31 = _ := hH.holds 15 (by decide) trivial 31 rfl
              have e32 : x 32 = _ := hH.holds 16 (by decide) trivial 32 rfl
              obtain ⟨xs, d, rfl⟩ := grow_of_below hH.below
              clear hH
              simp only [e16, e17, e18, e19, e20, e21, e22, e23, e24, e25, e26, e27, e28, e29, e30, e31, e32]; clear e16 e17 e18 e19 e20 e21 e22 e23 e24 e25 e26 e27 e28 e29 e30 e31 e32
              simp only [List.drop_succ_cons, List.drop_nil]
              go_wp2_with fail
              go_meet
              exact ⟨congrArg Value.bool HD.out.symm, (by repeat (first | exact below_of_grow _ _ | exact Below.refl _ _ | exact below_more _ _ _ _ | (simp only [← Array.append_assoc]; first | exact below_more _ _ _ _ | exact below_same _ _ _ | exact Below.refl _ _) | exact below_same _ _ _ | (refine Below.alloc ?_ (by first | (simp; done) | (simp; omega)) _) | (refine Below.grow ?_ (by first | (simp; done) | (simp; omega)) _ _) | refine Below.drew ?_ | refine Below.drewN ?_ _ | (refine Below.putF ?_ (by first | (simp; done) | omega | (simp; omega)) _) | (refine Below.setCell ?_ (by first | (simp; done) | (simp; omega)) _)))⟩
        · --@3
          have hd : decide ((0 ≤ pd ∧ pd ≤ 5) ∧ is_ = false) = false := by simp [h0]
          have HD := Lib.hid (HCB.out.trans hd)
          have h0' : (0 ≤ pd) = False := eq_false h0
          have h0'' : (pd ≥ 0) = False := eq_false h0
          clear hd HC h0 HCB
          apply wp_region_specs (by rfl) [.val _, .val _, .val _, .val _, .val _, .val _, .val _, .val _, .val _, .val _, .val _, .val _, .val _, .val _, .val _, .val _, .val _] 17 (by rfl) [16, 17, 18, 19, 20, 21, 22, 23, 24, 25, 26, 27, 28, 29, 30, 31, 32] [] [] (by rfl) (by rfl) (by decide) (by decide +kernel) (fun _ _ _ _ _ h => h)
          case hF => intro x; simp only [over, List.foldl_cons, List.foldl_nil, List.setIfInBounds_toArray, List.set_cons_succ, List.set_cons_zero]; exact rfl
          case hops =>
            refine ⟨?o0, ?o1, ?o2, ?o3, ?o4, ?o5, ?o6, ?o7, ?o8, ?o9, ?o10, ?o11, ?o12, ?o13, ?o14, ?o15, ?o16, trivial⟩
            case o0 =>
              intro x w1 hH K hK
              obtain ⟨xs, d, rfl⟩ := grow_of_below hH.below
              clear hH
              try simp only [World.grow_drew] at hK ⊢
              try simp only [World.grow_grow] at hK ⊢
              go_simp
              first | (with_reducible refine hK _ _ ?_) | go_wp2_with fail
              exact ⟨_, rfl, rfl, (by first | exact Below.refl _ _ | exact below_same _ _ _ | exact below_more _ _ _ _ | exact below_of_grow _ _), fun h => by cases h⟩
            case o1 =>
              intro x w1 hH K hK
              have e16 : x 16 = _ := hH.holds 0 (by decide) (by decide +kernel) 16 rfl
              obtain ⟨xs, d, rfl⟩ := grow_of_below hH.below
              clear hH
              try simp only [World.grow_drew] at hK ⊢
              try simp only [World.grow_grow] at hK ⊢
              simp only [e16] at hK ⊢
              clear e16
              go_simp
              first | (with_reducible refine hK _ _ ?_) | go_wp2_with fail
              exact ⟨_, rfl, rfl, (by first | exact Below.refl _ _ | exact below_same _ _ _ | exact below_more _ _ _ _ | exact below_of_grow _ _), fun h => by cases h⟩
            case o2 =>
              intro x w1 hH K hK
              have e17 : x 17 = _ := hH.holds 1 (by decide) (by decide +kernel) 17 rfl
              obtain ⟨xs, d, rfl⟩ := grow_of_below hH.below
              clear hH
              try simp only [World.grow_drew] at hK ⊢
              try simp only [World.grow_grow] at hK ⊢
              simp only [e17] at hK ⊢
              clear e17
              go_simp
              first | (with_reducible refine hK _ _ ?_) | go_wp2_with fail
              exact ⟨_, rfl, rfl, (by first | exact Below.refl _ _ | exact below_same _ _ _ | exact below_more _ _ _ _ | exact below_of_grow _ _), fun h => by cases h⟩
            case o3 =>
              intro x w1 hH K hK
              have e18 : x 18 = _ := hH.holds 2 (by decide) (by decide +kernel) 18 rfl
              obtain ⟨xs, d, rfl⟩ := grow_of_below hH.below
              clear hH
              try simp only [World.grow_drew] at hK ⊢
              try simp only [World.grow_grow] at hK ⊢
              simp only [e18] at hK ⊢
              clear e18
              go_simp
              first | (with_reducible refine hK _ _ ?_) | go_wp2_with fail
              exact ⟨_, rfl, rfl, (by first | exact Below.refl _ _ | exact below_same _ _ _ | exact below_more _ _ _ _ | exact below_of_grow _ _), fun h => by cases h⟩
            case o4 =>
              intro x w1 hH K hK
              have e19 : x 19 = _ := hH.holds 3 (by decide) (by decide +kernel) 19 rfl
              obtain ⟨xs, d, rfl⟩ := grow_of_below hH.below
              clear hH
              try simp only [World.grow_drew] at hK ⊢
              try simp only [World.grow_grow] at hK ⊢
              simp only [e19] at hK ⊢
              clear e19
              go_simp
              first | (with_reducible refine hK _ _ ?_) | go_wp2_with fail
              exact ⟨_, rfl, rfl, (by first | exact Below.refl _ _ | exact below_same _ _ _ | exact below_more _ _ _ _ | exact below_of_grow _ _), fun h => by cases h⟩
            case o5 =>
              intro x w1 hH K hK
              have e19 : x 19 = _ := hH.holds 3 (by decide) (by decide +kernel) 19 rfl
              have e20 : x 20 = _ := hH.holds 4 (by decide) (by decide +kernel) 20 rfl
              obtain ⟨xs, d, rfl⟩ := grow_of_below hH.below
              clear hH
              try simp only [World.grow_drew] at hK ⊢
              try simp only [World.grow_grow] at hK ⊢
              simp only [e19, e20] at hK ⊢
              clear e19 e20
              go_simp
              first | (with_reducible refine hK _ _ ?_) | go_wp2_with fail
              exact ⟨_, rfl, rfl, (by first | exact Below.refl _ _ | exact below_same _ _ _ | exact below_more _ _ _ _ | exact below_of_grow _ _), fun h => by cases h⟩
            case o6 =>
              intro x w1 hH K hK
              have e19 : x 19 = _ := hH.holds 3 (by decide) (by decide +kernel) 19 rfl
              have e21 : x 21 = _ := hH.holds 5 (by decide) (by decide +kernel) 21 rfl
              obtain ⟨xs, d, rfl⟩ := grow_of_below hH.below
              clear hH
              try simp only [World.grow_drew] at hK ⊢
              try simp only [World.grow_grow] at hK ⊢
              simp only [e19, e21] at hK ⊢
              clear e19 e21
              go_simp
              first | (with_reducible refine hK _ _ ?_) | go_wp2_with fail
              exact ⟨_, rfl, rfl, (by first | exact Below.refl _ _ | exact below_same _ _ _ | exact below_more _ _ _ _ | exact below_of_grow _ _), fun h => by cases h⟩
            case o7 =>
              intro x w1 hH K hK
              have e19 : x 19 = _ := hH.holds 3 (by decide) (by decide +kernel) 19 rfl
              have e22 : x 22 = _ := hH.holds 6 (by decide) (by decide +kernel) 22 rfl
              obtain ⟨xs, d, rfl⟩ := grow_of_below hH.below
              clear hH
              try simp only [World.grow_drew] at hK ⊢
              try simp only [World.grow_grow] at hK ⊢
              simp only [e19, e22] at hK ⊢
              clear e19 e22
              go_simp
              first | (with_reducible refine hK _ _ ?_) | go_wp2_with fail
              exact ⟨_, rfl, rfl, (by first | exact Below.refl _ _ | exact below_same _ _ _ | exact below_more _ _ _ _ | exact below_of_grow _ _), fun h => by cases h⟩
            case o8 =>
              intro x w1 hH K hK
              have e23 : x 23 = _ := hH.holds 7 (by decide) (by decide +kernel) 23 rfl
              obtain ⟨xs, d, rfl⟩ := grow_of_below hH.below
              clear hH
              try simp only [World.grow_drew] at hK ⊢
              try simp only [World.grow_grow] at hK ⊢
              simp only [e23] at hK ⊢
              clear e23
              go_simp
              first | (with_reducible refine hK _ _ ?_) | go_wp2_with fail
              exact ⟨_, rfl, rfl, (by first | exact Below.refl _ _ | exact below_same _ _ _ | exact below_more _ _ _ _ | exact below_of_grow _ _), fun h => by cases h⟩
            case o9 =>
              intro x w1 hH K hK
              have e24 : x 24 = _ := hH.holds 8 (by decide) (by decide +kernel) 24 rfl
              obtain ⟨xs, d, rfl⟩ := grow_of_below hH.below
              clear hH
              try simp only [World.grow_drew] at hK ⊢
              try simp only [World.grow_grow] at hK ⊢
              simp only [e24] at hK ⊢
              clear e24
              go_simp
              first | (with_reducible refine hK _ _ ?_) | go_wp2_with fail
              exact ⟨_, rfl, rfl, (by first | exact Below.refl _ _ | exact below_same _ _ _ | exact below_more _ _ _ _ | exact below_of_grow _ _), fun h => by cases h⟩
            case o10 =>
              intro x w1 hH K hK
              have e24 : x 24 = _ := hH.holds 8 (by decide) (by decide +kernel) 24 rfl
              have e25 : x 25 = _ := hH.holds 9 (by decide) (by decide +kernel) 25 rfl
              obtain ⟨xs, d, rfl⟩ := grow_of_below hH.below
              clear hH
              try simp only [World.grow_drew] at hK ⊢
              try simp only [World.grow_grow] at hK ⊢
              simp only [e24, e25] at hK ⊢
              clear e24 e25
              go_simp
              first | (with_reducible refine hK _ _ ?_) | go_wp2_with fail
              exact ⟨_, rfl, rfl, (by first | exact Below.refl _ _ | exact below_same _ _ _ | exact below_more _ _ _ _ | exact below_of_grow _ _), fun h => by cases h⟩
            case o11 =>
              intro x w1 hH K hK
              have e24 : x 24 = _ := hH.holds 8 (by decide) (by decide +kernel) 24 rfl
              have e26 : x 26 = _ := hH.holds 10 (by decide) (by decide +kernel) 26 rfl
              obtain ⟨xs, d, rfl⟩ := grow_of_below hH.below
              clear hH
              try simp only [World.grow_drew] at hK ⊢
              try simp only [World.grow_grow] at hK ⊢
              simp only [e24, e26] at hK ⊢
              clear e24 e26
              go_simp
              first | (with_reducible refine hK _ _ ?_) | go_wp2_with fail
              exact ⟨_, rfl, rfl, (by first | exact Below.refl _ _ | exact below_same _ _ _ | exact below_more _ _ _ _ | exact below_of_grow _ _), fun h => by cases h⟩
            case o12 =>
              intro x w1 hH K hK
              have e24 : x 24 = _ := hH.holds 8 (by decide) (by decide +kernel) 24 rfl
              have e27 : x 27 = _ := hH.holds 11 (by decide) (by decide +kernel) 27 rfl
              obtain ⟨xs, d, rfl⟩ := grow_of_below hH.below
              clear hH
              try simp only [World.grow_drew] at hK ⊢
              try simp only [World.grow_grow] at hK ⊢
              simp only [e24, e27] at hK ⊢
              clear e24 e27
              go_simp
              first | (with_reducible refine hK _ _ ?_) | go_wp2_with fail
              exact ⟨_, rfl, rfl, (by first | exact Below.refl _ _ | exact below_same _ _ _ | exact below_more _ _ _ _ | exact below_of_grow _ _), fun h => by cases h⟩
            case o13 =>
              intro x w1 hH K hK
              have e24 : x 24 = _ := hH.holds 8 (by decide) (by decide +kernel) 24 rfl
              obtain ⟨xs, d, rfl⟩ := grow_of_below hH.below
              clear hH
              try simp only [World.grow_drew] at hK ⊢
              try simp only [World.grow_grow] at hK ⊢
              simp only [e24] at hK ⊢
              clear e24
              go_simp
              first | (with_reducible refine hK _ _ ?_) | go_wp2_with fail
              exact ⟨_, rfl, rfl, (by first | exact Below.refl _ _ | exact below_same _ _ _ | exact below_more _ _ _ _ | exact below_of_grow _ _), fun h => by cases h⟩
            case o14 =>
              intro x w1 hH K hK
              have e24 : x 24 = _ := hH.holds 8 (by decide) (by decide +kernel) 24 rfl
              have e28 : x 28 = _ := hH.holds 12 (by decide) (by decide +kernel) 28 rfl
              have e29 : x 29 = _ := hH.holds 13 (by decide) (by decide +kernel) 29 rfl
              obtain ⟨xs, d, rfl⟩ := grow_of_below hH.below
              clear hH
              try simp only [World.grow_drew] at hK ⊢
              try simp only [World.grow_grow] at hK ⊢
              simp only [e24, e28, e29] at hK ⊢
              clear e24 e28 e29
              go_simp
              first | (with_reducible refine hK _ _ ?_) | go_wp2_with fail
              exact ⟨_, rfl, rfl, (by first | exact Below.refl _ _ | exact below_same _ _ _ | exact below_more _ _ _ _ | exact below_of_grow _ _), fun h => by cases h⟩
            case o15 =>
              intro x w1 hH K hK
              have e24 : x 24 = _ := hH.holds 8 (by decide) (by decide +kernel) 24 rfl
              have e30 : x 30 = _ := hH.holds 14 (by decide) (by decide +kernel) 30 rfl
              obtain ⟨xs, d, rfl⟩ := grow_of_below hH.below
              clear hH
              try simp only [World.grow_drew] at hK ⊢
              try simp only [World.grow_grow] at hK ⊢
              simp only [e24, e30] at hK ⊢
              clear e24 e30
              go_simp
              first | (with_reducible refine hK _ _ ?_) | go_wp2_with fail
              exact ⟨_, rfl, rfl, (by first | exact Below.refl _ _ | exact below_same _ _ _ | exact below_more _ _ _ _ | exact below_of_grow _ _), fun h => by cases h⟩
            case o16 =>
              intro x w1 hH K hK
              have e24 : x 24 = _ := hH.holds 8 (by decide) (by decide +kernel) 24 rfl
              have e31 : x 31 = _ := hH.holds 15 (by decide) (by decide +kernel) 31 rfl
              obtain ⟨xs, d, rfl⟩ := grow_of_below hH.below
              clear hH
              try simp only [World.grow_drew] at hK ⊢
              try simp only [World.grow_grow] at hK ⊢
              simp only [e24, e31] at hK ⊢
              clear e24 e31
              go_simp
              first | (with_reducible refine hK _ _ ?_) | go_wp2_with fail
              exact ⟨_, rfl, rfl, (by first | exact Below.refl _ _ | exact below_same _ _ _ | exact below_more _ _ _ _ | exact below_of_grow _ _), fun h => by cases h⟩
          case hend =>
            intro x w1 hH
            have e16 : x 16 = _ := hH.holds 0 (by decide) trivial 16 rfl
            have e17 : x 17 = _ := hH.holds 1 (by decide) trivial 17 rfl
            have e18 : x 18 = _ := hH.holds 2 (by decide) trivial 18 rfl
            have e19 : x 19 = _ := hH.holds 3 (by decide) trivial 19 rfl
            have e20 : x 20 = _ := hH.holds 4 (by decide) trivial 20 rfl
            have e21 : x 21 = _ := hH.holds 5 (by decide) trivial 21 rfl
            have e22 : x 22 = _ := hH.holds 6 (by decide) trivial 22 rfl
            have e23 : x 23 = _ := hH.holds 7 (by decide) trivial 23 rfl
            have e24 : x 24 = _ := hH.holds 8 (by decide) trivial 24 rfl
            have e25 : x 25 = _ := hH.holds 9 (by decide) trivial 25 rfl
            have e26 : x 26 = _ := hH.holds 10 (by decide) trivial 26 rfl
            have e27 : x 27 = _ := hH.holds 11 (by decide) trivial 27 rfl
            have e28 : x 28 = _ := hH.holds 12 (by decide) trivial 28 rfl
            have e29 : x 29 = _ := hH.holds 13 (by decide) trivial 29 rfl
            have e30 : x 30 = _ := hH.holds 14 (by decide) trivial 30 rfl
            have e31 : x 31 = _ := hH.holds 15 (by decide) trivial 31 rfl
            have e32 : x 32 = _ := hH.holds 16 (by decide) trivial 32 rfl
            obtain ⟨xs, d, rfl⟩ := grow_of_below hH.below
            clear hH
            simp only [e16, e17, e18, e19, e20, e21, e22, e23, e24, e25, e26, e27, e28, e29, e30, e31, e32]; clear e16 e17 e18 e19 e20 e21 e22 e23 e24 e25 e26 e27 e28 e29 e30 e31 e32
            simp only [List.drop_succ_cons, List.drop_nil]
            go_wp2_with fail
            go_meet
            exact ⟨congrArg Value.bool HD.out.symm, (by repeat (first | exact below_of_grow _ _ | exact Below.refl _ _ | exact below_more _ _ _ _ | (simp only [← Array.append_assoc]; first | exact below_more _ _ _ _ | exact below_same _ _ _ | exact Below.refl _ _) | exact below_same _ _ _ | (refine Below.alloc ?_ (by first | (simp; done) | (simp; omega)) _) | (refine Below.grow ?_ (by first | (simp; done) | (simp; omega)) _ _) | refine Below.drew ?_ | refine Below.drewN ?_ _ | (refine Below.putF ?_ (by first | (simp; done) | omega | (simp; omega)) _) | (refine Below.setCell ?_ (by first | (simp; done) | (simp; omega)) _)))⟩
      case rest =>
        obtain ⟨rfl, hbw⟩ := hcut
        have c7c : wc.cut? p7 0 26 = some (prefA pk pd) := by rw [cut_of_heap (hbw.block p7 l7)]; exact c7
        have l7c : p7 < wc.heap.size := Nat.lt_of_lt_of_le l7 hbw.size
        have hAc := HW.out.2.keep hbw
        have hbcc : wc.cell? ⟨b, 2, none⟩ = some (.slice a3 np c3) := (cells_is hAc.cells 2).1.trans (by rw [HPV.out.2, ← HPV.out.1]; rfl)
        have hbWc : b < wc.heap.size := Nat.lt_of_lt_of_le hbW' hbw.size
        have hfz : wc.frozen? ⟨b, 2, none⟩ = false := (cells_is hAc.cells 2).2
        have HE := Lib.hid (And.intro hAc (((H1.out.2.1.trans (BEvo.grow g1 HW.out.1)).trans (BEvo.grow g1 hbw)) : BEvo b w g wc g1))
        clear hbw hAc c7 l7 d7 hbc hbW' HC
        by_cases hcnd : (0 ≤ pd ∧ pd ≤ 5) ∧ is_ = false
        · --@4
          have hcb : cb = true := HCB.out.trans (decide_eq_true hcnd)
          subst hcb
          have HCN := Lib.hid hcnd
          have HV := Lib.hid (show res = addP n ((ginL (g1.P ++ [(pk, pd)]) (l.drop (i + 1))).1, (ginL (g1.P ++ [(pk, pd)]) (l.drop (i + 1))).2 + 1) by rw [HR.out, HG.out, if_pos hcnd])
          clear hcnd
          go_upto_region 8 with fail
          apply wp_region_specsT (by rfl) [.pure _, .val _, .val _, .val _, .val _, .val _, .rel (OneAt wc.heap.size (prefA pk pd))] 7 (by rfl) [33, 34, 35, 36, 37, 38, 39] [] [0] (by rfl) (by rfl) (by decide) (by decide +kernel) (fun _ _ _ _ _ h => h)
          case hF => intro x; simp only [over, List.foldl_cons, List.foldl_nil, List.setIfInBounds_toArray, List.set_cons_succ, List.set_cons_zero]; exact rfl
          case hops =>
            refine ⟨?o0, ?o1, ?o2, ?o3, ?o4, ?o5, ?o6, trivial⟩
            case o0 =>
              intro x w1 hH
              clear hH
              exact Or.inl ⟨rfl, fun _ => rfl⟩
            case o1 =>
              intro x w1 hH K hK
              obtain ⟨xs, d, rfl⟩ := grow_of_below hH.below
              clear hH
              try simp only [World.grow_drew] at hK ⊢
              try simp only [World.grow_grow] at hK ⊢
              go_simp
              first | (with_reducible refine hK _ _ ?_) | go_wp2_with fail
              exact ⟨_, rfl, rfl, (by first | exact Below.refl _ _ | exact below_same _ _ _ | exact below_more _ _ _ _ | exact below_of_grow _ _), fun h => by cases h⟩
            case o2 =>
              intro x w1 hH K hK
              have e34 : x 34 = _ := hH.holds 1 (by decide) (by decide +kernel) 34 rfl
              obtain ⟨xs, d, rfl⟩ := grow_of_below hH.below
              clear hH
              try simp only [World.grow_drew] at hK ⊢
              try simp only [World.grow_grow] at hK ⊢
              simp only [e34] at hK ⊢
              clear e34
              go_simp
              first | (with_reducible refine hK _ _ ?_) | go_wp2_with fail
              exact ⟨_, rfl, rfl, (by first | exact Below.refl _ _ | exact below_same _ _ _ | exact below_more _ _ _ _ | exact below_of_grow _ _), fun h => by cases h⟩
            case o3 =>
              intro x w1 hH K hK
              have e35 : x 35 = _ := hH.holds 2 (by decide) (by decide +kernel) 35 rfl
              obtain ⟨xs, d, rfl⟩ := grow_of_below hH.below
              clear hH
              try simp only [World.grow_drew] at hK ⊢
              try simp only [World.grow_grow] at hK ⊢
              simp only [e35] at hK ⊢
              clear e35
              go_simp
              first | (with_reducible refine hK _ _ ?_) | go_wp2_with fail
              exact ⟨_, rfl, rfl, (by first | exact Below.refl _ _ | exact below_same _ _ _ | exact below_more _ _ _ _ | exact below_of_grow _ _), fun h => by cases h⟩
            case o4 =>
              intro x w1 hH K hK
              have e36 : x 36 = _ := hH.holds 3 (by decide) (by decide +kernel) 36 rfl
              obtain ⟨xs, d, rfl⟩ := grow_of_below hH.below
              clear hH
              try simp only [World.grow_drew] at hK ⊢
              try simp only [World.grow_grow] at hK ⊢
              simp only [e36] at hK ⊢
              clear e36
              go_simp
              first | (with_reducible refine hK _ _ ?_) | go_wp2_with fail
              exact ⟨_, rfl, rfl, (by first | exact Below.refl _ _ | exact below_same _ _ _ | exact below_more _ _ _ _ | exact below_of_grow _ _), fun h => by cases h⟩
            case o5 =>
              intro x w1 hH K hK
              obtain ⟨xs, d, rfl⟩ := grow_of_below hH.below
              clear hH
              try simp only [World.grow_drew] at hK ⊢
              try simp only [World.grow_grow] at hK ⊢
              go_simp
              first | (with_reducible refine hK _ _ ?_) | go_wp2_with fail
              exact ⟨_, rfl, rfl, (by first | exact Below.refl _ _ | exact below_same _ _ _ | exact below_more _ _ _ _ | exact below_of_grow _ _), fun h => by cases h⟩
            case o6 =>
              intro x w1 hH K hK
              have e38 : x 38 = _ := hH.holds 5 (by decide) (by decide +kernel) 38 rfl
              obtain ⟨xs, d, rfl⟩ := grow_of_below hH.below
              clear hH
              try simp only [World.grow_drew] at hK ⊢
              try simp only [World.grow_grow] at hK ⊢
              simp only [e38] at hK ⊢
              clear e38
              go_simp
              go_wp2_with fail
              exact ⟨_, rfl, fun w3 h3 => OneAt.keep ⟨_, _, rfl, by simp, by rw [heap_al, if_pos (by simp)]⟩ h3, (by repeat (first | exact below_of_grow _ _ | exact Below.refl _ _ | exact below_more _ _ _ _ | (simp only [← Array.append_assoc]; first | exact below_more _ _ _ _ | exact below_same _ _ _ | exact Below.refl _ _) | exact below_same _ _ _ | (refine Below.alloc ?_ (by first | (simp; done) | (simp; omega)) _) | (refine Below.grow ?_ (by first | (simp; done) | (simp; omega)) _ _) | refine Below.drew ?_ | refine Below.drewN ?_ _ | (refine Below.putF ?_ (by first | (simp; done) | omega | (simp; omega)) _) | (refine Below.setCell ?_ (by first | (simp; done) | (simp; omega)) _))), fun h => by cases h⟩
          case hend =>
            intro x w1 hH
            have e33 : x 33 = _ := hH.holds 0 (by decide) trivial 33 rfl
            have e34 : x 34 = _ := hH.holds 1 (by decide) trivial 34 rfl
            have e35 : x 35 = _ := hH.holds 2 (by decide) trivial 35 rfl
            have e36 : x 36 = _ := hH.holds 3 (by decide) trivial 36 rfl
            have e37 : x 37 = _ := hH.holds 4 (by decide) trivial 37 rfl
            have e38 : x 38 = _ := hH.holds 5 (by decide) trivial 38 rfl
            have r39 := hH.holds 6 (by decide) trivial 39 rfl (_) (Below.refl _ _)
            obtain ⟨xs, d, rfl⟩ := grow_of_below hH.below
            clear hH
            simp only [e33, e34, e35, e36, e37, e38]; clear e33 e34 e35 e36 e37 e38
            obtain ⟨l39, t39, h39, hge, hh39⟩ := r39
            have hb8 : Below wc.heap.size wc (wc.drew.grow xs d) := ((Below.refl _ wc).drew).grow (Nat.le_refl _) xs d
            have hA8 := HE.out.1.keep hb8
            have HE8 := Lib.hid (And.intro hA8 (HE.out.2.trans (BEvo.grow g1 hb8)))
            have hsz8 : (wc.drew.grow xs d).heap.size = wc.heap.size + xs.size := by simp
            have HHH := Lib.hid (And.intro hge hh39)
            clear hb8 hA8 hge hh39
            show wpAny _ .any _ _ (3 + 1) _ _ _
            refine step_one 7 rfl (by decide +kernel) ?_
            intro K' hK'
            simp only [h39] at hK' ⊢
            clear h39
            refine step_append (o := ⟨some 40, _, _, _, _, _⟩) (B := B) (xs := g1.P.map prefP) (ys := [prefP (pk, pd)]) row_prefC rfl (.tmp 37) (.tmp 39) rfl (v := _) rfl ?_ (y := _) rfl ?_ ?_ ?_ ?_ ?_
            · have := HE8.out.1.own
              rw [HPV.out.1, ← HPV.out.2] at this
              exact this
            · exact ⟨_, sl_one (Nat.le_refl _) (by decide) (cut_heap HHH.out.2 (prefA_size pk pd))⟩
            · exact fun x hx => by
                obtain rfl : x = prefP (pk, pd) := by simpa using hx
                exact one_prefP _
            · have := H1.out.2.2.2.2.2
              have := HLP.out
              first | omega | (simp; omega)
            · exact HE8.out.1.size
            intro v' w' ho hg hv
            have hg : (wc.drew.grow xs d).grownBy w' (Value.slice a3 np c3).ownBlock := hg
            have hv : v'.ownBlock = (Value.slice a3 np c3).ownBlock ∨ v'.ownBlock = some (wc.drew.grow xs d).heap.size := hv
            refine hK' _ _ ?_
            clear hK' K'
            have ho2 : OwnA w' B 26 102 v' ((g1.P ++ [(pk, pd)]).map prefP) := by simpa using ho
            have hv2 : v'.ownBlock = g1.pv.ownBlock ∨ v'.ownBlock = some (wc.drew.grow xs d).heap.size := by rw [HPV.out.1, ← HPV.out.2]; exact hv
            have hg2 : (wc.drew.grow xs d).grownBy w' g1.pv.ownBlock := by rw [HPV.out.1, ← HPV.out.2]; exact hg
            have hadd := BufAt.add3 HE8.out.1 (pk, pd) ho2 hg2 hv2
            have HF := Lib.hid (And.intro hadd.1 (HE8.out.2.trans hadd.2))
            have hbw' : b < w'.heap.size := Nat.lt_of_lt_of_le (by rw [hsz8]; omega) hg2.size
            have hcf : w'.cell? ⟨b, 2, none⟩ = some g1.pv ∧ w'.frozen? ⟨b, 2, none⟩ = false := by
              have hbo : some b ≠ g1.pv.ownBlock := by
                intro e
                have := HE8.out.1.nodup
                simp [BG.blocks, ← e] at this
              exact cells_is ((hg2.block b (by rw [hsz8]; omega) hbo).trans HE8.out.1.cells) 2
            obtain ⟨hc', hfz'⟩ := hcf
            obtain ⟨a9, c9, hv9, _, _⟩ := ho2.form
            obtain ⟨n9, hn9⟩ : ∃ n9, n9 = ((g1.P ++ [(pk, pd)]).map prefP).length := ⟨_, rfl⟩
            rw [← hn9] at hv9
            clear ho hg hv ho2 hv2 hg2 hadd HE8 HHH hsz8 hn9
            subst hv9
            show wpAny _ .any _ _ (2 + 1) _ _ _
            refine step_one 8 rfl (by decide +kernel) ?_
            intro K' hK'
            go_simp
            refine hK' _ _ ?_
            clear hK' K'
            show wpAny _ .any _ _ (1 + 1) _ _ _
            refine step_one 9 rfl (by decide +kernel) ?_
            intro K' hK'
            go_simp
            refine hK' _ _ ?_
            clear hK' K'
            show wpAny _ .any _ _ (0 + 1) _ _ _
            refine step_one 10 rfl (by decide +kernel) ?_
            intro K' hK'
            go_simp
            refine hK' _ _ ?_
            clear hK' K'
            refine wpAny_done (by decide +kernel) ?_ _
            go_wp2_with fail
            go_roundw
            case rel => exact ⟨i + 1, n + 1, by omega, by omega, by omega, by go_num, rfl, Lib.hid ⟨_, HF.out.1, HF.out.2, H1.out.2.2.1, H1.out.2.2.2.1, fun q hq => by
              rcases List.mem_append.1 hq with hq | hq
              · exact H1.out.2.2.2.2.1 q hq
              · simp at hq; subst hq; exact HCN.out.1, by have := H1.out.2.2.2.2.2; simp; omega, by rw [HV.out]; unfold addP; simp only [Prod.mk.injEq, true_and]; omega⟩⟩
            case measure => simp [intOf]; omega
        · --@5
          have hcb : cb = false := HCB.out.trans (decide_eq_false hcnd)
          subst hcb
          have HV := Lib.hid (show res = addP n (ginL g1.P (l.drop (i + 1))) by rw [HR.out, HG.out, if_neg hcnd])
          clear hcnd
          go_wp2_with fail
          go_roundw
          case rel => exact ⟨i + 1, n, by omega, by omega, by omega, by go_num, rfl, Lib.hid ⟨g1, HE.out.1, HE.out.2, H1.out.2.2.1, H1.out.2.2.2.1, H1.out.2.2.2.2.1, by have := H1.out.2.2.2.2.2; omega, HV.out⟩⟩
          case measure => simp [intOf]; omega
    · --@6
      have hie : i = l.length := by omega
      have hgn : ¬ (i : Int) < l.length := by omega
      have hv : res = (g1.P, n) := by rw [hr, hie, List.drop_length]; unfold addP ginL; simp
      have HF := Lib.hid (And.intro hA (And.intro hE (And.intro hW hG)))
      have H1 := Lib.hid (show res.2 = n by rw [hv])
      have H3 := Lib.hid (show res.1 = g1.P by rw [hv])
      clear hA hE hW hG hr hv hOk hPl
      go_wp2_with fail
      exact bodyPost_ret (v := .int .i64 n) (by simp [results, Tryz.results32, go_sem]) rfl ⟨by rw [H1.out], g1, HF.out.1, HF.out.2.1, HF.out.2.2.1, HF.out.2.2.2, H3.out.symm⟩
end
end Go.Proofs.YtfmphfidloobkaaGreatDoor.Dn
namespace Go.Proofs.YtfmphfidloobkaaGreatDoor
set_option maxRecDepth 100000
open Go.RowKit

def trip (g : BG) : MW × MG × MP := (g.W, g.G, g.P)
theorem playG_next (t : MW × MG × MP) (acs : List ActB) (i : Nat) (h : i < acs.length) : playG t (acs.take (i + 1)) = stepB (playG t (acs.take i)) acs[i] := by
  unfold playG
  rw [List.take_succ_eq_append_getElem h, List.foldl_append]
  rfl
set_option maxHeartbeats 20000000 in
theorem play_calls {w : World} {B b : Nat} {g : BG} (h : BufAt w B b g) (h16 : g.W.length ≤ 16) (hP : OkP g.P) (hPl : g.P.length ≤ 1000) (av : Value) (acs : List ActB) (ha : ActsAt w B av acs) :
    Calls Tryz.prog 37 #[.pointer (some ⟨b, 0, none⟩), av] w fun e w' => e = .returned (.tuple #[]) ∧ ∃ g', BufAt w' B b g' ∧ BEvo b w g w' g' ∧ trip g' = playG (trip g) (acs.take 20) := by
  obtain ⟨a, cap, rfl, hmx⟩ := ha.form
  unfold maxLen at hmx
  have hbl : b < w.heap.size := h.lt b (by simp [BG.blocks])
  have HH := Lib.hid h
  have HAS := Lib.hid ha
  have HP0 := Lib.hid (And.intro h16 (And.intro hP hPl))
  clear h ha h16 hP hPl
  go_enter Tryz.func37, Tryz.ntmps37
  go_wp2_with fail
  go_loopw [4] (fun s4 wr => ∃ i : Nat, i ≤ acs.length ∧ i ≤ 20 ∧ s4 = .int .i64 i ∧ Hid (∃ g1, BufAt wr B b g1 ∧ BEvo b w g wr g1 ∧ g1.W.length ≤ 16 ∧ OkP g1.P ∧ g1.P.length ≤ g.P.length + i ∧ trip g1 = playG (trip g) (acs.take i))) (fun s4 _ => 20 - (intOf s4).toNat)
  case atStart => exact ⟨0, Nat.zero_le _, Nat.zero_le _, rfl, Lib.hid ⟨g, HH.out, BEvo.refl _ _ _, HP0.out.1, HP0.out.2.1, Nat.le_refl _, rfl⟩⟩
  case round =>
    obtain ⟨i, hi, hi20, rfl, HR⟩ := hrel
    obtain ⟨g1, hA, hE, hW16, hOk, hPl, hr⟩ := HR.out
    clear HR
    by_cases hlt : i < acs.length
    · have hltI : (i : Int) < acs.length := by omega
      by_cases h20 : i < 20
      · have h20I : (i : Int) < 20 := by omega
        have hbw := hE.below HH.out
        obtain ⟨q, o, lv, rfl, hlb, _, f1, fsl, f2, f3⟩ := HAS.out.at_ hlt
        have hnext := playG_next (trip g) acs i hlt
        rw [← hr] at hnext
        generalize acs[i] = x at *
        obtain ⟨xn, xl, xk, xp⟩ := x
        simp only at f1 fsl f2 f3
        have hBw : B ≤ wr.heap.size := hA.size
        have hqr : q < wr.heap.size := by omega
        have e1 : wr.cell? ⟨q, o + i * 53 + 1, none⟩ = some lv := by rw [cell_of_heap (hbw.block q hlb)]; exact f1
        have HCUT := Lib.hid (cut_calls xl lv wr ((fsl.below hbw).more hBw))
        have H1 := Lib.hid (And.intro hA (And.intro hE (And.intro hW16 (And.intro hOk hPl))))
        have HN := Lib.hid hnext
        have HF2 := Lib.hid (fun (W : World) (hb : Below B w W) => (⟨by rw [cut_of_heap (hb.block q hlb)]; exact f2, by rw [cut_of_heap (hb.block q hlb)]; exact f3⟩ : W.cut? q (o + i * 53 + 2) 25 = some (row8 xk.val) ∧ W.cut? q (o + i * 53 + 27) 26 = some (prefA xp.1 xp.2)))
        have hkl := xk.len
        clear hbw fsl hA hE hW16 hOk hPl hr hnext f1 f2 f3
        go_wp2_with fail
        refine HCUT.out.mono ?_
        rintro e W2 ⟨lv2, rfl, hb2, ho2⟩
        have hA2 := H1.out.1.keep hb2
        obtain ⟨a2, c2, hlv2, _, hm2⟩ := ho2.form
        rw [List.length_map] at hlv2
        have HPUT := Lib.hid (bput_calls hA2 H1.out.2.2.1 lv2 (cutW xl) (ho2.sl.more (Nat.le_refl _)) (fun q' o' n' c' he hn hm => by
          have h1 := H1.out.1.lt q' hm
          have h2 := (ho2.lt q' (by rw [he]; rfl)).1
          omega))
        rw [hlv2] at HPUT
        have HE2 := Lib.hid (H1.out.2.1.trans (BEvo.grow g1 hb2))
        subst hlv2
        clear hb2 ho2 hA2 HCUT e1 hm2
        go_wp2_with fail
        refine HPUT.out.mono ?_
        rintro e W3 ⟨rfl, g2, hA3, hE3, hW3, hG3, hP3⟩
        have hE3' := HE2.out.trans hE3
        have hB3 : B ≤ W3.heap.size := hA3.size
        have hq3 : q < W3.heap.size := by omega
        obtain ⟨c3, -⟩ := HF2.out W3 (hE3'.below HH.out)
        have HGU := Lib.hid (fun (V : World) (hb : Below W3.heap.size W3 V) (lb : Nat) (hl : V.cut? lb 0 25 = some (row8 xk.val)) (hlb : lb < V.heap.size) (hge : W3.heap.size ≤ lb) =>
          guard_calls (hA3.keep hb) (.slice (some ⟨lb, 0, none⟩) 1 1) [xk] ((sl_one (Nat.le_refl _) (by decide) hl).more (by omega)) (fun q' o' n' c' he _ hm => by
            cases he
            have := hA3.lt _ hm
            omega))
        have H3 := Lib.hid (And.intro hE3' (And.intro hW3 (And.intro hG3 hP3)))
        have HA3 := Lib.hid hA3
        clear hA3 hE3 hW3 hG3 hP3 hE3' HPUT HE2
        go_wp2_with fail
        refine (HGU.out _ ?_ _ ?_ ?_ ?_).mono ?_
        · exact (by repeat (first | exact below_of_grow _ _ | exact Below.refl _ _ | exact below_more _ _ _ _ | (simp only [← Array.append_assoc]; first | exact below_more _ _ _ _ | exact below_same _ _ _ | exact Below.refl _ _) | exact below_same _ _ _ | (refine Below.alloc ?_ (by first | (simp; done) | (simp; omega)) _) | (refine Below.grow ?_ (by first | (simp; done) | (simp; omega)) _ _) | refine Below.drew ?_ | refine Below.drewN ?_ _ | (refine Below.putF ?_ (by first | (simp; done) | omega | (simp; omega)) _) | (refine Below.setCell ?_ (by first | (simp; done) | (simp; omega)) _)))
        · exact cut_heap ((heap_al _ _ _).trans (if_pos rfl)) (by simp [hkl])
        · simp
        · exact Nat.le_refl _
        rintro e W4 ⟨rfl, g4, hA4, hE4, hW4, hG4, hP4⟩
        have hE4' := (H3.out.1.trans (BEvo.grow g2 (show Below W3.heap.size W3 _ from (by repeat (first | exact below_of_grow _ _ | exact Below.refl _ _ | exact below_more _ _ _ _ | (simp only [← Array.append_assoc]; first | exact below_more _ _ _ _ | exact below_same _ _ _ | exact Below.refl _ _) | exact below_same _ _ _ | (refine Below.alloc ?_ (by first | (simp; done) | (simp; omega)) _) | (refine Below.grow ?_ (by first | (simp; done) | (simp; omega)) _ _) | refine Below.drew ?_ | refine Below.drewN ?_ _ | (refine Below.putF ?_ (by first | (simp; done) | omega | (simp; omega)) _) | (refine Below.setCell ?_ (by first | (simp; done) | (simp; omega)) _)))))).trans hE4
        have hB4 : B ≤ W4.heap.size := hA4.size
        have hq4 : q < W4.heap.size := by omega
        obtain ⟨-, c4⟩ := HF2.out W4 (hE4'.below HH.out)
        have hOk4 : OkP g4.P := by rw [hP4, H3.out.2.2.2]; exact H1.out.2.2.2.1
        have hPl4 : g4.P.length ≤ g.P.length + i := by rw [hP4, H3.out.2.2.2]; exact H1.out.2.2.2.2
        have HGI := Lib.hid (fun (V : World) (hb : Below W4.heap.size W4 V) (lb : Nat) (hl : V.cut? lb 0 26 = some (prefA xp.1 xp.2)) (hlb : lb < V.heap.size) (hge : W4.heap.size ≤ lb) =>
          Dn.guardIn_calls (hA4.keep hb) hOk4 (.slice (some ⟨lb, 0, none⟩) 1 1) [xp] (by have := HP0.out.2.2; simp; omega) ((sl_one (Nat.le_refl _) (by decide) hl).more (by omega)) (fun q' o' n' c' he _ hm => by
            cases he
            have := hA4.lt _ hm
            omega))
        have H4 := Lib.hid (And.intro hE4' (And.intro hW4 (And.intro hG4 (And.intro hP4 (And.intro hOk4 hPl4)))))
        clear hA4 hE4 hW4 hG4 hP4 hE4' HGU hOk4 hPl4 c3
        go_wp2_with fail
        refine (HGI.out _ ?_ _ ?_ ?_ ?_).mono ?_
        · exact (by repeat (first | exact below_of_grow _ _ | exact Below.refl _ _ | exact below_more _ _ _ _ | (simp only [← Array.append_assoc]; first | exact below_more _ _ _ _ | exact below_same _ _ _ | exact Below.refl _ _) | exact below_same _ _ _ | (refine Below.alloc ?_ (by first | (simp; done) | (simp; omega)) _) | (refine Below.grow ?_ (by first | (simp; done) | (simp; omega)) _ _) | refine Below.drew ?_ | refine Below.drewN ?_ _ | (refine Below.putF ?_ (by first | (simp; done) | omega | (simp; omega)) _) | (refine Below.setCell ?_ (by first | (simp; done) | (simp; omega)) _)))
        · exact cut_heap ((heap_al _ _ _).trans (if_pos rfl)) (by simp)
        · simp
        · exact Nat.le_refl _
        rintro e W5 ⟨rfl, g5, hA5, hE5, hW5, hG5, hP5⟩
        have hE5' := (H4.out.1.trans (BEvo.grow g4 (show Below W4.heap.size W4 _ from (by repeat (first | exact below_of_grow _ _ | exact Below.refl _ _ | exact below_more _ _ _ _ | (simp only [← Array.append_assoc]; first | exact below_more _ _ _ _ | exact below_same _ _ _ | exact Below.refl _ _) | exact below_same _ _ _ | (refine Below.alloc ?_ (by first | (simp; done) | (simp; omega)) _) | (refine Below.grow ?_ (by first | (simp; done) | (simp; omega)) _ _) | refine Below.drew ?_ | refine Below.drewN ?_ _ | (refine Below.putF ?_ (by first | (simp; done) | omega | (simp; omega)) _) | (refine Below.setCell ?_ (by first | (simp; done) | (simp; omega)) _)))))).trans hE5
        have hW16 : g5.W.length ≤ 16 := by rw [hW5, H4.out.2.1, H3.out.2.1]; exact putL_len _ _ H1.out.2.2.1
        have hOk5 : OkP g5.P := by rw [hP5]; exact ginL_ok _ _ H4.out.2.2.2.2.1
        have hPl5 : g5.P.length ≤ g.P.length + (i + 1) := by
          rw [hP5]
          have h1 := ginL_len [xp] g4.P
          have h2 := H4.out.2.2.2.2.2
          simp only [List.length_cons, List.length_nil] at h1
          omega
        have htr : trip g5 = playG (trip g) (acs.take (i + 1)) := by
          rw [HN.out]
          unfold trip stepB
          rw [hW5, H4.out.2.1, H3.out.2.1, hG5, H4.out.2.2.1, H3.out.2.2.1, hP5, H4.out.2.2.2.1, H3.out.2.2.2]
        have HF := Lib.hid (And.intro hA5 (And.intro hE5' (And.intro hW16 (And.intro hOk5 (And.intro hPl5 htr)))))
        clear hA5 hE5 hE5' hW5 hG5 hP5 hW16 hOk5 hPl5 htr HGI c4
        go_wp2_with fail
        go_roundw
        case rel => exact ⟨i + 1, by omega, by omega, by go_num, Lib.hid ⟨g5, HF.out⟩⟩
        case measure => simp [intOf]; omega
      · have h20e : i = 20 := by omega
        have h20I : ¬ (i : Int) < 20 := by omega
        have HF := Lib.hid (And.intro hA (And.intro hE hr))
        subst h20e
        clear hA hE hr hW16 hOk hPl
        go_wp2_with fail
        exact bodyPost_end (v := .tuple #[]) (by simp [results, Tryz.results37, go_sem]) rfl ⟨rfl, g1, HF.out.1, HF.out.2.1, HF.out.2.2⟩
    · have hgn : ¬ (i : Int) < acs.length := by omega
      have hie : acs.take 20 = acs.take i := by rw [List.take_of_length_le (by omega), List.take_of_length_le (by omega)]
      have HF := Lib.hid (And.intro hA (And.intro hE hr))
      have HIE := Lib.hid hie
      clear hA hE hr hW16 hOk hPl hie
      go_wp2_with fail
      exact bodyPost_end (v := .tuple #[]) (by simp [results, Tryz.results37, go_sem]) rfl ⟨rfl, g1, HF.out.1, HF.out.2.1, by rw [HIE.out]; exact HF.out.2.2⟩
end Go.Proofs.YtfmphfidloobkaaGreatDoor
namespace Go.Proofs.YtfmphfidloobkaaGreatDoor
set_option maxRecDepth 100000
open Go.RowKit

theorem row_keyB : RowType Tryz.prog 136 74 25 25 := ⟨Tryz.underlying136, by kernel_rfl, by decide, by decide⟩
def rk8 (k : K25) : Array Value := row8 k.val
theorem one_rk8s (k : K25) : ∀ x ∈ [rk8 k], allOne x = true := by
  intro x hx; simp at hx; subst hx
  unfold rk8 allOne
  rw [Array.all_eq_true_iff_forall_mem]
  intro v hv
  simp [row8] at hv
  obtain ⟨b, _, rfl⟩ := hv
  rfl
/-- not written -/
def freeK (W : MW) (k : K25) : Bool := decide (lk W k = none)
set_option maxHeartbeats 8000000 in
theorem bguards_calls {w : World} {B b : Nat} {g : BG} (h : BufAt w B b g) (hlen : g.G.length ≤ 1000) :
    Calls Tryz.prog 40 #[.pointer (some ⟨b, 0, none⟩)] w fun e w' => ∃ (v' : Value) (l' : List K25), e = .returned v' ∧ Below w.heap.size w w' ∧ l'.Perm ((g.G.map (·.1)).filter (freeK g.W)) ∧ (l'.Pairwise fun x y : K25 => lessL y.val x.val = false) ∧ OwnA w' w.heap.size 25 74 v' (l'.map rk8) := by
  have hc : w.cell? ⟨b, 1, none⟩ = some (.map g.m2) := (cells_is h.cells 1).1
  have hbl : b < w.heap.size := h.lt b (by simp [BG.blocks])
  have HA := Lib.hid h
  obtain ⟨L, hL⟩ : ∃ L, L = g.G := ⟨_, rfl⟩
  have hw2 := h.w2
  rw [← hL] at hw2 hlen ⊢
  clear h hL
  rcases hw2 with ⟨hm, hL⟩ | ⟨m, hm, hM⟩
  · rw [hm] at hc
    have hrg := run_range_nilMap (P := Tryz.prog) w _ _ _ Tryz.underlying93
    have hnx : ∀ ty, (Instr.next (.pointer (some ⟨w.heap.size, 0, none⟩)) false ty).run Tryz.prog (w.alloc (.mapIter none 0 #[] 0)) = _ := fun ty => run_next_nilMap w ty 0 0 #[]
    rw [hL]
    clear hm hL hlen
    have HOC := Lib.hid (fun (W : World) (hb : Below w.heap.size w W) => orderGuards_calls [] (.slice none 0 0) W w.heap.size hb.size (OwnA.nil _ _ _ _) (Nat.zero_le _))
    go_enter Tryz.func40, Tryz.ntmps40
    go_wp2_with fail
    refine wp_loop_rounds 1 ?_
    rw [rounds_succ]
    go_wp2_with fail
    refine (HOC.out _ (by repeat (first | exact below_of_grow _ _ | exact Below.refl _ _ | exact below_more _ _ _ _ | (simp only [← Array.append_assoc]; first | exact below_more _ _ _ _ | exact below_same _ _ _ | exact Below.refl _ _) | exact below_same _ _ _ | (refine Below.alloc ?_ (by first | (simp; done) | (simp; omega)) _) | (refine Below.grow ?_ (by first | (simp; done) | (simp; omega)) _ _) | refine Below.drew ?_ | refine Below.drewN ?_ _ | (refine Below.putF ?_ (by first | (simp; done) | omega | (simp; omega)) _) | (refine Below.setCell ?_ (by first | (simp; done) | (simp; omega)) _)))).mono ?_
    rintro e w3 ⟨rfl, l', hp, _, ho, hb⟩
    have hl' : l' = [] := List.perm_nil.1 hp
    subst hl'
    have HF := Lib.hid (And.intro ho hb)
    clear ho hb hp
    go_wp2_with fail
    go_ret
    exact ⟨.slice none 0 0, [], rfl, (show Below w.heap.size w (w.alloc (.mapIter none 0 #[] 0)) from (Below.refl _ _).alloc (Nat.le_refl _) _).trans (HF.out.2.mono (by simp)), List.Perm.nil, List.Pairwise.nil, HF.out.1⟩
  · rw [hm] at hc
    have hu := hM.uniq
    have hml := hM.lt
    have HM := Lib.hid hM
    clear hm hM hu
    go_enter Tryz.func40, Tryz.ntmps40
    go_wp2_with fail
    obtain ⟨w1, hrun, hr1, hb1⟩ := range_run (P := Tryz.prog) (t := 93) (et := 4) Tryz.underlying93 HM.out
    rw [hrun]
    simp only [Result.andThen]
    rw [Oper.upon_value]
    have HR := Lib.hid hr1
    have HB := Lib.hid hb1
    clear hrun hr1 hb1
    have hs1 : w.heap.size + 1 ≤ w1.heap.size := HR.out.lt.2
    go_wp2_with fail
    simp only [Act.put, List.setIfInBounds_toArray, List.set_cons_succ, List.set_cons_zero]
    go_loopg [3] L.length (fun gk s3 wr => ∃ (left done : MG), gk = left.length ∧ Hid (RangeIs ekB evB (fun _ => True) wr m w.heap.size L left) ∧ Hid ((done ++ left).Perm L) ∧ Hid (Below w.heap.size w wr) ∧ Hid (OwnA wr (w.heap.size + 1) 25 74 s3 (((done.map (·.1)).filter (freeK g.W)).map rk8)) ∧ w.heap.size + 1 ≤ wr.heap.size)
    case atStart => exact ⟨L, [], rfl, HR, Lib.hid (List.Perm.refl _), HB, Lib.hid (OwnA.nil _ _ _ _), hs1⟩
    case round =>
      obtain ⟨left, done, hgk, HR2, HP, HB2, HO, hsz⟩ := hrel
      rcases next_run (P := Tryz.prog) 0 HR2.out with ⟨h0, hrun⟩ | ⟨p, w2, hp, hrun, h1, h2, h3⟩
      · have HP2 := Lib.hid (show done.Perm L by have := HP.out; rwa [h0, List.append_nil] at this)
        clear h0 HP
        go_wp2_with fail
        refine (orderGuards_calls ((done.map (·.1)).filter (freeK g.W)) u3 wr (w.heap.size + 1) hsz HO.out (Nat.le_trans (List.length_filter_le _ _) (by rw [List.length_map, HP2.out.length_eq]; omega))).mono ?_
        rintro e w3 ⟨rfl, l', hp', hs', ho', hb'⟩
        have HO3 := Lib.hid (And.intro ho' (And.intro hs' (hp'.trans ((HP2.out.map (·.1)).filter (freeK g.W)))))
        have HB3 := Lib.hid (HB2.out.trans (hb'.mono (Nat.le_succ _)))
        clear ho' hb' hp' hs'
        go_wp2_with fail
        go_ret
        exact ⟨_, l', rfl, HB3.out, HO3.out.2.2, HO3.out.2.1, HO3.out.1.mono (Nat.le_succ _)⟩
      · have HP2 := Lib.hid (show (done ++ [p] ++ del left p.1).Perm L by
          have h4 : Uniq left := HR2.out.uniqL
          have := HP.out
          rw [List.append_assoc, List.singleton_append]
          exact ((del_perm h4 hp).append_left done).trans this)
        have hdl : (del left p.1).length < gk := by rw [hgk]; exact del_mem_len hp
        have hlt := h1.lt
        have hr2 := h2.size
        have hne : ∀ g, u3.ownBlock = some g → g ≠ w.heap.size := fun g hg => by have := HO.out.lt g hg; omega
        have HR3 := Lib.hid h1
        have HO2 := Lib.hid (HO.out.keep (w' := w2) (fun g hg hlt => h2.block g (hne g hg)))
        have HB3 := Lib.hid (HB2.out.trans ⟨h2.os, h2.tape, h2.output, by rw [h2.size]; exact Nat.le_refl _, fun k hk => h2.block k (by omega)⟩ : Below w.heap.size w w2)
        have hdone : done.length ≤ 1000 := by
          have := HP.out.length_eq
          rw [List.length_append] at this
          omega
        have hsz2 : w.heap.size + 1 ≤ w2.heap.size := by omega
        clear h1 h2 hp HR2 HP HB2 HO hne hr2 hsz
        obtain ⟨k, x⟩ := p
        simp only [ekB, evB] at hrun h3
        have hkl := k.len
        obtain ⟨xo, hxo⟩ : ∃ y, y = wrOr g.W k := ⟨_, rfl⟩
        obtain ⟨is_, his⟩ : ∃ y, y = (lk g.W k).isSome := ⟨_, rfl⟩
        have HGET := Lib.hid (fun (W : World) (hb : Below w.heap.size w W) => by have := bget_gives (HA.out.keep hb) k; rw [← hxo, ← his] at this; exact this)
        have HF := Lib.hid (show ((done ++ [(k, x)]).map (·.1)).filter (freeK g.W) = if is_ = false then (done.map (·.1)).filter (freeK g.W) ++ [k] else (done.map (·.1)).filter (freeK g.W) by
          rw [List.map_append, List.filter_append, his]
          have e : freeK g.W k = !(lk g.W k).isSome := by unfold freeK; cases lk g.W k <;> rfl
          cases hl : (lk g.W k).isSome
          · rw [hl] at e; simp [e]
          · rw [hl] at e; simp [e])
        clear hxo his
        have hlen2 : ((done.map (·.1)).filter (freeK g.W)).length ≤ 1000 := Nat.le_trans (List.length_filter_le _ _) (by rw [List.length_map]; exact hdone)
        generalize (done.map (·.1)).filter (freeK g.W) = R at *
        go_wp2_with fail
        refine Gives.use (HGET.out _ (HB3.out.trans ((show Below w2.heap.size w2 _ from (by repeat (first | exact below_of_grow _ _ | exact Below.refl _ _ | exact below_more _ _ _ _ | (simp only [← Array.append_assoc]; first | exact below_more _ _ _ _ | exact below_same _ _ _ | exact Below.refl _ _) | exact below_same _ _ _ | (refine Below.alloc ?_ (by first | (simp; done) | (simp; omega)) _) | (refine Below.grow ?_ (by first | (simp; done) | (simp; omega)) _ _) | refine Below.drew ?_ | refine Below.drewN ?_ _ | (refine Below.putF ?_ (by first | (simp; done) | omega | (simp; omega)) _) | (refine Below.setCell ?_ (by first | (simp; done) | (simp; omega)) _)))).mono (by omega)))) ?_
        intro ys e
        go_upto_region 8 with fail
        refine wp_name ?_
        intro W hW
        have hbW : Below w2.heap.size w2 W := by rw [hW]; exact (by repeat (first | exact below_of_grow _ _ | exact Below.refl _ _ | exact below_more _ _ _ _ | (simp only [← Array.append_assoc]; first | exact below_more _ _ _ _ | exact below_same _ _ _ | exact Below.refl _ _) | exact below_same _ _ _ | (refine Below.alloc ?_ (by first | (simp; done) | (simp; omega)) _) | (refine Below.grow ?_ (by first | (simp; done) | (simp; omega)) _ _) | refine Below.drew ?_ | refine Below.drewN ?_ _ | (refine Below.putF ?_ (by first | (simp; done) | omega | (simp; omega)) _) | (refine Below.setCell ?_ (by first | (simp; done) | (simp; omega)) _)))
        obtain ⟨p4, hp4⟩ : ∃ p4, p4 = w2.heap.size := ⟨_, rfl⟩
        have h4 : W.heap[p4]? = some (.cells (row8 k.val) 74) := by
          have hb : Below (w2.alloc (.cells (row8 k.val) 74)).heap.size (w2.alloc (.cells (row8 k.val) 74)) W := by rw [hW]; exact (by repeat (first | exact below_of_grow _ _ | exact Below.refl _ _ | exact below_more _ _ _ _ | (simp only [← Array.append_assoc]; first | exact below_more _ _ _ _ | exact below_same _ _ _ | exact Below.refl _ _) | exact below_same _ _ _ | (refine Below.alloc ?_ (by first | (simp; done) | (simp; omega)) _) | (refine Below.grow ?_ (by first | (simp; done) | (simp; omega)) _ _) | refine Below.drew ?_ | refine Below.drewN ?_ _ | (refine Below.putF ?_ (by first | (simp; done) | omega | (simp; omega)) _) | (refine Below.setCell ?_ (by first | (simp; done) | (simp; omega)) _)))
          exact (hb.block p4 (by rw [hp4]; simp)).trans (by rw [hp4]; exact (heap_al _ _ _).trans (if_pos rfl))
        have l4 : p4 < W.heap.size := (Array.getElem?_eq_some_iff.1 h4).1
        have c4 : W.cut? p4 0 25 = some (row8 k.val) := cut_heap h4 (by simp [hkl])
        have hbb : Below w.heap.size w W := HB3.out.trans (hbW.mono (by omega))
        have hW1 := hbW.size
        have HO3 := Lib.hid (HO2.out.below hbW)
        have HR4 := Lib.hid (HR3.out.keep (hbW.block m (by omega)) (hbW.block _ (by omega)))
        have HBB := Lib.hid hbb
        have hsz3 : w.heap.size + 1 ≤ W.heap.size := by omega
        have hmW : m < W.heap.size := by omega
        simp only [← hp4]
        have hp4' : w.heap.size < p4 := by omega
        clear hW hbW h4 hp4 hbb HO2 HR3 hW1 hsz2 HGET
        cases is_ with
        | true =>
          have HF2 := Lib.hid (show _ = R from HF.out.trans (if_neg (by simp)))
          clear HF
          go_wp2_with fail
          go_roundg (del left k).length
          case measure => exact hdl
          case rel => exact ⟨del left k, done ++ [(k, x)], rfl, HR4, HP2, HBB, Lib.hid (by rw [HF2.out]; exact HO3.out), hsz3⟩
        | false =>
          have HF2 := Lib.hid (show _ = R ++ [k] from HF.out.trans (if_pos rfl))
          clear HF
          go_wp2_with (at_builtin; refine wpList_append (B := w.heap.size + 1) (xs := R.map rk8) (ys := [rk8 k]) row_keyB rfl (.tmp 26) (.tmp 28) rfl (v := u3) rfl ?_ rfl ?_ ?_ ?_ ?_ ?_)
          case refine_1 => have := HO3.out.alloc (.cells (row8 k.val) 74); simpa using this
          case refine_2 => exact ⟨_, sl_one (Nat.le_refl _) (by decide) (cut_heap ((heap_al _ _ _).trans (if_pos rfl)) (by simp [rk8, hkl]))⟩
          case refine_3 => exact one_rk8s k
          case refine_4 => first | omega | (simp; omega)
          case refine_5 => first | omega | (simp; omega)
          intro v3 w3 ho hg hv
          obtain ⟨V, hV⟩ : ∃ V, V = W.alloc (.cells (row8 k.val) 74) := ⟨_, rfl⟩
          have hVb : Below W.heap.size W V := by rw [hV]; exact (by repeat (first | exact below_of_grow _ _ | exact Below.refl _ _ | exact below_more _ _ _ _ | (simp only [← Array.append_assoc]; first | exact below_more _ _ _ _ | exact below_same _ _ _ | exact Below.refl _ _) | exact below_same _ _ _ | (refine Below.alloc ?_ (by first | (simp; done) | (simp; omega)) _) | (refine Below.grow ?_ (by first | (simp; done) | (simp; omega)) _ _) | refine Below.drew ?_ | refine Below.drewN ?_ _ | (refine Below.putF ?_ (by first | (simp; done) | omega | (simp; omega)) _) | (refine Below.setCell ?_ (by first | (simp; done) | (simp; omega)) _)))
          rw [← hV] at hg
          clear hv
          have hVs := hVb.size
          have hbb : Below w.heap.size w w3 := Below.grown (HBB.out.trans (hVb.mono (by omega))) hg (by omega) (fun q hq => by have := HO3.out.lt q hq; omega)
          have hkeep : ∀ q, q ≤ w.heap.size → w3.heap[q]? = W.heap[q]? := fun q hq => by
            rw [hg.block q (by omega) (fun e => by have := HO3.out.lt q e.symm; omega)]
            exact hVb.block q (by omega)
          have hr3 := HR4.out.keep (hkeep m (by omega)) (hkeep _ (Nat.le_refl _))
          have hs3 : w.heap.size + 1 ≤ w3.heap.size := by have := hg.size; omega
          have HO4 := Lib.hid ho
          have HB4 := Lib.hid hbb
          have HR5 := Lib.hid hr3
          clear ho hg hV hVb hbb hkeep hr3 HR4 HO3
          go_wp2_with fail
          go_roundg (del left k).length
          case measure => exact hdl
          case rel => exact ⟨del left k, done ++ [(k, x)], rfl, HR5, HP2, HB4, Lib.hid (by rw [HF2.out]; have := HO4.out; simpa using this), hs3⟩
theorem bprefixes_calls {w : World} {B b : Nat} {g : BG} (h : BufAt w B b g) (hlen : g.P.length ≤ 100000) :
    Calls Tryz.prog 41 #[.pointer (some ⟨b, 0, none⟩)] w fun e w' => ∃ v', e = .returned v' ∧ Below w.heap.size w w' ∧ OwnA w' w.heap.size 26 102 v' (g.P.map prefP) := by
  have hc : w.cell? ⟨b, 2, none⟩ = some g.pv := (cells_is h.cells 2).1
  have hbl : b < w.heap.size := h.lt b (by simp [BG.blocks])
  have HC := Lib.hid (clonePrefs_calls h.own (by omega))
  obtain ⟨a, c, hpv, _, _⟩ := h.own.form
  rw [List.length_map] at hpv
  rw [hpv] at hc HC
  clear h hpv
  go_enter Tryz.func41, Tryz.ntmps41
  go_wp2_with fail
  refine HC.out.mono ?_
  rintro e w1 ⟨v', rfl, ho, hb⟩
  have HF := Lib.hid (And.intro ho hb)
  clear ho hb HC
  go_wp2_with fail
  go_ret
  exact ⟨v', rfl, HF.out.2, HF.out.1⟩
end Go.Proofs.YtfmphfidloobkaaGreatDoor

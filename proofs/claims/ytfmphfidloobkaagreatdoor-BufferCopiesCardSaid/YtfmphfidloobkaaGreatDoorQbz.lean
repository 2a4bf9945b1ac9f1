/- Layer 17: a key is guarded in a buffer. -/
import Derived.Test.YtfmphfidloobkaaGreatDoorQbp
import Derived.BigRegion
import Derived.Deep.CutBlock
import Derived.Deep.Cut
import Derived.Handy
import Derived.Test.YtfmphfidloobkaaGreatDoorQao
import Derived.Test.YtfmphfidloobkaaGreatDoorQaa
import Derived.Test.YtfmphfidloobkaaGreatDoorQbm
import Derived.Test.YtfmphfidloobkaaGreatDoorShelfH
import Derived.Shelf.SlicesE.Clone
import Derived.Shelf.SlMaps.Clone
import Derived.Test.YtfmphfidloobkaaGreatDoorQbo
namespace Go.Proofs.YtfmphfidloobkaaGreatDoor
set_option maxRecDepth 100000
open Go.RowKit

/-- the guards with more keys; how many are new -/
def guardsL : MG → List K25 → MG × Int
  | G, [] => (G, 0)
  | G, k :: ks => if keyRight k.val = true ∧ (lk G k).getD false = false then ((guardsL (put G k true) ks).1, (guardsL (put G k true) ks).2 + 1) else guardsL G ks
/-- the prefixes with more; how many are new -/
def ginL : MP → List (K25 × Int) → MP × Int
  | P, [] => (P, 0)
  | P, p :: ps => if (0 ≤ p.2 ∧ p.2 ≤ 5) ∧ p ∉ P then ((ginL (P ++ [p]) ps).1, (ginL (P ++ [p]) ps).2 + 1) else ginL P ps
def addP (n : Int) (r : MP × Int) : MP × Int := (r.1, r.2 + n)
def OkP (P : MP) : Prop := ∀ q ∈ P, 0 ≤ q.2 ∧ q.2 ≤ 5
theorem ginL_ok : ∀ (ps : List (K25 × Int)) (P : MP), OkP P → OkP (ginL P ps).1
  | [], _, h => h
  | p :: ps, P, h => by
    unfold ginL
    split
    · rename_i hp
      refine ginL_ok ps _ fun q hq => ?_
      rcases List.mem_append.1 hq with hq | hq
      · exact h q hq
      · simp at hq; subst hq; exact hp.1
    · exact ginL_ok ps _ h
def addG (n : Int) (r : MG × Int) : MG × Int := (r.1, r.2 + n)
@[go_sem ↓ high] theorem run_makeMap_bg (w : World) : (Instr.makeMap 93 none).run Tryz.prog w = .ok (.map (some w.heap.size)) (w.alloc (.map #[] 0)) := by kernel_rfl
theorem look_op {α β : Type} [DecidableEq α] {P : Program} {kt : TypeId} {ek : α → Value} {ev : β → Value} {dom : α → Prop} {w : World} {b : Nat} {L : List (α × β)} {o : Oper} {a : Act} {K : Act → World → Prop} {Q : Exit → Act → World → Prop}
    (E : KeyEnc P kt ek dom) (m x : Operand) (t et : TypeId) (hop : o.op = Op.lookup t m x false) (ht : P.underlying t = some (.map kt et)) (hm : a.eval m = .map (some b)) {z : Value} (h : MapIs ek ev dom w b L)
    (k : α) (hk : dom k) (hx : a.eval x = ek k) (hz : (zeroValue et).run P w = .ok z w) (hK : K (a.put o.dst (((lk L k).map ev).getD z)) w) : Oper.wp P o a w K Q := by
  unfold Oper.wp
  simp [execOp, hop, hm, hx, lookup_run E ht h hk hz false, Result.andThen]
  exact hK
section
variable {w : World} {B b : Nat} {g : BG}
/-- the map is made -/
theorem BufAt.made2 (h : BufAt w B b g) (hn : g.m2 = none) : BufAt ((w.alloc (.map #[] 0)).setCell ⟨b, 1, none⟩ (.map (some w.heap.size))) B b { g with m2 := some w.heap.size } ∧
    BEvo b w g ((w.alloc (.map #[] 0)).setCell ⟨b, 1, none⟩ (.map (some w.heap.size))) { g with m2 := some w.heap.size } := by
  have hbl : b < w.heap.size := h.lt b (by simp [BG.blocks])
  obtain ⟨w1, hw1⟩ : ∃ w1, w1 = w.alloc (.map #[] 0) := ⟨_, rfl⟩
  have hb1 : Below w.heap.size w w1 := by rw [hw1]; exact (Below.refl _ _).alloc (Nat.le_refl _) _
  have hM : MapIs ekB evB (fun _ => True) w1 w.heap.size ([] : MG) := by rw [hw1]; exact MapIs.made w
  have hs : ∀ x, x ≠ b → (w1.setCell ⟨b, 1, none⟩ (.map (some w.heap.size))).heap[x]? = w1.heap[x]? := fun x hx => Below.heap_setCell w1 ⟨b, 1, none⟩ _ x (by simpa using hx)
  have h0 : g.G = [] := by
    rcases h.w2 with ⟨_, e⟩ | ⟨m, e, _⟩
    · exact e
    · rw [hn] at e; cases e
  have hnd := h.nodup
  have hfr : w.heap.size ∉ g.blocks b := fun hm => Nat.lt_irrefl _ (h.lt _ hm)
  rw [← hw1]
  refine ⟨⟨?_, ?_, ?_, ?_, ?_, ?_, h.keys⟩, ?_⟩
  · have := set_cells ((hb1.block b hbl).trans h.cells) 1 (.map (some w.heap.size))
    exact this
  · refine h.w1.keep fun m e => (hs m ?_).trans (hb1.block m ?_)
    · intro e2; subst e2
      simp [BG.blocks, e] at hnd
    · exact h.w1.lt m (by simp [e])
  · refine .inr ⟨_, rfl, ?_⟩
    rw [h0]
    exact hM.keep (hs _ (by omega))
  · refine h.own.keep fun x e hx => (hs x ?_).trans (hb1.block x hx)
    intro e2; subst e2
    simp [BG.blocks, e] at hnd
  · have e : g.blocks b = b :: (g.m1.toList ++ g.pv.ownBlock.toList) := by simp [BG.blocks, hn]
    rw [e] at hnd hfr
    simp only [List.mem_cons, List.mem_append, not_or] at hfr
    simp only [BG.blocks, Option.toList_some, List.singleton_append, List.nodup_cons, List.mem_cons, List.mem_append, not_or, List.nodup_append] at hnd ⊢
    refine ⟨⟨hnd.1.1, fun h => hfr.1 h.symm, hnd.1.2⟩, hnd.2.1, ⟨hfr.2.2, hnd.2.2.1⟩, ?_⟩
    intro x hx y hy
    rcases hy with rfl | hy
    · intro e2; subst e2; exact hfr.2.1 hx
    · exact hnd.2.2.2 x hx y hy
  · intro x hx
    simp only [BG.blocks, Option.toList_some, List.singleton_append, List.mem_cons, List.mem_append] at hx
    rcases hx with rfl | hx | rfl | hx
    · exact h.low _ (by simp [BG.blocks])
    · exact h.low x (by simp only [BG.blocks, List.mem_cons, List.mem_append]; exact .inr (.inl hx))
    · exact h.size
    · exact h.low x (by simp only [BG.blocks, List.mem_cons, List.mem_append]; exact .inr (.inr (.inr hx)))
  · refine ⟨⟨?_, ?_, ?_, ?_, fun x hx hn2 => ?_⟩, fun x hx => ?_⟩
    · exact hb1.os
    · exact hb1.tape
    · exact hb1.output
    · have := hb1.size; simpa using this
    · refine (hs x (fun e => hn2 (by rw [e]; simp [BG.blocks]))).trans (hb1.block x hx)
    · simp only [BG.blocks, Option.toList_some, List.singleton_append, List.mem_cons, List.mem_append] at hx
      rcases hx with rfl | hx | rfl | hx
      · exact .inl (by simp [BG.blocks])
      · exact .inl (by simp only [BG.blocks, List.mem_cons, List.mem_append]; exact .inr (.inl hx))
      · exact .inr (Nat.le_refl _)
      · exact .inl (by simp only [BG.blocks, List.mem_cons, List.mem_append]; exact .inr (.inr (.inr hx)))
/-- a key is put into the guards -/
theorem BufAt.put2 (h : BufAt w B b g) {m : Nat} (hm : g.m2 = some m) (k : K25) (y : Bool) {w' : World} (h1 : MapIs ekB evB (fun _ => True) w' m (put g.G k y)) (ho : Only m w w') :
    BufAt w' B b { g with G := put g.G k y } ∧ BEvo b w g w' { g with G := put g.G k y } := by
  have hnd := h.nodup
  have hmb : b ≠ m := by intro e; subst e; simp [BG.blocks, hm] at hnd
  refine ⟨⟨(ho.block b hmb).trans h.cells, h.w1.keep fun y e => ho.block y ?_, .inr ⟨m, hm, h1⟩, h.own.keep fun y e _ => ho.block y ?_, hnd, h.low, h.keys⟩, ⟨⟨ho.os, ho.tape, ho.output, by rw [ho.size]; exact Nat.le_refl _, fun y _ hn => ho.block y (fun e => hn (by rw [e]; simp [BG.blocks, hm]))⟩, fun y hy => .inl hy⟩⟩
  · intro e2; subst e2; simp [BG.blocks, hm, e] at hnd
  · intro e2; subst e2; simp [BG.blocks, hm, e, List.nodup_append] at hnd
set_option maxHeartbeats 20000000 in
theorem guard_calls (h : BufAt w B b g) (lv : Value) (l : List K25) (hl : SlA w w.heap.size 25 lv (l.map fun k : K25 => row8 k.val)) (ho : OutB b g lv) :
    Calls Tryz.prog 29 #[.pointer (some ⟨b, 0, none⟩), lv] w fun e w' => e = .returned (.int .i64 (guardsL g.G l).2) ∧ ∃ g', BufAt w' B b g' ∧ BEvo b w g w' g' ∧ g'.W = g.W ∧ g'.G = (guardsL g.G l).1 ∧ g'.P = g.P := by
  obtain ⟨a, cap, rfl, hcap, hmx⟩ := hl.form
  rw [List.length_map] at *
  unfold maxLen at hmx
  have hbl : b < w.heap.size := h.lt b (by simp [BG.blocks])
  have hc : w.cell? ⟨b, 1, none⟩ = some (.map g.m2) := (cells_is h.cells 1).1
  have hfz : w.frozen? ⟨b, 1, none⟩ = false := (cells_is h.cells 1).2
  have HH := Lib.hid h
  have HL := Lib.hid hl
  have HOUT := Lib.hid ho
  obtain ⟨res, hres⟩ : ∃ res, res = guardsL g.G l := ⟨_, rfl⟩
  rw [← hres]
  have HRES := Lib.hid hres
  clear h hl ho hres
  go_enter Tryz.func29, Tryz.ntmps29
  have hq : ∀ (p : Option Nat) (w : World), (binOp .eql 93 (.map p) (.map none)).run Tryz.prog w = .ok (.bool p.isNone) w := fun p w => by cases p <;> kernel_rfl
  go_upto_if 14 with fail
  go_cut [] (fun wx => Hid (∃ g1 m, BufAt wx B b g1 ∧ BEvo b w g wx g1 ∧ g1.m2 = some m ∧ g1.W = g.W ∧ g1.G = g.G ∧ g1.P = g.P))
  case first =>
    rcases (show g.m2 = none ∨ ∃ m, g.m2 = some m by cases g.m2 <;> simp) with hm | ⟨m, hm⟩
    · rw [hm] at hc ⊢
      obtain ⟨e1, e2⟩ := HH.out.made2 hm
      have HE := Lib.hid (And.intro e1 e2)
      have hsw : (w.alloc (.map #[] 0)).setCell ⟨b, 1, none⟩ (.map (some w.heap.size)) = (w.setCell ⟨b, 1, none⟩ (.map (some w.heap.size))).alloc (.map #[] 0) := by simp [go_sem, hbl]
      have HSW := Lib.hid hsw
      clear e1 e2 hm hsw
      go_wp2_with fail
      go_meet
      exact Lib.hid (by first | exact ⟨_, _, HE.out.1, HE.out.2, rfl, rfl, rfl, rfl⟩ | (rw [← HSW.out]; exact ⟨_, _, HE.out.1, HE.out.2, rfl, rfl, rfl, rfl⟩))
    · rw [hm] at hc ⊢
      have HE := Lib.hid (show ∃ g1 m, BufAt w B b g1 ∧ BEvo b w g w g1 ∧ g1.m2 = some m ∧ g1.W = g.W ∧ g1.G = g.G ∧ g1.P = g.P from ⟨g, m, HH.out, BEvo.refl _ _ _, hm, rfl, rfl, rfl⟩)
      clear hm
      go_wp2_with fail
      go_meet
      exact HE
  case rest =>
    clear hc hfz
    go_wp2_with fail
    go_loopw [5, 21] (fun s5 s21 wr => ∃ (i : Nat) (n : Int), i ≤ l.length ∧ 0 ≤ n ∧ n ≤ i ∧ s21 = .int .i64 i ∧ s5 = .int .i64 n ∧ Hid (∃ g1 m, BufAt wr B b g1 ∧ BEvo b w g wr g1 ∧ g1.m2 = some m ∧ g1.W = g.W ∧ g1.P = g.P ∧ res = addG n (guardsL g1.G (l.drop i)))) (fun _ s21 _ => l.length - (intOf s21).toNat)
    case atStart =>
      obtain ⟨g1, m, e1, e2, e3, e4, e5, e6⟩ := hcut.out
      exact ⟨0, 0, Nat.zero_le _, Int.le_refl _, Int.le_refl _, rfl, rfl, Lib.hid ⟨g1, m, e1, e2, e3, e4, e6, by rw [HRES.out, e5]; unfold addG; simp⟩⟩
    case round =>
      obtain ⟨i, n, hi, hn0, hn, rfl, rfl, HR⟩ := hrel
      obtain ⟨g1, m, hA, hE, hm, hW, hP, hr⟩ := HR.out
      clear HR hcut
      by_cases hlt : i < l.length
      · have hltI : (i : Int) < l.length := by omega
        obtain ⟨_, a', cap', he, _, _, hcc⟩ := HL.out
        simp only [Value.slice.injEq, List.length_map, true_and] at he
        obtain ⟨rfl, rfl⟩ := he
        obtain ⟨q0, o0, rfl, hlb, hcut⟩ := hcc (by simp; omega)
        have hout : q0 ∉ g.blocks b := HOUT.out q0 o0 _ _ rfl (by omega)
        have hcutk : wr.cut? q0 (o0 + i * 25) 25 = some (row8 l[i].val) := by
          rw [cut_of_heap (hE.1.same q0 hlb hout)]
          exact hcut i (row8 l[i].val) (by simp [hlt])
        have hsz := hE.1.size
        have hgr : q0 < wr.heap.size := by omega
        have hdrop : l.drop i = l[i] :: l.drop (i + 1) := List.drop_eq_getElem_cons hlt
        rw [hdrop] at hr
        generalize l[i] = k at *
        have hbr : b < wr.heap.size := hA.lt b (by simp [BG.blocks])
        have hw1 : IntKind.i64.wrap (n + 1) = n + 1 := by rw [IntWalk.i64_in _ (by omega)]
        have H1 := Lib.hid (And.intro hA (And.intro hE (And.intro hm (And.intro hW hP))))
        have HR := Lib.hid hr
        clear hcut hcc hdrop hA hE hm hW hP hr hout
        go_upto_region 9 with fail
        refine wp_name ?_
        intro W hW
        obtain ⟨p7, hp7⟩ : ∃ p7, p7 = wr.heap.size := ⟨_, rfl⟩
        have hbW : Below wr.heap.size wr W := by rw [hW]; exact (by repeat (first | exact below_of_grow _ _ | exact Below.refl _ _ | exact below_more _ _ _ _ | (simp only [← Array.append_assoc]; first | exact below_more _ _ _ _ | exact below_same _ _ _ | exact Below.refl _ _) | exact below_same _ _ _ | (refine Below.alloc ?_ (by first | (simp; done) | (simp; omega)) _) | (refine Below.grow ?_ (by first | (simp; done) | (simp; omega)) _ _) | refine Below.drew ?_ | refine Below.drewN ?_ _ | (refine Below.putF ?_ (by first | (simp; done) | omega | (simp; omega)) _) | (refine Below.setCell ?_ (by first | (simp; done) | (simp; omega)) _)))
        have h7 : W.heap[p7]? = some (.cells (row8 k.val) 74) := by rw [hW, hp7, heap_al, if_pos rfl]
        have l7 : p7 < W.heap.size := (Array.getElem?_eq_some_iff.1 h7).1
        have c7 : W.cut? p7 0 25 = some (row8 k.val) := cut_heap h7 (by simp [k.len])
        have hAW := H1.out.1.keep hbW
        have hbc : W.cell? ⟨b, 1, none⟩ = some (.map (some m)) := (cells_is hAW.cells 1).1.trans (by rw [H1.out.2.2.1]; rfl)
        have hbW' : b < W.heap.size := Nat.lt_of_lt_of_le hbr hbW.size
        have hMG : MapIs ekB evB (fun _ => True) W m g1.G := by
          rcases hAW.w2 with ⟨hm, _⟩ | ⟨m', hm, hM⟩
          · rw [H1.out.2.2.1] at hm; cases hm
          · rw [H1.out.2.2.1] at hm; cases hm; exact hM
        obtain ⟨lb, hlb2⟩ : ∃ lb, lb = (lk g1.G k).getD false := ⟨_, rfl⟩
        have HLB := Lib.hid (show ((lk g1.G k).map evB).getD (.bool false) = .bool lb by rw [hlb2]; cases lk g1.G k <;> rfl)
        obtain ⟨kr, hkr⟩ : ∃ kr, kr = keyRight k.val := ⟨_, rfl⟩
        have HKR := Lib.hid (fun W' => by have := keyRight_gives k.val k.len W'; rw [← hkr] at this; exact this)
        have HG := Lib.hid (show guardsL g1.G (k :: l.drop (i + 1)) = if kr = true ∧ lb = false then ((guardsL (put g1.G k true) (l.drop (i + 1))).1, (guardsL (put g1.G k true) (l.drop (i + 1))).2 + 1) else guardsL g1.G (l.drop (i + 1)) by rw [hkr, hlb2]; rfl)
        have HW := Lib.hid (And.intro hbW (And.intro hAW hMG))
        have hkl := k.len
        simp only [← hp7]
        clear hW h7 hp7 hbW hAW hMG hlb2 hkr hcutk
        obtain ⟨cb, hcb⟩ : ∃ cb, cb = (kr && !lb) := ⟨_, rfl⟩
        have HCB := Lib.hid hcb
        clear hcb
        go_cut [35] (fun v wx => v = .bool cb ∧ Below W.heap.size W wx)
        case first =>
          clear HG HR HRES HL HOUT HH hw1 hn0 hn hi hltI hlt hcap hmx
          cases kr
          · skip
            apply wp_region_specs (by rfl) [.val _, .val _, .val _, .val _, .val _, .val _, .val _, .val _, .val _, .val _, .val _] 11 (by rfl) [25, 26, 27, 28, 29, 30, 31, 32, 33, 34, 35] [] [] (by rfl) (by rfl) (by decide) (by decide +kernel) (fun _ _ _ _ _ h => h)
            case hF => intro x; simp only [over, List.foldl_cons, List.foldl_nil, List.setIfInBounds_toArray, List.set_cons_succ, List.set_cons_zero]; exact rfl
            case hops =>
              refine ⟨?o0, ?o1, ?o2, ?o3, ?o4, ?o5, ?o6, ?o7, ?o8, ?o9, ?o10, trivial⟩
              case o0 =>
                intro x w1 hH K hK
                obtain ⟨xs, d, rfl⟩ := grow_of_below hH.below
                clear hH
                try simp only [World.grow_drew] at hK ⊢
                try simp only [World.grow_grow] at hK ⊢
                go_simp
                first | (with_reducible refine hK _ _ ?_) | go_wp2_with fail
                exact ⟨_, rfl, rfl, (by first | exact Below.refl _ _ | exact below_same _ _ _ | exact below_more _ _ _ _ | exact below_of_grow _ _), fun h => by cases h⟩
              case o1 =>
                intro x w1 hH K hK
                have e25 : x 25 = _ := hH.holds 0 (by decide) (by decide +kernel) 25 rfl
                obtain ⟨xs, d, rfl⟩ := grow_of_below hH.below
                clear hH
                try simp only [World.grow_drew] at hK ⊢
                try simp only [World.grow_grow] at hK ⊢
                simp only [e25] at hK ⊢
                clear e25
                go_simp
                go_wp2_with (refine Gives.use (HKR.out _) ?_; intro ys e)
                exact ⟨_, rfl, rfl, (by first | exact below_more _ _ _ _ | exact (by repeat (first | exact below_of_grow _ _ | exact Below.refl _ _ | exact below_more _ _ _ _ | (simp only [← Array.append_assoc]; first | exact below_more _ _ _ _ | exact below_same _ _ _ | exact Below.refl _ _) | exact below_same _ _ _ | (refine Below.alloc ?_ (by first | (simp; done) | (simp; omega)) _) | (refine Below.grow ?_ (by first | (simp; done) | (simp; omega)) _ _) | refine Below.drew ?_ | refine Below.drewN ?_ _ | (refine Below.putF ?_ (by first | (simp; done) | omega | (simp; omega)) _) | (refine Below.setCell ?_ (by first | (simp; done) | (simp; omega)) _)))), fun h => by cases h⟩
              case o2 =>
                intro x w1 hH K hK
                have e26 : x 26 = _ := hH.holds 1 (by decide) (by decide +kernel) 26 rfl
                obtain ⟨xs, d, rfl⟩ := grow_of_below hH.below
                clear hH
                try simp only [World.grow_drew] at hK ⊢
                try simp only [World.grow_grow] at hK ⊢
                simp only [e26] at hK ⊢
                clear e26
                go_simp
                first | (with_reducible refine hK _ _ ?_) | go_wp2_with fail
                exact ⟨_, rfl, rfl, (by first | exact Below.refl _ _ | exact below_same _ _ _ | exact below_more _ _ _ _ | exact below_of_grow _ _), fun h => by cases h⟩
              case o3 =>
                intro x w1 hH K hK
                have e27 : x 27 = _ := hH.holds 2 (by decide) (by decide +kernel) 27 rfl
                obtain ⟨xs, d, rfl⟩ := grow_of_below hH.below
                clear hH
                try simp only [World.grow_drew] at hK ⊢
                try simp only [World.grow_grow] at hK ⊢
                simp only [e27] at hK ⊢
                clear e27
                go_simp
                first | (with_reducible refine hK _ _ ?_) | go_wp2_with fail
                exact ⟨_, rfl, rfl, (by first | exact Below.refl _ _ | exact below_same _ _ _ | exact below_more _ _ _ _ | exact below_of_grow _ _), fun h => by cases h⟩
              case o4 =>
                intro x w1 hH K hK
                have e27 : x 27 = _ := hH.holds 2 (by decide) (by decide +kernel) 27 rfl
                have e28 : x 28 = _ := hH.holds 3 (by decide) (by decide +kernel) 28 rfl
                obtain ⟨xs, d, rfl⟩ := grow_of_below hH.below
                clear hH
                try simp only [World.grow_drew] at hK ⊢
                try simp only [World.grow_grow] at hK ⊢
                simp only [e27, e28] at hK ⊢
                clear e27 e28
                go_simp
                first | (with_reducible refine hK _ _ ?_) | go_wp2_with fail
                exact ⟨_, rfl, rfl, (by first | exact Below.refl _ _ | exact below_same _ _ _ | exact below_more _ _ _ _ | exact below_of_grow _ _), fun h => by cases h⟩
              case o5 =>
                intro x w1 hH K hK
                have e27 : x 27 = _ := hH.holds 2 (by decide) (by decide +kernel) 27 rfl
                have e29 : x 29 = _ := hH.holds 4 (by decide) (by decide +kernel) 29 rfl
                obtain ⟨xs, d, rfl⟩ := grow_of_below hH.below
                clear hH
                try simp only [World.grow_drew] at hK ⊢
                try simp only [World.grow_grow] at hK ⊢
                simp only [e27, e29] at hK ⊢
                clear e27 e29
                go_simp
                first | (with_reducible refine hK _ _ ?_) | go_wp2_with fail
                exact ⟨_, rfl, rfl, (by first | exact Below.refl _ _ | exact below_same _ _ _ | exact below_more _ _ _ _ | exact below_of_grow _ _), fun h => by cases h⟩
              case o6 =>
                intro x w1 hH K hK
                have e27 : x 27 = _ := hH.holds 2 (by decide) (by decide +kernel) 27 rfl
                have e30 : x 30 = _ := hH.holds 5 (by decide) (by decide +kernel) 30 rfl
                obtain ⟨xs, d, rfl⟩ := grow_of_below hH.below
                clear hH
                try simp only [World.grow_drew] at hK ⊢
                try simp only [World.grow_grow] at hK ⊢
                simp only [e27, e30] at hK ⊢
                clear e27 e30
                go_simp
                first | (with_reducible refine hK _ _ ?_) | go_wp2_with fail
                exact ⟨_, rfl, rfl, (by first | exact Below.refl _ _ | exact below_same _ _ _ | exact below_more _ _ _ _ | exact below_of_grow _ _), fun h => by cases h⟩
              case o7 =>
                intro x w1 hH K hK
                have e27 : x 27 = _ := hH.holds 2 (by decide) (by decide +kernel) 27 rfl
                obtain ⟨xs, d, rfl⟩ := grow_of_below hH.below
                clear hH
                try simp only [World.grow_drew] at hK ⊢
                try simp only [World.grow_grow] at hK ⊢
                simp only [e27] at hK ⊢
                clear e27
                go_simp
                first | (with_reducible refine hK _ _ ?_) | go_wp2_with fail
                exact ⟨_, rfl, rfl, (by first | exact Below.refl _ _ | exact below_same _ _ _ | exact below_more _ _ _ _ | exact below_of_grow _ _), fun h => by cases h⟩
              case o8 =>
                intro x w1 hH K hK
                have e27 : x 27 = _ := hH.holds 2 (by decide) (by decide +kernel) 27 rfl
                have e31 : x 31 = _ := hH.holds 6 (by decide) (by decide +kernel) 31 rfl
                have e32 : x 32 = _ := hH.holds 7 (by decide) (by decide +kernel) 32 rfl
                obtain ⟨xs, d, rfl⟩ := grow_of_below hH.below
                clear hH
                try simp only [World.grow_drew] at hK ⊢
                try simp only [World.grow_grow] at hK ⊢
                simp only [e27, e31, e32] at hK ⊢
                clear e27 e31 e32
                go_simp
                first | (with_reducible refine hK _ _ ?_) | go_wp2_with fail
                exact ⟨_, rfl, rfl, (by first | exact Below.refl _ _ | exact below_same _ _ _ | exact below_more _ _ _ _ | exact below_of_grow _ _), fun h => by cases h⟩
              case o9 =>
                intro x w1 hH K hK
                have e27 : x 27 = _ := hH.holds 2 (by decide) (by decide +kernel) 27 rfl
                have e33 : x 33 = _ := hH.holds 8 (by decide) (by decide +kernel) 33 rfl
                obtain ⟨xs, d, rfl⟩ := grow_of_below hH.below
                clear hH
                try simp only [World.grow_drew] at hK ⊢
                try simp only [World.grow_grow] at hK ⊢
                simp only [e27, e33] at hK ⊢
                clear e27 e33
                go_simp
                first | (with_reducible refine hK _ _ ?_) | go_wp2_with fail
                exact ⟨_, rfl, rfl, (by first | exact Below.refl _ _ | exact below_same _ _ _ | exact below_more _ _ _ _ | exact below_of_grow _ _), fun h => by cases h⟩
              case o10 =>
                intro x w1 hH K hK
                have e27 : x 27 = _ := hH.holds 2 (by decide) (by decide +kernel) 27 rfl
                have e34 : x 34 = _ := hH.holds 9 (by decide) (by decide +kernel) 34 rfl
                obtain ⟨xs, d, rfl⟩ := grow_of_below hH.below
                clear hH
                try simp only [World.grow_drew] at hK ⊢
                try simp only [World.grow_grow] at hK ⊢
                simp only [e27, e34] at hK ⊢
                clear e27 e34
                go_simp
                first | (with_reducible refine hK _ _ ?_) | go_wp2_with fail
                exact ⟨_, rfl, rfl, (by first | exact Below.refl _ _ | exact below_same _ _ _ | exact below_more _ _ _ _ | exact below_of_grow _ _), fun h => by cases h⟩
            case hend =>
              intro x w1 hH
              have e25 : x 25 = _ := hH.holds 0 (by decide) trivial 25 rfl
              have e26 : x 26 = _ := hH.holds 1 (by decide) trivial 26 rfl
              have e27 : x 27 = _ := hH.holds 2 (by decide) trivial 27 rfl
              have e28 : x 28 = _ := hH.holds 3 (by decide) trivial 28 rfl
              have e29 : x 29 = _ := hH.holds 4 (by decide) trivial 29 rfl
              have e30 : x 30 = _ := hH.holds 5 (by decide) trivial 30 rfl
              have e31 : x 31 = _ := hH.holds 6 (by decide) trivial 31 rfl
              have e32 : x 32 = _ := hH.holds 7 (by decide) trivial 32 rfl
              have e33 : x 33 = _ := hH.holds 8 (by decide) trivial 33 rfl
              have e34 : x 34 = _ := hH.holds 9 (by decide) trivial 34 rfl
              have e35 : x 35 = _ := hH.holds 10 (by decide) trivial 35 rfl
              obtain ⟨xs, d, rfl⟩ := grow_of_below hH.below
              clear hH
              simp only [e25, e26, e27, e28, e29, e30, e31, e32, e33, e34, e35]; clear e25 e26 e27 e28 e29 e30 e31 e32 e33 e34 e35
              simp only [List.drop_succ_cons, List.drop_nil]
              go_wp2_with fail
              go_meet
              exact ⟨congrArg Value.bool HCB.out.symm, (by repeat (first | exact below_of_grow _ _ | exact Below.refl _ _ | exact below_more _ _ _ _ | (simp only [← Array.append_assoc]; first | exact below_more _ _ _ _ | exact below_same _ _ _ | exact Below.refl _ _) | exact below_same _ _ _ | (refine Below.alloc ?_ (by first | (simp; done) | (simp; omega)) _) | (refine Below.grow ?_ (by first | (simp; done) | (simp; omega)) _ _) | refine Below.drew ?_ | refine Below.drewN ?_ _ | (refine Below.putF ?_ (by first | (simp; done) | omega | (simp; omega)) _) | (refine Below.setCell ?_ (by first | (simp; done) | (simp; omega)) _)))⟩
          · skip
            apply wp_region_specs (by rfl) [.val _, .val _, .val _, .val _, .val _, .val _, .val _, .val _, .val _, .val _, .val _] 11 (by rfl) [25, 26, 27, 28, 29, 30, 31, 32, 33, 34, 35] [] [] (by rfl) (by rfl) (by decide) (by decide +kernel) (fun _ _ _ _ _ h => h)
            case hF => intro x; simp only [over, List.foldl_cons, List.foldl_nil, List.setIfInBounds_toArray, List.set_cons_succ, List.set_cons_zero]; exact rfl
            case hops =>
              refine ⟨?o0, ?o1, ?o2, ?o3, ?o4, ?o5, ?o6, ?o7, ?o8, ?o9, ?o10, trivial⟩
              case o0 =>
                intro x w1 hH K hK
                obtain ⟨xs, d, rfl⟩ := grow_of_below hH.below
                clear hH
                try simp only [World.grow_drew] at hK ⊢
                try simp only [World.grow_grow] at hK ⊢
                go_simp
                first | (with_reducible refine hK _ _ ?_) | go_wp2_with fail
                exact ⟨_, rfl, rfl, (by first | exact Below.refl _ _ | exact below_same _ _ _ | exact below_more _ _ _ _ | exact below_of_grow _ _), fun h => by cases h⟩
              case o1 =>
                intro x w1 hH K hK
                have e25 : x 25 = _ := hH.holds 0 (by decide) (by decide +kernel) 25 rfl
                obtain ⟨xs, d, rfl⟩ := grow_of_below hH.below
                clear hH
                try simp only [World.grow_drew] at hK ⊢
                try simp only [World.grow_grow] at hK ⊢
                simp only [e25] at hK ⊢
                clear e25
                go_simp
                go_wp2_with (refine Gives.use (HKR.out _) ?_; intro ys e)
                exact ⟨_, rfl, rfl, (by first | exact below_more _ _ _ _ | exact (by repeat (first | exact below_of_grow _ _ | exact Below.refl _ _ | exact below_more _ _ _ _ | (simp only [← Array.append_assoc]; first | exact below_more _ _ _ _ | exact below_same _ _ _ | exact Below.refl _ _) | exact below_same _ _ _ | (refine Below.alloc ?_ (by first | (simp; done) | (simp; omega)) _) | (refine Below.grow ?_ (by first | (simp; done) | (simp; omega)) _ _) | refine Below.drew ?_ | refine Below.drewN ?_ _ | (refine Below.putF ?_ (by first | (simp; done) | omega | (simp; omega)) _) | (refine Below.setCell ?_ (by first | (simp; done) | (simp; omega)) _)))), fun h => by cases h⟩
              case o2 =>
                intro x w1 hH K hK
                have e26 : x 26 = _ := hH.holds 1 (by decide) (by decide +kernel) 26 rfl
                obtain ⟨xs, d, rfl⟩ := grow_of_below hH.below
                clear hH
                try simp only [World.grow_drew] at hK ⊢
                try simp only [World.grow_grow] at hK ⊢
                simp only [e26] at hK ⊢
                clear e26
                go_simp
                first | (with_reducible refine hK _ _ ?_) | go_wp2_with fail
                exact ⟨_, rfl, rfl, (by first | exact Below.refl _ _ | exact below_same _ _ _ | exact below_more _ _ _ _ | exact below_of_grow _ _), fun h => by cases h⟩
              case o3 =>
                intro x w1 hH K hK
                have e27 : x 27 = _ := hH.holds 2 (by decide) (by decide +kernel) 27 rfl
                obtain ⟨xs, d, rfl⟩ := grow_of_below hH.below
                clear hH
                try simp only [World.grow_drew] at hK ⊢
                try simp only [World.grow_grow] at hK ⊢
                simp only [e27] at hK ⊢
                clear e27
                go_simp
                first | (with_reducible refine hK _ _ ?_) | go_wp2_with fail
                exact ⟨_, rfl, rfl, (by first | exact Below.refl _ _ | exact below_same _ _ _ | exact below_more _ _ _ _ | exact below_of_grow _ _), fun h => by cases h⟩
              case o4 =>
                intro x w1 hH K hK
                have e27 : x 27 = _ := hH.holds 2 (by decide) (by decide +kernel) 27 rfl
                have e28 : x 28 = _ := hH.holds 3 (by decide) (by decide +kernel) 28 rfl
                obtain ⟨xs, d, rfl⟩ := grow_of_below hH.below
                clear hH
                try simp only [World.grow_drew] at hK ⊢
                try simp only [World.grow_grow] at hK ⊢
                simp only [e27, e28] at hK ⊢
                clear e27 e28
                go_simp
                first | (with_reducible refine hK _ _ ?_) | go_wp2_with fail
                exact ⟨_, rfl, rfl, (by first | exact Below.refl _ _ | exact below_same _ _ _ | exact below_more _ _ _ _ | exact below_of_grow _ _), fun h => by cases h⟩
              case o5 =>
                intro x w1 hH K hK
                have e27 : x 27 = _ := hH.holds 2 (by decide) (by decide +kernel) 27 rfl
                have e29 : x 29 = _ := hH.holds 4 (by decide) (by decide +kernel) 29 rfl
                obtain ⟨xs, d, rfl⟩ := grow_of_below hH.below
                clear hH
                try simp only [World.grow_drew] at hK ⊢
                try simp only [World.grow_grow] at hK ⊢
                simp only [e27, e29] at hK ⊢
                clear e27 e29
                go_simp
                first | (with_reducible refine hK _ _ ?_) | go_wp2_with fail
                exact ⟨_, rfl, rfl, (by first | exact Below.refl _ _ | exact below_same _ _ _ | exact below_more _ _ _ _ | exact below_of_grow _ _), fun h => by cases h⟩
              case o6 =>
                intro x w1 hH K hK
                have e27 : x 27 = _ := hH.holds 2 (by decide) (by decide +kernel) 27 rfl
                have e30 : x 30 = _ := hH.holds 5 (by decide) (by decide +kernel) 30 rfl
                obtain ⟨xs, d, rfl⟩ := grow_of_below hH.below
                clear hH
                try simp only [World.grow_drew] at hK ⊢
                try simp only [World.grow_grow] at hK ⊢
                simp only [e27, e30] at hK ⊢
                clear e27 e30
                go_simp
                first | (with_reducible refine hK _ _ ?_) | go_wp2_with fail
                exact ⟨_, rfl, rfl, (by first | exact Below.refl _ _ | exact below_same _ _ _ | exact below_more _ _ _ _ | exact below_of_grow _ _), fun h => by cases h⟩
              case o7 =>
                intro x w1 hH K hK
                have e27 : x 27 = _ := hH.holds 2 (by decide) (by decide +kernel) 27 rfl
                obtain ⟨xs, d, rfl⟩ := grow_of_below hH.below
                clear hH
                try simp only [World.grow_drew] at hK ⊢
                try simp only [World.grow_grow] at hK ⊢
                simp only [e27] at hK ⊢
                clear e27
                go_simp
                first | (with_reducible refine hK _ _ ?_) | go_wp2_with fail
                exact ⟨_, rfl, rfl, (by first | exact Below.refl _ _ | exact below_same _ _ _ | exact below_more _ _ _ _ | exact below_of_grow _ _), fun h => by cases h⟩
              case o8 =>
                intro x w1 hH K hK
                have e27 : x 27 = _ := hH.holds 2 (by decide) (by decide +kernel) 27 rfl
                have e31 : x 31 = _ := hH.holds 6 (by decide) (by decide +kernel) 31 rfl
                have e32 : x 32 = _ := hH.holds 7 (by decide) (by decide +kernel) 32 rfl
                obtain ⟨xs, d, rfl⟩ := grow_of_below hH.below
                clear hH
                try simp only [World.grow_drew] at hK ⊢
                try simp only [World.grow_grow] at hK ⊢
                simp only [e27, e31, e32] at hK ⊢
                clear e27 e31 e32
                refine look_op (b := m) (L := g1.G) (ev := evB) keyEncB _ _ _ _ rfl Tryz.underlying93 rfl ?_ k trivial rfl (Tryz.zeroValue4 _) ?_
                · repeat (first | exact HW.out.2.2 | refine MapIs.alloc ?_ _ | refine MapIs.grow ?_ _ _ | refine MapIs.drew ?_ | refine MapIs.drewN ?_ _)
                · (rw [HLB.out]; refine hK _ _ ?_; exact ⟨_, rfl, rfl, Below.refl _ _, fun h => by cases h⟩)
              case o9 =>
                intro x w1 hH K hK
                have e27 : x 27 = _ := hH.holds 2 (by decide) (by decide +kernel) 27 rfl
                have e33 : x 33 = _ := hH.holds 8 (by decide) (by decide +kernel) 33 rfl
                obtain ⟨xs, d, rfl⟩ := grow_of_below hH.below
                clear hH
                try simp only [World.grow_drew] at hK ⊢
                try simp only [World.grow_grow] at hK ⊢
                simp only [e27, e33] at hK ⊢
                clear e27 e33
                go_simp
                first | (with_reducible refine hK _ _ ?_) | go_wp2_with fail
                exact ⟨_, rfl, rfl, (by first | exact Below.refl _ _ | exact below_same _ _ _ | exact below_more _ _ _ _ | exact below_of_grow _ _), fun h => by cases h⟩
              case o10 =>
                intro x w1 hH K hK
                have e27 : x 27 = _ := hH.holds 2 (by decide) (by decide +kernel) 27 rfl
                have e34 : x 34 = _ := hH.holds 9 (by decide) (by decide +kernel) 34 rfl
                obtain ⟨xs, d, rfl⟩ := grow_of_below hH.below
                clear hH
                try simp only [World.grow_drew] at hK ⊢
                try simp only [World.grow_grow] at hK ⊢
                simp only [e27, e34] at hK ⊢
                clear e27 e34
                go_simp
                first | (with_reducible refine hK _ _ ?_) | go_wp2_with fail
                exact ⟨_, rfl, rfl, (by first | exact Below.refl _ _ | exact below_same _ _ _ | exact below_more _ _ _ _ | exact below_of_grow _ _), fun h => by cases h⟩
            case hend =>
              intro x w1 hH
              have e25 : x 25 = _ := hH.holds 0 (by decide) trivial 25 rfl
              have e26 : x 26 = _ := hH.holds 1 (by decide) trivial 26 rfl
              have e27 : x 27 = _ := hH.holds 2 (by decide) trivial 27 rfl
              have e28 : x 28 = _ := hH.holds 3 (by decide) trivial 28 rfl
              have e29 : x 29 = _ := hH.holds 4 (by decide) trivial 29 rfl
              have e30 : x 30 = _ := hH.holds 5 (by decide) trivial 30 rfl
              have e31 : x 31 = _ := hH.holds 6 (by decide) trivial 31 rfl
              have e32 : x 32 = _ := hH.holds 7 (by decide) trivial 32 rfl
              have e33 : x 33 = _ := hH.holds 8 (by decide) trivial 33 rfl
              have e34 : x 34 = _ := hH.holds 9 (by decide) trivial 34 rfl
              have e35 : x 35 = _ := hH.holds 10 (by decide) trivial 35 rfl
              obtain ⟨xs, d, rfl⟩ := grow_of_below hH.below
              clear hH
              simp only [e25, e26, e27, e28, e29, e30, e31, e32, e33, e34, e35]; clear e25 e26 e27 e28 e29 e30 e31 e32 e33 e34 e35
              simp only [List.drop_succ_cons, List.drop_nil]
              go_wp2_with fail
              go_meet
              exact ⟨congrArg Value.bool HCB.out.symm, (by repeat (first | exact below_of_grow _ _ | exact Below.refl _ _ | exact below_more _ _ _ _ | (simp only [← Array.append_assoc]; first | exact below_more _ _ _ _ | exact below_same _ _ _ | exact Below.refl _ _) | exact below_same _ _ _ | (refine Below.alloc ?_ (by first | (simp; done) | (simp; omega)) _) | (refine Below.grow ?_ (by first | (simp; done) | (simp; omega)) _ _) | refine Below.drew ?_ | refine Below.drewN ?_ _ | (refine Below.putF ?_ (by first | (simp; done) | omega | (simp; omega)) _) | (refine Below.setCell ?_ (by first | (simp; done) | (simp; omega)) _)))⟩
        case rest =>
          obtain ⟨rfl, hbw⟩ := hcut
          have c7c : wc.cut? p7 0 25 = some (row8 k.val) := by rw [cut_of_heap (hbw.block p7 l7)]; exact c7
          have l7c : p7 < wc.heap.size := Nat.lt_of_lt_of_le l7 hbw.size
          have hAc := HW.out.2.1.keep hbw
          have hbcc : wc.cell? ⟨b, 1, none⟩ = some (.map (some m)) := (cells_is hAc.cells 1).1.trans (by rw [H1.out.2.2.1]; rfl)
          have hbWc : b < wc.heap.size := Nat.lt_of_lt_of_le hbW' hbw.size
          have HE := Lib.hid (And.intro hAc (And.intro (((H1.out.2.1.trans (BEvo.grow g1 HW.out.1)).trans (BEvo.grow g1 hbw)) : BEvo b w g wc g1) (HW.out.2.2.below hbw HW.out.2.2.lt)))
          clear hbw hAc c7 l7 hbc hbW'
          by_cases hcnd : kr = true ∧ lb = false
          · obtain ⟨rfl, rfl⟩ := hcnd
            have HV := Lib.hid (show res = addG n ((guardsL (put g1.G k true) (l.drop (i + 1))).1, (guardsL (put g1.G k true) (l.drop (i + 1))).2 + 1) by rw [HR.out, HG.out, if_pos ⟨rfl, rfl⟩])
            have hcb : cb = true := HCB.out
            subst hcb
            go_wp2_with fail
            apply wp_region_specs (by rfl) [.val _, .val _, .val _, .val _, .val _] 5 (by rfl) [36, 37, 38, 39, 40] [] [] (by rfl) (by rfl) (by decide) (by decide +kernel) (fun _ _ _ _ _ h => h)
            case hF => intro x; simp only [over, List.foldl_cons, List.foldl_nil, List.setIfInBounds_toArray, List.set_cons_succ, List.set_cons_zero]; exact rfl
            case hops =>
              refine ⟨?o0, ?o1, ?o2, ?o3, ?o4, trivial⟩
              case o0 =>
                intro x w1 hH K hK
                obtain ⟨xs, d, rfl⟩ := grow_of_below hH.below
                clear hH
                try simp only [World.grow_drew] at hK ⊢
                try simp only [World.grow_grow] at hK ⊢
                go_simp
                first | (with_reducible refine hK _ _ ?_) | go_wp2_with fail
                exact ⟨_, rfl, rfl, (by first | exact Below.refl _ _ | exact below_same _ _ _ | exact below_more _ _ _ _ | exact below_of_grow _ _), fun h => by cases h⟩
              case o1 =>
                intro x w1 hH K hK
                have e36 : x 36 = _ := hH.holds 0 (by decide) (by decide +kernel) 36 rfl
                obtain ⟨xs, d, rfl⟩ := grow_of_below hH.below
                clear hH
                try simp only [World.grow_drew] at hK ⊢
                try simp only [World.grow_grow] at hK ⊢
                simp only [e36] at hK ⊢
                clear e36
                go_simp
                first | (with_reducible refine hK _ _ ?_) | go_wp2_with fail
                exact ⟨_, rfl, rfl, (by first | exact Below.refl _ _ | exact below_same _ _ _ | exact below_more _ _ _ _ | exact below_of_grow _ _), fun h => by cases h⟩
              case o2 =>
                intro x w1 hH K hK
                have e37 : x 37 = _ := hH.holds 1 (by decide) (by decide +kernel) 37 rfl
                obtain ⟨xs, d, rfl⟩ := grow_of_below hH.below
                clear hH
                try simp only [World.grow_drew] at hK ⊢
                try simp only [World.grow_grow] at hK ⊢
                simp only [e37] at hK ⊢
                clear e37
                go_simp
                first | (with_reducible refine hK _ _ ?_) | go_wp2_with fail
                exact ⟨_, rfl, rfl, (by first | exact Below.refl _ _ | exact below_same _ _ _ | exact below_more _ _ _ _ | exact below_of_grow _ _), fun h => by cases h⟩
              case o3 =>
                intro x w1 hH K hK
                have e38 : x 38 = _ := hH.holds 2 (by decide) (by decide +kernel) 38 rfl
                obtain ⟨xs, d, rfl⟩ := grow_of_below hH.below
                clear hH
                try simp only [World.grow_drew] at hK ⊢
                try simp only [World.grow_grow] at hK ⊢
                simp only [e38] at hK ⊢
                clear e38
                go_simp
                first | (with_reducible refine hK _ _ ?_) | go_wp2_with fail
                exact ⟨_, rfl, rfl, (by first | exact Below.refl _ _ | exact below_same _ _ _ | exact below_more _ _ _ _ | exact below_of_grow _ _), fun h => by cases h⟩
              case o4 =>
                intro x w1 hH K hK
                obtain ⟨xs, d, rfl⟩ := grow_of_below hH.below
                clear hH
                try simp only [World.grow_drew] at hK ⊢
                try simp only [World.grow_grow] at hK ⊢
                go_simp
                first | (with_reducible refine hK _ _ ?_) | go_wp2_with fail
                exact ⟨_, rfl, rfl, (by first | exact Below.refl _ _ | exact below_same _ _ _ | exact below_more _ _ _ _ | exact below_of_grow _ _), fun h => by cases h⟩
            case hend =>
              intro x w1 hH
              have e36 : x 36 = _ := hH.holds 0 (by decide) trivial 36 rfl
              have e37 : x 37 = _ := hH.holds 1 (by decide) trivial 37 rfl
              have e38 : x 38 = _ := hH.holds 2 (by decide) trivial 38 rfl
              have e39 : x 39 = _ := hH.holds 3 (by decide) trivial 39 rfl
              have e40 : x 40 = _ := hH.holds 4 (by decide) trivial 40 rfl
              obtain ⟨xs, d, rfl⟩ := grow_of_below hH.below
              clear hH
              simp only [e36, e37, e38, e39, e40]; clear e36 e37 e38 e39 e40
              simp only [List.drop_succ_cons, List.drop_zero]
              refine wpList_put (b := m) (L := g1.G) (ev := evB) keyEncB rfl _ _ _ _ _ rfl Tryz.underlying93 rfl ?_ k trivial rfl true rfl ?_
              · repeat (first | exact HE.out.2.2 | refine MapIs.alloc ?_ _ | refine MapIs.grow ?_ _ _ | refine MapIs.drew ?_ | refine MapIs.drewN ?_ _)
              · intro w2 hm2 ho2
                have hbx : Below wc.heap.size wc (wc.drew.grow xs d) := ((Below.refl _ wc).drew).grow (Nat.le_refl _) xs d
                have hp2 := BufAt.put2 (HE.out.1.keep hbx) H1.out.2.2.1 k true hm2 ho2
                have he2 := (HE.out.2.1.trans (BEvo.grow g1 hbx)).trans hp2.2
                have HF := Lib.hid (And.intro hp2.1 (And.intro he2 (And.intro H1.out.2.2.1 (And.intro H1.out.2.2.2.1 H1.out.2.2.2.2))))
                clear hm2 ho2 hp2 he2 hbx
                go_wp2_with fail
                go_roundw
                case rel => exact ⟨i + 1, n + 1, by omega, by omega, by omega, by go_num, rfl, Lib.hid ⟨_, m, HF.out.1, HF.out.2.1, HF.out.2.2.1, HF.out.2.2.2.1, HF.out.2.2.2.2, by rw [HV.out]; unfold addG; simp only [Prod.mk.injEq, true_and]; omega⟩⟩
                case measure => simp [intOf]; omega
          · have hkb : (kr && !lb) = false := by
              cases kr <;> cases lb <;> first | rfl | exact (hcnd ⟨rfl, rfl⟩).elim
            have HV := Lib.hid (show res = addG n (guardsL g1.G (l.drop (i + 1))) by rw [HR.out, HG.out, if_neg hcnd])
            have hcb : cb = false := HCB.out.trans hkb
            subst hcb
            clear hkb hcnd
            go_wp2_with fail
            go_roundw
            case rel => exact ⟨i + 1, n, by omega, by omega, by omega, by go_num, rfl, Lib.hid ⟨g1, m, HE.out.1, HE.out.2.1, H1.out.2.2.1, H1.out.2.2.2.1, H1.out.2.2.2.2, HV.out⟩⟩
            case measure => simp [intOf]; omega
      · have hie : i = l.length := by omega
        have hgn : ¬ (i : Int) < l.length := by omega
        have hv : res = (g1.G, n) := by rw [hr, hie, List.drop_length]; unfold addG guardsL; simp
        have HF := Lib.hid (And.intro hA (And.intro hE (And.intro hW hP)))
        have h1 : res.2 = n := by rw [hv]
        have H3 := Lib.hid (show res.1 = g1.G by rw [hv])
        have H1 := Lib.hid h1
        clear hA hE hm hW hP hr hv h1
        go_wp2_with fail
        exact bodyPost_ret (v := .int .i64 n) (by simp [results, Tryz.results29, go_sem]) rfl ⟨by rw [H1.out], g1, HF.out.1, HF.out.2.1, HF.out.2.2.1, H3.out.symm, HF.out.2.2.2⟩
end
end Go.Proofs.YtfmphfidloobkaaGreatDoor
namespace Go.Proofs.YtfmphfidloobkaaGreatDoor
set_option maxRecDepth 100000
open Go.RowKit Go.ChangeShapes Go.WideShapes

structure ActB where
  kind : Int
  l : List Wr
  k : K25
  p : K25 × Int
/-- a call's cells -/
structure ActRow (w : World) (B : Nat) (x : Array Value) (a : ActB) : Prop where
  kind : x[0]? = some (.int .i64 a.kind)
  sl : ∃ lv, x[1]? = some lv ∧ SlA w B 35 lv (a.l.map wrtA)
  key : x.extract 2 27 = row8 a.k.val
  pref : x.extract 27 53 = prefA a.p.1 a.p.2
theorem ActRow.below {w w' : World} {B : Nat} {x : Array Value} {a : ActB} (h : ActRow w B x a) (hb : Below B w w') : ActRow w' B x a :=
  ⟨h.kind, h.sl.imp fun _ h => ⟨h.1, h.2.below hb⟩, h.key, h.pref⟩
theorem pick {α β : Type} {R : α → β → Prop} : ∀ xs : List α, (∀ x ∈ xs, ∃ a, R x a) → ∃ acs : List β, acs.length = xs.length ∧ ∀ i (h : i < xs.length) (h' : i < acs.length), R xs[i] acs[i]
  | [], _ => ⟨[], rfl, fun i h => by simp at h⟩
  | x :: xs, h => by
    obtain ⟨a, ha⟩ := h x (by simp)
    obtain ⟨acs, h1, h2⟩ := pick xs fun y hy => h y (by simp [hy])
    refine ⟨a :: acs, by simp [h1], fun i hi hi' => ?_⟩
    cases i with
    | zero => exact ha
    | succ i => exact h2 i (by simpa using hi) (by simpa using hi')
/-- the calls are these -/
def ActsAt (w : World) (B : Nat) (v : Value) (acs : List ActB) : Prop := ∃ xs : List (Array Value), SlA w B 53 v xs ∧ acs.length = xs.length ∧ ∀ i (h : i < xs.length) (h' : i < acs.length), ActRow w B xs[i] acs[i]
theorem ActsAt.below {w w' : World} {B : Nat} {v : Value} {acs : List ActB} (h : ActsAt w B v acs) (hb : Below B w w') : ActsAt w' B v acs := by
  obtain ⟨xs, h1, h2, h3⟩ := h
  exact ⟨xs, h1.below hb, h2, fun i h h' => (h3 i h h').below hb⟩
theorem tr_key {w : World} {cs : List Value} (h : Tr Tryz.prog w 74 cs) : ∃ k : K25, cs = keyL k := FitsAll.key (h.flat 5 (ks := List.replicate 25 (CK.i .u8)) (by kernel_rfl))
theorem tr_pref {w : World} {cs : List Value} (h : Tr Tryz.prog w 102 cs) : ∃ (k : K25) (d : Int), cs = (prefA k d).toList := by
  have hf := h.flat 6 (ks := List.replicate 25 (CK.i .u8) ++ [CK.i .i64]) (by kernel_rfl)
  obtain ⟨x, y, e, hx, hy⟩ := FitsAll.split hf
  obtain ⟨k, rfl⟩ := FitsAll.key hx
  obtain ⟨d, rfl, _⟩ := FitsAll.int hy
  refine ⟨k, d, ?_⟩
  unfold prefA
  rw [Array.toList_append]
  exact e
theorem acts17_read {w : World} {v : Value} (h : Reads Tryz.prog w 91 v) : ∃ acs : List ActB, ActsAt w w.heap.size v acs := by
  obtain ⟨u, xs, hu, h1, h2⟩ := h.tr.rows Tryz.underlying91 (sz := 53) (by kernel_rfl) (by decide)
  have huv : u = v := by
    obtain ⟨⟨base, hv⟩, _⟩ := h
    obtain ⟨a0, len, cap, rfl⟩ := okWide_slice Tryz.underlying91 hv
    simp [Value.cells] at hu
    exact hu.symm
  subst huv
  have hp : ∀ x ∈ xs, ∃ a, ActRow w w.heap.size x a := by
    intro x hx
    have f0 := (h2 x hx).field Tryz.underlying104 (i := 0) rfl
    have f1 := (h2 x hx).field Tryz.underlying104 (i := 1) rfl
    have f2 := (h2 x hx).field Tryz.underlying104 (i := 2) rfl
    have f3 := (h2 x hx).field Tryz.underlying104 (i := 3) rfl
    obtain ⟨lv, l, e1, hl⟩ := writes_tr f1
    obtain ⟨k, e2⟩ := tr_key f2
    obtain ⟨pk, pd, e3⟩ := tr_pref f3
    obtain ⟨n, e0, _⟩ := FitsAll.int (f0.flat 1 (ks := [CK.i .i64]) (by kernel_rfl))
    have e1' : (x.toList.drop 1).take 1 = [lv] := e1
    have e0' : (x.toList.drop 0).take 1 = [.int .i64 n] := e0
    have e2' : (x.toList.drop 2).take 25 = keyL k := e2
    have e3' : (x.toList.drop 27).take 26 = (prefA pk pd).toList := e3
    refine ⟨⟨n, l, k, (pk, pd)⟩, ⟨?_, ⟨lv, ?_, hl⟩, ?_, ?_⟩⟩
    · have := congrArg (fun z : List Value => z[0]?) e0'
      simp at this
      exact this
    · have := congrArg (fun z : List Value => z[0]?) e1'
      simp at this
      exact this
    · apply Array.ext'
      rw [Array.toList_extract, List.extract_eq_take_drop]
      exact e2'
    · apply Array.ext'
      rw [Array.toList_extract, List.extract_eq_take_drop]
      exact e3'
  obtain ⟨acs, h3, h4⟩ := pick xs hp
  exact ⟨acs, xs, h1, h3, h4⟩
theorem ActsAt.form {w : World} {B : Nat} {v : Value} {acs : List ActB} (h : ActsAt w B v acs) : ∃ a cap, v = .slice a acs.length cap ∧ acs.length ≤ maxLen := by
  obtain ⟨xs, h1, h2, _⟩ := h
  obtain ⟨a, cap, rfl, hcl, hm⟩ := h1.form
  exact ⟨a, cap, by rw [h2], by omega⟩
/-- one call of the list -/
theorem ActsAt.at_ {w : World} {B c i : Nat} {a : Option Addr} {acs : List ActB} (h : ActsAt w B (.slice a acs.length c) acs) (hi : i < acs.length) :
    ∃ b o lv, a = some ⟨b, o, none⟩ ∧ b < B ∧ w.cell? ⟨b, o + i * 53, none⟩ = some (.int .i64 acs[i].kind) ∧ w.cell? ⟨b, o + i * 53 + 1, none⟩ = some lv ∧ SlA w B 35 lv (acs[i].l.map wrtA) ∧
      w.cut? b (o + i * 53 + 2) 25 = some (row8 acs[i].k.val) ∧ w.cut? b (o + i * 53 + 27) 26 = some (prefA acs[i].p.1 acs[i].p.2) := by
  obtain ⟨xs, ⟨_, a', cap', he, _, _, hc⟩, h2, h3⟩ := h
  simp only [Value.slice.injEq] at he
  obtain ⟨rfl, _, rfl⟩ := he
  obtain ⟨b, o, rfl, hlb, hcut⟩ := hc (by omega)
  have hix : i < xs.length := by omega
  have h0 := hcut i xs[i] (by simp [hix])
  have hr := h3 i hix hi
  obtain ⟨lv, hlv, hsl⟩ := hr.sl
  have hs := (cut_spec h0).2
  refine ⟨b, o, lv, rfl, hlb, ?_, ?_, hsl, ?_, ?_⟩
  · have := hs 0 (by decide); rw [hr.kind] at this; exact this
  · have := hs 1 (by decide); rw [hlv] at this; exact this
  · have := cut_sub (i := 2) (m := 25) h0 (by decide); rw [hr.key] at this; exact this
  · have := cut_sub (i := 27) (m := 26) h0 (by decide); rw [hr.pref] at this; exact this
/-- what a call leaves of writes, guards, prefixes -/
def stepB (g : MW × MG × MP) (a : ActB) : MW × MG × MP := ((putL g.1 (cutW a.l)).1, (guardsL g.2.1 [a.k]).1, (ginL g.2.2 [a.p]).1)
def playG (g : MW × MG × MP) (acs : List ActB) : MW × MG × MP := acs.foldl stepB g
theorem putL_len : ∀ (xs : List Wr) (L : MW), L.length ≤ 16 → (putL L xs).1.length ≤ 16
  | [], _, h => h
  | x :: xs, L, h => by
    unfold putL
    split
    · split
      · exact h
      · rename_i hn
        refine putL_len xs _ ?_
        rw [put_len]
        split
        · exact h
        · rename_i hk
          have : L.length ≠ 16 := fun e => hn ⟨lk_none.2 (fun p hp he => hk (List.mem_map.2 ⟨p, hp, he⟩)), e⟩
          omega
    · exact h
theorem guardsL_len : ∀ (ks : List K25) (G : MG), (guardsL G ks).1.length ≤ G.length + ks.length
  | [], _ => Nat.le_refl _
  | k :: ks, G => by
    unfold guardsL
    split
    · have := guardsL_len ks (put G k true)
      have h2 : (put G k true).length ≤ G.length + 1 := by
        unfold put; split <;> simp
      simp only [List.length_cons]
      omega
    · have := guardsL_len ks G
      simp only [List.length_cons]
      omega
theorem ginL_len : ∀ (ps : MP) (P : MP), (ginL P ps).1.length ≤ P.length + ps.length
  | [], _ => Nat.le_refl _
  | p :: ps, P => by
    unfold ginL
    split
    · have := ginL_len ps (P ++ [p])
      simp only [List.length_cons, List.length_append, List.length_nil] at *
      omega
    · have := ginL_len ps P
      simp only [List.length_cons]
      omega
end Go.Proofs.YtfmphfidloobkaaGreatDoor
namespace Go.Proofs.YtfmphfidloobkaaGreatDoor.Dv
open Go.RowKit

/-- the block that a value points to -/
def blk : Value → Option Nat
  | .pointer (some a) => some a.block
  | .map m => m
  | .slice (some a) _ _ => some a.block
  | _ => none

def preCheck (ops : Array Oper) (n : Nat) (ds pures : List Nat) : Bool :=
  decide (n ≤ ops.size) &&
  ((List.range ops.size).all fun i => (preds ops i).all fun j => decide (j < i)) &&
  ((List.range ops.size).all fun i => decide (i < n) || ((List.range i).all fun j => pures.contains j || (past ops 10 i).contains j)) &&
  ((List.range n).all fun i => match dstOf ops i with | some d => ds.contains d && ((List.range n).all fun j => decide (i = j) || dstOf ops j != some d) | none => true) &&
  (Region.noSelect ops && pures.all fun i => decide (i < n) && match ops[i]? with
    | some oi => oi.dst.isSome && (List.range ops.size).all fun j => decide (j = i) || (past ops 10 i).contains j || (preds ops j).contains i || (match ops[j]? with | some oj => oi.apart ops oj | none => true)
    | none => false)

section
variable {P : Program} {ops : Array Oper} {Q : Exit → Act → World → Prop}

/-- what operation i leaves, from a frame x and a world w: its value v, which meets R, in a world that has grown; a new block's number is a new one -/
def Left (ops : Array Oper) (base : Array Value) (df : List Deferred) (ds : List Nat) (news : List Nat) (R : Nat → Value → World → Prop) (i : Nat) (x : Nat → Value) (w : World) (a' : Act) (w' : World) : Prop :=
  ∃ v, a' = (⟨over base ds x, df⟩ : Act).put (dstOf ops i) v ∧ R i v w' ∧ Below w.heap.size w w' ∧ (i ∈ news → ∀ b, blk v = some b → w.heap.size ≤ b ∧ b < w'.heap.size)

/-- the frame x and the world w behind the operations that are listed -/
structure Held (ops : Array Oper) (n : Nat) (ds news : List Nat) (R : Nat → Value → World → Prop) (w0 : World) (L : Nat → Prop) (x : Nat → Value) (w : World) : Prop where
  below : Below w0.heap.size w0 w
  holds : ∀ i, i < n → L i → ∀ d, dstOf ops i = some d → R i (x d) w
  new : ∀ i ∈ news, i < n → L i → ∀ d, dstOf ops i = some d → ∀ b, blk (x d) = some b → b < w.heap.size
  apart : ∀ i ∈ news, ∀ j ∈ news, i < n → j < n → L i → L j → i ≠ j → ∀ d e, dstOf ops i = some d → dstOf ops j = some e → ∀ b, blk (x d) = some b → blk (x e) ≠ some b

theorem Held.next {n : Nat} {ds news : List Nat} {R : Nat → Value → World → Prop} {w0 : World} {L : Nat → Prop} {x : Nat → Value} {w w' : World} {v : Value} {i : Nat}
    (h : Held ops n ds news R w0 L x w) (hi : i < n) (hL : ¬ L i)
    (hst : ∀ i v w w', R i v w → Below w.heap.size w w' → R i v w')
    (hnd : ∀ j, j < n → j ≠ i → ∀ d, dstOf ops i = some d → dstOf ops j ≠ some d)
    (hR : R i v w') (hb : Below w.heap.size w w') (hnew : i ∈ news → ∀ b, blk v = some b → w.heap.size ≤ b ∧ b < w'.heap.size) :
    Held ops n ds news R w0 (fun j => j = i ∨ L j) (match dstOf ops i with | some d => upd x d v | none => x) w' := by
  have hxo : ∀ j, j < n → j ≠ i → ∀ e, dstOf ops j = some e → (match dstOf ops i with | some d => upd x d v | none => x) e = x e := by
    intro j hj hji e he
    cases hd : dstOf ops i with
    | none => rfl
    | some d => exact upd_other _ _ (fun e' => hnd j hj hji d hd (e' ▸ he))
  have hxi : ∀ d, dstOf ops i = some d → (match dstOf ops i with | some d => upd x d v | none => x) d = v := by
    intro d hd; rw [hd]; simp
  refine ⟨h.below.trans (hb.mono h.below.size), ?_, ?_, ?_⟩
  · intro j hj hl d hd
    by_cases hji : j = i
    · subst hji; rw [hxi d hd]; exact hR
    · rw [hxo j hj hji d hd]; exact hst j _ w w' (h.holds j hj (hl.resolve_left hji) d hd) hb
  · intro j hjn hj hl d hd
    by_cases hji : j = i
    · subst hji; rw [hxi d hd]; exact fun b e => (hnew hjn b e).2
    · rw [hxo j hj hji d hd]; exact fun b e => Nat.lt_of_lt_of_le (h.new j hjn hj (hl.resolve_left hji) d hd b e) hb.size
  · intro j hjn k hkn hj hk hlj hlk hjk d e hd he
    by_cases hji : j = i
    · subst hji
      have hkj : k ≠ j := fun e' => hjk e'.symm
      rw [hxi d hd, hxo k hk hkj e he]
      intro b eb eb2
      have h1 := (hnew hjn b eb).1
      have h2 := h.new k hkn hk (hlk.resolve_left hkj) e he b eb2
      omega
    · by_cases hki : k = i
      · subst hki
        rw [hxi e he, hxo j hj hji d hd]
        intro b eb eb2
        have h1 := (hnew hkn b eb2).1
        have h2 := h.new j hjn hj (hlj.resolve_left hji) d hd b eb
        omega
      · rw [hxo j hj hji d hd, hxo k hk hki e he]
        exact h.apart j hjn k hkn hj hk (hlj.resolve_left hji) (hlk.resolve_left hki) hjk d e hd he

theorem count_set {l : Array Bool} {i : Nat} (hi : i < l.size) (hf : l[i]? = some false) : (l.setIfInBounds i true).toList.count false + 1 = l.toList.count false := by
  have e1 : (l.setIfInBounds i true).toList = l.toList.set i true := by simp
  have hf' : l[i] = false := by simpa [hi] using hf
  rw [e1, List.count_set (by simpa using hi)]
  simp [hf']
  have : 0 < l.toList.count false := List.count_pos_iff.2 (Array.mem_toList_iff.2 (Array.mem_of_getElem? hf))
  rw [← Array.count_toList]
  omega

/-- THE RULE. 'n': how many operations come up in any order; 'ds': their slots; 'news': which of them make a block; 'pures': which of them may come behind later ones, for they yield their value in whatever world; 'R i': what the value of operation i meets, in every world that has grown.
One obligation an operation ('hops': from whatever frame and world in which what must precede it holds), and the rest of the region from whatever all of them have left ('hend'). -/
theorem wp_region_free {rid : Nat} {a : Act} {w : World} (hm : P.follows .mixedOrders = true) (n : Nat) (ds news pures : List Nat) (R : Nat → Value → World → Prop)
    (hck : preCheck ops n ds pures = true)
    (hQ : ∀ (s : Nat) v c a w, Q (.panic c) (a.put (some s) v) w → Q (.panic c) a w)
    (hst : ∀ i v w w', R i v w → Below w.heap.size w w' → R i v w')
    (hpure : ∀ i ∈ pures, i ∉ news ∧ ∀ o, ops[i]? = some o → ∀ x w1, Held ops n ds news R w.drew (fun j => j ∈ past ops 10 i) x w1 → ∃ v, Yields P ops o v ⟨over a.tmps ds x, a.defers⟩ ∧ R i v w1)
    (hops : ∀ i, i < n → i ∉ pures → ∀ o, ops[i]? = some o → ∀ x w1, Held ops n ds news R w.drew (fun j => j ∈ past ops 10 i) x w1 →
      ∀ K : Act → World → Prop, (∀ a' w', Left ops a.tmps a.defers ds news R i x w1 a' w' → K a' w') →
      if Region.wanted o (yielded ops (over a.tmps ds x)) = true then o.wp P ⟨over a.tmps ds x, a.defers⟩ w1 K Q else K ((⟨over a.tmps ds x, a.defers⟩ : Act).put o.dst undef) w1)
    (hend : ∀ x w1, Held ops n ds news R w.drew (fun _ => True) x w1 → wpList P ops Q (ops.toList.drop n) ⟨over a.tmps ds x, a.defers⟩ w1) :
    (Code.region rid ops true).wp P Q a w := by
  simp only [preCheck, Bool.and_eq_true, List.all_eq_true, List.mem_range, Bool.or_eq_true, decide_eq_true_eq] at hck
  obtain ⟨⟨⟨⟨hn, hlt⟩, htail⟩, hds⟩, hnosel, hpu⟩ := hck
  have hmem : ∀ i, i < n → ∀ d, dstOf ops i = some d → d ∈ ds := by
    intro i hi d hd
    have := hds i hi
    rw [hd] at this
    simp only [Bool.and_eq_true] at this
    simpa using this.1
  have hnd : ∀ i, i < n → ∀ j, j < n → j ≠ i → ∀ d, dstOf ops i = some d → dstOf ops j ≠ some d := by
    intro i hi j hj hji d hd he
    have := hds i hi
    rw [hd] at this
    simp only [Bool.and_eq_true, List.all_eq_true, List.mem_range, Bool.or_eq_true, decide_eq_true_eq] at this
    rcases this.2 j hj with e | e
    · exact hji e.symm
    · rw [he] at e; simp at e
  have htail' : ∀ i, i < ops.size → n ≤ i → ∀ j, j < i → j ∉ pures → j ∈ past ops 10 i := by
    intro i hi hni j hj hjp
    rcases htail i hi with h | h
    · omega
    · rcases h j hj with h | h
      · exact (hjp (by simpa using h)).elim
      · simpa using h
  -- the invariant
  let Clo : Array Bool → Prop := fun l => ∀ j, l[j]? = some true → ∀ p ∈ preds ops j, l[p]? = some true
  let PA : Array Bool → Act → World → Prop := fun l a' w' => (∀ t, n ≤ t → t < ops.size → l[t]? = some false) ∧ (∃ i, i < n ∧ l[i]? = some false) ∧
    ∃ x, a' = ⟨over a.tmps ds x, a.defers⟩ ∧ Held ops n ds news R w.drew (fun j => l[j]? = some true) x w'
  let PB : Array Bool → Act → World → Prop := fun l a' w' => ∃ k, n ≤ k ∧ k ≤ ops.size ∧ (∀ j, j < k → l[j]? = some true) ∧ (∀ j, k ≤ j → j < ops.size → l[j]? = some false) ∧ wpList P ops Q (ops.toList.drop k) a' w'
  let Inv : Array Bool → Act → World → Prop := fun l a' w' => l.size = ops.size ∧ Clo l ∧ (PA l a' w' ∨ PB l a' w')
  have enterB : ∀ (l : Array Bool) x w', (∀ t, n ≤ t → t < ops.size → l[t]? = some false) → (∀ j, j < n → l[j]? = some true) →
      Held ops n ds news R w.drew (fun j => l[j]? = some true) x w' → PB l ⟨over a.tmps ds x, a.defers⟩ w' := by
    intro l x w' h1 h2 h3
    refine ⟨n, Nat.le_refl _, hn, h2, h1, hend x w' ⟨h3.below, fun i hi _ => h3.holds i hi (h2 i hi), fun i him hi _ => h3.new i him hi (h2 i hi), fun i him j hjm hi hj _ _ => h3.apart i him j hjm hi hj (h2 i hi) (h2 j hj)⟩⟩
  have leastReady : ∀ (l : Array Bool) k, k < ops.size → l[k]? = some false → (∀ j, j < k → l[j]? = some true) → k ∈ Region.ready .any ops l := by
    intro l k hk h1 h2
    exact ready_of (ops := ops) hk h1 (fun p hp => h2 p (hlt k hk p hp))
  have least : ∀ (l : Array Bool) m, l.size = ops.size → m < ops.size → l[m]? = some false → ∃ k, k ≤ m ∧ l[k]? = some false ∧ ∀ j, j < k → l[j]? = some true := by
    intro l m hl
    induction m using Nat.strongRecOn with
    | ind m ih =>
      intro hm1 hm2
      by_cases hex : ∃ j, j < m ∧ l[j]? = some false
      · obtain ⟨j, hj, hjf⟩ := hex
        obtain ⟨k, hk, hk2⟩ := ih j hj (by omega) hjf
        exact ⟨k, by omega, hk2⟩
      · refine ⟨m, Nat.le_refl _, hm2, fun j hj => ?_⟩
        have hjs : j < l.size := by omega
        cases hb : l[j] with
        | true => simp [hjs, hb]
        | false => exact (hex ⟨j, hj, by simp [hjs, hb]⟩).elim
  have setClo : ∀ (l : Array Bool) i, Clo l → (∀ p ∈ preds ops i, l[p]? = some true) → Clo (l.setIfInBounds i true) := by
    intro l i hc hp j hj p hpj
    have keep : ∀ q : Nat, l[q]? = some true → (l.setIfInBounds i true)[q]? = some true := by
      intro q hq
      by_cases hqi : i = q
      · subst hqi
        have : i < l.size := by
          rcases Nat.lt_or_ge i l.size with h | h
          · exact h
          · rw [Array.getElem?_eq_none h] at hq; cases hq
        rw [Array.getElem?_setIfInBounds_self_of_lt this]
      · rw [Array.getElem?_setIfInBounds_ne hqi]; exact hq
    by_cases hji : i = j
    · subst hji; exact keep p (hp p hpj)
    · rw [Array.getElem?_setIfInBounds_ne hji] at hj; exact keep p (hc j hj p hpj)
  -- behind operation i of the first n
  have next : ∀ (l : Array Bool) x w' i, l.size = ops.size → Clo l → (∀ t, n ≤ t → t < ops.size → l[t]? = some false) → Held ops n ds news R w.drew (fun j => l[j]? = some true) x w' →
      i < n → l[i]? = some false → (∀ p ∈ preds ops i, l[p]? = some true) → ∀ a1 w1, Left ops a.tmps a.defers ds news R i x w' a1 w1 → Inv (l.setIfInBounds i true) a1 w1 := by
    rintro l x w' i hl hc hT hH hin hfi hpi a1 w1 ⟨v, rfl, hR, hB, hnew⟩
    have hset : ∀ j, (l.setIfInBounds i true)[j]? = if j = i then some true else l[j]? := by
      intro j
      by_cases hji : j = i
      · subst hji; rw [if_pos rfl, Array.getElem?_setIfInBounds_self_of_lt (by omega)]
      · rw [if_neg hji, Array.getElem?_setIfInBounds_ne (fun e => hji e.symm)]
    have hc' := setClo l i hc hpi
    have hl' : (l.setIfInBounds i true).size = ops.size := by simpa using hl
    have hH' := hH.next (v := v) hin (by rw [hfi]; simp) hst (fun j hj hji d hd => hnd i hin j hj hji d hd) hR hB hnew
    have hfr : (⟨over a.tmps ds x, a.defers⟩ : Act).put (dstOf ops i) v = ⟨over a.tmps ds (match dstOf ops i with | some d => upd x d v | none => x), a.defers⟩ := by
      cases hd : dstOf ops i with
      | none => rfl
      | some d => simp only [Act.put]; rw [over_set v (hmem i hin d hd)]
    rw [hfr]
    have hH2 : Held ops n ds news R w.drew (fun j => (l.setIfInBounds i true)[j]? = some true) (match dstOf ops i with | some d => upd x d v | none => x) w1 := by
      have himp : ∀ j, (l.setIfInBounds i true)[j]? = some true → (j = i ∨ l[j]? = some true) := by
        intro j hj; rw [hset] at hj; by_cases hji : j = i
        · exact .inl hji
        · rw [if_neg hji] at hj; exact .inr hj
      exact ⟨hH'.below, fun j hj hjl => hH'.holds j hj (himp j hjl), fun j hjm hj hjl => hH'.new j hjm hj (himp j hjl), fun j hjm k hkm hj hk hjl hkl => hH'.apart j hjm k hkm hj hk (himp j hjl) (himp k hkl)⟩
    refine ⟨hl', hc', ?_⟩
    have hT' : ∀ t, n ≤ t → t < ops.size → (l.setIfInBounds i true)[t]? = some false := by
      intro t ht1 ht2; rw [hset, if_neg (by omega)]; exact hT t ht1 ht2
    by_cases hall : ∃ j, j < n ∧ (l.setIfInBounds i true)[j]? = some false
    · exact .inl ⟨hT', hall, _, rfl, hH2⟩
    · refine .inr (enterB _ _ _ hT' (fun j hj => ?_) hH2)
      have hjs : j < (l.setIfInBounds i true).size := by omega
      cases hb : (l.setIfInBounds i true)[j] with
      | true => rw [Array.getElem?_eq_getElem hjs, hb]
      | false => exact (hall ⟨j, hj, by rw [Array.getElem?_eq_getElem hjs, hb]⟩).elim
  have main : ∀ (fuel : Nat) (l : Array Bool) (a' : Act) (w' : World), Inv l a' w' → l.toList.count false ≤ fuel → wpAny P .any ops Q fuel l a' w' := by
    intro fuel
    induction fuel with
    | zero =>
      rintro l a' w' ⟨hl, hc, hAB⟩ hcnt
      have hnone : ∀ i : Nat, l[i]? ≠ some false := by
        intro i hi
        have h0 : l.toList.count false = 0 := by omega
        rw [List.count_eq_zero] at h0
        exact h0 (Array.mem_toList_iff.2 (Array.mem_of_getElem? hi))
      have hr : Region.ready .any ops l = [] := by
        rw [List.eq_nil_iff_forall_not_mem]
        intro i hi
        exact hnone i (ready_spec hl hi rfl).2.1
      refine ⟨hr, ?_⟩
      rcases hAB with ⟨_, ⟨m, hm1, hm2⟩, _⟩ | ⟨k, hk1, hk2, hk3, hk4, hW⟩
      · exact (hnone m hm2).elim
      · rcases Nat.lt_or_ge k ops.size with h | h
        · exact (hnone k (hk4 k (Nat.le_refl _) h)).elim
        · rw [List.drop_of_length_le (by simpa using h)] at hW
          exact hW
    | succ fuel ih =>
      rintro l a' w' ⟨hl, hc, hAB⟩ hcnt
      have hcnt' : ∀ i, i < ops.size → l[i]? = some false → (l.setIfInBounds i true).toList.count false ≤ fuel := by
        intro i hi hf
        have := count_set (l := l) (i := i) (by omega) hf
        omega
      rcases hAB with ⟨hT, ⟨m0, hm01, hm02⟩, x, rfl, hH⟩ | ⟨k, hk1, hk2, hk3, hk4, hW⟩
      · by_cases hp : ∃ i, i ∈ pures ∧ i ∈ Region.ready .any ops l
        · -- a pure one is taken first
          obtain ⟨i, hip, hir⟩ := hp
          obtain ⟨hi, hfi, hpi⟩ := ready_spec hl hir rfl
          have hpast := past_true hc 10 i hpi
          have hpi2 := hpu i hip
          obtain ⟨hin, hpi3⟩ := hpi2
          have ho : ops[i]? = some ops[i] := Array.getElem?_eq_getElem hi
          rw [ho] at hpi3
          simp only [Bool.and_eq_true, List.all_eq_true, List.mem_range, Bool.or_eq_true, decide_eq_true_eq] at hpi3
          obtain ⟨hsome, hap⟩ := hpi3
          have hHp : Held ops n ds news R w.drew (fun j => j ∈ past ops 10 i) x w' :=
            ⟨hH.below, fun j hj hjp => hH.holds j hj (hpast j hjp), fun j hjm hj hjp => hH.new j hjm hj (hpast j hjp), fun j hjm k hkm hj hk hjp hkp => hH.apart j hjm k hkm hj hk (hpast j hjp) (hpast k hkp)⟩
          obtain ⟨hnn, hpr⟩ := hpure i hip
          obtain ⟨v, hy, hR⟩ := hpr _ ho x w' hHp
          obtain ⟨d, hd⟩ := Option.isSome_iff_exists.1 hsome
          have hinv := next l x w' i hl hc hT hH hin hfi hpi ((⟨over a.tmps ds x, a.defers⟩ : Act).put (dstOf ops i) v) w' ⟨v, rfl, hR, Below.refl _ _, fun h => (hnn h).elim⟩
          have hdst : dstOf ops i = ops[i].dst := by unfold dstOf; rw [ho]; rfl
          rw [hdst] at hinv
          refine wpAny_first ho (Region.noSelect_spec hnosel) (by rw [hd]; exact fun c a w => hQ d v c a w) fuel l _ w' ?_ hir hy (ih _ _ _ hinv (hcnt' i hi hfi))
          intro j oj hoj hji hun hno
          have hjs : j < ops.size := (Array.getElem?_eq_some_iff.1 hoj).1
          rcases hap j hjs with ((h | h) | h) | h
          · exact (hji h).elim
          · have := hpast j (by simpa using h)
            rw [Array.getD_eq_getD_getElem?, this] at hun
            simp at hun
          · exfalso
            have h' : i ∈ preds ops j := by simpa using h
            unfold preds at h'
            rw [hoj] at h'
            simp only [Option.map_some, Option.getD_some, List.mem_map, List.mem_filter] at h'
            obtain ⟨e, ⟨he1, he2⟩, he3⟩ := h'
            exact hno e (Array.mem_toList_iff.1 he1) he2 he3
          · rw [hoj] at h; exact h
        · -- no pure one is ready: what is ready is one of the first n
          obtain ⟨m, hm1, hm2, hm3⟩ := least l m0 hl (by omega) hm02
          have hmr := leastReady l m (by omega) hm2 hm3
          have hmp : m ∉ pures := fun h => hp ⟨m, h, hmr⟩
          refine ⟨fun h => (by rw [h] at hmr; cases hmr), fun i hr => ?_⟩
          obtain ⟨hi, hfi, hpi⟩ := ready_spec hl hr rfl
          have hpast := past_true hc 10 i hpi
          have hip : i ∉ pures := fun h => hp ⟨i, h, hr⟩
          have ho : ops[i]? = some ops[i] := Array.getElem?_eq_getElem hi
          have hin : i < n := by
            rcases Nat.lt_or_ge i n with h | h
            · exact h
            · have := hpast m (htail' i hi h m (by omega) hmp)
              rw [hm2] at this; cases this
          have hHp : Held ops n ds news R w.drew (fun j => j ∈ past ops 10 i) x w' :=
            ⟨hH.below, fun j hj hjp => hH.holds j hj (hpast j hjp), fun j hjm hj hjp => hH.new j hjm hj (hpast j hjp), fun j hjm k hkm hj hk hjp hkp => hH.apart j hjm k hkm hj hk (hpast j hjp) (hpast k hkp)⟩
          have key := hops i hin hip _ ho x w' hHp (wpAny P .any ops Q fuel (l.setIfInBounds i true))
            (fun a1 w1 hleft => ih _ _ _ (next l x w' i hl hc hT hH hin hfi hpi a1 w1 hleft) (hcnt' i hi hfi))
          unfold wpOp
          rw [ho]
          show if Region.wanted ops[i] (yielded ops (over a.tmps ds x)) = true then _ else _
          split
          · rename_i hw; rw [if_pos hw] at key; exact .inl key
          · rename_i hw; rw [if_neg hw] at key; exact key
      · refine ⟨fun hnil => ?_, fun i hr => ?_⟩
        · rcases Nat.lt_or_ge k ops.size with h | h
          · have := leastReady l k h (hk4 k (Nat.le_refl _) h) hk3
            rw [hnil] at this; cases this
          · rw [List.drop_of_length_le (by simpa using h)] at hW
            exact hW
        · obtain ⟨hi, hfi, hpi⟩ := ready_spec hl hr rfl
          have hpast := past_true hc 10 i hpi
          have ho : ops[i]? = some ops[i] := Array.getElem?_eq_getElem hi
          have hnp : ∀ q, n ≤ q → q ∉ pures := by
            intro q hq hqp
            have := (hpu q hqp).1
            omega
          have hik : i = k := by
            rcases Nat.lt_trichotomy i k with h | h | h
            · rw [hk3 i h] at hfi; cases hfi
            · exact h
            · have := hpast k (htail' i hi (by omega) k h (hnp k hk1))
              rw [hk4 k (Nat.le_refl _) (by omega)] at this; cases this
          subst hik
          have hset : ∀ j, (l.setIfInBounds i true)[j]? = if j = i then some true else l[j]? := by
            intro j
            by_cases hji : j = i
            · subst hji; rw [if_pos rfl, Array.getElem?_setIfInBounds_self_of_lt (by omega)]
            · rw [if_neg hji, Array.getElem?_setIfInBounds_ne (fun e => hji e.symm)]
          have hdrop : ops.toList.drop i = ops[i] :: ops.toList.drop (i + 1) := by
            rw [List.drop_eq_getElem_cons (by simpa using hi)]; simp
          rw [hdrop] at hW
          have goalB : ∀ a1 w1, wpList P ops Q (ops.toList.drop (i + 1)) a1 w1 → wpAny P .any ops Q fuel (l.setIfInBounds i true) a1 w1 := by
            intro a1 w1 h1
            refine ih _ _ _ ⟨by simpa using hl, setClo l i hc hpi, .inr ⟨i + 1, by omega, by omega, ?_, ?_, h1⟩⟩ (hcnt' i hi hfi)
            · intro j hj; rw [hset]; split
              · rfl
              · exact hk3 j (by omega)
            · intro j hj1 hj2; rw [hset, if_neg (by omega)]; exact hk4 j (by omega) hj2
          unfold wpList at hW
          unfold wpOp
          rw [ho]
          show if Region.wanted ops[i] (yielded ops a'.tmps) = true then _ else _
          split
          · rename_i hw; rw [if_pos hw] at hW; exact hW.imp (Oper.wp_mono goalB) id
          · rename_i hw; rw [if_neg hw] at hW; exact goalB _ _ hW
  refine wp_region_any hm (main ops.size _ _ _ ?_ (by simp))
  have hrep : ∀ j : Nat, j < ops.size → (Array.replicate ops.size false)[j]? = some false := by intro j hj; simp [hj]
  refine ⟨by simp, ?_, ?_⟩
  · intro j hj
    rw [Array.getElem?_replicate] at hj
    split at hj <;> simp at hj
  · have hx0 : a = ⟨over a.tmps ds (fun d => a.tmps.getD d undef), a.defers⟩ := by
      have : over a.tmps ds (fun d => a.tmps.getD d undef) = a.tmps := by
        apply Array.ext_getElem?
        intro s
        rw [over_get]
        split
        · rw [Array.getD_eq_getD_getElem?]
          cases a.tmps[s]? <;> rfl
        · rfl
      rw [this]
    have hH0 : Held ops n ds news R w.drew (fun j => (Array.replicate ops.size false)[j]? = some true) (fun d => a.tmps.getD d undef) w.drew := by
      have hno : ∀ j : Nat, (Array.replicate ops.size false)[j]? ≠ some true := by
        intro j hj
        rw [Array.getElem?_replicate] at hj
        split at hj <;> simp at hj
      exact ⟨Below.refl _ _, fun j _ hj => (hno j hj).elim, fun j _ _ hj => (hno j hj).elim, fun j _ _ _ _ _ hj => (hno j hj).elim⟩
    rcases Nat.eq_zero_or_pos n with h0 | h0
    · subst h0
      rw [hx0]
      exact .inr (enterB _ _ _ (fun t _ ht => hrep t ht) (fun j hj => by omega) hH0)
    · exact .inl ⟨fun t _ ht => hrep t ht, ⟨0, h0, hrep 0 (by omega)⟩, _, hx0, hH0⟩
end

/-- what an operation gives -/
structure Spec where
  R : Nat → Value → World → Prop
  stays : ∀ B v w w', R B v w → Below w.heap.size w w' → R B v w'
  pureVal : Option Value
  pureOk : ∀ v, pureVal = some v → ∀ B w, R B v w
  isNew : Bool
/-- a value -/
def Spec.val (v : Value) : Spec := ⟨fun _ u _ => u = v, fun _ _ _ _ h _ => h, none, fun _ h => (by cases h), false⟩
/-- a value, in whatever world -/
def Spec.pure (v : Value) : Spec := ⟨fun _ u _ => u = v, fun _ _ _ _ h _ => h, some v, fun _ h _ _ => (by cases h; rfl), false⟩
/-- a new block -/
def Spec.new (o : Obj) : Spec := ⟨fun B u w => ∃ b, u = .pointer (some ⟨b, 0, none⟩) ∧ B ≤ b ∧ b < w.heap.size ∧ w.heap[b]? = some o,
  fun _ _ _ _ ⟨b, h1, h2, h3, h4⟩ hb => ⟨b, h1, h2, Nat.lt_of_lt_of_le h3 hb.size, (by rw [hb.block b h3]; exact h4)⟩, none, fun _ h => (by cases h), true⟩
/-- something that stays true -/
def Spec.rel (R : Value → World → Prop) : Spec := ⟨fun _ u w => ∀ w', Below w.heap.size w w' → R u w', fun _ _ _ _ h hb w'' h2 => h w'' (hb.trans (h2.mono hb.size)), none, fun _ h => (by cases h), false⟩
/-- something that stays true, in a block of its own if in any -/
def Spec.fresh (R : Value → World → Prop) : Spec := ⟨fun _ u w => ∀ w', Below w.heap.size w w' → R u w', fun _ _ _ _ h hb w'' h2 => h w'' (hb.trans (h2.mono hb.size)), none, fun _ h => (by cases h), true⟩
def puresOf (l : List Spec) : List Nat := (List.range l.length).filter fun i => ((l[i]?).map fun s => s.pureVal.isSome).getD false
def newsOf (l : List Spec) : List Nat := (List.range l.length).filter fun i => ((l[i]?).map (·.isNew)).getD false
def RS (B : Nat) (l : List Spec) (i : Nat) (v : Value) (w : World) : Prop := match l[i]? with | some s => s.R B v w | none => True
/-- what an operation must leave, by its spec -/
def LeftS (B : Nat) (s : Spec) (fr : Array Value) (df : List Deferred) (d : Option Nat) (w : World) (a' : Act) (w' : World) : Prop :=
  ∃ v, (⟨fr, df⟩ : Act).put d v = a' ∧ s.R B v w' ∧ Below w.heap.size w w' ∧ (s.isNew = true → ∀ b, blk v = some b → w.heap.size ≤ b ∧ b < w'.heap.size)
/-- the obligations, one for each operation -/
def Obl1 (P : Program) (ops : Array Oper) (Q : Exit → Act → World → Prop) (w0 : World) (F : (Nat → Value) → Array Value) (df : List Deferred) (ds news : List Nat) (n : Nat) (all : List Spec) (i : Nat) (o : Oper) (s : Spec) : Prop :=
  match s.pureVal with
  | some v => ∀ x w1, Held ops n ds news (RS w0.heap.size all) w0 (fun j => j ∈ past ops 10 i) x w1 → Yields P ops o v ⟨F x, df⟩
  | none => ∀ x w1, Held ops n ds news (RS w0.heap.size all) w0 (fun j => j ∈ past ops 10 i) x w1 →
      ∀ K : Act → World → Prop, (∀ a' w', LeftS w0.heap.size s (F x) df o.dst w1 a' w' → K a' w') →
      if Region.wanted o (yielded ops (F x)) = true then o.wp P ⟨F x, df⟩ w1 K Q else K ((⟨F x, df⟩ : Act).put o.dst undef) w1
def Obl (P : Program) (ops : Array Oper) (Q : Exit → Act → World → Prop) (w0 : World) (F : (Nat → Value) → Array Value) (df : List Deferred) (ds news : List Nat) (n : Nat) (all : List Spec) : Nat → List Oper → List Spec → Prop
  | i, o :: l, s :: ss => Obl1 P ops Q w0 F df ds news n all i o s ∧ Obl P ops Q w0 F df ds news n all (i + 1) l ss
  | _, _, _ => True

theorem Obl.at_ {P : Program} {ops : Array Oper} {Q : Exit → Act → World → Prop} {w0 : World} {F : (Nat → Value) → Array Value} {df : List Deferred} {ds news : List Nat} {n : Nat} {all : List Spec} :
    ∀ (l : List Oper) (ss : List Spec) (k : Nat), Obl P ops Q w0 F df ds news n all k l ss → ∀ i o s, l[i]? = some o → ss[i]? = some s → Obl1 P ops Q w0 F df ds news n all (k + i) o s
  | o :: l, s :: ss, k, h, 0, o', s', ho, hs => by
    simp at ho hs; subst ho; subst hs; exact h.1
  | o :: l, s :: ss, k, h, i + 1, o', s', ho, hs => by
    have := Obl.at_ l ss (k + 1) h.2 i o' s' (by simpa using ho) (by simpa using hs)
    simpa [Nat.add_assoc, Nat.add_comm 1 i] using this
  | [], _, _, _, _, _, _, ho, _ => by simp at ho
  | _ :: _, [], _, _, _, _, _, _, hs => by simp at hs

theorem mem_puresOf {l : List Spec} {i : Nat} (h : i ∈ puresOf l) : ∃ s v, l[i]? = some s ∧ s.pureVal = some v := by
  unfold puresOf at h
  rw [List.mem_filter] at h
  obtain ⟨_, h2⟩ := h
  cases hs : l[i]? with
  | none => simp [hs] at h2
  | some s =>
    rw [hs] at h2
    simp only [Option.map_some, Option.getD_some] at h2
    obtain ⟨v, hv⟩ := Option.isSome_iff_exists.1 h2
    exact ⟨s, v, rfl, hv⟩
theorem not_mem_puresOf {l : List Spec} {i : Nat} (hi : i < l.length) (h : i ∉ puresOf l) : ∀ s, l[i]? = some s → s.pureVal = none := by
  intro s hs
  cases hv : s.pureVal with
  | none => rfl
  | some v =>
    refine (h ?_).elim
    unfold puresOf
    rw [List.mem_filter, hs]
    refine ⟨List.mem_range.2 hi, ?_⟩
    simp [hv]

theorem wp_region_specs {P : Program} {ops : Array Oper} {Q : Exit → Act → World → Prop} {rid : Nat} {a : Act} {w : World} (hm : P.follows .mixedOrders = true) (specs : List Spec) (n : Nat) (hn : specs.length = n) (ds news pures : List Nat) (hnews : newsOf specs = news)
    (hpures : puresOf specs = pures) (hpn : ∀ i ∈ news, i ∉ pures) (hck : preCheck ops n ds pures = true)
    (hQ : ∀ (s : Nat) v c a w, Q (.panic c) (a.put (some s) v) w → Q (.panic c) a w)
    (F : (Nat → Value) → Array Value) (hF : ∀ x, over a.tmps ds x = F x)
    (hops : Obl P ops Q w.drew F a.defers ds news n specs 0 ops.toList specs)
    (hend : ∀ x w1, Held ops n ds news (RS w.drew.heap.size specs) w.drew (fun _ => True) x w1 → wpList P ops Q (ops.toList.drop n) ⟨F x, a.defers⟩ w1) :
    (Code.region rid ops true).wp P Q a w := by
  subst hn; subst hnews; subst hpures
  refine wp_region_free hm specs.length ds (newsOf specs) (puresOf specs) (RS w.drew.heap.size specs) hck hQ ?_ ?_ ?_ ?_
  · intro i v w1 w2 h hb
    unfold RS at *
    split
    · rename_i s hs; rw [hs] at h; exact s.stays _ v w1 w2 h hb
    · trivial
  · intro i hip
    obtain ⟨s, v, hs, hv⟩ := mem_puresOf hip
    refine ⟨fun hm => hpn i hm hip, fun o ho x w1 hH => ?_⟩
    have := hops.at_ _ _ _ i o _ (by simpa using ho) hs
    rw [Nat.zero_add] at this
    unfold Obl1 at this
    rw [hv] at this
    refine ⟨v, ?_, ?_⟩
    · rw [hF]; exact this x w1 hH
    · unfold RS; rw [hs]; exact s.pureOk v hv _ _
  · intro i hi hip o ho x w1 hH K hK
    have hs : specs[i]? = some specs[i] := List.getElem?_eq_getElem hi
    have hnp := not_mem_puresOf hi hip _ hs
    have key := hops.at_ _ _ _ i o specs[i] (by simpa using ho) hs
    rw [Nat.zero_add] at key
    unfold Obl1 at key
    rw [hnp] at key
    have key2 := key x w1 hH
    rw [hF]
    refine key2 K ?_
    rintro a' w' ⟨v, rfl, hR, hB, hN⟩
    refine hK _ _ ⟨v, ?_, ?_, hB, fun hmem => hN ?_⟩
    · rw [← hF]; unfold dstOf; rw [ho]; rfl
    · unfold RS; rw [hs]; exact hR
    · unfold newsOf at hmem
      rw [List.mem_filter, hs] at hmem
      simpa using hmem.2
  · intro x w1 hH
    rw [hF]
    exact hend x w1 hH
theorem left_new {B b : Nat} {o : Obj} {fr : Array Value} {df : List Deferred} {d : Option Nat} {w : World} {a' : Act} (he : (⟨fr, df⟩ : Act).put d (.pointer (some ⟨b, 0, none⟩)) = a') (hb : b = w.heap.size) (hB : B ≤ w.heap.size) :
    LeftS B (.new o) fr df d w a' (w.alloc o) := by
  subst hb
  have hs : (w.alloc o).heap.size = w.heap.size + 1 := by simp
  refine ⟨_, he, ⟨_, rfl, hB, by omega, ?_⟩, (Below.refl _ _).alloc (Nat.le_refl _) _, fun _ b' e => by
    have e' : w.heap.size = b' := by simpa [blk] using e
    subst e'
    exact ⟨Nat.le_refl _, by omega⟩⟩
  show (w.heap.push o)[w.heap.size]? = some o
  simp
end Go.Proofs.YtfmphfidloobkaaGreatDoor.Dv
namespace Go.Proofs.YtfmphfidloobkaaGreatDoor
set_option maxRecDepth 100000
open Go.RowKit Go.Shelf

theorem one_flat {xs : List (Array Value)} (h : ∀ x ∈ xs, allOne x = true) : ∀ u ∈ flatA xs, u.oneCell' = true := by
  intro u hu
  unfold flatA at hu
  rw [List.mem_flatten] at hu
  obtain ⟨y, hy, hux⟩ := hu
  obtain ⟨x, hx, rfl⟩ := List.mem_map.1 hy
  have := h x hx
  unfold allOne at this
  rw [Array.all_eq_true_iff_forall_mem] at this
  exact this u (by simpa using hux)
theorem one_prefP (p : K25 × Int) : allOne (prefP p) = true := by
  unfold allOne
  rw [Array.all_eq_true_iff_forall_mem]
  intro v hv
  unfold prefP prefA at hv
  simp [row8] at hv
  rcases hv with ⟨b, _, rfl⟩ | rfl <;> rfl
theorem prefP_size (p : K25 × Int) : (prefP p).size = 26 := by unfold prefP; simp
theorem row_prefC : RowType Tryz.prog 94 102 26 40 := ⟨Tryz.underlying94, by kernel_rfl, by decide, by decide⟩
theorem clonePrefs_calls {w : World} {B : Nat} {pv : Value} {P : MP} (h : OwnA w B 26 102 pv (P.map prefP)) (hn : P.length ≤ 1000000) :
    Calls Tryz.prog 83 #[pv] w fun e w' => ∃ v', e = .returned v' ∧ OwnA w' w.heap.size 26 102 v' (P.map prefP) ∧ Below w.heap.size w w' := by
  obtain ⟨hs, hl, hc⟩ := h
  obtain ⟨-, hi, -, -⟩ := row_prefC
  obtain ⟨i, hq⟩ : ∃ i, Tryz.prog.info? 102 = some i := by
    cases hq : Tryz.prog.info? 102 with
    | none => rw [hq] at hi; cases hi
    | some i => exact ⟨i, rfl⟩
  simp only [hq, Option.map_some, Option.some.injEq, Prod.mk.injEq, Option.map_eq_some_iff] at hi
  obtain ⟨hi1, hi2, z, hz0, hz2⟩ := hi
  rcases hc with ⟨rfl, hz⟩ | ⟨g, cap, cur, rfl, _, hh, _, _, hcs, ht⟩
  · refine (AnyE.slices_Clone_nil Tryz.cloneP 0 0 w).mono ?_
    rintro e w' ⟨rfl, rfl⟩
    have hP : P.map prefP = [] := List.length_eq_zero_iff.1 hz
    refine ⟨_, rfl, ?_, Below.refl _ _⟩
    rw [hP]
    exact OwnA.nil _ _ _ _
  · refine (AnyE.slices_Clone Tryz.cloneP i z 26 40 hq hz0 hi1 hi2 hz2 (by decide) (fun w => Tryz.sizeOf102 w) g 0 _ cap (flatA (P.map prefP)) w hl ?_ ?_ ?_ (one_flat (by intro x hx; obtain ⟨p, _, rfl⟩ := List.mem_map.1 hx; exact one_prefP p))).mono ?_
    · unfold maxLen; simp; omega
    · simp; omega
    · intro j u hu
      rw [Nat.zero_add, (cells_is hh j).1, ← Array.getElem?_toList]
      rw [← ht, List.getElem?_take] at hu
      split at hu
      · exact hu
      · cases hu
    · rintro e w' ⟨v', rfl, ho, _, hb⟩
      exact ⟨v', rfl, ⟨hs, ho⟩, hb⟩
/-- a map's copy: none of none, a new block of a block -/
def CloneO {β : Type} (evb : β → Value) (w : World) (o' : Option Nat) (L : List (K25 × β)) (w' : World) : Prop :=
  MapO evb w' o' L ∧ Below w.heap.size w w' ∧ (∀ m, o' = some m → w.heap.size ≤ m ∧ m < w'.heap.size)
theorem CloneO.none {β : Type} {evb : β → Value} {w : World} : CloneO evb w none [] w := ⟨.inl ⟨rfl, rfl⟩, Below.refl _ _, fun m h => by cases h⟩
theorem CloneO.some {β : Type} {evb : β → Value} {w : World} {b : Nat} {es : Array MapEntry} {c : Nat} {L : List (K25 × β)} (_hb : w.heap[b]? = some (.map es c)) (h2 : MapKept.Stamped es c)
    (h3 : es.toList.map (fun e => (e.key, e.val)) = L.map (fun p => (ekB p.1, evb p.2))) : CloneO evb w (some w.heap.size) L (w.alloc (.map es c)) :=
  ⟨.inr ⟨_, rfl, ⟨es, c, (heap_al _ _ _).trans (if_pos rfl), h2, h3, fun _ _ => trivial⟩⟩, (Below.refl _ _).alloc (Nat.le_refl _) _, fun m h => by cases h; simp⟩
theorem cloneWr_calls {w : World} {o : Option Nat} {L : MW} (h : MapO evWr w o L) :
    Calls Tryz.prog 81 #[.map o] w fun e w' => ∃ o', e = .returned (.map o') ∧ CloneO evWr w o' L w' := by
  rcases h with ⟨rfl, rfl⟩ | ⟨m, rfl, es, c, hb, h2, h3, _⟩
  · refine (AnyW.maps_Clone_nil Tryz.cloneWr w).mono ?_
    rintro e w' ⟨rfl, rfl⟩
    exact ⟨_, rfl, CloneO.none⟩
  · refine (AnyW.maps_Clone Tryz.cloneWr m es c w hb).mono ?_
    rintro e w' ⟨rfl, rfl⟩
    exact ⟨_, rfl, CloneO.some hb h2 h3⟩
theorem cloneG_calls {w : World} {o : Option Nat} {L : MG} (h : MapO evB w o L) :
    Calls Tryz.prog 82 #[.map o] w fun e w' => ∃ o', e = .returned (.map o') ∧ CloneO evB w o' L w' := by
  rcases h with ⟨rfl, rfl⟩ | ⟨m, rfl, es, c, hb, h2, h3, _⟩
  · refine (AnyW.maps_Clone_nil Tryz.cloneG w).mono ?_
    rintro e w' ⟨rfl, rfl⟩
    exact ⟨_, rfl, CloneO.none⟩
  · refine (AnyW.maps_Clone Tryz.cloneG m es c w hb).mono ?_
    rintro e w' ⟨rfl, rfl⟩
    exact ⟨_, rfl, CloneO.some hb h2 h3⟩
end Go.Proofs.YtfmphfidloobkaaGreatDoor
namespace Go.Proofs.YtfmphfidloobkaaGreatDoor.Dv
set_option maxRecDepth 100000
open Go.RowKit

theorem own_from {w : World} {B B' sz : Nat} {e : TypeId} {v : Value} {xs : List (Array Value)} (h : OwnA w B sz e v xs) (hB : B' ≤ B) : OwnA w B' sz e v xs := by
  obtain ⟨h1, h2, h3⟩ := h
  refine ⟨h1, h2, ?_⟩
  rcases h3 with h3 | ⟨g, c, cur, e1, e2, r⟩
  · exact .inl h3
  · exact .inr ⟨g, c, cur, e1, Nat.le_trans hB e2, r⟩
theorem own_blk {w : World} {B sz : Nat} {e : TypeId} {v : Value} {xs : List (Array Value)} (h : OwnA w B sz e v xs) (b : Nat) (hb : blk v = some b) : v.ownBlock = some b := by
  obtain ⟨_, _, h3⟩ := h
  rcases h3 with ⟨rfl, _⟩ | ⟨g, c, cur, rfl, _⟩
  · cases hb
  · exact hb
def CopyO {β : Type} (evb : β → Value) (B : Nat) (L : List (K25 × β)) (v : Value) (w : World) : Prop := ∃ o, v = .map o ∧ MapO evb w o L ∧ ∀ m, o = some m → B ≤ m ∧ m < w.heap.size
theorem CopyO.keep {β : Type} {evb : β → Value} {B : Nat} {L : List (K25 × β)} {v : Value} {w w' : World} (h : CopyO evb B L v w) (hb : Below w.heap.size w w') : CopyO evb B L v w' := by
  obtain ⟨o, rfl, hm, hl⟩ := h
  exact ⟨o, rfl, hm.keep fun m e => hb.block m (hl m e).2, fun m e => ⟨(hl m e).1, Nat.lt_of_lt_of_le (hl m e).2 hb.size⟩⟩
def bldB3 (t : TypeId) (p q r : Nat × Value) : Sem Value := Instr.build t #[p, q, r]
@[go_sem ↓ high] theorem bBuf_eq (f : Nat × Operand → Nat × Value) (p q r' : Nat × Operand) : Instr.build 96 (Array.map f #[p, q, r']) = bldB3 96 (f p) (f q) (f r') := by simp [bldB3]
@[go_sem] theorem bBuf_run (o1 o2 : Option Nat) (a : Option Addr) (n c : Nat) (w : World) : (bldB3 96 (0, .map o1) (1, .map o2) (2, .slice a n c)).run Tryz.prog w = .ok (.agg #[.map o1, .map o2, .slice a n c]) w := by
  unfold bldB3
  kernel_rfl
set_option maxHeartbeats 20000000 in
theorem copy_calls {w : World} {B b : Nat} {g : BG} (h : BufAt w B b g) (hn : g.P.length ≤ 1000000) :
    Calls Tryz.prog 38 #[.pointer (some ⟨b, 0, none⟩)] w fun e w' => ∃ (b' : Nat) (g' : BG), e = .returned (.pointer (some ⟨b', 0, none⟩)) ∧ Below w.heap.size w w' ∧ BufAt w' w.heap.size b' g' ∧ g'.W = g.W ∧ g'.G = g.G ∧ g'.P = g.P := by
  have hbl : b < w.heap.size := h.lt b (by simp [BG.blocks])
  have c0 : w.cell? ⟨b, 0, none⟩ = some (.map g.m1) := (cells_is h.cells 0).1
  have c1 : w.cell? ⟨b, 1, none⟩ = some (.map g.m2) := (cells_is h.cells 1).1
  have c2 : w.cell? ⟨b, 2, none⟩ = some g.pv := (cells_is h.cells 2).1
  have H := Lib.hid h
  clear h
  go_enter Tryz.func38, Tryz.ntmps38
  go_upto_region 3 with fail
  apply wp_region_specs (by rfl) [.val _, .val _, .val _, .val _, .fresh (CopyO evWr w.heap.size g.W), .val _, .val _, .val _, .val _, .fresh (CopyO evB w.heap.size g.G), .val _, .val _, .val _, .val _, .fresh (fun v W => (OwnA W w.heap.size 26 102 v (g.P.map prefP)))] 15 (by rfl) [5, 6, 7, 8, 9, 10, 11, 12, 13, 14, 15, 16, 17, 18, 19] [4, 9, 14] [] (by rfl) (by rfl) (by decide) (by decide +kernel) (fun _ _ _ _ _ h => h)
  case hF => intro x; simp only [over, List.foldl_cons, List.foldl_nil, List.setIfInBounds_toArray, List.set_cons_succ, List.set_cons_zero]; exact rfl
  case hops =>
    refine ⟨?o0, ?o1, ?o2, ?o3, ?o4, ?o5, ?o6, ?o7, ?o8, ?o9, ?o10, ?o11, ?o12, ?o13, ?o14, trivial⟩
    case o0 =>
      intro x w1 hH K hK
      obtain ⟨xs, d, rfl⟩ := grow_of_below hH.below
      clear hH
      try simp only [World.grow_drew] at hK ⊢
      try simp only [World.grow_grow] at hK ⊢
      go_simp
      go_wp2_with fail
      exact ⟨_, rfl, rfl, (by first | exact Below.refl _ _ | exact below_same _ _ _ | exact below_more _ _ _ _ | exact below_of_grow _ _), fun h => by cases h⟩
    case o1 =>
      intro x w1 hH K hK
      have e5 : x 5 = _ := hH.holds 0 (by decide) (by decide +kernel) 5 rfl
      obtain ⟨xs, d, rfl⟩ := grow_of_below hH.below
      clear hH
      try simp only [World.grow_drew] at hK ⊢
      try simp only [World.grow_grow] at hK ⊢
      simp only [e5] at hK ⊢
      clear e5
      go_simp
      go_wp2_with fail
      exact ⟨_, rfl, rfl, (by first | exact Below.refl _ _ | exact below_same _ _ _ | exact below_more _ _ _ _ | exact below_of_grow _ _), fun h => by cases h⟩
    case o2 =>
      intro x w1 hH K hK
      have e6 : x 6 = _ := hH.holds 1 (by decide) (by decide +kernel) 6 rfl
      obtain ⟨xs, d, rfl⟩ := grow_of_below hH.below
      clear hH
      try simp only [World.grow_drew] at hK ⊢
      try simp only [World.grow_grow] at hK ⊢
      simp only [e6] at hK ⊢
      clear e6
      go_simp
      go_wp2_with fail
      exact ⟨_, rfl, rfl, (by first | exact Below.refl _ _ | exact below_same _ _ _ | exact below_more _ _ _ _ | exact below_of_grow _ _), fun h => by cases h⟩
    case o3 =>
      intro x w1 hH K hK
      have e7 : x 7 = _ := hH.holds 2 (by decide) (by decide +kernel) 7 rfl
      obtain ⟨xs, d, rfl⟩ := grow_of_below hH.below
      clear hH
      try simp only [World.grow_drew] at hK ⊢
      try simp only [World.grow_grow] at hK ⊢
      simp only [e7] at hK ⊢
      clear e7
      go_simp
      go_wp2_with fail
      exact ⟨_, rfl, rfl, (by first | exact Below.refl _ _ | exact below_same _ _ _ | exact below_more _ _ _ _ | exact below_of_grow _ _), fun h => by cases h⟩
    case o4 =>
      intro x w1 hH K hK
      have e8 : x 8 = _ := hH.holds 3 (by decide) (by decide +kernel) 8 rfl
      obtain ⟨xs, d, rfl⟩ := grow_of_below hH.below
      clear hH
      try simp only [World.grow_drew] at hK ⊢
      try simp only [World.grow_grow] at hK ⊢
      simp only [e8] at hK ⊢
      clear e8
      go_simp
      go_wp2_with fail
      refine (cloneWr_calls (H.out.w1.keep fun m e => World.grow_heap _ _ _ (H.out.w1.lt m (by simp [e])))).mono ?_
      rintro e1 w2 ⟨o2, rfl, hm2, hb2, hl2⟩
      refine hK _ _ ⟨_, rfl, ?_, hb2, ?_⟩
      · exact fun w3 h3 => CopyO.keep ⟨_, rfl, hm2, fun m e => ⟨Nat.le_trans (by simp) (hl2 m e).1, (hl2 m e).2⟩⟩ h3
      · exact fun _ b2 e => hl2 b2 (by simpa [blk] using e)
    case o5 =>
      intro x w1 hH K hK
      obtain ⟨xs, d, rfl⟩ := grow_of_below hH.below
      clear hH
      try simp only [World.grow_drew] at hK ⊢
      try simp only [World.grow_grow] at hK ⊢
      go_simp
      go_wp2_with fail
      exact ⟨_, rfl, rfl, (by first | exact Below.refl _ _ | exact below_same _ _ _ | exact below_more _ _ _ _ | exact below_of_grow _ _), fun h => by cases h⟩
    case o6 =>
      intro x w1 hH K hK
      have e10 : x 10 = _ := hH.holds 5 (by decide) (by decide +kernel) 10 rfl
      obtain ⟨xs, d, rfl⟩ := grow_of_below hH.below
      clear hH
      try simp only [World.grow_drew] at hK ⊢
      try simp only [World.grow_grow] at hK ⊢
      simp only [e10] at hK ⊢
      clear e10
      go_simp
      go_wp2_with fail
      exact ⟨_, rfl, rfl, (by first | exact Below.refl _ _ | exact below_same _ _ _ | exact below_more _ _ _ _ | exact below_of_grow _ _), fun h => by cases h⟩
    case o7 =>
      intro x w1 hH K hK
      have e11 : x 11 = _ := hH.holds 6 (by decide) (by decide +kernel) 11 rfl
      obtain ⟨xs, d, rfl⟩ := grow_of_below hH.below
      clear hH
      try simp only [World.grow_drew] at hK ⊢
      try simp only [World.grow_grow] at hK ⊢
      simp only [e11] at hK ⊢
      clear e11
      go_simp
      go_wp2_with fail
      exact ⟨_, rfl, rfl, (by first | exact Below.refl _ _ | exact below_same _ _ _ | exact below_more _ _ _ _ | exact below_of_grow _ _), fun h => by cases h⟩
    case o8 =>
      intro x w1 hH K hK
      have e12 : x 12 = _ := hH.holds 7 (by decide) (by decide +kernel) 12 rfl
      obtain ⟨xs, d, rfl⟩ := grow_of_below hH.below
      clear hH
      try simp only [World.grow_drew] at hK ⊢
      try simp only [World.grow_grow] at hK ⊢
      simp only [e12] at hK ⊢
      clear e12
      go_simp
      go_wp2_with fail
      exact ⟨_, rfl, rfl, (by first | exact Below.refl _ _ | exact below_same _ _ _ | exact below_more _ _ _ _ | exact below_of_grow _ _), fun h => by cases h⟩
    case o9 =>
      intro x w1 hH K hK
      have e13 : x 13 = _ := hH.holds 8 (by decide) (by decide +kernel) 13 rfl
      obtain ⟨xs, d, rfl⟩ := grow_of_below hH.below
      clear hH
      try simp only [World.grow_drew] at hK ⊢
      try simp only [World.grow_grow] at hK ⊢
      simp only [e13] at hK ⊢
      clear e13
      go_simp
      go_wp2_with fail
      refine (cloneG_calls (H.out.w2.keep fun m e => World.grow_heap _ _ _ (H.out.w2.lt m (by simp [e])))).mono ?_
      rintro e1 w2 ⟨o2, rfl, hm2, hb2, hl2⟩
      refine hK _ _ ⟨_, rfl, ?_, hb2, ?_⟩
      · exact fun w3 h3 => CopyO.keep ⟨_, rfl, hm2, fun m e => ⟨Nat.le_trans (by simp) (hl2 m e).1, (hl2 m e).2⟩⟩ h3
      · exact fun _ b2 e => hl2 b2 (by simpa [blk] using e)
    case o10 =>
      intro x w1 hH K hK
      obtain ⟨xs, d, rfl⟩ := grow_of_below hH.below
      clear hH
      try simp only [World.grow_drew] at hK ⊢
      try simp only [World.grow_grow] at hK ⊢
      go_simp
      go_wp2_with fail
      exact ⟨_, rfl, rfl, (by first | exact Below.refl _ _ | exact below_same _ _ _ | exact below_more _ _ _ _ | exact below_of_grow _ _), fun h => by cases h⟩
    case o11 =>
      intro x w1 hH K hK
      have e15 : x 15 = _ := hH.holds 10 (by decide) (by decide +kernel) 15 rfl
      obtain ⟨xs, d, rfl⟩ := grow_of_below hH.below
      clear hH
      try simp only [World.grow_drew] at hK ⊢
      try simp only [World.grow_grow] at hK ⊢
      simp only [e15] at hK ⊢
      clear e15
      go_simp
      go_wp2_with fail
      exact ⟨_, rfl, rfl, (by first | exact Below.refl _ _ | exact below_same _ _ _ | exact below_more _ _ _ _ | exact below_of_grow _ _), fun h => by cases h⟩
    case o12 =>
      intro x w1 hH K hK
      have e16 : x 16 = _ := hH.holds 11 (by decide) (by decide +kernel) 16 rfl
      obtain ⟨xs, d, rfl⟩ := grow_of_below hH.below
      clear hH
      try simp only [World.grow_drew] at hK ⊢
      try simp only [World.grow_grow] at hK ⊢
      simp only [e16] at hK ⊢
      clear e16
      go_simp
      go_wp2_with fail
      exact ⟨_, rfl, rfl, (by first | exact Below.refl _ _ | exact below_same _ _ _ | exact below_more _ _ _ _ | exact below_of_grow _ _), fun h => by cases h⟩
    case o13 =>
      intro x w1 hH K hK
      have e17 : x 17 = _ := hH.holds 12 (by decide) (by decide +kernel) 17 rfl
      obtain ⟨xs, d, rfl⟩ := grow_of_below hH.below
      clear hH
      try simp only [World.grow_drew] at hK ⊢
      try simp only [World.grow_grow] at hK ⊢
      simp only [e17] at hK ⊢
      clear e17
      go_simp
      go_wp2_with fail
      exact ⟨_, rfl, rfl, (by first | exact Below.refl _ _ | exact below_same _ _ _ | exact below_more _ _ _ _ | exact below_of_grow _ _), fun h => by cases h⟩
    case o14 =>
      intro x w1 hH K hK
      have e18 : x 18 = _ := hH.holds 13 (by decide) (by decide +kernel) 18 rfl
      obtain ⟨xs, d, rfl⟩ := grow_of_below hH.below
      clear hH
      try simp only [World.grow_drew] at hK ⊢
      try simp only [World.grow_grow] at hK ⊢
      simp only [e18] at hK ⊢
      clear e18
      go_simp
      go_wp2_with fail
      refine (clonePrefs_calls (H.out.own.grow _ _) hn).mono ?_
      rintro e1 w2 ⟨v2, rfl, ho2, hb2⟩
      have ho3 := own_from (B' := w.heap.size) ho2 (by simp)
      refine hK _ _ ⟨_, rfl, ?_, hb2, ?_⟩
      · exact fun w3 h3 => ho3.below h3
      · exact fun _ b2 e => ho2.lt b2 (own_blk ho2 b2 e)
  case hend =>
    intro x w1 hH
    have e5 : x 5 = _ := hH.holds 0 (by decide) trivial 5 rfl
    have e6 : x 6 = _ := hH.holds 1 (by decide) trivial 6 rfl
    have e7 : x 7 = _ := hH.holds 2 (by decide) trivial 7 rfl
    have e8 : x 8 = _ := hH.holds 3 (by decide) trivial 8 rfl
    have r9 := hH.holds 4 (by decide) trivial 9 rfl (_) (Below.refl _ _)
    have e10 : x 10 = _ := hH.holds 5 (by decide) trivial 10 rfl
    have e11 : x 11 = _ := hH.holds 6 (by decide) trivial 11 rfl
    have e12 : x 12 = _ := hH.holds 7 (by decide) trivial 12 rfl
    have e13 : x 13 = _ := hH.holds 8 (by decide) trivial 13 rfl
    have r14 := hH.holds 9 (by decide) trivial 14 rfl (_) (Below.refl _ _)
    have e15 : x 15 = _ := hH.holds 10 (by decide) trivial 15 rfl
    have e16 : x 16 = _ := hH.holds 11 (by decide) trivial 16 rfl
    have e17 : x 17 = _ := hH.holds 12 (by decide) trivial 17 rfl
    have e18 : x 18 = _ := hH.holds 13 (by decide) trivial 18 rfl
    have r19 := hH.holds 14 (by decide) trivial 19 rfl (_) (Below.refl _ _)
    have p9_14 := hH.apart 4 (by decide) 9 (by decide) (by decide) (by decide) trivial trivial (by decide) 9 14 rfl rfl
    have p9_19 := hH.apart 4 (by decide) 14 (by decide) (by decide) (by decide) trivial trivial (by decide) 9 19 rfl rfl
    have p14_19 := hH.apart 9 (by decide) 14 (by decide) (by decide) (by decide) trivial trivial (by decide) 14 19 rfl rfl
    obtain ⟨xs, d, rfl⟩ := grow_of_below hH.below
    clear hH
    simp only [e5, e6, e7, e8, e10, e11, e12, e13, e15, e16, e17, e18]; clear e5 e6 e7 e8 e10 e11 e12 e13 e15 e16 e17 e18
    simp only [List.drop_succ_cons, List.drop_zero]
    obtain ⟨o1, h9, m1, l1⟩ := r9
    obtain ⟨o2, h14, m2, l2⟩ := r14
    obtain ⟨a3, c3, h19, _, _⟩ := r19.form
    simp only [h9, h14, h19] at p9_14 p9_19 p14_19 r19 ⊢
    have HP := Lib.hid (And.intro p9_14 (And.intro p9_19 (And.intro p14_19 (And.intro m1 (And.intro l1 (And.intro m2 (And.intro l2 r19)))))))
    clear p9_14 p9_19 p14_19 m1 l1 m2 l2 r19 h9 h14 h19
    go_wp2_with fail
    obtain ⟨q1, q2, q3, n1, k1, n2, k2, ho⟩ := HP.out
    have hL : (g.P.map prefP).length = g.P.length := List.length_map _
    rw [hL] at q2 q3 ho
    have ho2 : ∀ y, (Value.slice a3 g.P.length c3).ownBlock = some y → blk (Value.slice a3 g.P.length c3) = some y := by
      intro y hy; cases a3 with
      | none => cases hy
      | some a => exact hy
    have hsz : (w.grow xs d).heap.size = w.heap.size + xs.size := by simp
    go_ret
    refine ⟨w.heap.size + xs.size, ⟨o1, o2, .slice a3 g.P.length c3, g.W, g.G, g.P⟩, rfl, (by repeat (first | exact below_of_grow _ _ | exact Below.refl _ _ | exact below_more _ _ _ _ | (simp only [← Array.append_assoc]; first | exact below_more _ _ _ _ | exact below_same _ _ _ | exact Below.refl _ _) | exact below_same _ _ _ | (refine Below.alloc ?_ (by first | (simp; done) | (simp; omega)) _) | (refine Below.grow ?_ (by first | (simp; done) | (simp; omega)) _ _) | refine Below.drew ?_ | refine Below.drewN ?_ _ | (refine Below.putF ?_ (by first | (simp; done) | omega | (simp; omega)) _) | (refine Below.setCell ?_ (by first | (simp; done) | (simp; omega)) _))), ⟨?_, ?_, ?_, ?_, ?_, ?_, H.out.keys⟩, rfl, rfl, rfl⟩
    · exact (heap_al _ _ _).trans (if_pos (by simp))
    · exact MapO.keep (w := w.grow xs d) n1 fun m e => heap_alloc_old (w := w.grow xs d) _ (k1 m e).2
    · exact MapO.keep (w := w.grow xs d) n2 fun m e => heap_alloc_old (w := w.grow xs d) _ (k2 m e).2
    · exact OwnA.alloc (w := w.grow xs d) ho _
    · have u1 : ∀ m, o1 = some m → m < w.heap.size + xs.size := fun m e => by rw [← hsz]; exact (k1 m e).2
      have u2 : ∀ m, o2 = some m → m < w.heap.size + xs.size := fun m e => by rw [← hsz]; exact (k2 m e).2
      have u3 : ∀ m, (Value.slice a3 g.P.length c3).ownBlock = some m → m < w.heap.size + xs.size := fun m e => by rw [← hsz]; exact (ho.lt m e).2
      simp only [BG.blocks, List.nodup_cons, List.mem_append, Option.mem_toList, List.nodup_append]
      refine ⟨fun h => ?_, ?_, ⟨?_, ?_, ?_⟩, ?_⟩
      · rcases h with h | h | h
        · have := u1 _ h; omega
        · have := u2 _ h; omega
        · have := u3 _ h; omega
      · cases o1 <;> simp
      · cases o2 <;> simp
      · cases (Value.slice a3 g.P.length c3).ownBlock <;> simp
      · intro x hx y hy e; subst e; exact q3 x hx (ho2 x hy)
      · intro x hx y hy e; subst e
        rcases hy with hy | hy
        · exact q1 x hx hy
        · exact q2 x hx (ho2 x hy)
    · intro x hx
      simp only [BG.blocks, List.mem_cons, List.mem_append, Option.mem_toList] at hx
      rcases hx with rfl | hx | hx | hx
      · omega
      · exact (k1 x hx).1
      · exact (k2 x hx).1
      · exact (ho.lt x hx).1
end Go.Proofs.YtfmphfidloobkaaGreatDoor.Dv

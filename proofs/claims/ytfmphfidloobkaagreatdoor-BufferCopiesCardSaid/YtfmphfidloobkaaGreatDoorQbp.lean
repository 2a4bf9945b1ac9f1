/- Layer 17: writes are put into a buffer. -/
import Derived.Test.YtfmphfidloobkaaGreatDoorQbo
import Derived.BigRegion
import Derived.Deep.CutBlock
import Derived.Deep.Cut
import Derived.Handy
import Derived.Test.YtfmphfidloobkaaGreatDoorQaq
import Derived.Test.YtfmphfidloobkaaGreatDoorQao
import Derived.Test.YtfmphfidloobkaaGreatDoorQad
namespace Go.Proofs.YtfmphfidloobkaaGreatDoor
set_option maxRecDepth 100000
open Go.RowKit

def addN (i : Int) (r : MW × Int × Int) : MW × Int × Int := (r.1, r.2.1 + i, r.2.2)
/-- a slice's block is none of the buffer's -/
def OutB (b : Nat) (g : BG) (lv : Value) : Prop := ∀ q o n c, lv = .slice (some ⟨q, o, none⟩) n c → 0 < n → q ∉ g.blocks b
@[go_sem ↓ high] theorem run_makeMap_by (w : World) : (Instr.makeMap 92 none).run Tryz.prog w = .ok (.map (some w.heap.size)) (w.alloc (.map #[] 0)) := by kernel_rfl
section
variable {w : World} {B b : Nat} {g : BG}
/-- the map is made -/
theorem BufAt.made1 (h : BufAt w B b g) (hn : g.m1 = none) : BufAt ((w.alloc (.map #[] 0)).setCell ⟨b, 0, none⟩ (.map (some w.heap.size))) B b { g with m1 := some w.heap.size } ∧
    BEvo b w g ((w.alloc (.map #[] 0)).setCell ⟨b, 0, none⟩ (.map (some w.heap.size))) { g with m1 := some w.heap.size } := by
  have hbl : b < w.heap.size := h.lt b (by simp [BG.blocks])
  obtain ⟨w1, hw1⟩ : ∃ w1, w1 = w.alloc (.map #[] 0) := ⟨_, rfl⟩
  have hb1 : Below w.heap.size w w1 := by rw [hw1]; exact (Below.refl _ _).alloc (Nat.le_refl _) _
  have hM : MapIs ekB evWr (fun _ => True) w1 w.heap.size ([] : MW) := by rw [hw1]; exact MapIs.made w
  have hs : ∀ x, x ≠ b → (w1.setCell ⟨b, 0, none⟩ (.map (some w.heap.size))).heap[x]? = w1.heap[x]? := fun x hx => Below.heap_setCell w1 ⟨b, 0, none⟩ _ x (by simpa using hx)
  have h0 : g.W = [] := by
    rcases h.w1 with ⟨_, e⟩ | ⟨m, e, _⟩
    · exact e
    · rw [hn] at e; cases e
  have hnd := h.nodup
  have hfr : w.heap.size ∉ g.blocks b := fun hm => Nat.lt_irrefl _ (h.lt _ hm)
  rw [← hw1]
  refine ⟨⟨?_, ?_, ?_, ?_, ?_, ?_, h.keys⟩, ?_⟩
  · have := set_cells ((hb1.block b hbl).trans h.cells) 0 (.map (some w.heap.size))
    exact this
  · refine .inr ⟨_, rfl, ?_⟩
    rw [h0]
    exact hM.keep (hs _ (by omega))
  · refine h.w2.keep fun m e => (hs m ?_).trans (hb1.block m ?_)
    · intro e2; subst e2
      simp [BG.blocks, e] at hnd
    · exact h.w2.lt m (by simp [e])
  · refine h.own.keep fun x e hx => (hs x ?_).trans (hb1.block x hx)
    intro e2; subst e2
    simp [BG.blocks, e] at hnd
  · have e : g.blocks b = b :: (g.m2.toList ++ g.pv.ownBlock.toList) := by simp [BG.blocks, hn]
    rw [e] at hnd hfr
    simp only [List.mem_cons, not_or] at hfr
    simp only [BG.blocks, Option.toList_some, List.singleton_append, List.nodup_cons, List.mem_cons, not_or] at hnd ⊢
    exact ⟨⟨fun h => hfr.1 h.symm, hnd.1⟩, hfr.2, hnd.2⟩
  · intro x hx
    simp only [BG.blocks, Option.toList_some, List.singleton_append, List.mem_cons] at hx
    rcases hx with rfl | rfl | hx
    · exact h.low _ (by simp [BG.blocks])
    · exact h.size
    · exact h.low x (by simp only [BG.blocks, List.mem_cons, List.mem_append]; exact .inr (.inr (by simpa using hx)))
  · refine ⟨⟨?_, ?_, ?_, ?_, fun x hx hn2 => ?_⟩, fun x hx => ?_⟩
    · exact hb1.os
    · exact hb1.tape
    · exact hb1.output
    · have := hb1.size; simpa using this
    · refine (hs x (fun e => hn2 (by rw [e]; simp [BG.blocks]))).trans (hb1.block x hx)
    · simp only [BG.blocks, Option.toList_some, List.singleton_append, List.mem_cons] at hx
      rcases hx with rfl | rfl | hx
      · exact .inl (by simp [BG.blocks])
      · exact .inr (Nat.le_refl _)
      · exact .inl (by simp only [BG.blocks, List.mem_cons, List.mem_append]; exact .inr (.inr (by simpa using hx)))
/-- a write is put into the map -/
theorem BufAt.put1 (h : BufAt w B b g) {m : Nat} (hm : g.m1 = some m) (x : Wr) {w' : World} (h1 : MapIs ekB evWr (fun _ => True) w' m (put g.W x.k x)) (ho : Only m w w') :
    BufAt w' B b { g with W := put g.W x.k x } ∧ BEvo b w g w' { g with W := put g.W x.k x } := by
  have hnd := h.nodup
  have hne : ∀ y ∈ g.blocks b, y ≠ m → w'.heap[y]? = w.heap[y]? := fun y _ hy => ho.block y hy
  have hmb : b ≠ m := by intro e; subst e; simp [BG.blocks, hm] at hnd
  refine ⟨⟨(ho.block b hmb).trans h.cells, .inr ⟨m, hm, h1⟩, h.w2.keep fun y e => ho.block y ?_, h.own.keep fun y e _ => ho.block y ?_, hnd, h.low, h.keys.put x⟩, ⟨⟨ho.os, ho.tape, ho.output, by rw [ho.size]; exact Nat.le_refl _, fun y _ hn => ho.block y (fun e => hn (by rw [e]; simp [BG.blocks, hm]))⟩, fun y hy => .inl hy⟩⟩
  · intro e2; subst e2; simp [BG.blocks, hm, e] at hnd
  · intro e2; subst e2; simp [BG.blocks, hm, e] at hnd
set_option maxHeartbeats 20000000 in
theorem bput_calls (h : BufAt w B b g) (hn16 : g.W.length ≤ 16) (lv : Value) (l : List Wr) (hl : SlA w w.heap.size 35 lv (l.map wrtA)) (ho : OutB b g lv) :
    Calls Tryz.prog 26 #[.pointer (some ⟨b, 0, none⟩), lv] w fun e w' => e = .returned (.tuple #[.int .i64 (putL g.W l).2.1, .int .i64 (putL g.W l).2.2]) ∧ ∃ g', BufAt w' B b g' ∧ BEvo b w g w' g' ∧ g'.W = (putL g.W l).1 ∧ g'.G = g.G ∧ g'.P = g.P := by
  obtain ⟨a, cap, rfl, hcap, hmx⟩ := hl.form
  rw [List.length_map] at *
  unfold maxLen at hmx
  have hbl : b < w.heap.size := h.lt b (by simp [BG.blocks])
  have hc : w.cell? ⟨b, 0, none⟩ = some (.map g.m1) := (cells_is h.cells 0).1
  have hfz : w.frozen? ⟨b, 0, none⟩ = false := (cells_is h.cells 0).2
  have HH := Lib.hid h
  have HL := Lib.hid hl
  have HOUT := Lib.hid ho
  obtain ⟨res, hres⟩ : ∃ res, res = putL g.W l := ⟨_, rfl⟩
  rw [← hres]
  have HRES := Lib.hid hres
  clear h hl ho hres
  go_enter Tryz.func26, Tryz.ntmps26
  have hq : ∀ (p : Option Nat) (w : World), (binOp .eql 92 (.map p) (.map none)).run Tryz.prog w = .ok (.bool p.isNone) w := fun p w => by cases p <;> kernel_rfl
  go_upto_if 17 with fail
  go_cut [] (fun wx => Hid (∃ g1 m, BufAt wx B b g1 ∧ BEvo b w g wx g1 ∧ g1.m1 = some m ∧ g1.W = g.W ∧ g1.G = g.G ∧ g1.P = g.P))
  case first =>
    rcases (show g.m1 = none ∨ ∃ m, g.m1 = some m by cases g.m1 <;> simp) with hm | ⟨m, hm⟩
    · rw [hm] at hc ⊢
      obtain ⟨e1, e2⟩ := HH.out.made1 hm
      have HE := Lib.hid (And.intro e1 e2)
      have hsw : (w.alloc (.map #[] 0)).setCell ⟨b, 0, none⟩ (.map (some w.heap.size)) = (w.setCell ⟨b, 0, none⟩ (.map (some w.heap.size))).alloc (.map #[] 0) := by simp [go_sem, hbl]
      have HSW := Lib.hid hsw
      clear e1 e2 hm hsw
      go_wp2_with fail
      go_meet
      exact Lib.hid (by first | exact ⟨_, _, HE.out.1, HE.out.2, rfl, rfl, rfl, rfl⟩ | (rw [← HSW.out]; exact ⟨_, _, HE.out.1, HE.out.2, rfl, rfl, rfl, rfl⟩))
    · rw [hm] at hc ⊢
      have HE := Lib.hid (show ∃ g1 m, BufAt w B b g1 ∧ BEvo b w g w g1 ∧ g1.m1 = some m ∧ g1.W = g.W ∧ g1.G = g.G ∧ g1.P = g.P from ⟨g, m, HH.out, BEvo.refl _ _ _, hm, rfl, rfl, rfl⟩)
      clear hm
      go_wp2_with fail
      go_meet
      exact HE
  case rest =>
    clear hc hfz
    go_wp2_with fail
    go_loopw [24] (fun s24 wr => ∃ i : Nat, i ≤ l.length ∧ s24 = .int .i64 i ∧ Hid (∃ g1 m, BufAt wr B b g1 ∧ BEvo b w g wr g1 ∧ g1.m1 = some m ∧ g1.G = g.G ∧ g1.P = g.P ∧ g1.W.length ≤ 16 ∧ res = addN i (putL g1.W (l.drop i)))) (fun s24 _ => l.length - (intOf s24).toNat)
    case atStart =>
      obtain ⟨g1, m, e1, e2, e3, e4, e5, e6⟩ := hcut.out
      exact ⟨0, Nat.zero_le _, rfl, Lib.hid ⟨g1, m, e1, e2, e3, e5, e6, by rw [e4]; exact hn16, by rw [HRES.out, e4]; unfold addN; simp⟩⟩
    case round =>
      obtain ⟨i, hi, rfl, HR⟩ := hrel
      obtain ⟨g1, m, hA, hE, hm, hG, hP, h16, hr⟩ := HR.out
      clear HR hcut
      by_cases hlt : i < l.length
      · have hltI : (i : Int) < l.length := by omega
        obtain ⟨_, a', cap', he, _, _, hcc⟩ := HL.out
        simp only [Value.slice.injEq, List.length_map, true_and] at he
        obtain ⟨rfl, rfl⟩ := he
        obtain ⟨q0, o0, rfl, hlb, hcut⟩ := hcc (by simp; omega)
        have hout : q0 ∉ g.blocks b := HOUT.out q0 o0 _ _ rfl (by omega)
        have hcutk : wr.cut? q0 (o0 + i * 35) 35 = some (wrtA l[i]) := by
          rw [cut_of_heap (hE.1.same q0 hlb hout)]
          exact hcut i (wrtA l[i]) (by simp [hlt])
        have hsz := hE.1.size
        have hgr : q0 < wr.heap.size := by omega
        have hdrop : l.drop i = l[i] :: l.drop (i + 1) := List.drop_eq_getElem_cons hlt
        rw [hdrop] at hr
        generalize l[i] = xw at *
        have hbr : b < wr.heap.size := hA.lt b (by simp [BG.blocks])
        have HC := Lib.hid (fun (W : World) (lb : Nat) (hc : W.cut? lb 0 35 = some (wrtA xw)) (hlb : lb < W.heap.size) => checkS_gives (.slice (some ⟨lb, 0, none⟩) 1 1) [xw] W ((sl_one (Nat.le_refl _) (by decide) hc).more (by omega)))
        have HG := Lib.hid (fun (W : World) (hb : Below wr.heap.size wr W) => bget_gives (hA.keep hb) xw.k)
        have HA := Lib.hid (And.intro hA (And.intro hE (And.intro hm (And.intro hG (And.intro hP h16)))))
        have HR := Lib.hid hr
        clear hcut hcc hdrop hA hE hm hG hP hr hout
        go_wp2_with fail
        refine Gives.use (HC.out _ _ ?_ ?_) ?_
        · simp [go_sem]
        · simp
        intro xs d
        by_cases hck : checkE [xw] = 0
        · go_wp2_with fail
          refine Gives.use (HG.out _ (by repeat (first | exact below_of_grow _ _ | exact Below.refl _ _ | exact below_more _ _ _ _ | (simp only [← Array.append_assoc]; first | exact below_more _ _ _ _ | exact below_same _ _ _ | exact Below.refl _ _) | exact below_same _ _ _ | (refine Below.alloc ?_ (by first | (simp; done) | (simp; omega)) _) | (refine Below.grow ?_ (by first | (simp; done) | (simp; omega)) _ _) | refine Below.drew ?_ | refine Below.drewN ?_ _ | (refine Below.putF ?_ (by first | (simp; done) | omega | (simp; omega)) _) | (refine Below.setCell ?_ (by first | (simp; done) | (simp; omega)) _)))) ?_
          intro ys e
          go_upto_region 12 with fail
          refine wp_name ?_
          intro W hW
          obtain ⟨p7, hp7⟩ : ∃ p7, p7 = wr.heap.size := ⟨_, rfl⟩
          have hbW : Below wr.heap.size wr W := by rw [hW]; exact (by repeat (first | exact below_of_grow _ _ | exact Below.refl _ _ | exact below_more _ _ _ _ | (simp only [← Array.append_assoc]; first | exact below_more _ _ _ _ | exact below_same _ _ _ | exact Below.refl _ _) | exact below_same _ _ _ | (refine Below.alloc ?_ (by first | (simp; done) | (simp; omega)) _) | (refine Below.grow ?_ (by first | (simp; done) | (simp; omega)) _ _) | refine Below.drew ?_ | refine Below.drewN ?_ _ | (refine Below.putF ?_ (by first | (simp; done) | omega | (simp; omega)) _) | (refine Below.setCell ?_ (by first | (simp; done) | (simp; omega)) _)))
          have h7 : W.heap[p7]? = some (.cells (wrtA xw) 79) := by
            have e1 : (wr.alloc (.cells (wrtA xw) 79)).heap[p7]? = some (.cells (wrtA xw) 79) := by rw [hp7, heap_al, if_pos rfl]
            have hb : Below (wr.alloc (.cells (wrtA xw) 79)).heap.size (wr.alloc (.cells (wrtA xw) 79)) W := by rw [hW]; exact (by repeat (first | exact below_of_grow _ _ | exact Below.refl _ _ | exact below_more _ _ _ _ | (simp only [← Array.append_assoc]; first | exact below_more _ _ _ _ | exact below_same _ _ _ | exact Below.refl _ _) | exact below_same _ _ _ | (refine Below.alloc ?_ (by first | (simp; done) | (simp; omega)) _) | (refine Below.grow ?_ (by first | (simp; done) | (simp; omega)) _ _) | refine Below.drew ?_ | refine Below.drewN ?_ _ | (refine Below.putF ?_ (by first | (simp; done) | omega | (simp; omega)) _) | (refine Below.setCell ?_ (by first | (simp; done) | (simp; omega)) _)))
            exact (hb.block p7 (by rw [hp7]; simp)).trans e1
          have l7 : p7 < W.heap.size := (Array.getElem?_eq_some_iff.1 h7).1
          have c7 : W.cut? p7 0 35 = some (wrtA xw) := cut_heap h7 (wrtA_size xw)
          have k7 : W.cut? p7 0 25 = some (row8 xw.k.val) := by
            have := cut_sub (i := 0) (m := 25) c7 (by decide)
            rw [Nat.add_zero, wrtA_key] at this; exact this
          have hAW := HA.out.1.keep hbW
          have hbc : W.cell? ⟨b, 0, none⟩ = some (.map (some m)) := (cells_is hAW.cells 0).1.trans (by rw [HA.out.2.2.1]; rfl)
          have hbW' : b < W.heap.size := Nat.lt_of_lt_of_le hbr hbW.size
          have hMW : MapIs ekB evWr (fun _ => True) W m g1.W := by
            rcases hAW.w1 with ⟨hm, _⟩ | ⟨m', hm, hM⟩
            · rw [HA.out.2.2.1] at hm; cases hm
            · rw [HA.out.2.2.1] at hm; cases hm; exact hM
          have hlenW := len_run (P := Tryz.prog) (ty := 3) Tryz.underlying92 hMW
          have HBW := Lib.hid (And.intro hbW (And.intro hAW hMW))
          have hkl := xw.k.len
          simp only [← hp7]
          clear hW h7 hp7 hbW hAW hMW hcutk HC HG
          by_cases hfull : lk g1.W xw.k = none ∧ g1.W.length = 16
          · have hv : res = (g1.W, (i : Int), 2) := by
              rw [HR.out]
              show addN i (if checkE [xw] = 0 then _ else _) = _
              rw [if_pos hck, if_pos hfull]
              unfold addN; simp
            have h1 : res.2.1 = (i : Int) := by rw [hv]
            have h2 : res.2.2 = 2 := by rw [hv]
            have H3 := Lib.hid (show res.1 = g1.W by rw [hv])
            have H12 := Lib.hid (And.intro h1 h2)
            have his : (lk g1.W xw.k).isSome = false := by rw [hfull.1]; rfl
            have hln : ((g1.W.length : Int) == 16) = true := by rw [hfull.2]; rfl
            have HF := Lib.hid (And.intro HBW.out.2.1 (And.intro (HA.out.2.1.trans (BEvo.grow g1 HBW.out.1)) (And.intro HA.out.2.2.2.1 HA.out.2.2.2.2.1)))
            clear hv h1 h2 hfull hck
            generalize (lk g1.W xw.k).isSome = isb at *
            generalize g1.W.length = gl at *
            go_wp2_with fail
            exact bodyPost_ret (v := .tuple #[.int .i64 i, .int .i64 2]) (by simp [results, Tryz.results26, go_sem]) rfl ⟨by rw [H12.out.1, H12.out.2], g1, HF.out.1, HF.out.2.1, H3.out.symm, HF.out.2.2.1, HF.out.2.2.2⟩
          · have hv : res = addN ((i : Int) + 1) (putL (put g1.W xw.k xw) (l.drop (i + 1))) := by
              rw [HR.out]
              show addN i (if checkE [xw] = 0 then _ else _) = _
              rw [if_pos hck, if_neg hfull]
              unfold addN
              simp only [Prod.mk.injEq, true_and, and_true]
              omega
            have h16' : (put g1.W xw.k xw).length ≤ 16 := by
              rw [put_len]
              split
              · exact HA.out.2.2.2.2.2
              · rename_i hk
                have : g1.W.length ≠ 16 := fun e => hfull ⟨lk_none.2 (fun p hp he => hk (List.mem_map.2 ⟨p, hp, he⟩)), e⟩
                have := HA.out.2.2.2.2.2
                omega
            have hcase : (lk g1.W xw.k).isSome = true ∨ ((lk g1.W xw.k).isSome = false ∧ ((g1.W.length : Int) == 16) = false) := by
              cases hh : lk g1.W xw.k with
              | some y => exact .inl rfl
              | none => exact .inr ⟨rfl, beq_eq_false_iff_ne.2 (fun e => hfull ⟨hh, by omega⟩)⟩
            have HV := Lib.hid (And.intro hv h16')
            have HC2 := Lib.hid hcase
            clear hv h16' hcase hfull hck
            go_cut [52] (fun v wx => v = .bool false ∧ wx = W)
            case first =>
              have hcase := HC2.out
              generalize (lk g1.W xw.k).isSome = isb at *
              generalize g1.W.length = gl at *
              rcases hcase with rfl | ⟨rfl, hln⟩
              · go_wp2_with fail
                go_meet
                exact ⟨rfl, rfl⟩
              · go_wp2_with fail
                go_meet
                exact ⟨rfl, rfl⟩
            case rest =>
              obtain ⟨rfl, rfl⟩ := hcut
              clear HC2 hlenW
              go_wp2_with fail
              apply wp_region_specs (by rfl) [.val _, .val _, .val _, .val _, .val _, .val _, .val _] 7 (by rfl) [54, 55, 56, 57, 58, 59, 60] [] [] (by rfl) (by rfl) (by decide) (by decide +kernel) (fun _ _ _ _ _ h => h)
              case hF => intro x; simp only [over, List.foldl_cons, List.foldl_nil, List.setIfInBounds_toArray, List.set_cons_succ, List.set_cons_zero]; exact rfl
              case hops =>
                refine ⟨?o0, ?o1, ?o2, ?o3, ?o4, ?o5, ?o6, trivial⟩
                case o0 =>
                  intro x w1 hH K hK
                  obtain ⟨xs, d, rfl⟩ := grow_of_below hH.below
                  clear hH
                  try simp only [World.grow_drew] at hK ⊢
                  try simp only [World.grow_grow] at hK ⊢
                  go_simp
                  go_wp2_with fail
                  exact ⟨_, rfl, rfl, (by repeat (first | exact below_of_grow _ _ | exact Below.refl _ _ | exact below_more _ _ _ _ | (simp only [← Array.append_assoc]; first | exact below_more _ _ _ _ | exact below_same _ _ _ | exact Below.refl _ _) | exact below_same _ _ _ | (refine Below.alloc ?_ (by first | (simp; done) | (simp; omega)) _) | (refine Below.grow ?_ (by first | (simp; done) | (simp; omega)) _ _) | refine Below.drew ?_ | refine Below.drewN ?_ _ | (refine Below.putF ?_ (by first | (simp; done) | omega | (simp; omega)) _) | (refine Below.setCell ?_ (by first | (simp; done) | (simp; omega)) _))), fun h => by cases h⟩
                case o1 =>
                  intro x w1 hH K hK
                  have e54 : x 54 = _ := hH.holds 0 (by decide) (by decide +kernel) 54 rfl
                  obtain ⟨xs, d, rfl⟩ := grow_of_below hH.below
                  clear hH
                  try simp only [World.grow_drew] at hK ⊢
                  try simp only [World.grow_grow] at hK ⊢
                  simp only [e54] at hK ⊢
                  clear e54
                  go_simp
                  go_wp2_with fail
                  exact ⟨_, rfl, rfl, (by repeat (first | exact below_of_grow _ _ | exact Below.refl _ _ | exact below_more _ _ _ _ | (simp only [← Array.append_assoc]; first | exact below_more _ _ _ _ | exact below_same _ _ _ | exact Below.refl _ _) | exact below_same _ _ _ | (refine Below.alloc ?_ (by first | (simp; done) | (simp; omega)) _) | (refine Below.grow ?_ (by first | (simp; done) | (simp; omega)) _ _) | refine Below.drew ?_ | refine Below.drewN ?_ _ | (refine Below.putF ?_ (by first | (simp; done) | omega | (simp; omega)) _) | (refine Below.setCell ?_ (by first | (simp; done) | (simp; omega)) _))), fun h => by cases h⟩
                case o2 =>
                  intro x w1 hH K hK
                  have e55 : x 55 = _ := hH.holds 1 (by decide) (by decide +kernel) 55 rfl
                  obtain ⟨xs, d, rfl⟩ := grow_of_below hH.below
                  clear hH
                  try simp only [World.grow_drew] at hK ⊢
                  try simp only [World.grow_grow] at hK ⊢
                  simp only [e55] at hK ⊢
                  clear e55
                  go_simp
                  go_wp2_with fail
                  exact ⟨_, rfl, rfl, (by repeat (first | exact below_of_grow _ _ | exact Below.refl _ _ | exact below_more _ _ _ _ | (simp only [← Array.append_assoc]; first | exact below_more _ _ _ _ | exact below_same _ _ _ | exact Below.refl _ _) | exact below_same _ _ _ | (refine Below.alloc ?_ (by first | (simp; done) | (simp; omega)) _) | (refine Below.grow ?_ (by first | (simp; done) | (simp; omega)) _ _) | refine Below.drew ?_ | refine Below.drewN ?_ _ | (refine Below.putF ?_ (by first | (simp; done) | omega | (simp; omega)) _) | (refine Below.setCell ?_ (by first | (simp; done) | (simp; omega)) _))), fun h => by cases h⟩
                case o3 =>
                  intro x w1 hH K hK
                  have e56 : x 56 = _ := hH.holds 2 (by decide) (by decide +kernel) 56 rfl
                  obtain ⟨xs, d, rfl⟩ := grow_of_below hH.below
                  clear hH
                  try simp only [World.grow_drew] at hK ⊢
                  try simp only [World.grow_grow] at hK ⊢
                  simp only [e56] at hK ⊢
                  clear e56
                  go_simp
                  go_wp2_with fail
                  exact ⟨_, rfl, rfl, (by repeat (first | exact below_of_grow _ _ | exact Below.refl _ _ | exact below_more _ _ _ _ | (simp only [← Array.append_assoc]; first | exact below_more _ _ _ _ | exact below_same _ _ _ | exact Below.refl _ _) | exact below_same _ _ _ | (refine Below.alloc ?_ (by first | (simp; done) | (simp; omega)) _) | (refine Below.grow ?_ (by first | (simp; done) | (simp; omega)) _ _) | refine Below.drew ?_ | refine Below.drewN ?_ _ | (refine Below.putF ?_ (by first | (simp; done) | omega | (simp; omega)) _) | (refine Below.setCell ?_ (by first | (simp; done) | (simp; omega)) _))), fun h => by cases h⟩
                case o4 =>
                  intro x w1 hH K hK
                  obtain ⟨xs, d, rfl⟩ := grow_of_below hH.below
                  clear hH
                  try simp only [World.grow_drew] at hK ⊢
                  try simp only [World.grow_grow] at hK ⊢
                  go_simp
                  go_wp2_with fail
                  exact ⟨_, rfl, rfl, (by repeat (first | exact below_of_grow _ _ | exact Below.refl _ _ | exact below_more _ _ _ _ | (simp only [← Array.append_assoc]; first | exact below_more _ _ _ _ | exact below_same _ _ _ | exact Below.refl _ _) | exact below_same _ _ _ | (refine Below.alloc ?_ (by first | (simp; done) | (simp; omega)) _) | (refine Below.grow ?_ (by first | (simp; done) | (simp; omega)) _ _) | refine Below.drew ?_ | refine Below.drewN ?_ _ | (refine Below.putF ?_ (by first | (simp; done) | omega | (simp; omega)) _) | (refine Below.setCell ?_ (by first | (simp; done) | (simp; omega)) _))), fun h => by cases h⟩
                case o5 =>
                  intro x w1 hH K hK
                  have e58 : x 58 = _ := hH.holds 4 (by decide) (by decide +kernel) 58 rfl
                  obtain ⟨xs, d, rfl⟩ := grow_of_below hH.below
                  clear hH
                  try simp only [World.grow_drew] at hK ⊢
                  try simp only [World.grow_grow] at hK ⊢
                  simp only [e58] at hK ⊢
                  clear e58
                  go_simp
                  go_wp2_with fail
                  exact ⟨_, rfl, rfl, (by repeat (first | exact below_of_grow _ _ | exact Below.refl _ _ | exact below_more _ _ _ _ | (simp only [← Array.append_assoc]; first | exact below_more _ _ _ _ | exact below_same _ _ _ | exact Below.refl _ _) | exact below_same _ _ _ | (refine Below.alloc ?_ (by first | (simp; done) | (simp; omega)) _) | (refine Below.grow ?_ (by first | (simp; done) | (simp; omega)) _ _) | refine Below.drew ?_ | refine Below.drewN ?_ _ | (refine Below.putF ?_ (by first | (simp; done) | omega | (simp; omega)) _) | (refine Below.setCell ?_ (by first | (simp; done) | (simp; omega)) _))), fun h => by cases h⟩
                case o6 =>
                  intro x w1 hH K hK
                  obtain ⟨xs, d, rfl⟩ := grow_of_below hH.below
                  clear hH
                  try simp only [World.grow_drew] at hK ⊢
                  try simp only [World.grow_grow] at hK ⊢
                  go_simp
                  go_wp2_with fail
                  exact ⟨_, rfl, rfl, (by repeat (first | exact below_of_grow _ _ | exact Below.refl _ _ | exact below_more _ _ _ _ | (simp only [← Array.append_assoc]; first | exact below_more _ _ _ _ | exact below_same _ _ _ | exact Below.refl _ _) | exact below_same _ _ _ | (refine Below.alloc ?_ (by first | (simp; done) | (simp; omega)) _) | (refine Below.grow ?_ (by first | (simp; done) | (simp; omega)) _ _) | refine Below.drew ?_ | refine Below.drewN ?_ _ | (refine Below.putF ?_ (by first | (simp; done) | omega | (simp; omega)) _) | (refine Below.setCell ?_ (by first | (simp; done) | (simp; omega)) _))), fun h => by cases h⟩
              case hend =>
                intro x w1 hH
                have e54 : x 54 = _ := hH.holds 0 (by decide) trivial 54 rfl
                have e55 : x 55 = _ := hH.holds 1 (by decide) trivial 55 rfl
                have e56 : x 56 = _ := hH.holds 2 (by decide) trivial 56 rfl
                have e57 : x 57 = _ := hH.holds 3 (by decide) trivial 57 rfl
                have e58 : x 58 = _ := hH.holds 4 (by decide) trivial 58 rfl
                have e59 : x 59 = _ := hH.holds 5 (by decide) trivial 59 rfl
                have e60 : x 60 = _ := hH.holds 6 (by decide) trivial 60 rfl
                obtain ⟨xs, d, rfl⟩ := grow_of_below hH.below
                clear hH
                simp only [e54, e55, e56, e57, e58, e59, e60]; clear e54 e55 e56 e57 e58 e59 e60
                simp only [List.drop_succ_cons, List.drop_zero]
                refine wpList_put (b := m) (L := g1.W) (ev := evWr) keyEncB rfl _ _ _ _ _ rfl Tryz.underlying92 rfl ?_ xw.k trivial rfl xw rfl ?_
                · repeat (first | exact HBW.out.2.2 | refine MapIs.alloc ?_ _ | refine MapIs.grow ?_ _ _ | refine MapIs.drew ?_ | refine MapIs.drewN ?_ _)
                · intro w2 hm2 ho2
                  have hp1 := fun hb => BufAt.put1 (HBW.out.2.1.keep hb) HA.out.2.2.1 xw hm2 ho2
                  have hbx : Below wc.heap.size wc (wc.drew.grow xs d) := ((Below.refl _ wc).drew).grow (Nat.le_refl _) xs d
                  have hp2 := hp1 hbx
                  have he2 := (HA.out.2.1.trans (BEvo.grow g1 (HBW.out.1.trans (hbx.mono HBW.out.1.size)))).trans hp2.2
                  have HF := Lib.hid (And.intro hp2.1 (And.intro he2 (And.intro HA.out.2.2.1 (And.intro HA.out.2.2.2.1 HA.out.2.2.2.2.1))))
                  clear hm2 ho2 hp1 hp2 he2 hbx
                  go_wp2_with fail
                  go_roundw
                  case rel => exact ⟨i + 1, by omega, by go_num, Lib.hid ⟨_, m, HF.out.1, HF.out.2.1, HF.out.2.2.1, HF.out.2.2.2.1, HF.out.2.2.2.2, HV.out.2, by rw [HV.out.1, Int.natCast_add]; rfl⟩⟩
                  case measure => simp [intOf]; omega
        · have hv : res = (g1.W, (i : Int), checkE [xw]) := by
            rw [HR.out]
            show addN i (if checkE [xw] = 0 then _ else _) = _
            rw [if_neg hck]
            unfold addN; simp
          have h1 : res.2.1 = (i : Int) := by rw [hv]
          have h2 : res.2.2 = checkE [xw] := by rw [hv]
          have H3 := Lib.hid (show res.1 = g1.W by rw [hv])
          have hne : (checkE [xw] != 0) = true := by simp [hck]
          have H12 := Lib.hid (And.intro h1 h2)
          have HF := Lib.hid (fun (W : World) (hb : Below wr.heap.size wr W) => And.intro (HA.out.1.keep hb) (And.intro (HA.out.2.1.trans (BEvo.grow g1 hb)) (And.intro HA.out.2.2.2.1 HA.out.2.2.2.2.1)))
          clear hv h1 h2 hck
          generalize checkE [xw] = ce at *
          go_wp2_with fail
          exact bodyPost_ret (v := .tuple #[.int .i64 i, .int .i64 ce]) (by simp [results, Tryz.results26, go_sem]) rfl ⟨by rw [H12.out.1, H12.out.2], g1, (HF.out _ (by repeat (first | exact below_of_grow _ _ | exact Below.refl _ _ | exact below_more _ _ _ _ | (simp only [← Array.append_assoc]; first | exact below_more _ _ _ _ | exact below_same _ _ _ | exact Below.refl _ _) | exact below_same _ _ _ | (refine Below.alloc ?_ (by first | (simp; done) | (simp; omega)) _) | (refine Below.grow ?_ (by first | (simp; done) | (simp; omega)) _ _) | refine Below.drew ?_ | refine Below.drewN ?_ _ | (refine Below.putF ?_ (by first | (simp; done) | omega | (simp; omega)) _) | (refine Below.setCell ?_ (by first | (simp; done) | (simp; omega)) _)))).1, (HF.out _ (by repeat (first | exact below_of_grow _ _ | exact Below.refl _ _ | exact below_more _ _ _ _ | (simp only [← Array.append_assoc]; first | exact below_more _ _ _ _ | exact below_same _ _ _ | exact Below.refl _ _) | exact below_same _ _ _ | (refine Below.alloc ?_ (by first | (simp; done) | (simp; omega)) _) | (refine Below.grow ?_ (by first | (simp; done) | (simp; omega)) _ _) | refine Below.drew ?_ | refine Below.drewN ?_ _ | (refine Below.putF ?_ (by first | (simp; done) | omega | (simp; omega)) _) | (refine Below.setCell ?_ (by first | (simp; done) | (simp; omega)) _)))).2.1, H3.out.symm, (HF.out _ (by repeat (first | exact below_of_grow _ _ | exact Below.refl _ _ | exact below_more _ _ _ _ | (simp only [← Array.append_assoc]; first | exact below_more _ _ _ _ | exact below_same _ _ _ | exact Below.refl _ _) | exact below_same _ _ _ | (refine Below.alloc ?_ (by first | (simp; done) | (simp; omega)) _) | (refine Below.grow ?_ (by first | (simp; done) | (simp; omega)) _ _) | refine Below.drew ?_ | refine Below.drewN ?_ _ | (refine Below.putF ?_ (by first | (simp; done) | omega | (simp; omega)) _) | (refine Below.setCell ?_ (by first | (simp; done) | (simp; omega)) _)))).2.2.1, (HF.out _ (by repeat (first | exact below_of_grow _ _ | exact Below.refl _ _ | exact below_more _ _ _ _ | (simp only [← Array.append_assoc]; first | exact below_more _ _ _ _ | exact below_same _ _ _ | exact Below.refl _ _) | exact below_same _ _ _ | (refine Below.alloc ?_ (by first | (simp; done) | (simp; omega)) _) | (refine Below.grow ?_ (by first | (simp; done) | (simp; omega)) _ _) | refine Below.drew ?_ | refine Below.drewN ?_ _ | (refine Below.putF ?_ (by first | (simp; done) | omega | (simp; omega)) _) | (refine Below.setCell ?_ (by first | (simp; done) | (simp; omega)) _)))).2.2.2⟩
      · have hie : i = l.length := by omega
        have hgn : ¬ (i : Int) < l.length := by omega
        have hv : res = (g1.W, (i : Int), 0) := by rw [hr, hie, List.drop_length]; unfold addN putL; simp
        have HF := Lib.hid (And.intro hA (And.intro hE (And.intro hG hP)))
        have h1 : res.2.1 = (l.length : Int) := by rw [hv, hie]
        have h2 : res.2.2 = 0 := by rw [hv]
        have h3 : res.1 = g1.W := by rw [hv]
        have H3 := Lib.hid h3
        have H12 := Lib.hid (And.intro h1 h2)
        clear hA hE hm hG hP hr hv h1 h2 h3 h16
        go_wp2_with fail
        exact bodyPost_ret (v := .tuple #[.int .i64 l.length, .int .i64 0]) (by simp [results, Tryz.results26, go_sem]) rfl ⟨by rw [H12.out.1, H12.out.2], g1, HF.out.1, HF.out.2.1, H3.out.symm, HF.out.2.2.1, HF.out.2.2.2⟩
end
end Go.Proofs.YtfmphfidloobkaaGreatDoor
namespace Go.Proofs.YtfmphfidloobkaaGreatDoor
set_option maxRecDepth 100000
open Go.RowKit

theorem row_entB : RowType Tryz.prog 205 208 34 72 := ⟨Tryz.underlying205, by kernel_rfl, by decide, by decide⟩
theorem entA_parts (k : K25) (r : Rec) : row8 k.val ++ recA r = entA ⟨k, r⟩ := by apply Array.ext'; simp [row8, recA, entA, keyL]
@[go_sem ↓ high] theorem bEntB_eq (f : Nat × Operand → Nat × Value) (p q : Nat × Operand) : Instr.build 208 (Array.map f #[p, q]) = bld2 208 (f p) (f q) := by simp [bld2]
@[go_sem] theorem bEntB_run (k : K25) (r : Rec) (w : World) : (bld2 208 (0, .agg (row8 k.val)) (1, .agg (recA r))).run Tryz.prog w = .ok (.agg (entA ⟨k, r⟩)) w := by
  unfold bld2
  have := build_two (P := Tryz.prog) (w := w) (n := 25) (m := 9) (a := .agg (row8 k.val)) (b := .agg (recA r)) Tryz.zeroValue208 Tryz.underlying208 (by intro w; kernel_rfl) (by simp [Value.cells]) (by simp [Value.cells]) (by rfl)
  rw [this]
  exact congrArg (fun c => Result.ok (Value.agg c) w) (entA_parts k r)
def keepE (L : MW) (p : K25) (d : Int) (e : Ent) : Bool := !(lk L e.k).isSome || !hasB p d e.k
def comeW (p : K25) (d : Int) (x : Wr) : Bool := !x.dead && hasB p d x.k
def entOf (x : Wr) : Ent := ⟨x.k, x.r⟩
/-- entries, with the writes of a prefix: in no order yet -/
def overL (L : MW) (p : K25) (d : Int) (l : List Ent) : List Ent := l.filter (keepE L p d) ++ ((writesB L).filter (comeW p d)).map entOf
theorem filter_next {α : Type} (f : α → Bool) (l : List α) (i : Nat) (h : i < l.length) : (l.take (i + 1)).filter f = if f l[i] = true then (l.take i).filter f ++ [l[i]] else (l.take i).filter f := by
  rw [List.take_succ_eq_append_getElem h, List.filter_append]
  split
  · rename_i h; simp [h]
  · rename_i h; simp [h]
set_option maxHeartbeats 40000000 in
theorem over_calls {w : World} (bv : Value) (L : MW) (p : K25) (d : Int) (lv : Value) (l : List Ent) (hlen : l.length ≤ 1000) (hLl : L.length ≤ 1000) (hl : SlA w w.heap.size 34 lv (l.map entA))
    (HGT : ∀ W, Below w.heap.size w W → ∀ k : K25, ∃ y : Wr, Gives Tryz.prog 33 #[bv, .agg (row8 k.val)] W (.tuple #[.agg (wrtA y), .bool (lk L k).isSome]))
    (HWR : ∀ W, Below w.heap.size w W → Calls Tryz.prog 42 #[bv] W fun e w' => ∃ v', e = .returned v' ∧ Below W.heap.size W w' ∧ OwnA w' W.heap.size 35 79 v' ((writesB L).map wrtA)) :
    Calls Tryz.prog 80 #[bv, lv, .agg (prefA p d)] w fun e w' => ∃ (v' : Value) (l' : List Ent), e = .returned v' ∧ Below w.heap.size w w' ∧ l'.Perm (overL L p d l) ∧ l'.Pairwise (fun x y => lessL y.k.val x.k.val = false) ∧ OwnA w' w.heap.size 34 208 v' (l'.map entA) := by
  obtain ⟨a, cap, rfl, hcap, hmx⟩ := hl.form
  rw [List.length_map] at *
  unfold maxLen at hmx
  have HL := Lib.hid hl
  have HGT' := Lib.hid HGT
  have HWR' := Lib.hid HWR
  have HHAS := Lib.hid (fun k => has_gives p k d)
  clear hl HGT HWR
  go_enter Tryz.func80, Tryz.ntmps80
  go_upto_region 2 with fail
  refine wp_name ?_
  intro W0 hW0
  obtain ⟨pb, hpb⟩ : ∃ pb, pb = w.heap.size := ⟨_, rfl⟩
  have hb0 : Below w.heap.size w W0 := by rw [hW0]; exact (Below.refl _ _).alloc (Nat.le_refl _) _
  have hp0 : W0.heap[pb]? = some (.cells (prefA p d) 102) := by rw [hW0, hpb]; exact (heap_al _ _ _).trans (if_pos rfl)
  have hcp0 : W0.cut? pb 0 26 = some (prefA p d) := cut_heap hp0 (by simp)
  have hlp0 : pb < W0.heap.size := (Array.getElem?_eq_some_iff.1 hp0).1
  simp only [← hpb]
  have H0 := Lib.hid (And.intro hb0 (And.intro hcp0 (And.intro hlp0 hb0.size)))
  clear hW0 hb0 hp0 hpb hcp0 hlp0
  go_upto_block 0 with fail
  go_cut [7] (fun v7 wx => Hid (Below W0.heap.size W0 wx) ∧ Hid (OwnA wx W0.heap.size 34 208 v7 ((l.filter (keepE L p d)).map entA)))
  case first =>
    go_wp2_with fail
    go_loopw [7, 16] (fun s7 s16 wr => ∃ i : Nat, i ≤ l.length ∧ s16 = .int .i64 i ∧ Hid (Below W0.heap.size W0 wr) ∧ Hid (OwnA wr W0.heap.size 34 208 s7 (((l.take i).filter (keepE L p d)).map entA))) (fun _ s16 _ => l.length - (intOf s16).toNat)
    case atStart => exact ⟨0, Nat.zero_le _, rfl, Lib.hid (Below.refl _ _), Lib.hid (OwnA.nil _ _ _ _)⟩
    case round =>
      obtain ⟨i, hi, rfl, HB, HO⟩ := hrel
      by_cases hlt : i < l.length
      · have hltI : (i : Int) < l.length := by omega
        have hbw : Below w.heap.size w wr := H0.out.1.trans (HB.out.mono H0.out.2.2.2)
        obtain ⟨_, a', cap', he, _, _, hcc⟩ := HL.out.below hbw
        simp only [Value.slice.injEq, List.length_map, true_and] at he
        obtain ⟨rfl, rfl⟩ := he
        obtain ⟨q0, o0, rfl, hlb, hcut⟩ := hcc (by simp; omega)
        have hcutk := hcut i (entA l[i]) (by simp [hlt])
        have hgr : q0 < wr.heap.size := Nat.lt_of_lt_of_le hlb hbw.size
        have hnx := filter_next (keepE L p d) l i hlt
        have hfl : ((l.take i).filter (keepE L p d)).length ≤ 1000 := Nat.le_trans (List.length_filter_le _ _) (by simp; omega)
        generalize (l.take i).filter (keepE L p d) = R at *
        generalize l[i] = x at *
        have HNX := Lib.hid hnx
        have hcpr : wr.cut? pb 0 26 = some (prefA p d) := by rw [cut_of_heap (HB.out.block pb H0.out.2.2.1)]; exact H0.out.2.1
        have hlpr : pb < wr.heap.size := Nat.lt_of_lt_of_le H0.out.2.2.1 HB.out.size
        have hszr := HB.out.size
        obtain ⟨isb, hisb⟩ : ∃ isb, isb = (lk L x.k).isSome := ⟨_, rfl⟩
        obtain ⟨hab, hhab⟩ : ∃ hab, hab = hasB p d x.k := ⟨_, rfl⟩
        have hkp : keepE L p d x = (!isb || !hab) := by unfold keepE; rw [hisb, hhab]
        have HK := Lib.hid hkp
        have HG := Lib.hid (fun (W : World) (hb : Below wr.heap.size wr W) => show ∃ y : Wr, Gives Tryz.prog 33 #[bv, .agg (row8 x.k.val)] W (.tuple #[.agg (wrtA y), .bool isb]) from by rw [hisb]; exact HGT'.out W (hbw.trans (hb.mono hbw.size)) x.k)
        have HH := Lib.hid (show ∀ W, Gives Tryz.prog 116 #[.agg (prefA p d), .agg (row8 x.k.val)] W (.bool hab) from by rw [hhab]; exact fun W => HHAS.out x.k W)
        clear hcut hcc hnx hkp hisb hhab hbw
        go_upto_region 5 with fail
        refine wp_name ?_
        intro W hW
        obtain ⟨e9, he9⟩ : ∃ e9, e9 = wr.heap.size := ⟨_, rfl⟩
        have hbW : Below wr.heap.size wr W := by rw [hW]; exact (Below.refl _ _).alloc (Nat.le_refl _) _
        have hh9 : W.heap[e9]? = some (.cells (entA x) 208) := by rw [hW, he9, heap_al, if_pos rfl]
        have l9 : e9 < W.heap.size := (Array.getElem?_eq_some_iff.1 hh9).1
        have c9 : W.cut? e9 0 34 = some (entA x) := cut_heap hh9 (by simp)
        have k9 : W.cut? e9 0 25 = some (row8 x.k.val) := by
          have := cut_sub (i := 0) (m := 25) c9 (by decide)
          rw [Nat.add_zero, entA_key] at this; exact this
        have hcpW : W.cut? pb 0 26 = some (prefA p d) := by rw [cut_of_heap (hbW.block pb hlpr)]; exact hcpr
        have hlpW : pb < W.heap.size := Nat.lt_of_lt_of_le hlpr hbW.size
        simp only [← he9]
        obtain ⟨y, hgy⟩ := HG.out W hbW
        have HGY := Lib.hid hgy
        have HBW := Lib.hid hbW
        clear hW he9 hh9 hbW hgy HG hcutk hcpr hlpr
        go_wp2_with fail
        refine Gives.use HGY.out ?_
        intro xs1 d1
        go_upto_region 6 with fail
        refine wp_name ?_
        intro W1 hW1
        have hb1 : Below W.heap.size W W1 := by rw [hW1]; exact (by repeat (first | exact below_of_grow _ _ | exact Below.refl _ _ | exact below_more _ _ _ _ | (simp only [← Array.append_assoc]; first | exact below_more _ _ _ _ | exact below_same _ _ _ | exact Below.refl _ _) | exact below_same _ _ _ | (refine Below.alloc ?_ (by first | (simp; done) | (simp; omega)) _) | (refine Below.grow ?_ (by first | (simp; done) | (simp; omega)) _ _) | refine Below.drew ?_ | refine Below.drewN ?_ _ | (refine Below.putF ?_ (by first | (simp; done) | omega | (simp; omega)) _) | (refine Below.setCell ?_ (by first | (simp; done) | (simp; omega)) _)))
        have hcp1 : W1.cut? pb 0 26 = some (prefA p d) := by rw [cut_of_heap (hb1.block pb hlpW)]; exact hcpW
        have k91 : W1.cut? e9 0 25 = some (row8 x.k.val) := by rw [cut_of_heap (hb1.block e9 l9)]; exact k9
        have c91 : W1.cut? e9 0 34 = some (entA x) := by rw [cut_of_heap (hb1.block e9 l9)]; exact c9
        have hlp1 : pb < W1.heap.size := Nat.lt_of_lt_of_le hlpW hb1.size
        have l91 : e9 < W1.heap.size := Nat.lt_of_lt_of_le l9 hb1.size
        have HB1 := Lib.hid (HBW.out.trans (hb1.mono HBW.out.size))
        clear hW1 hb1 hcpW k9 c9 hlpW l9 HGY HBW
        go_cut [35] (fun v wx => v = .bool (!isb || !hab) ∧ ∃ xs d, wx = W1.grow xs d)
        case first =>
          cases isb with
          | false =>
            go_wp2_with fail
            go_meet
            exact ⟨rfl, _, _, (World.grow_nil (w := W1)).symm⟩
          | true =>
            go_wp2_with fail
            refine Gives.use (HH.out _) ?_
            intro xs2 d2
            go_wp2_with fail
            go_meet
            exact ⟨by cases hab <;> rfl, _, _, rfl⟩
        case rest =>
          obtain ⟨rfl, xs2, d2, rfl⟩ := hcut
          have hb2 : Below wr.heap.size wr (W1.grow xs2 d2) := HB1.out.trans ((below_of_grow _ _).mono HB1.out.size)
          have HB2 := Lib.hid (HB.out.trans (hb2.mono hszr))
          have HO2 := Lib.hid (HO.out.below hb2)
          cases hcc : (!isb || !hab) with
          | true =>
            have hn2 := HNX.out
            rw [if_pos (by rw [HK.out]; exact hcc)] at hn2
            have HN2 := Lib.hid hn2
            clear hn2 hcc hb2
            go_wp2_with (at_builtin; refine wpList_append (B := W0.heap.size) (xs := R.map entA) (ys := [entA x]) row_entB rfl (.tmp 36) (.tmp 38) rfl (v := u7) rfl ?_ rfl ?_ ?_ ?_ ?_ ?_)
            case refine_1 => exact HO2.out.alloc _
            case refine_2 => exact ⟨_, sl_one (Nat.le_refl _) (by decide) (cut_heap ((heap_al _ _ _).trans (if_pos (by simp))) (by simp))⟩
            case refine_3 => intro z hz; obtain rfl : z = entA x := by simpa using hz
                             exact one_entA x
            case refine_4 => simp; omega
            case refine_5 => have := HB2.out.size; simp at this ⊢; omega
            intro v3 w3 ho hg _
            have hsz2 := HB2.out.size
            have hb3 : Below W0.heap.size W0 w3 := Below.grown ((HB2.out).alloc hsz2 _) hg (by simp at hsz2 ⊢; omega) (fun q hq => by have := HO2.out.lt q hq; simp at this ⊢; omega)
            have HB3 := Lib.hid hb3
            have HO3 := Lib.hid (show OwnA w3 W0.heap.size 34 208 v3 (((l.take (i + 1)).filter (keepE L p d)).map entA) by rw [HN2.out]; simpa using ho)
            clear hb3 ho hg hsz2
            go_wp2_with fail
            go_roundw
            case rel => exact ⟨i + 1, by omega, by go_num, HB3, HO3⟩
            case measure => simp [intOf]; omega
          | false =>
            have hn2 := HNX.out
            rw [if_neg (by rw [HK.out, hcc]; decide)] at hn2
            have HO3 := Lib.hid (show OwnA (W1.grow xs2 d2) W0.heap.size 34 208 u7 (((l.take (i + 1)).filter (keepE L p d)).map entA) by rw [hn2]; exact HO2.out)
            clear hn2 hcc hb2
            go_wp2_with fail
            go_roundw
            case rel => exact ⟨i + 1, by omega, by go_num, HB2, HO3⟩
            case measure => simp [intOf]; omega
      · have hie : i = l.length := by omega
        have hgn : ¬ (i : Int) < l.length := by omega
        have ho := HO.out
        rw [hie, List.take_length] at ho
        have HO2 := Lib.hid ho
        clear ho HO
        go_wp2_with fail
        go_meet
        exact ⟨HB, HO2⟩
  case rest =>
    obtain ⟨HB, HO⟩ := hcut
    obtain ⟨W1, hW1⟩ : ∃ W1, W1 = wc := ⟨_, rfl⟩
    rw [← hW1] at HB HO ⊢
    clear hW1 HL
    have hbw : Below w.heap.size w W1 := H0.out.1.trans (HB.out.mono H0.out.2.2.2)
    have HW := Lib.hid (HWR'.out W1 hbw)
    clear hbw HGT' HWR'
    go_wp2_with fail
    refine HW.out.mono ?_
    rintro e W2 ⟨wv, rfl, hb2, how⟩
    obtain ⟨M, hM⟩ : ∃ M, M = writesB L := ⟨_, rfl⟩
    have hMl : M.length ≤ 1000 := by rw [hM]; unfold writesB; rw [sortK_len, List.length_map]; exact hLl
    rw [← hM] at how
    have HM := Lib.hid hM
    clear hM
    obtain ⟨aw, capw, rfl, hcmw, hclw⟩ := how.form
    rw [List.length_map] at *
    unfold maxLen at hcmw
    have HSL := Lib.hid how.sl
    have HOW := Lib.hid how
    have HB2 := Lib.hid (HB.out.trans (hb2.mono HB.out.size))
    have HO2 := Lib.hid (HO.out.below hb2)
    have HO1 := Lib.hid (fun q e => (HO.out.lt q e).2)
    have hcp2 : W2.cut? pb 0 26 = some (prefA p d) := by rw [cut_of_heap (HB2.out.block pb H0.out.2.2.1)]; exact H0.out.2.1
    have hlp2 : pb < W2.heap.size := Nat.lt_of_lt_of_le H0.out.2.2.1 HB2.out.size
    have hz2 := HB2.out.size
    have hz1 := HB.out.size
    have hz12 := hb2.size
    have hR0 : (l.filter (keepE L p d)).length ≤ 1000 := Nat.le_trans (List.length_filter_le _ _) hlen
    obtain ⟨R0, hR⟩ : ∃ R0, R0 = l.filter (keepE L p d) := ⟨_, rfl⟩
    rw [← hR] at hR0 HO2
    have HR := Lib.hid hR
    clear how hb2 HW HB HO hR
    go_wp2_with fail
    go_loopw [7, 44] (fun s7 s44 wr => ∃ i : Nat, i ≤ M.length ∧ s44 = .int .i64 i ∧ Hid (Below W0.heap.size W0 wr ∧ W2.heap.size ≤ wr.heap.size ∧ (∀ x, W1.heap.size ≤ x → x < W2.heap.size → wr.heap[x]? = W2.heap[x]?) ∧ (∀ q, s7.ownBlock = some q → q < W1.heap.size ∨ W2.heap.size ≤ q)) ∧ Hid (OwnA wr W0.heap.size 34 208 s7 ((R0 ++ ((M.take i).filter (comeW p d)).map entOf).map entA))) (fun _ s44 _ => M.length - (intOf s44).toNat)
    case atStart => exact ⟨0, Nat.zero_le _, rfl, Lib.hid ⟨HB2.out, Nat.le_refl _, fun _ _ _ => rfl, fun q e => .inl (HO1.out q e)⟩, Lib.hid (by simpa using HO2.out)⟩
    case round =>
      obtain ⟨i, hi, rfl, HF, HO⟩ := hrel
      by_cases hlt : i < M.length
      · have hltI : (i : Int) < M.length := by omega
        obtain ⟨_, a', cap', he, _, _, hcc⟩ := HSL.out
        simp only [Value.slice.injEq, List.length_map, true_and] at he
        obtain ⟨rfl, rfl⟩ := he
        obtain ⟨q0, o0, rfl, hlb, hcut⟩ := hcc (by simp; omega)
        have hq1 : W1.heap.size ≤ q0 := (HOW.out.lt q0 rfl).1
        have hcutk : wr.cut? q0 (o0 + i * 35) 35 = some (wrtA M[i]) := by
          rw [cut_of_heap (HF.out.2.2.1 q0 hq1 hlb)]
          exact hcut i (wrtA M[i]) (by simp [hlt])
        have hgr : q0 < wr.heap.size := Nat.lt_of_lt_of_le hlb HF.out.2.1
        have hnx := filter_next (comeW p d) M i hlt
        have hfl : ((M.take i).filter (comeW p d)).length ≤ 1000 := Nat.le_trans (List.length_filter_le _ _) (by simp; omega)
        generalize (M.take i).filter (comeW p d) = R at *
        generalize M[i] = x at *
        have HNX := Lib.hid hnx
        have hcpr : wr.cut? pb 0 26 = some (prefA p d) := by rw [cut_of_heap (HF.out.1.block pb H0.out.2.2.1)]; exact H0.out.2.1
        have hlpr : pb < wr.heap.size := Nat.lt_of_lt_of_le H0.out.2.2.1 HF.out.1.size
        have hszr := HF.out.1.size
        have hszr2 := HF.out.2.1
        obtain ⟨hab, hhab⟩ : ∃ hab, hab = hasB p d x.k := ⟨_, rfl⟩
        have hkp : comeW p d x = (!x.dead && hab) := by unfold comeW; rw [hhab]
        have HK := Lib.hid hkp
        have HH := Lib.hid (show ∀ W, Gives Tryz.prog 116 #[.agg (prefA p d), .agg (row8 x.k.val)] W (.bool hab) from by rw [hhab]; exact fun W => HHAS.out x.k W)
        clear hcut hcc hnx hkp hhab
        go_upto_region 12 with fail
        refine wp_name ?_
        intro W hW
        obtain ⟨e9, he9⟩ : ∃ e9, e9 = wr.heap.size := ⟨_, rfl⟩
        have hbW : Below wr.heap.size wr W := by rw [hW]; exact (Below.refl _ _).alloc (Nat.le_refl _) _
        have hh9 : W.heap[e9]? = some (.cells (wrtA x) 79) := by rw [hW, he9, heap_al, if_pos rfl]
        have l9 : e9 < W.heap.size := (Array.getElem?_eq_some_iff.1 hh9).1
        have k9 : W.cut? e9 0 25 = some (row8 x.k.val) := by
          have := cut_sub (i := 0) (m := 25) (cut_heap hh9 (wrtA_size x)) (by decide)
          rw [Nat.add_zero, wrtA_key] at this; exact this
        have r9 : W.cut? e9 26 9 = some (recA x.r) := by
          have := cut_sub (i := 26) (m := 9) (cut_heap hh9 (wrtA_size x)) (by decide)
          rw [Nat.zero_add, wrtA_rec] at this; exact this
        have d9 : W.cell? ⟨e9, 25, none⟩ = some (.bool x.dead) := (cells_is hh9 25).1.trans (wrtA_25 x)
        have hcpW : W.cut? pb 0 26 = some (prefA p d) := by rw [cut_of_heap (hbW.block pb hlpr)]; exact hcpr
        have hlpW : pb < W.heap.size := Nat.lt_of_lt_of_le hlpr hbW.size
        simp only [← he9]
        have HBW := Lib.hid hbW
        have hkl := x.k.len
        clear hW he9 hh9 hbW hcutk hcpr hlpr
        go_cut [56] (fun v wx => v = .bool (!x.dead && hab) ∧ ∃ xs d, wx = W.grow xs d)
        case first =>
          cases hd : x.dead with
          | true =>
            rw [hd] at d9
            have HD := Lib.hid hd
            clear hd
            go_wp2_with fail
            go_meet
            exact ⟨by rw [HD.out]; rfl, _, _, (World.grow_nil (w := W)).symm⟩
          | false =>
            rw [hd] at d9
            have HD := Lib.hid hd
            clear hd
            go_wp2_with fail
            refine Gives.use (HH.out _) ?_
            intro xs2 d2
            go_wp2_with fail
            go_meet
            exact ⟨by rw [HD.out]; cases hab <;> rfl, _, _, rfl⟩
        case rest =>
          obtain ⟨rfl, xs2, d2, rfl⟩ := hcut
          obtain ⟨V, hV⟩ : ∃ V, V = W.grow xs2 d2 := ⟨_, rfl⟩
          rw [← hV]
          have hbV : Below W.heap.size W V := by rw [hV]; exact below_of_grow _ _
          have k1 : V.cut? e9 0 25 = some (row8 x.k.val) := by rw [cut_of_heap (hbV.block e9 l9)]; exact k9
          have r1 : V.cut? e9 26 9 = some (recA x.r) := by rw [cut_of_heap (hbV.block e9 l9)]; exact r9
          have l1 : e9 < V.heap.size := Nat.lt_of_lt_of_le l9 hbV.size
          have hb2 : Below wr.heap.size wr V := HBW.out.trans (hbV.mono HBW.out.size)
          have hzV := hb2.size
          have HB2 := Lib.hid (HF.out.1.trans (hb2.mono hszr))
          have HO2 := Lib.hid (HO.out.below hb2)
          have HKP := Lib.hid (fun y (h1 : W1.heap.size ≤ y) (h2 : y < W2.heap.size) => (hb2.block y (by omega)).trans (HF.out.2.2.1 y h1 h2))
          clear hV hbV k9 r9 d9 hcpW hlpW l9 HBW hb2
          cases hcc : (!x.dead && hab) with
          | true =>
            have hn2 := HNX.out
            rw [if_pos (by rw [HK.out]; exact hcc)] at hn2
            have HN2 := Lib.hid hn2
            clear hn2 hcc
            have hent : entA ⟨x.k, x.r⟩ = entA (entOf x) := rfl
            have HENT := Lib.hid hent
            clear hent
            obtain ⟨xk, xd, xr⟩ := x
            go_wp2_with (at_builtin; refine wpList_append (B := W0.heap.size) (xs := (R0 ++ R.map entOf).map entA) (ys := [entA ⟨xk, xr⟩]) row_entB rfl (.tmp 57) (.tmp 63) rfl (v := u7) rfl ?_ rfl ?_ ?_ ?_ ?_ ?_)
            case refine_1 => have := HO2.out.alloc (.cells (entA ⟨xk, xr⟩) 208); simpa using this
            case refine_2 => exact ⟨_, sl_one (Nat.le_refl _) (by decide) (cut_heap ((heap_al _ _ _).trans (if_pos (by simp))) (by simp))⟩
            case refine_4 => first | omega | (simp; omega)
            case refine_5 => have := HB2.out.size; first | omega | (simp at this ⊢; omega)
            intro v3 w3 ho hg hv
            have hsz2 := HB2.out.size
            have hb3 : Below W0.heap.size W0 w3 := Below.grown ((HB2.out).alloc hsz2 _) hg (by simp at hsz2 ⊢; omega) (fun q hq => by have := HO2.out.lt q hq; simp at this ⊢; omega)
            have hkp3 : ∀ y, W1.heap.size ≤ y → y < W2.heap.size → w3.heap[y]? = W2.heap[y]? := fun y h1 h2 => by
              rw [hg.block y (by simp; omega) (fun e => by rcases HF.out.2.2.2 y e.symm with h | h <;> omega), heap_alloc_old (w := V) _ (by omega)]
              exact HKP.out y h1 h2
            have hown3 : ∀ q, v3.ownBlock = some q → q < W1.heap.size ∨ W2.heap.size ≤ q := fun q e => by
              rcases hv with h | h
              · exact HF.out.2.2.2 q (h ▸ e)
              · rw [h] at e; simp at e; omega
            have hz3 : W2.heap.size ≤ w3.heap.size := by have := hg.size; simp at this; omega
            have HF3 := Lib.hid (And.intro hb3 (And.intro hz3 (And.intro hkp3 hown3)))
            have HO3 := Lib.hid (show OwnA w3 W0.heap.size 34 208 v3 ((R0 ++ ((M.take (i + 1)).filter (comeW p d)).map entOf).map entA) by rw [HN2.out]; simpa [entOf] using ho)
            clear hb3 ho hg hsz2 hv hkp3 hown3 hz3
            go_wp2_with fail
            go_roundw
            case rel => exact ⟨i + 1, by omega, by go_num, HF3, HO3⟩
            case measure => simp [intOf]; omega
          | false =>
            have hn2 := HNX.out
            rw [if_neg (by rw [HK.out, hcc]; decide)] at hn2
            have HO3 := Lib.hid (show OwnA V W0.heap.size 34 208 u7 ((R0 ++ ((M.take (i + 1)).filter (comeW p d)).map entOf).map entA) by rw [hn2]; exact HO2.out)
            have HF3 := Lib.hid (And.intro HB2.out (And.intro (show W2.heap.size ≤ V.heap.size by omega) (And.intro HKP.out HF.out.2.2.2)))
            clear hn2 hcc
            go_wp2_with fail
            go_roundw
            case rel => exact ⟨i + 1, by omega, by go_num, HF3, HO3⟩
            case measure => simp [intOf]; omega
      · have hie : i = M.length := by omega
        have hgn : ¬ (i : Int) < M.length := by omega
        have ho := HO.out
        rw [hie, List.take_length] at ho
        have hol : (R0 ++ (M.filter (comeW p d)).map entOf).length ≤ 100000 := by
          have := List.length_filter_le (comeW p d) M
          rw [List.length_append, List.length_map]; omega
        have HOC := Lib.hid (orderOver_calls _ u7 wr W0.heap.size HF.out.1.size ho hol)
        have HB := Lib.hid HF.out.1
        have hov : R0 ++ (M.filter (comeW p d)).map entOf = overL L p d l := by rw [HR.out, HM.out]; rfl
        have HOV := Lib.hid hov
        clear ho HO hov hol HF
        go_wp2_with fail
        refine HOC.out.mono ?_
        rintro e w5 ⟨rfl, l', hp, hs, ho, hb5⟩
        have HZ := Lib.hid (And.intro hp (And.intro hs (And.intro ho hb5)))
        clear hp hs ho hb5 HOC
        go_wp2_with fail
        go_ret
        exact ⟨_, l', rfl, H0.out.1.trans ((HB.out.trans HZ.out.2.2.2).mono H0.out.2.2.2), by rw [← HOV.out]; exact HZ.out.1, HZ.out.2.1, HZ.out.2.2.1.mono H0.out.2.2.2⟩
end Go.Proofs.YtfmphfidloobkaaGreatDoor
namespace Go.Proofs.YtfmphfidloobkaaGreatDoor
set_option maxRecDepth 100000
open Go.RowKit

section
variable {P : Program} {t e : TypeId} {sz : Nat} {zero : Value}
theorem run_newRow (w : World) (e : TypeId) (c : Array Value) : (newRow e c).run P w = .ok ⟨w.heap.size, 0, none⟩ (w.alloc (.cells c e)) := by
  simp [newRow, newObj, go_sem, Result.andThen]
  rfl
theorem run_buildSlice3 (w : World) (ht : P.underlying t = some (.slice e)) (hs : ∀ w, (sizeOf e).run P w = .ok sz w) (hz : ∀ w, (zeroValue e).run P w = .ok zero w) (h0 : 0 < sz) (hb : sz ≤ 1000) {a b c : Value} (ha : a.cells.size = sz) (hb' : b.cells.size = sz) (hc : c.cells.size = sz) :
    (Instr.buildSlice t 3 #[(0, a), (1, b), (2, c)]).run P w = .ok (.slice (some ⟨w.heap.size, 0, none⟩) 3 3) (w.alloc (.cells (a.cells ++ b.cells ++ c.cells) e)) := by
  have hf : ∀ z : Array Value, z.size = 3 * sz → Instr.fill (fun i => some (i * sz, sz)) z [(0, a), (1, b), (2, c)] = some (a.cells ++ b.cells ++ c.cells) := by
    intro z hzs
    have e0 : z = #[] ++ z := by simp
    rw [e0, fill_one (off := 0) (size := sz) (by simp) rfl ha (by omega), fill_one (off := sz) (size := sz) (by simp) (by simp [ha]) hb' (by simp; omega), fill_one (off := 2 * sz) (size := sz) (by simp) (by simp [ha, hb']; omega) hc (by simp; omega), fill_none]
    refine congrArg some ?_
    rw [Array.extract_eq_empty_of_le (by simp; omega)]
    simp
  unfold Instr.buildSlice
  simp only [Sem.run_bind, run_underlying ht, hs, Result.andThen]
  rw [if_neg (by omega), if_neg (by omega)]
  simp only [Sem.run_bind, hz, Result.andThen, Sem.run_pure]
  rw [hf _ (by simp)]
  simp only [Sem.run_bind, run_newRow, Result.andThen, Sem.run_pure]
theorem run_buildSlice2 (w : World) (ht : P.underlying t = some (.slice e)) (hs : ∀ w, (sizeOf e).run P w = .ok sz w) (hz : ∀ w, (zeroValue e).run P w = .ok zero w) (h0 : 0 < sz) (hb : sz ≤ 1000) {a b : Value} (ha : a.cells.size = sz) (hb' : b.cells.size = sz) :
    (Instr.buildSlice t 2 #[(0, a), (1, b)]).run P w = .ok (.slice (some ⟨w.heap.size, 0, none⟩) 2 2) (w.alloc (.cells (a.cells ++ b.cells) e)) := by
  have hf : ∀ z : Array Value, z.size = 2 * sz → Instr.fill (fun i => some (i * sz, sz)) z [(0, a), (1, b)] = some (a.cells ++ b.cells) := by
    intro z hzs
    have e0 : z = #[] ++ z := by simp
    rw [e0, fill_one (off := 0) (size := sz) (by simp) rfl ha (by omega), fill_one (off := sz) (size := sz) (by simp) (by simp [ha]) hb' (by simp; omega), fill_none]
    refine congrArg some ?_
    rw [Array.extract_eq_empty_of_le (by simp; omega)]
    simp
  unfold Instr.buildSlice
  simp only [Sem.run_bind, run_underlying ht, hs, Result.andThen]
  rw [if_neg (by omega), if_neg (by omega)]
  simp only [Sem.run_bind, hz, Result.andThen, Sem.run_pure]
  rw [hf _ (by simp)]
  simp only [Sem.run_bind, run_newRow, Result.andThen, Sem.run_pure]
end
def bldSl3 (t : TypeId) (p q r : Nat × Value) : Sem Value := Instr.buildSlice t 3 #[p, q, r]
def bldSl2 (t : TypeId) (p q : Nat × Value) : Sem Value := Instr.buildSlice t 2 #[p, q]
@[go_sem ↓ high] theorem bSl3_eq (t : TypeId) (f : Nat × Operand → Nat × Value) (p q r : Nat × Operand) : Instr.buildSlice t 3 (Array.map f #[p, q, r]) = bldSl3 t (f p) (f q) (f r) := by simp [bldSl3]
@[go_sem ↓ high] theorem bSl2_eq (t : TypeId) (f : Nat × Operand → Nat × Value) (p q : Nat × Operand) : Instr.buildSlice t 2 (Array.map f #[p, q]) = bldSl2 t (f p) (f q) := by simp [bldSl2]
end Go.Proofs.YtfmphfidloobkaaGreatDoor
namespace Go.Proofs.YtfmphfidloobkaaGreatDoor
set_option maxRecDepth 100000
open Go.RowKit

theorem blen_gives {w : World} {B b : Nat} {g : BG} (h : BufAt w B b g) : Gives Tryz.prog 39 #[.pointer (some ⟨b, 0, none⟩)] w (.int .i64 g.W.length) := by
  have hbl : b < w.heap.size := h.lt b (by simp [BG.blocks])
  have hc : w.cell? ⟨b, 0, none⟩ = some (.map g.m1) := (cells_is h.cells 0).1
  have hw1 := h.w1
  obtain ⟨n, hn⟩ : ∃ n, n = g.W.length := ⟨_, rfl⟩
  rcases hw1 with ⟨hm, hL⟩ | ⟨m, hm, hM⟩
  · rw [hm] at hc
    rw [← hn]
    rw [hL] at hn
    subst hn
    clear h hm hL
    unfold Gives
    go_enter Tryz.func39, Tryz.ntmps39
    go_wp2_with fail
    go_ret
    exact ⟨rfl, (by repeat (first | exact below_of_grow _ _ | exact Below.refl _ _ | exact below_more _ _ _ _ | (simp only [← Array.append_assoc]; first | exact below_more _ _ _ _ | exact below_same _ _ _ | exact Below.refl _ _) | exact below_same _ _ _ | (refine Below.alloc ?_ (by first | (simp; done) | (simp; omega)) _) | (refine Below.grow ?_ (by first | (simp; done) | (simp; omega)) _ _) | refine Below.drew ?_ | refine Below.drewN ?_ _ | (refine Below.putF ?_ (by first | (simp; done) | omega | (simp; omega)) _) | (refine Below.setCell ?_ (by first | (simp; done) | (simp; omega)) _)))⟩
  · rw [hm] at hc
    have hln := len_run (P := Tryz.prog) (ty := 3) Tryz.underlying92 hM
    rw [← hn] at hln ⊢
    clear h hm hM hn
    unfold Gives
    go_enter Tryz.func39, Tryz.ntmps39
    go_wp2_with fail
    go_ret
    exact ⟨rfl, (by repeat (first | exact below_of_grow _ _ | exact Below.refl _ _ | exact below_more _ _ _ _ | (simp only [← Array.append_assoc]; first | exact below_more _ _ _ _ | exact below_same _ _ _ | exact Below.refl _ _) | exact below_same _ _ _ | (refine Below.alloc ?_ (by first | (simp; done) | (simp; omega)) _) | (refine Below.grow ?_ (by first | (simp; done) | (simp; omega)) _ _) | refine Below.drew ?_ | refine Below.drewN ?_ _ | (refine Below.putF ?_ (by first | (simp; done) | omega | (simp; omega)) _) | (refine Below.setCell ?_ (by first | (simp; done) | (simp; omega)) _)))⟩
theorem bput_over {w : World} {B b : Nat} {g : BG} (h : BufAt w B b g) (hlen : g.W.length ≤ 1000) (p : K25) (d : Int) (lv : Value) (l : List Ent) (hll : l.length ≤ 1000) (hl : SlA w w.heap.size 34 lv (l.map entA)) :
    Calls Tryz.prog 80 #[.pointer (some ⟨b, 0, none⟩), lv, .agg (prefA p d)] w fun e w' => ∃ (v' : Value) (l' : List Ent), e = .returned v' ∧ Below w.heap.size w w' ∧ l'.Perm (overL g.W p d l) ∧ l'.Pairwise (fun x y => lessL y.k.val x.k.val = false) ∧ OwnA w' w.heap.size 34 208 v' (l'.map entA) :=
  over_calls _ g.W p d lv l hll hlen hl (fun _ hb k => ⟨_, bget_gives (h.keep hb) k⟩) (fun _ hb => writes_calls (h.keep hb) hlen)

/-! the example -/
def recP : Rec := kindR 1
def kY : K25 := keyK 1 1 0
def kZ2 : K25 := keyK 1 2 0
@[go_sem] theorem bRecP_run (w : World) : (bld1 77 (0, .int .u8 1)).run Tryz.prog w = .ok (.agg (recA recP)) w := bRec1_run 1 w
@[go_sem ↓ high] theorem bKey2_eq (f : Nat × Operand → Nat × Value) (p q : Nat × Operand) : Instr.build 74 (Array.map f #[p, q]) = bld2 74 (f p) (f q) := by simp [bld2]
@[go_sem] theorem bKeyY_run (w : World) : (bld2 74 (0, .int .u8 1) (1, .int .u8 1)).run Tryz.prog w = .ok (.agg (row8 kY.val)) w := by
  unfold bld2
  refine build_of (zero := .agg (row8 (zeros 25))) (places := #[(0, 1), (1, 1), (2, 1), (3, 12), (15, 10)]) (by intro w; exact (Tryz.zeroValue74 w).trans rfl) Tryz.underlying74 (by intro w; kernel_rfl) ?_
  rfl
@[go_sem] theorem bKeyZ_run (w : World) : (bld2 74 (0, .int .u8 1) (1, .int .u8 2)).run Tryz.prog w = .ok (.agg (row8 kZ2.val)) w := by
  unfold bld2
  refine build_of (zero := .agg (row8 (zeros 25))) (places := #[(0, 1), (1, 1), (2, 1), (3, 12), (15, 10)]) (by intro w; exact (Tryz.zeroValue74 w).trans rfl) Tryz.underlying74 (by intro w; kernel_rfl) ?_
  rfl
@[go_sem ↓ high] theorem bPref0B_run (w : World) : (Instr.build 102 #[]).run Tryz.prog w = .ok (.agg (prefA kZB 0)) w := by kernel_rfl
def kw1 : Wr := ⟨kP, false, recP⟩
def kw2 : Wr := ⟨kP, true, Rec.zero⟩
def kw3 : Wr := ⟨kY, false, recP⟩
def kL3 : MW := [(kP, kw2), (kY, kw3)]
theorem put17 : putL [] [kw1, kw2, kw3] = (kL3, 3, 0) := by
  have h1 : checkE [kw1] = 0 := by decide +kernel
  have h2 : checkE [kw2] = 0 := by decide +kernel
  have h3 : checkE [kw3] = 0 := by decide +kernel
  unfold putL
  rw [if_pos h1, if_neg (by simp)]
  unfold putL
  rw [if_pos h2, if_neg (by decide)]
  unfold putL
  rw [if_pos h3, if_neg (by decide)]
  unfold putL
  simp only [Prod.mk.injEq]
  refine ⟨?_, by decide, trivial⟩
  decide +kernel
theorem writes17 : writesB kL3 = [kw2, kw3] := by
  refine (sortK_unique (f := fun x : Wr => x.k) ?_ (List.Perm.refl _) ?_).symm
  · decide +kernel
  · decide +kernel
theorem over17 : overL kL3 kZB 0 [⟨kP, recP⟩, ⟨kZ2, recP⟩] = [⟨kZ2, recP⟩, ⟨kY, recP⟩] := by
  unfold overL
  rw [writes17]
  decide +kernel
theorem over17' {l' : List Ent} (hp : l'.Perm (overL kL3 kZB 0 [⟨kP, recP⟩, ⟨kZ2, recP⟩])) (hs : l'.Pairwise (fun x y => lessL y.k.val x.k.val = false)) : l' = [⟨kY, recP⟩, ⟨kZ2, recP⟩] := by
  rw [over17] at hp
  have h1 : l' = sortK (fun e : Ent => e.k) [⟨kZ2, recP⟩, ⟨kY, recP⟩] := sortK_unique (by decide +kernel) hp hs
  have h2 : [⟨kY, recP⟩, ⟨kZ2, recP⟩] = sortK (fun e : Ent => e.k) [⟨kZ2, recP⟩, ⟨kY, recP⟩] := sortK_unique (by decide +kernel) (List.Perm.swap _ _ _) (by decide +kernel)
  rw [h1, h2]
theorem sl_parts3 {w : World} {b sz : Nat} {x y z : Array Value} {t : TypeId} (h : w.heap[b]? = some (.cells (x ++ y ++ z) t)) (hx : x.size = sz) (hy : y.size = sz) (hz : z.size = sz) : SlA w (b + 1) sz (.slice (some ⟨b, 0, none⟩) 3 3) [x, y, z] := by
  refine ⟨fun u hu => by simp at hu; rcases hu with rfl | rfl | rfl <;> assumption, _, 3, rfl, Nat.le_refl _, by decide, fun _ => ⟨b, 0, rfl, by omega, fun i u hi => ?_⟩⟩
  have hc := cut_heap (sz := 3 * sz) h (by simp [hx, hy, hz]; omega)
  have e : x ++ y ++ z = (x.toList ++ y.toList ++ z.toList).toArray := by simp
  have lx : x.toList.length = sz := by simpa using hx
  have ly : y.toList.length = sz := by simpa using hy
  have lz : z.toList.length = sz := by simpa using hz
  have hcs : ∀ j, j + sz ≤ 3 * sz → w.cut? b (0 + j) sz = some ((x ++ y ++ z).extract j (j + sz)) := fun j hj => cut_sub hc hj
  match i, hi with
  | 0, hi =>
    simp at hi; subst hi
    rw [Nat.zero_mul, hcs 0 (by omega), e, List.append_assoc, Nat.zero_add]
    rw [ext_front _ _ sz lx]
  | 1, hi =>
    simp at hi; subst hi
    rw [Nat.one_mul, hcs sz (by omega), e]
    have := ext_mid z.toList x.toList y.toList sz lx
    rw [ly] at this
    rw [this]
  | 2, hi =>
    simp at hi; subst hi
    rw [hcs (2 * sz) (by omega), e]
    have := ext_list z.toList (x.toList ++ y.toList) (2 * sz) (by rw [List.length_append, lx, ly]; omega)
    rw [lz] at this
    rw [this]
theorem sl_parts2 {w : World} {b sz : Nat} {x y : Array Value} {t : TypeId} (h : w.heap[b]? = some (.cells (x ++ y) t)) (hx : x.size = sz) (hy : y.size = sz) : SlA w (b + 1) sz (.slice (some ⟨b, 0, none⟩) 2 2) [x, y] := by
  refine ⟨fun u hu => by simp at hu; rcases hu with rfl | rfl <;> assumption, _, 2, rfl, Nat.le_refl _, by decide, fun _ => ⟨b, 0, rfl, by omega, fun i u hi => ?_⟩⟩
  have hc := cut_heap (sz := 2 * sz) h (by simp [hx, hy]; omega)
  have e : x ++ y = (x.toList ++ y.toList).toArray := by simp
  have lx : x.toList.length = sz := by simpa using hx
  have ly : y.toList.length = sz := by simpa using hy
  have hcs : ∀ j, j + sz ≤ 2 * sz → w.cut? b (0 + j) sz = some ((x ++ y).extract j (j + sz)) := fun j hj => cut_sub hc hj
  match i, hi with
  | 0, hi =>
    simp at hi; subst hi
    rw [Nat.zero_mul, hcs 0 (by omega), e, Nat.zero_add]
    rw [ext_front _ _ sz lx]
  | 1, hi =>
    simp at hi; subst hi
    rw [Nat.one_mul, hcs sz (by omega), e]
    have := ext_list y.toList x.toList sz lx
    rw [ly] at this
    rw [this]
theorem heap_al3 {w : World} (x y z : Obj) (q : Nat) (hq : q = w.heap.size) : (((w.alloc x).alloc y).alloc z).heap[q]? = some x ∧ (((w.alloc x).alloc y).alloc z).heap[q + 1]? = some y ∧ (((w.alloc x).alloc y).alloc z).heap[q + 1 + 1]? = some z := by
  subst hq
  refine ⟨?_, ?_, ?_⟩
  · rw [heap_al, if_neg (by simp; omega), heap_al, if_neg (by simp), heap_al, if_pos rfl]
  · rw [heap_al, if_neg (by simp), heap_al, if_pos (by simp)]
  · rw [heap_al, if_pos (by simp)]
theorem there_of {w : World} {n sz : Nat} {c : Array Value} {t : TypeId} (h : w.heap[n]? = some (.cells c t)) (hs : sz ≤ c.size) : w.there? n 0 sz = true := by
  unfold World.there?; rw [h]; simpa using hs
theorem lay_al3 {w : World} {x y z : Array Value} {t1 t2 t3 : TypeId} {q : Nat} (hq : q = w.heap.size) (vs : Array Value) (h : vs.size = x.size) :
    (((w.alloc (.cells x t1)).alloc (.cells y t2)).alloc (.cells z t3)).lay q 0 vs = ((w.alloc (.cells vs t1)).alloc (.cells y t2)).alloc (.cells z t3) := by
  subst hq
  rw [lay_alloc_past _ _ _ _ (by simp; omega), lay_alloc_past _ _ _ _ (by simp), lay_alloc_at _ _ _ _ _ rfl, splice_full h]
theorem lay_al3' {w : World} {x : Obj} {y z : Array Value} {t2 t3 : TypeId} {q : Nat} (hq : q = w.heap.size + 1) (vs : Array Value) (h : vs.size = y.size) :
    (((w.alloc x).alloc (.cells y t2)).alloc (.cells z t3)).lay q 0 vs = ((w.alloc x).alloc (.cells vs t2)).alloc (.cells z t3) := by
  subst hq
  rw [lay_alloc_past _ _ _ _ (by simp), lay_alloc_at _ _ _ _ _ (by simp), splice_full h]
theorem wrt_cells (x : Wr) : (Value.agg (wrtA x)).cells.size = 35 := by simp [Value.cells]
theorem ent_cells (x : Ent) : (Value.agg (entA x)).cells.size = 34 := by simp [Value.cells]
@[go_sem] theorem bSlWr3_run (x y z : Wr) (w : World) : (bldSl3 22 (0, .agg (wrtA x)) (1, .agg (wrtA y)) (2, .agg (wrtA z))).run Tryz.prog w = .ok (.slice (some ⟨w.heap.size, 0, none⟩) 3 3) (w.alloc (.cells (wrtA x ++ wrtA y ++ wrtA z) 79)) :=
  run_buildSlice3 w Tryz.underlying22 (fun w => Tryz.sizeOf79 w) (fun w => Tryz.zeroValue79 w) (by decide) (by decide) (wrt_cells x) (wrt_cells y) (wrt_cells z)
@[go_sem] theorem bSlEnt2_run (x y : Ent) (w : World) : (bldSl2 205 (0, .agg (entA x)) (1, .agg (entA y))).run Tryz.prog w = .ok (.slice (some ⟨w.heap.size, 0, none⟩) 2 2) (w.alloc (.cells (entA x ++ entA y) 208)) :=
  run_buildSlice2 w Tryz.underlying205 (fun w => Tryz.sizeOf208 w) (fun w => Tryz.zeroValue208 w) (by decide) (by decide) (ent_cells x) (ent_cells y)
@[go_sem] theorem row8_kP : (row8 (zeros 25)).setIfInBounds 0 (.int .u8 1) = row8 kP.val := by rfl
set_option maxHeartbeats 8000000 in
theorem known17_gives (w : World) : Gives Tryz.prog 36 #[] w (.bool true) := by
  unfold Gives
  go_enter Tryz.func36, Tryz.ntmps36
  go_upto_region 3 with fail
  refine wp_name ?_
  intro W0 hW0
  obtain ⟨b, hb⟩ : ∃ b, b = w.heap.size := ⟨_, rfl⟩
  have hb0 : Below w.heap.size w W0 := by rw [hW0]; exact (by repeat (first | exact below_of_grow _ _ | exact Below.refl _ _ | exact below_more _ _ _ _ | (simp only [← Array.append_assoc]; first | exact below_more _ _ _ _ | exact below_same _ _ _ | exact Below.refl _ _) | exact below_same _ _ _ | (refine Below.alloc ?_ (by first | (simp; done) | (simp; omega)) _) | (refine Below.grow ?_ (by first | (simp; done) | (simp; omega)) _ _) | refine Below.drew ?_ | refine Below.drewN ?_ _ | (refine Below.putF ?_ (by first | (simp; done) | omega | (simp; omega)) _) | (refine Below.setCell ?_ (by first | (simp; done) | (simp; omega)) _)))
  have hsz : W0.heap.size = b + 1 + 1 := by rw [hW0, hb]; simp
  have hB0 : BufAt W0 w.heap.size b emptyB := by rw [hW0, hb]; exact (bufNew w).keep ((Below.refl _ _).alloc (Nat.le_refl _) _)
  have hr0 : W0.heap[b + 1]? = some (.cells (recA recP) 77) := by rw [hW0, hb, heap_al, if_pos (by simp)]
  simp only [← hb]
  have zsz : ∀ k : K25, (row8 k.val).size = (row8 (zeros 25)).size := fun k => by simp [k.len, zeros]
  have t3 : (((W0.alloc (.cells (row8 (zeros 25)) 74)).alloc (.cells (row8 (zeros 25)) 74)).alloc (.cells (row8 (zeros 25)) 74)).there? W0.heap.size 0 25 = true := there_of (heap_al3 _ _ _ W0.heap.size rfl).1 (by simp [zeros])
  have l3 := lay_al3 (w := W0) (x := row8 (zeros 25)) (y := row8 (zeros 25)) (z := row8 (zeros 25)) (t1 := 74) (t2 := 74) (t3 := 74) (q := W0.heap.size) rfl (row8 kP.val) (zsz kP)
  have t4 : (((W0.alloc (.cells (row8 kP.val) 74)).alloc (.cells (row8 (zeros 25)) 74)).alloc (.cells (row8 (zeros 25)) 74)).there? (W0.heap.size + 1) 0 25 = true := there_of (heap_al3 _ _ _ W0.heap.size rfl).2.1 (by simp [zeros])
  have l4 := lay_al3' (w := W0) (x := .cells (row8 kP.val) 74) (y := row8 (zeros 25)) (z := row8 (zeros 25)) (t2 := 74) (t3 := 74) (q := W0.heap.size + 1) rfl (row8 kY.val) (zsz kY)
  have H0 := Lib.hid (And.intro hb (And.intro hb0 (And.intro hsz (And.intro hB0 hr0))))
  clear hW0 hb hb0 hsz hB0 hr0 zsz
  have z25 : ∀ k : K25, (row8 k.val).size = 25 := fun k => by simp [k.len]
  have hzP := z25 kP
  have hzY := z25 kY
  have hzZ := z25 kZ2
  go_upto_region 4 with fail
  refine wp_name ?_
  intro W1 hW1
  obtain ⟨hb, hb0, hsz, hB0, hr0⟩ := H0.out
  have hb1 : Below W0.heap.size W0 W1 := by rw [hW1]; exact (by repeat (first | exact below_of_grow _ _ | exact Below.refl _ _ | exact below_more _ _ _ _ | (simp only [← Array.append_assoc]; first | exact below_more _ _ _ _ | exact below_same _ _ _ | exact Below.refl _ _) | exact below_same _ _ _ | (refine Below.alloc ?_ (by first | (simp; done) | (simp; omega)) _) | (refine Below.grow ?_ (by first | (simp; done) | (simp; omega)) _ _) | refine Below.drew ?_ | refine Below.drewN ?_ _ | (refine Below.putF ?_ (by first | (simp; done) | omega | (simp; omega)) _) | (refine Below.setCell ?_ (by first | (simp; done) | (simp; omega)) _)))
  obtain ⟨k3, k4, k5⟩ := heap_al3 (w := W0) (.cells (row8 kP.val) 74) (.cells (row8 kY.val) 74) (.cells (row8 kZ2.val) 74) W0.heap.size rfl
  rw [← hW1] at k3 k4 k5
  obtain ⟨q, hq⟩ : ∃ q, q = W0.heap.size := ⟨_, rfl⟩
  have hz1 : W1.heap.size = q + 1 + 1 + 1 := by rw [hW1, hq]; simp
  have hB1 := hB0.keep hb1
  have hr1 : W1.heap[b + 1]? = some (.cells (recA recP) 77) := (hb1.block _ (by omega)).trans hr0
  have c2 := cut_heap hr1 (show (recA recP).size = 9 from rfl)
  have c3 := cut_heap k3 hzP
  have c4 := cut_heap k4 hzY
  have c5 := cut_heap k5 hzZ
  simp only [← hq] at c3 c4 c5 ⊢
  have l2 : b + 1 < W1.heap.size := by omega
  have l3' : q < W1.heap.size := by omega
  have l4' : q + 1 < W1.heap.size := by omega
  have l5' : q + 1 + 1 < W1.heap.size := by omega
  have hqb : b < q := by omega
  have H1 := Lib.hid (And.intro hb (And.intro (hb0.trans (hb1.mono hb0.size)) hB1))
  clear H0 hW1 hb hb0 hsz hB0 hr0 hb1 k3 k4 k5 hq hz1 hB1 hr1 t3 l3 t4 l4 z25 hzP hzY hzZ
  have HP := Lib.hid (fun (W : World) (hbW : Below W1.heap.size W1 W) (lb : Nat) (hh : W.heap[lb]? = some (.cells (wrtA kw1 ++ wrtA kw2 ++ wrtA kw3) 79)) (hge : W1.heap.size ≤ lb) =>
    show Calls Tryz.prog 26 #[.pointer (some ⟨b, 0, none⟩), .slice (some ⟨lb, 0, none⟩) 3 3] W fun e w' => e = .returned (.tuple #[.int .i64 3, .int .i64 0]) ∧ ∃ g', BufAt w' w.heap.size b g' ∧ BEvo b W emptyB w' g' ∧ g'.W = kL3 from by
      have hsl := (sl_parts3 hh (wrtA_size kw1) (wrtA_size kw2) (wrtA_size kw3)).more (show lb + 1 ≤ W.heap.size from (Array.getElem?_eq_some_iff.1 hh).1)
      refine (bput_calls (H1.out.2.2.keep hbW) (Nat.zero_le _) _ [kw1, kw2, kw3] hsl ?_).mono ?_
      · intro q o n c e _ hm
        simp only [Value.slice.injEq, Option.some.injEq, Addr.mk.injEq] at e
        have := H1.out.2.2.lt q hm
        omega
      · rintro e w' ⟨he, g', g1, g2, g3, _⟩
        rw [show emptyB.W = [] from rfl, put17] at he g3
        exact ⟨he, g', g1, g2, g3⟩)
  go_wp2_with fail
  refine (HP.out _ (by repeat (first | exact below_of_grow _ _ | exact Below.refl _ _ | exact below_more _ _ _ _ | (simp only [← Array.append_assoc]; first | exact below_more _ _ _ _ | exact below_same _ _ _ | exact Below.refl _ _) | exact below_same _ _ _ | (refine Below.alloc ?_ (by first | (simp; done) | (simp; omega)) _) | (refine Below.grow ?_ (by first | (simp; done) | (simp; omega)) _ _) | refine Below.drew ?_ | refine Below.drewN ?_ _ | (refine Below.putF ?_ (by first | (simp; done) | omega | (simp; omega)) _) | (refine Below.setCell ?_ (by first | (simp; done) | (simp; omega)) _))) _ ?_ (Nat.le_refl _)).mono ?_
  · exact (heap_al _ _ _).trans ((if_pos rfl).trans (by simp only [kw1, kw2, kw3, Array.append_assoc]))
  rintro e w2 ⟨rfl, g', hB2, hE2, hW2⟩
  obtain ⟨V, hV⟩ : ∃ V, V = W1.alloc (Obj.cells (wrtA ⟨kP, false, recP⟩ ++ (wrtA ⟨kP, true, Rec.zero⟩ ++ wrtA ⟨kY, false, recP⟩)) 79) := ⟨_, rfl⟩
  rw [← hV] at hE2
  have hbV : Below W1.heap.size W1 V := by rw [hV]; exact (Below.refl _ _).alloc (Nat.le_refl _) _
  have hkp : ∀ y, y < W1.heap.size → y ≠ b → w2.heap[y]? = W1.heap[y]? := fun y hy hne => (hE2.1.same y (Nat.lt_of_lt_of_le hy hbV.size) (by simpa [BG.blocks, emptyB, Value.ownBlock] using hne)).trans (hbV.block y hy)
  have hb2 : Below w.heap.size w w2 := (H1.out.2.1.trans (hbV.mono H1.out.2.1.size)).trans (hE2.below (H1.out.2.2.keep hbV))
  have hsz2 : W1.heap.size ≤ w2.heap.size := Nat.le_trans hbV.size hE2.1.size
  have d2 : w2.cut? (b + 1) 0 9 = some (recA recP) := by rw [cut_of_heap (hkp _ l2 (by omega))]; exact c2
  have d3 : w2.cut? q 0 25 = some (row8 kP.val) := by rw [cut_of_heap (hkp _ l3' (by omega))]; exact c3
  have d4 : w2.cut? (q + 1) 0 25 = some (row8 kY.val) := by rw [cut_of_heap (hkp _ l4' (by omega))]; exact c4
  have d5 : w2.cut? (q + 1 + 1) 0 25 = some (row8 kZ2.val) := by rw [cut_of_heap (hkp _ l5' (by omega))]; exact c5
  have m2 : b + 1 < w2.heap.size := by omega
  have m3 : q < w2.heap.size := by omega
  have m4 : q + 1 < w2.heap.size := by omega
  have m5 : q + 1 + 1 < w2.heap.size := by omega
  have H2 := Lib.hid (And.intro hb2 (And.intro hB2 (And.intro hW2 hqb)))
  have HOV := Lib.hid (fun (W : World) (hbW : Below w2.heap.size w2 W) (lb : Nat) (hh : W.heap[lb]? = some (.cells (entA ⟨kP, recP⟩ ++ entA ⟨kZ2, recP⟩) 208)) =>
    show Calls Tryz.prog 80 #[.pointer (some ⟨b, 0, none⟩), .slice (some ⟨lb, 0, none⟩) 2 2, .agg (prefA kZB 0)] W fun e w' => ∃ v', e = .returned v' ∧ Below W.heap.size W w' ∧ OwnA w' W.heap.size 34 208 v' ([⟨kY, recP⟩, ⟨kZ2, recP⟩].map entA) from by
      have hsl := (sl_parts2 hh (entA_size _) (entA_size _)).more (show lb + 1 ≤ W.heap.size from (Array.getElem?_eq_some_iff.1 hh).1)
      refine (bput_over (H2.out.2.1.keep hbW) (by rw [H2.out.2.2.1]; decide) kZB 0 _ [⟨kP, recP⟩, ⟨kZ2, recP⟩] (by decide) hsl).mono ?_
      rintro e w' ⟨v', l', he, g1, g2, g3, g4⟩
      rw [H2.out.2.2.1] at g2
      rw [over17' g2 g3] at g4
      exact ⟨v', he, g1, g4⟩)
  clear HP hV hbV hE2 hkp hb2 hB2 hW2 hsz2 hqb H1 c2 c3 c4 c5 l2 l3' l4' l5'
  go_wp2_with fail
  refine (HOV.out _ (by repeat (first | exact below_of_grow _ _ | exact Below.refl _ _ | exact below_more _ _ _ _ | (simp only [← Array.append_assoc]; first | exact below_more _ _ _ _ | exact below_same _ _ _ | exact Below.refl _ _) | exact below_same _ _ _ | (refine Below.alloc ?_ (by first | (simp; done) | (simp; omega)) _) | (refine Below.grow ?_ (by first | (simp; done) | (simp; omega)) _ _) | refine Below.drew ?_ | refine Below.drewN ?_ _ | (refine Below.putF ?_ (by first | (simp; done) | omega | (simp; omega)) _) | (refine Below.setCell ?_ (by first | (simp; done) | (simp; omega)) _))) _ ?_).mono ?_
  · exact (heap_al _ _ _).trans (if_pos rfl)
  rintro e w3 ⟨v', rfl, hb3, ho3⟩
  obtain ⟨V, hV⟩ : ∃ V, V = w2.alloc (Obj.cells (entA ⟨kP, recP⟩ ++ entA ⟨kZ2, recP⟩) 208) := ⟨_, rfl⟩
  rw [← hV] at hb3 ho3
  have hbV : Below w2.heap.size w2 V := by rw [hV]; exact (Below.refl _ _).alloc (Nat.le_refl _) _
  have hb23 : Below w2.heap.size w2 w3 := hbV.trans (hb3.mono hbV.size)
  obtain ⟨a, cap, rfl, hcm, hcl⟩ := ho3.form
  obtain ⟨_, a', cap', he, _, _, hcc⟩ := ho3.sl
  simp only [Value.slice.injEq, List.map_cons, List.map_nil, List.length_cons, List.length_nil, true_and] at he hcl hcc ⊢
  obtain ⟨rfl, rfl⟩ := he
  obtain ⟨g, o, rfl, hlg, hcut⟩ := hcc (by decide)
  have x0 := hcut 0 _ rfl
  have x1 := hcut 1 _ rfl
  have y0 := cut_sub (i := 0) (m := 25) x0 (by decide)
  have y1 := cut_sub (i := 0) (m := 25) x1 (by decide)
  rw [entA_key] at y0 y1
  simp only [Nat.zero_mul, Nat.one_mul, Nat.add_zero] at y0 y1
  unfold maxLen at hcm
  have e4 : w3.cut? (q + 1) 0 25 = some (row8 kY.val) := by rw [cut_of_heap (hb23.block _ m4)]; exact d4
  have e5 : w3.cut? (q + 1 + 1) 0 25 = some (row8 kZ2.val) := by rw [cut_of_heap (hb23.block _ m5)]; exact d5
  have n4 : q + 1 < w3.heap.size := Nat.lt_of_lt_of_le m4 hb23.size
  have n5 : q + 1 + 1 < w3.heap.size := Nat.lt_of_lt_of_le m5 hb23.size
  have hln := blen_gives (H2.out.2.1.keep hb23)
  have HLN := Lib.hid (fun (W : World) (hbW : Below w3.heap.size w3 W) => show Gives Tryz.prog 39 #[.pointer (some ⟨b, 0, none⟩)] W (.int .i64 2) from by
    have := blen_gives (H2.out.2.1.keep (hb23.trans (hbW.mono hb23.size)))
    rw [H2.out.2.2.1] at this; exact this)
  have H3 := Lib.hid (H2.out.1.trans (hb23.mono H2.out.1.size))
  have hs3 := H3.out.size
  clear HOV hV hbV hb3 hb23 ho3 hcc hcut x0 x1 hln H2 d2 d3 d4 d5 m2 m3 m4 m5
  go_upto_region 6 with fail
  apply wp_region_specs (by rfl) [.val _, .val _, .val _, .val _, .val _, .val _, .val _, .val _, .val _, .val _, .val _, .val _, .val _, .val _, .val _, .val _, .val _, .val _, .val _, .val _, .val _, .val _, .val _, .val _, .val _, .val _, .val _, .val _, .val _, .val _, .val _] 31 (by rfl) [35, 36, 37, 38, 39, 40, 41, 42, 43, 44, 45, 46, 47, 48, 49, 50, 51, 52, 53, 54, 55, 56, 57, 58, 59, 60, 61, 62, 63, 64, 65] [] [] (by rfl) (by rfl) (by decide) (by decide +kernel) (fun _ _ _ _ _ h => h)
  case hF => intro x; simp only [over, List.foldl_cons, List.foldl_nil, List.setIfInBounds_toArray, List.set_cons_succ, List.set_cons_zero]; exact rfl
  case hops =>
    refine ⟨?o0, ?o1, ?o2, ?o3, ?o4, ?o5, ?o6, ?o7, ?o8, ?o9, ?o10, ?o11, ?o12, ?o13, ?o14, ?o15, ?o16, ?o17, ?o18, ?o19, ?o20, ?o21, ?o22, ?o23, ?o24, ?o25, ?o26, ?o27, ?o28, ?o29, ?o30, trivial⟩
    case o0 =>
      intro x w1 hH K hK
      obtain ⟨xs, d, rfl⟩ := grow_of_below hH.below
      clear hH
      try simp only [World.grow_drew] at hK ⊢
      try simp only [World.grow_grow] at hK ⊢
      go_simp
      go_wp2_with fail
      exact ⟨_, rfl, rfl, (by first | exact Below.refl _ _ | exact below_same _ _ _ | exact below_more _ _ _ _ | exact below_of_grow _ _), fun h => by cases h⟩
    case o1 =>
      intro x w1 hH K hK
      have e35 : x 35 = _ := hH.holds 0 (by decide) (by decide +kernel) 35 rfl
      obtain ⟨xs, d, rfl⟩ := grow_of_below hH.below
      clear hH
      try simp only [World.grow_drew] at hK ⊢
      try simp only [World.grow_grow] at hK ⊢
      simp only [e35] at hK ⊢
      clear e35
      go_simp
      go_wp2_with fail
      exact ⟨_, rfl, rfl, (by first | exact Below.refl _ _ | exact below_same _ _ _ | exact below_more _ _ _ _ | exact below_of_grow _ _), fun h => by cases h⟩
    case o2 =>
      intro x w1 hH K hK
      have e36 : x 36 = _ := hH.holds 1 (by decide) (by decide +kernel) 36 rfl
      obtain ⟨xs, d, rfl⟩ := grow_of_below hH.below
      clear hH
      try simp only [World.grow_drew] at hK ⊢
      try simp only [World.grow_grow] at hK ⊢
      simp only [e36] at hK ⊢
      clear e36
      go_simp
      go_wp2_with fail
      exact ⟨_, rfl, rfl, (by first | exact Below.refl _ _ | exact below_same _ _ _ | exact below_more _ _ _ _ | exact below_of_grow _ _), fun h => by cases h⟩
    case o3 =>
      intro x w1 hH K hK
      have e37 : x 37 = _ := hH.holds 2 (by decide) (by decide +kernel) 37 rfl
      obtain ⟨xs, d, rfl⟩ := grow_of_below hH.below
      clear hH
      try simp only [World.grow_drew] at hK ⊢
      try simp only [World.grow_grow] at hK ⊢
      simp only [e37] at hK ⊢
      clear e37
      go_simp
      go_wp2_with fail
      exact ⟨_, rfl, rfl, (by first | exact Below.refl _ _ | exact below_same _ _ _ | exact below_more _ _ _ _ | exact below_of_grow _ _), fun h => by cases h⟩
    case o4 =>
      intro x w1 hH K hK
      have e37 : x 37 = _ := hH.holds 2 (by decide) (by decide +kernel) 37 rfl
      have e38 : x 38 = _ := hH.holds 3 (by decide) (by decide +kernel) 38 rfl
      obtain ⟨xs, d, rfl⟩ := grow_of_below hH.below
      clear hH
      try simp only [World.grow_drew] at hK ⊢
      try simp only [World.grow_grow] at hK ⊢
      simp only [e37, e38] at hK ⊢
      clear e37 e38
      go_simp
      go_wp2_with fail
      exact ⟨_, rfl, rfl, (by first | exact Below.refl _ _ | exact below_same _ _ _ | exact below_more _ _ _ _ | exact below_of_grow _ _), fun h => by cases h⟩
    case o5 =>
      intro x w1 hH K hK
      have e37 : x 37 = _ := hH.holds 2 (by decide) (by decide +kernel) 37 rfl
      have e39 : x 39 = _ := hH.holds 4 (by decide) (by decide +kernel) 39 rfl
      obtain ⟨xs, d, rfl⟩ := grow_of_below hH.below
      clear hH
      try simp only [World.grow_drew] at hK ⊢
      try simp only [World.grow_grow] at hK ⊢
      simp only [e37, e39] at hK ⊢
      clear e37 e39
      go_simp
      go_wp2_with fail
      exact ⟨_, rfl, rfl, (by first | exact Below.refl _ _ | exact below_same _ _ _ | exact below_more _ _ _ _ | exact below_of_grow _ _), fun h => by cases h⟩
    case o6 =>
      intro x w1 hH K hK
      have e40 : x 40 = _ := hH.holds 5 (by decide) (by decide +kernel) 40 rfl
      obtain ⟨xs, d, rfl⟩ := grow_of_below hH.below
      clear hH
      try simp only [World.grow_drew] at hK ⊢
      try simp only [World.grow_grow] at hK ⊢
      simp only [e40] at hK ⊢
      clear e40
      go_simp
      go_wp2_with fail
      exact ⟨_, rfl, rfl, (by first | exact Below.refl _ _ | exact below_same _ _ _ | exact below_more _ _ _ _ | exact below_of_grow _ _), fun h => by cases h⟩
    case o7 =>
      intro x w1 hH K hK
      have e41 : x 41 = _ := hH.holds 6 (by decide) (by decide +kernel) 41 rfl
      obtain ⟨xs, d, rfl⟩ := grow_of_below hH.below
      clear hH
      try simp only [World.grow_drew] at hK ⊢
      try simp only [World.grow_grow] at hK ⊢
      simp only [e41] at hK ⊢
      clear e41
      go_simp
      go_wp2_with (refine Gives.use (HLN.out _ (by repeat (first | exact below_of_grow _ _ | exact Below.refl _ _ | exact below_more _ _ _ _ | (simp only [← Array.append_assoc]; first | exact below_more _ _ _ _ | exact below_same _ _ _ | exact Below.refl _ _) | exact below_same _ _ _ | (refine Below.alloc ?_ (by first | (simp; done) | (simp; omega)) _) | (refine Below.grow ?_ (by first | (simp; done) | (simp; omega)) _ _) | refine Below.drew ?_ | refine Below.drewN ?_ _ | (refine Below.putF ?_ (by first | (simp; done) | omega | (simp; omega)) _) | (refine Below.setCell ?_ (by first | (simp; done) | (simp; omega)) _)))) ?_; intro ys e)
      exact ⟨_, rfl, rfl, (by first | exact below_more _ _ _ _ | exact (by repeat (first | exact below_of_grow _ _ | exact Below.refl _ _ | exact below_more _ _ _ _ | (simp only [← Array.append_assoc]; first | exact below_more _ _ _ _ | exact below_same _ _ _ | exact Below.refl _ _) | exact below_same _ _ _ | (refine Below.alloc ?_ (by first | (simp; done) | (simp; omega)) _) | (refine Below.grow ?_ (by first | (simp; done) | (simp; omega)) _ _) | refine Below.drew ?_ | refine Below.drewN ?_ _ | (refine Below.putF ?_ (by first | (simp; done) | omega | (simp; omega)) _) | (refine Below.setCell ?_ (by first | (simp; done) | (simp; omega)) _)))), fun h => by cases h⟩
    case o8 =>
      intro x w1 hH K hK
      have e41 : x 41 = _ := hH.holds 6 (by decide) (by decide +kernel) 41 rfl
      have e42 : x 42 = _ := hH.holds 7 (by decide) (by decide +kernel) 42 rfl
      obtain ⟨xs, d, rfl⟩ := grow_of_below hH.below
      clear hH
      try simp only [World.grow_drew] at hK ⊢
      try simp only [World.grow_grow] at hK ⊢
      simp only [e41, e42] at hK ⊢
      clear e41 e42
      go_simp
      go_wp2_with fail
      exact ⟨_, rfl, rfl, (by first | exact Below.refl _ _ | exact below_same _ _ _ | exact below_more _ _ _ _ | exact below_of_grow _ _), fun h => by cases h⟩
    case o9 =>
      intro x w1 hH K hK
      have e41 : x 41 = _ := hH.holds 6 (by decide) (by decide +kernel) 41 rfl
      have e43 : x 43 = _ := hH.holds 8 (by decide) (by decide +kernel) 43 rfl
      obtain ⟨xs, d, rfl⟩ := grow_of_below hH.below
      clear hH
      try simp only [World.grow_drew] at hK ⊢
      try simp only [World.grow_grow] at hK ⊢
      simp only [e41, e43] at hK ⊢
      clear e41 e43
      go_simp
      go_wp2_with fail
      exact ⟨_, rfl, rfl, (by first | exact Below.refl _ _ | exact below_same _ _ _ | exact below_more _ _ _ _ | exact below_of_grow _ _), fun h => by cases h⟩
    case o10 =>
      intro x w1 hH K hK
      have e44 : x 44 = _ := hH.holds 9 (by decide) (by decide +kernel) 44 rfl
      obtain ⟨xs, d, rfl⟩ := grow_of_below hH.below
      clear hH
      try simp only [World.grow_drew] at hK ⊢
      try simp only [World.grow_grow] at hK ⊢
      simp only [e44] at hK ⊢
      clear e44
      go_simp
      go_wp2_with fail
      exact ⟨_, rfl, rfl, (by first | exact Below.refl _ _ | exact below_same _ _ _ | exact below_more _ _ _ _ | exact below_of_grow _ _), fun h => by cases h⟩
    case o11 =>
      intro x w1 hH K hK
      have e45 : x 45 = _ := hH.holds 10 (by decide) (by decide +kernel) 45 rfl
      obtain ⟨xs, d, rfl⟩ := grow_of_below hH.below
      clear hH
      try simp only [World.grow_drew] at hK ⊢
      try simp only [World.grow_grow] at hK ⊢
      simp only [e45] at hK ⊢
      clear e45
      go_simp
      go_wp2_with fail
      exact ⟨_, rfl, rfl, (by first | exact Below.refl _ _ | exact below_same _ _ _ | exact below_more _ _ _ _ | exact below_of_grow _ _), fun h => by cases h⟩
    case o12 =>
      intro x w1 hH K hK
      have e45 : x 45 = _ := hH.holds 10 (by decide) (by decide +kernel) 45 rfl
      have e46 : x 46 = _ := hH.holds 11 (by decide) (by decide +kernel) 46 rfl
      obtain ⟨xs, d, rfl⟩ := grow_of_below hH.below
      clear hH
      try simp only [World.grow_drew] at hK ⊢
      try simp only [World.grow_grow] at hK ⊢
      simp only [e45, e46] at hK ⊢
      clear e45 e46
      go_simp
      go_wp2_with fail
      exact ⟨_, rfl, rfl, (by first | exact Below.refl _ _ | exact below_same _ _ _ | exact below_more _ _ _ _ | exact below_of_grow _ _), fun h => by cases h⟩
    case o13 =>
      intro x w1 hH K hK
      have e45 : x 45 = _ := hH.holds 10 (by decide) (by decide +kernel) 45 rfl
      have e47 : x 47 = _ := hH.holds 12 (by decide) (by decide +kernel) 47 rfl
      obtain ⟨xs, d, rfl⟩ := grow_of_below hH.below
      clear hH
      try simp only [World.grow_drew] at hK ⊢
      try simp only [World.grow_grow] at hK ⊢
      simp only [e45, e47] at hK ⊢
      clear e45 e47
      go_simp
      go_wp2_with fail
      exact ⟨_, rfl, rfl, (by first | exact Below.refl _ _ | exact below_same _ _ _ | exact below_more _ _ _ _ | exact below_of_grow _ _), fun h => by cases h⟩
    case o14 =>
      intro x w1 hH K hK
      have e45 : x 45 = _ := hH.holds 10 (by decide) (by decide +kernel) 45 rfl
      have e48 : x 48 = _ := hH.holds 13 (by decide) (by decide +kernel) 48 rfl
      obtain ⟨xs, d, rfl⟩ := grow_of_below hH.below
      clear hH
      try simp only [World.grow_drew] at hK ⊢
      try simp only [World.grow_grow] at hK ⊢
      simp only [e45, e48] at hK ⊢
      clear e45 e48
      go_simp
      go_wp2_with fail
      exact ⟨_, rfl, rfl, (by first | exact Below.refl _ _ | exact below_same _ _ _ | exact below_more _ _ _ _ | exact below_of_grow _ _), fun h => by cases h⟩
    case o15 =>
      intro x w1 hH K hK
      have e49 : x 49 = _ := hH.holds 14 (by decide) (by decide +kernel) 49 rfl
      obtain ⟨xs, d, rfl⟩ := grow_of_below hH.below
      clear hH
      try simp only [World.grow_drew] at hK ⊢
      try simp only [World.grow_grow] at hK ⊢
      simp only [e49] at hK ⊢
      clear e49
      go_simp
      go_wp2_with fail
      exact ⟨_, rfl, rfl, (by first | exact Below.refl _ _ | exact below_same _ _ _ | exact below_more _ _ _ _ | exact below_of_grow _ _), fun h => by cases h⟩
    case o16 =>
      intro x w1 hH K hK
      have e50 : x 50 = _ := hH.holds 15 (by decide) (by decide +kernel) 50 rfl
      obtain ⟨xs, d, rfl⟩ := grow_of_below hH.below
      clear hH
      try simp only [World.grow_drew] at hK ⊢
      try simp only [World.grow_grow] at hK ⊢
      simp only [e50] at hK ⊢
      clear e50
      go_simp
      go_wp2_with fail
      exact ⟨_, rfl, rfl, (by first | exact Below.refl _ _ | exact below_same _ _ _ | exact below_more _ _ _ _ | exact below_of_grow _ _), fun h => by cases h⟩
    case o17 =>
      intro x w1 hH K hK
      have e50 : x 50 = _ := hH.holds 15 (by decide) (by decide +kernel) 50 rfl
      have e51 : x 51 = _ := hH.holds 16 (by decide) (by decide +kernel) 51 rfl
      obtain ⟨xs, d, rfl⟩ := grow_of_below hH.below
      clear hH
      try simp only [World.grow_drew] at hK ⊢
      try simp only [World.grow_grow] at hK ⊢
      simp only [e50, e51] at hK ⊢
      clear e50 e51
      go_simp
      go_wp2_with fail
      exact ⟨_, rfl, rfl, (by first | exact Below.refl _ _ | exact below_same _ _ _ | exact below_more _ _ _ _ | exact below_of_grow _ _), fun h => by cases h⟩
    case o18 =>
      intro x w1 hH K hK
      have e50 : x 50 = _ := hH.holds 15 (by decide) (by decide +kernel) 50 rfl
      have e52 : x 52 = _ := hH.holds 17 (by decide) (by decide +kernel) 52 rfl
      obtain ⟨xs, d, rfl⟩ := grow_of_below hH.below
      clear hH
      try simp only [World.grow_drew] at hK ⊢
      try simp only [World.grow_grow] at hK ⊢
      simp only [e50, e52] at hK ⊢
      clear e50 e52
      go_simp
      go_wp2_with fail
      exact ⟨_, rfl, rfl, (by first | exact Below.refl _ _ | exact below_same _ _ _ | exact below_more _ _ _ _ | exact below_of_grow _ _), fun h => by cases h⟩
    case o19 =>
      intro x w1 hH K hK
      have e50 : x 50 = _ := hH.holds 15 (by decide) (by decide +kernel) 50 rfl
      have e53 : x 53 = _ := hH.holds 18 (by decide) (by decide +kernel) 53 rfl
      obtain ⟨xs, d, rfl⟩ := grow_of_below hH.below
      clear hH
      try simp only [World.grow_drew] at hK ⊢
      try simp only [World.grow_grow] at hK ⊢
      simp only [e50, e53] at hK ⊢
      clear e50 e53
      go_simp
      go_wp2_with fail
      exact ⟨_, rfl, rfl, (by first | exact Below.refl _ _ | exact below_same _ _ _ | exact below_more _ _ _ _ | exact below_of_grow _ _), fun h => by cases h⟩
    case o20 =>
      intro x w1 hH K hK
      have e50 : x 50 = _ := hH.holds 15 (by decide) (by decide +kernel) 50 rfl
      obtain ⟨xs, d, rfl⟩ := grow_of_below hH.below
      clear hH
      try simp only [World.grow_drew] at hK ⊢
      try simp only [World.grow_grow] at hK ⊢
      simp only [e50] at hK ⊢
      clear e50
      go_simp
      go_wp2_with fail
      exact ⟨_, rfl, rfl, (by first | exact Below.refl _ _ | exact below_same _ _ _ | exact below_more _ _ _ _ | exact below_of_grow _ _), fun h => by cases h⟩
    case o21 =>
      intro x w1 hH K hK
      have e50 : x 50 = _ := hH.holds 15 (by decide) (by decide +kernel) 50 rfl
      have e54 : x 54 = _ := hH.holds 19 (by decide) (by decide +kernel) 54 rfl
      have e55 : x 55 = _ := hH.holds 20 (by decide) (by decide +kernel) 55 rfl
      obtain ⟨xs, d, rfl⟩ := grow_of_below hH.below
      clear hH
      try simp only [World.grow_drew] at hK ⊢
      try simp only [World.grow_grow] at hK ⊢
      simp only [e50, e54, e55] at hK ⊢
      clear e50 e54 e55
      go_simp
      go_wp2_with fail
      exact ⟨_, rfl, rfl, (by first | exact Below.refl _ _ | exact below_same _ _ _ | exact below_more _ _ _ _ | exact below_of_grow _ _), fun h => by cases h⟩
    case o22 =>
      intro x w1 hH K hK
      have e50 : x 50 = _ := hH.holds 15 (by decide) (by decide +kernel) 50 rfl
      have e56 : x 56 = _ := hH.holds 21 (by decide) (by decide +kernel) 56 rfl
      obtain ⟨xs, d, rfl⟩ := grow_of_below hH.below
      clear hH
      try simp only [World.grow_drew] at hK ⊢
      try simp only [World.grow_grow] at hK ⊢
      simp only [e50, e56] at hK ⊢
      clear e50 e56
      go_simp
      go_wp2_with fail
      exact ⟨_, rfl, rfl, (by first | exact Below.refl _ _ | exact below_same _ _ _ | exact below_more _ _ _ _ | exact below_of_grow _ _), fun h => by cases h⟩
    case o23 =>
      intro x w1 hH K hK
      have e57 : x 57 = _ := hH.holds 22 (by decide) (by decide +kernel) 57 rfl
      obtain ⟨xs, d, rfl⟩ := grow_of_below hH.below
      clear hH
      try simp only [World.grow_drew] at hK ⊢
      try simp only [World.grow_grow] at hK ⊢
      simp only [e57] at hK ⊢
      clear e57
      go_simp
      go_wp2_with fail
      exact ⟨_, rfl, rfl, (by first | exact Below.refl _ _ | exact below_same _ _ _ | exact below_more _ _ _ _ | exact below_of_grow _ _), fun h => by cases h⟩
    case o24 =>
      intro x w1 hH K hK
      have e58 : x 58 = _ := hH.holds 23 (by decide) (by decide +kernel) 58 rfl
      obtain ⟨xs, d, rfl⟩ := grow_of_below hH.below
      clear hH
      try simp only [World.grow_drew] at hK ⊢
      try simp only [World.grow_grow] at hK ⊢
      simp only [e58] at hK ⊢
      clear e58
      go_simp
      go_wp2_with fail
      exact ⟨_, rfl, rfl, (by first | exact Below.refl _ _ | exact below_same _ _ _ | exact below_more _ _ _ _ | exact below_of_grow _ _), fun h => by cases h⟩
    case o25 =>
      intro x w1 hH K hK
      have e58 : x 58 = _ := hH.holds 23 (by decide) (by decide +kernel) 58 rfl
      have e59 : x 59 = _ := hH.holds 24 (by decide) (by decide +kernel) 59 rfl
      obtain ⟨xs, d, rfl⟩ := grow_of_below hH.below
      clear hH
      try simp only [World.grow_drew] at hK ⊢
      try simp only [World.grow_grow] at hK ⊢
      simp only [e58, e59] at hK ⊢
      clear e58 e59
      go_simp
      go_wp2_with fail
      exact ⟨_, rfl, rfl, (by first | exact Below.refl _ _ | exact below_same _ _ _ | exact below_more _ _ _ _ | exact below_of_grow _ _), fun h => by cases h⟩
    case o26 =>
      intro x w1 hH K hK
      have e58 : x 58 = _ := hH.holds 23 (by decide) (by decide +kernel) 58 rfl
      have e60 : x 60 = _ := hH.holds 25 (by decide) (by decide +kernel) 60 rfl
      obtain ⟨xs, d, rfl⟩ := grow_of_below hH.below
      clear hH
      try simp only [World.grow_drew] at hK ⊢
      try simp only [World.grow_grow] at hK ⊢
      simp only [e58, e60] at hK ⊢
      clear e58 e60
      go_simp
      go_wp2_with fail
      exact ⟨_, rfl, rfl, (by first | exact Below.refl _ _ | exact below_same _ _ _ | exact below_more _ _ _ _ | exact below_of_grow _ _), fun h => by cases h⟩
    case o27 =>
      intro x w1 hH K hK
      have e58 : x 58 = _ := hH.holds 23 (by decide) (by decide +kernel) 58 rfl
      have e61 : x 61 = _ := hH.holds 26 (by decide) (by decide +kernel) 61 rfl
      obtain ⟨xs, d, rfl⟩ := grow_of_below hH.below
      clear hH
      try simp only [World.grow_drew] at hK ⊢
      try simp only [World.grow_grow] at hK ⊢
      simp only [e58, e61] at hK ⊢
      clear e58 e61
      go_simp
      go_wp2_with fail
      exact ⟨_, rfl, rfl, (by first | exact Below.refl _ _ | exact below_same _ _ _ | exact below_more _ _ _ _ | exact below_of_grow _ _), fun h => by cases h⟩
    case o28 =>
      intro x w1 hH K hK
      have e58 : x 58 = _ := hH.holds 23 (by decide) (by decide +kernel) 58 rfl
      obtain ⟨xs, d, rfl⟩ := grow_of_below hH.below
      clear hH
      try simp only [World.grow_drew] at hK ⊢
      try simp only [World.grow_grow] at hK ⊢
      simp only [e58] at hK ⊢
      clear e58
      go_simp
      go_wp2_with fail
      exact ⟨_, rfl, rfl, (by first | exact Below.refl _ _ | exact below_same _ _ _ | exact below_more _ _ _ _ | exact below_of_grow _ _), fun h => by cases h⟩
    case o29 =>
      intro x w1 hH K hK
      have e58 : x 58 = _ := hH.holds 23 (by decide) (by decide +kernel) 58 rfl
      have e62 : x 62 = _ := hH.holds 27 (by decide) (by decide +kernel) 62 rfl
      have e63 : x 63 = _ := hH.holds 28 (by decide) (by decide +kernel) 63 rfl
      obtain ⟨xs, d, rfl⟩ := grow_of_below hH.below
      clear hH
      try simp only [World.grow_drew] at hK ⊢
      try simp only [World.grow_grow] at hK ⊢
      simp only [e58, e62, e63] at hK ⊢
      clear e58 e62 e63
      go_simp
      go_wp2_with fail
      exact ⟨_, rfl, rfl, (by first | exact Below.refl _ _ | exact below_same _ _ _ | exact below_more _ _ _ _ | exact below_of_grow _ _), fun h => by cases h⟩
    case o30 =>
      intro x w1 hH K hK
      have e58 : x 58 = _ := hH.holds 23 (by decide) (by decide +kernel) 58 rfl
      have e64 : x 64 = _ := hH.holds 29 (by decide) (by decide +kernel) 64 rfl
      obtain ⟨xs, d, rfl⟩ := grow_of_below hH.below
      clear hH
      try simp only [World.grow_drew] at hK ⊢
      try simp only [World.grow_grow] at hK ⊢
      simp only [e58, e64] at hK ⊢
      clear e58 e64
      go_simp
      go_wp2_with fail
      exact ⟨_, rfl, rfl, (by first | exact Below.refl _ _ | exact below_same _ _ _ | exact below_more _ _ _ _ | exact below_of_grow _ _), fun h => by cases h⟩
  case hend =>
    intro x w1 hH
    have e35 : x 35 = _ := hH.holds 0 (by decide) trivial 35 rfl
    have e36 : x 36 = _ := hH.holds 1 (by decide) trivial 36 rfl
    have e37 : x 37 = _ := hH.holds 2 (by decide) trivial 37 rfl
    have e38 : x 38 = _ := hH.holds 3 (by decide) trivial 38 rfl
    have e39 : x 39 = _ := hH.holds 4 (by decide) trivial 39 rfl
    have e40 : x 40 = _ := hH.holds 5 (by decide) trivial 40 rfl
    have e41 : x 41 = _ := hH.holds 6 (by decide) trivial 41 rfl
    have e42 : x 42 = _ := hH.holds 7 (by decide) trivial 42 rfl
    have e43 : x 43 = _ := hH.holds 8 (by decide) trivial 43 rfl
    have e44 : x 44 = _ := hH.holds 9 (by decide) trivial 44 rfl
    have e45 : x 45 = _ := hH.holds 10 (by decide) trivial 45 rfl
    have e46 : x 46 = _ := hH.holds 11 (by decide) trivial 46 rfl
    have e47 : x 47 = _ := hH.holds 12 (by decide) trivial 47 rfl
    have e48 : x 48 = _ := hH.holds 13 (by decide) trivial 48 rfl
    have e49 : x 49 = _ := hH.holds 14 (by decide) trivial 49 rfl
    have e50 : x 50 = _ := hH.holds 15 (by decide) trivial 50 rfl
    have e51 : x 51 = _ := hH.holds 16 (by decide) trivial 51 rfl
    have e52 : x 52 = _ := hH.holds 17 (by decide) trivial 52 rfl
    have e53 : x 53 = _ := hH.holds 18 (by decide) trivial 53 rfl
    have e54 : x 54 = _ := hH.holds 19 (by decide) trivial 54 rfl
    have e55 : x 55 = _ := hH.holds 20 (by decide) trivial 55 rfl
    have e56 : x 56 = _ := hH.holds 21 (by decide) trivial 56 rfl
    have e57 : x 57 = _ := hH.holds 22 (by decide) trivial 57 rfl
    have e58 : x 58 = _ := hH.holds 23 (by decide) trivial 58 rfl
    have e59 : x 59 = _ := hH.holds 24 (by decide) trivial 59 rfl
    have e60 : x 60 = _ := hH.holds 25 (by decide) trivial 60 rfl
    have e61 : x 61 = _ := hH.holds 26 (by decide) trivial 61 rfl
    have e62 : x 62 = _ := hH.holds 27 (by decide) trivial 62 rfl
    have e63 : x 63 = _ := hH.holds 28 (by decide) trivial 63 rfl
    have e64 : x 64 = _ := hH.holds 29 (by decide) trivial 64 rfl
    have e65 : x 65 = _ := hH.holds 30 (by decide) trivial 65 rfl
    obtain ⟨xs, d, rfl⟩ := grow_of_below hH.below
    clear hH
    simp only [e35, e36, e37, e38, e39, e40, e41, e42, e43, e44, e45, e46, e47, e48, e49, e50, e51, e52, e53, e54, e55, e56, e57, e58, e59, e60, e61, e62, e63, e64, e65]; clear e35 e36 e37 e38 e39 e40 e41 e42 e43 e44 e45 e46 e47 e48 e49 e50 e51 e52 e53 e54 e55 e56 e57 e58 e59 e60 e61 e62 e63 e64 e65
    simp only [List.drop_succ_cons, List.drop_zero]
    go_wp2_with fail
    go_ret
    exact ⟨rfl, H3.out.trans ((show Below w3.heap.size w3 _ from (by repeat (first | exact below_of_grow _ _ | exact Below.refl _ _ | exact below_more _ _ _ _ | (simp only [← Array.append_assoc]; first | exact below_more _ _ _ _ | exact below_same _ _ _ | exact Below.refl _ _) | exact below_same _ _ _ | (refine Below.alloc ?_ (by first | (simp; done) | (simp; omega)) _) | (refine Below.grow ?_ (by first | (simp; done) | (simp; omega)) _ _) | refine Below.drew ?_ | refine Below.drewN ?_ _ | (refine Below.putF ?_ (by first | (simp; done) | omega | (simp; omega)) _) | (refine Below.setCell ?_ (by first | (simp; done) | (simp; omega)) _)))).mono hs3)⟩
end Go.Proofs.YtfmphfidloobkaaGreatDoor
namespace Go.Proofs.YtfmphfidloobkaaGreatDoor
set_option maxRecDepth 100000
open Go.RowKit Go.ChangeShapes Go.WideShapes

theorem keyB_read {w : World} {v : Value} (h : Reads Tryz.prog w 74 v) : ∃ k : K25, v = .agg (row8 k.val) := by
  have hf := h.flat 5 (ks := List.replicate 25 (CK.i .u8)) (by kernel_rfl)
  obtain ⟨cs, rfl⟩ := h.agg Tryz.underlying74
  obtain ⟨k, hk⟩ := FitsAll.key hf
  exact ⟨k, congrArg Value.agg (Array.ext' hk)⟩
theorem prefB_read {w : World} {v : Value} (h : Reads Tryz.prog w 102 v) : ∃ (k : K25) (d : Int), v = .agg (prefA k d) := by
  have hf := h.flat 6 (ks := List.replicate 25 (CK.i .u8) ++ [CK.i .i64]) (by kernel_rfl)
  obtain ⟨cs, rfl⟩ := h.agg Tryz.underlying102
  obtain ⟨x, y, e, hx, hy⟩ := FitsAll.split hf
  obtain ⟨k, rfl⟩ := FitsAll.key hx
  obtain ⟨d, rfl, _⟩ := FitsAll.int hy
  exact ⟨k, d, congrArg Value.agg (Array.ext' (by unfold prefA; rw [Array.toList_append]; exact e))⟩
theorem entB_fit {x : Array Value} (h : FitsAll (List.replicate 25 (CK.i .u8) ++ recCs) x.toList) : ∃ e : Ent, x = entA e := by
  obtain ⟨x0, y0, e, h0, h⟩ := FitsAll.split h
  obtain ⟨k, rfl⟩ := h0.key
  obtain ⟨r, rfl⟩ := h.rec
  exact ⟨⟨k, r⟩, Array.ext' (by rw [e]; rfl)⟩
theorem entsB_read {w : World} {v : Value} (h : Reads Tryz.prog w 205 v) : ∃ l : List Ent, SlA w w.heap.size 34 v (l.map entA) := by
  obtain ⟨xs, h1, h2⟩ := h.rows Tryz.underlying205 6 (ks := List.replicate 25 (CK.i .u8) ++ recCs) (by kernel_rfl) (by kernel_rfl) (by decide)
  obtain ⟨l, rfl⟩ := models (p := fun x => FitsAll (List.replicate 25 (CK.i .u8) ++ recCs) x.toList) (fun x => entB_fit) xs h2
  exact ⟨l, h1⟩
theorem wrB_read {w : World} {v : Value} (h : Reads Tryz.prog w 79 v) : ∃ x : Wr, v = .agg (wrtA x) := by
  have hf := h.flat 7 (ks := wrtCs) (by kernel_rfl)
  obtain ⟨cs, rfl⟩ := h.agg Tryz.underlying79
  obtain ⟨x, hx⟩ := wrt_fit hf
  exact ⟨x, congrArg Value.agg hx⟩
theorem writesB_read {w : World} {v : Value} (h : Reads Tryz.prog w 22 v) : ∃ l : List Wr, SlA w w.heap.size 35 v (l.map wrtA) := by
  obtain ⟨u, l, hu, h1⟩ := writes_tr h.tr
  have huv : u = v := by
    obtain ⟨⟨base, hv⟩, _⟩ := h
    obtain ⟨a0, len, cap, rfl⟩ := okWide_slice Tryz.underlying22 hv
    simp [Value.cells] at hu
    exact hu.symm
  subst huv
  exact ⟨l, h1⟩
end Go.Proofs.YtfmphfidloobkaaGreatDoor

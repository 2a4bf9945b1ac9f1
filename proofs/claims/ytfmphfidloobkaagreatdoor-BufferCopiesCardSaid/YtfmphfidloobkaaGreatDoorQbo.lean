/- Layer 17: things are put in the order of their keys. -/
import Derived.Test.YtfmphfidloobkaaGreatDoorQbm
import Derived.Test.YtfmphfidloobkaaGreatDoorQbn
import Derived.Test.YtfmphfidloobkaaGreatDoorShelfG
import Derived.Handy
import Derived.BigRegion
import Derived.Test.YtfmphfidloobkaaGreatDoorQao
import Derived.Deep.LoopGhost
namespace Go.Proofs.YtfmphfidloobkaaGreatDoor
set_option maxRecDepth 100000
open Go.RowKit Go.Sort

theorem ltOf_cfK {α : Type} (f : α → K25) (x y : α) : ltOf (cfK f) x y = lessL (f x).val (f y).val := by
  unfold ltOf cfK
  by_cases h : f x = f y
  · rw [if_pos h, h, lessL_irrefl]; rfl
  · rw [if_neg h]
    cases lessL (f x).val (f y).val <;> rfl
theorem swo_cfK {α : Type} (f : α → K25) : SWO (ltOf (cfK f)) where
  irrefl x := by rw [ltOf_cfK]; exact lessL_irrefl _
  trans x y z h1 h2 := by rw [ltOf_cfK] at *; exact lessL_trans _ _ _ h1 h2
  ntrans x y z h1 h2 := by rw [ltOf_cfK] at *; exact kLess_ntrans _ _ _ h1 h2
instance : Inhabited Wr := ⟨⟨⟨zeros 25, by simp [zeros]⟩, false, Rec.zero⟩⟩
instance : Inhabited K25 := ⟨⟨zeros 25, by simp [zeros]⟩⟩
instance : Inhabited Ent := ⟨⟨⟨zeros 25, by simp [zeros]⟩, Rec.zero⟩⟩
def wrtL (x : Wr) : List Value := keyL x.k ++ .bool x.dead :: recL x.r
def entLB (e : Ent) : List Value := keyL e.k ++ recL e.r
theorem wrtL_len (x : Wr) : (wrtL x).length = 35 := by simp [wrtL, keyL_len, recL_len]
theorem entLB_len (x : Ent) : (entLB x).length = 34 := by simp [entLB, keyL_len, recL_len]
theorem one_wrtL (x : Wr) : ∀ v ∈ wrtL x, v.oneCell' = true := by
  intro v hv
  rcases List.mem_append.1 hv with hv | hv
  · exact one_keyL _ v hv
  · rcases List.mem_cons.1 hv with rfl | hv
    · rfl
    · exact one_recL _ v hv
theorem one_entLB (x : Ent) : ∀ v ∈ entLB x, v.oneCell' = true := by
  intro v hv
  rcases List.mem_append.1 hv with hv | hv
  · exact one_keyL _ v hv
  · exact one_recL _ v hv
theorem aggWrites : ∀ w, (isAgg (Tryz.sortWr_ren.t 24)).run Tryz.prog w = .ok true w := fun w => Tryz.isAgg79 w
theorem sizeWrites : ∀ w, (Go.sizeOf (Tryz.sortWr_ren.t 24)).run Tryz.prog w = .ok 35 w := fun w => Tryz.sizeOf79 w
theorem encWrites : encA wrtL = wrtA := rfl
theorem cmpWrites_lays (c blk size : Nat) (w : World) (hc : w.cell? ⟨c, 0, none⟩ = some (.func (.func 87) #[] #[])) (hlt : c < w.heap.size) (hne : c ≠ blk) :
    CmpLays Tryz.prog 122 #[.pointer (some ⟨c, 0, none⟩)] wrtL 35 (cfK (fun x : Wr => x.k)) blk 0 size w := by
  intro m os dk _ x y
  have hcell : (sortWorldK wrtL 35 w blk 0 m dk os).cell? ⟨c, 0, none⟩ = some (.func (.func 87) #[] #[]) := by
    rw [cell_of_heap (heap_sortG_ne hlt hne)]; exact hc
  have h := Dr.cmpWrites_gives x y c (sortWorldK wrtL 35 w blk 0 m dk os) hcell (Nat.lt_of_lt_of_le hlt size_sortG)
  refine Calls.mono h ?_
  rintro e w' ⟨rfl, hb⟩
  obtain ⟨xs, d, rfl⟩ := Dr.grow_of_below hb
  exact ⟨rfl, d, xs, rfl⟩
set_option maxHeartbeats 4000000 in
theorem orderWrites_calls (l : List Wr) (v : Value) (w : World) (B : Nat) (hB : B ≤ w.heap.size) (hown : OwnA w B 35 79 v (l.map wrtA)) (hlen : l.length ≤ 100000) :
    Calls Tryz.prog 86 #[v, .func (.func 87) #[] #[]] w fun e w' => e = .returned v ∧ ∃ l' : List Wr, l'.Perm l ∧ l'.Pairwise (fun x y => lessL ((fun x : Wr => x.k) y).val ((fun x : Wr => x.k) x).val = false) ∧ OwnA w' B 35 79 v (l'.map wrtA) ∧ Below B w w' := by
  have HO := Lib.hid hown
  clear hown
  go_enter Tryz.func86, Tryz.ntmps86
  go_upto_region 1 with fail
  refine wp_name ?_
  intro W hW
  obtain ⟨c, hcb⟩ : ∃ c, c = w.heap.size := ⟨_, rfl⟩
  have hbW : Below w.heap.size w W := by rw [hW]; exact (Below.refl _ _).alloc (Nat.le_refl _) _
  obtain ⟨ct, hcW⟩ : ∃ ct, W.heap[c]? = some (.cells #[.func (.func 87) #[] #[]] ct) := ⟨_, by rw [hW, hcb]; exact (heap_al _ _ _).trans (if_pos rfl)⟩
  have hown := HO.out.below hbW
  have hlc : c < W.heap.size := (Array.getElem?_eq_some_iff.1 hcW).1
  have hne : ∀ blk, v.ownBlock = some blk → c ≠ blk := fun blk e => by have := (HO.out.lt blk e).2; omega
  simp only [← hcb]
  have eg : ∀ args w, (callFunc 122 args).run Tryz.prog w = .ok (.enter 122 args) w := enters_of Tryz.func122 (by kernel_rfl) rfl
  have hsort := sortG_calls Tryz.sortWr wrtL_len (by decide) one_wrtL aggWrites sizeWrites (cfK (fun x : Wr => x.k)) (swo_cfK (fun x : Wr => x.k)) 122 #[.pointer (some ⟨c, 0, none⟩)] eg l v W B 79 (by have := hbW.size; omega) (fun blk e => cmpWrites_lays c blk _ W (cells_is hcW 0).1 hlc (hne blk e)) hown hlen
  have HS := Lib.hid (show Calls Tryz.prog 121 #[v, .func (.func 122) #[] #[.pointer (some ⟨c, 0, none⟩)]] W _ from hsort)
  have HB := Lib.hid hbW
  clear hW hcb hbW hcW hown hlc hne eg hsort
  go_wp2_with fail
  refine HS.out.mono ?_
  rintro e w3 ⟨rfl, l', hp, hs, ho, hb3, _⟩
  have HF := Lib.hid (And.intro hp (And.intro hs (And.intro ho (HB.out.mono (show B ≤ w.heap.size from hB) |>.trans hb3))))
  clear hp hs ho hb3 HS
  go_wp2_with fail
  go_ret
  refine ⟨rfl, l', HF.out.1, ?_, HF.out.2.2.1, HF.out.2.2.2⟩
  exact HF.out.2.1.imp fun {x y} h => by rw [ltOf_cfK] at h; exact h
theorem aggGuards : ∀ w, (isAgg (Tryz.sortKy_ren.t 24)).run Tryz.prog w = .ok true w := fun w => Tryz.isAgg74 w
theorem sizeGuards : ∀ w, (Go.sizeOf (Tryz.sortKy_ren.t 24)).run Tryz.prog w = .ok 25 w := fun w => Tryz.sizeOf74 w
theorem encGuards : encA keyL = (fun k : K25 => row8 k.val) := rfl
theorem cmpGuards_lays (c blk size : Nat) (w : World) (hc : w.cell? ⟨c, 0, none⟩ = some (.func (.func 85) #[] #[])) (hlt : c < w.heap.size) (hne : c ≠ blk) :
    CmpLays Tryz.prog 120 #[.pointer (some ⟨c, 0, none⟩)] keyL 25 (cfK (fun x : K25 => x)) blk 0 size w := by
  intro m os dk _ x y
  have hcell : (sortWorldK keyL 25 w blk 0 m dk os).cell? ⟨c, 0, none⟩ = some (.func (.func 85) #[] #[]) := by
    rw [cell_of_heap (heap_sortG_ne hlt hne)]; exact hc
  have h := Dr.cmpGuards_gives x y c (sortWorldK keyL 25 w blk 0 m dk os) hcell (Nat.lt_of_lt_of_le hlt size_sortG)
  refine Calls.mono h ?_
  rintro e w' ⟨rfl, hb⟩
  obtain ⟨xs, d, rfl⟩ := Dr.grow_of_below hb
  exact ⟨rfl, d, xs, rfl⟩
set_option maxHeartbeats 4000000 in
theorem orderGuards_calls (l : List K25) (v : Value) (w : World) (B : Nat) (hB : B ≤ w.heap.size) (hown : OwnA w B 25 74 v (l.map (fun k : K25 => row8 k.val))) (hlen : l.length ≤ 100000) :
    Calls Tryz.prog 84 #[v, .func (.func 85) #[] #[]] w fun e w' => e = .returned v ∧ ∃ l' : List K25, l'.Perm l ∧ l'.Pairwise (fun x y => lessL ((fun x : K25 => x) y).val ((fun x : K25 => x) x).val = false) ∧ OwnA w' B 25 74 v (l'.map (fun k : K25 => row8 k.val)) ∧ Below B w w' := by
  have HO := Lib.hid hown
  clear hown
  go_enter Tryz.func84, Tryz.ntmps84
  go_upto_region 1 with fail
  refine wp_name ?_
  intro W hW
  obtain ⟨c, hcb⟩ : ∃ c, c = w.heap.size := ⟨_, rfl⟩
  have hbW : Below w.heap.size w W := by rw [hW]; exact (Below.refl _ _).alloc (Nat.le_refl _) _
  obtain ⟨ct, hcW⟩ : ∃ ct, W.heap[c]? = some (.cells #[.func (.func 85) #[] #[]] ct) := ⟨_, by rw [hW, hcb]; exact (heap_al _ _ _).trans (if_pos rfl)⟩
  have hown := HO.out.below hbW
  have hlc : c < W.heap.size := (Array.getElem?_eq_some_iff.1 hcW).1
  have hne : ∀ blk, v.ownBlock = some blk → c ≠ blk := fun blk e => by have := (HO.out.lt blk e).2; omega
  simp only [← hcb]
  have eg : ∀ args w, (callFunc 120 args).run Tryz.prog w = .ok (.enter 120 args) w := enters_of Tryz.func120 (by kernel_rfl) rfl
  have hsort := sortG_calls Tryz.sortKy keyL_len (by decide) one_keyL aggGuards sizeGuards (cfK (fun x : K25 => x)) (swo_cfK (fun x : K25 => x)) 120 #[.pointer (some ⟨c, 0, none⟩)] eg l v W B 74 (by have := hbW.size; omega) (fun blk e => cmpGuards_lays c blk _ W (cells_is hcW 0).1 hlc (hne blk e)) hown hlen
  have HS := Lib.hid (show Calls Tryz.prog 88 #[v, .func (.func 120) #[] #[.pointer (some ⟨c, 0, none⟩)]] W _ from hsort)
  have HB := Lib.hid hbW
  clear hW hcb hbW hcW hown hlc hne eg hsort
  go_wp2_with fail
  refine HS.out.mono ?_
  rintro e w3 ⟨rfl, l', hp, hs, ho, hb3, _⟩
  have HF := Lib.hid (And.intro hp (And.intro hs (And.intro ho (HB.out.mono (show B ≤ w.heap.size from hB) |>.trans hb3))))
  clear hp hs ho hb3 HS
  go_wp2_with fail
  go_ret
  refine ⟨rfl, l', HF.out.1, ?_, HF.out.2.2.1, HF.out.2.2.2⟩
  exact HF.out.2.1.imp fun {x y} h => by rw [ltOf_cfK] at h; exact h
theorem aggOver : ∀ w, (isAgg (Tryz.sortEn_ren.t 24)).run Tryz.prog w = .ok true w := fun w => Tryz.isAgg208 w
theorem sizeOver : ∀ w, (Go.sizeOf (Tryz.sortEn_ren.t 24)).run Tryz.prog w = .ok 34 w := fun w => Tryz.sizeOf208 w
theorem encOver : encA entLB = entA := rfl
theorem cmpOver_lays (c blk size : Nat) (w : World) (hc : w.cell? ⟨c, 0, none⟩ = some (.func (.func 118) #[] #[])) (hlt : c < w.heap.size) (hne : c ≠ blk) :
    CmpLays Tryz.prog 147 #[.pointer (some ⟨c, 0, none⟩)] entLB 34 (cfK (fun x : Ent => x.k)) blk 0 size w := by
  intro m os dk _ x y
  have hcell : (sortWorldK entLB 34 w blk 0 m dk os).cell? ⟨c, 0, none⟩ = some (.func (.func 118) #[] #[]) := by
    rw [cell_of_heap (heap_sortG_ne hlt hne)]; exact hc
  have h := Dr.cmpOver_gives x y c (sortWorldK entLB 34 w blk 0 m dk os) hcell (Nat.lt_of_lt_of_le hlt size_sortG)
  refine Calls.mono h ?_
  rintro e w' ⟨rfl, hb⟩
  obtain ⟨xs, d, rfl⟩ := Dr.grow_of_below hb
  exact ⟨rfl, d, xs, rfl⟩
set_option maxHeartbeats 4000000 in
theorem orderOver_calls (l : List Ent) (v : Value) (w : World) (B : Nat) (hB : B ≤ w.heap.size) (hown : OwnA w B 34 208 v (l.map entA)) (hlen : l.length ≤ 100000) :
    Calls Tryz.prog 117 #[v, .func (.func 118) #[] #[]] w fun e w' => e = .returned v ∧ ∃ l' : List Ent, l'.Perm l ∧ l'.Pairwise (fun x y => lessL ((fun x : Ent => x.k) y).val ((fun x : Ent => x.k) x).val = false) ∧ OwnA w' B 34 208 v (l'.map entA) ∧ Below B w w' := by
  have HO := Lib.hid hown
  clear hown
  go_enter Tryz.func117, Tryz.ntmps117
  go_upto_region 1 with fail
  refine wp_name ?_
  intro W hW
  obtain ⟨c, hcb⟩ : ∃ c, c = w.heap.size := ⟨_, rfl⟩
  have hbW : Below w.heap.size w W := by rw [hW]; exact (Below.refl _ _).alloc (Nat.le_refl _) _
  obtain ⟨ct, hcW⟩ : ∃ ct, W.heap[c]? = some (.cells #[.func (.func 118) #[] #[]] ct) := ⟨_, by rw [hW, hcb]; exact (heap_al _ _ _).trans (if_pos rfl)⟩
  have hown := HO.out.below hbW
  have hlc : c < W.heap.size := (Array.getElem?_eq_some_iff.1 hcW).1
  have hne : ∀ blk, v.ownBlock = some blk → c ≠ blk := fun blk e => by have := (HO.out.lt blk e).2; omega
  simp only [← hcb]
  have eg : ∀ args w, (callFunc 147 args).run Tryz.prog w = .ok (.enter 147 args) w := enters_of Tryz.func147 (by kernel_rfl) rfl
  have hsort := sortG_calls Tryz.sortEn entLB_len (by decide) one_entLB aggOver sizeOver (cfK (fun x : Ent => x.k)) (swo_cfK (fun x : Ent => x.k)) 147 #[.pointer (some ⟨c, 0, none⟩)] eg l v W B 208 (by have := hbW.size; omega) (fun blk e => cmpOver_lays c blk _ W (cells_is hcW 0).1 hlc (hne blk e)) hown hlen
  have HS := Lib.hid (show Calls Tryz.prog 146 #[v, .func (.func 147) #[] #[.pointer (some ⟨c, 0, none⟩)]] W _ from hsort)
  have HB := Lib.hid hbW
  clear hW hcb hbW hcW hown hlc hne eg hsort
  go_wp2_with fail
  refine HS.out.mono ?_
  rintro e w3 ⟨rfl, l', hp, hs, ho, hb3, _⟩
  have HF := Lib.hid (And.intro hp (And.intro hs (And.intro ho (HB.out.mono (show B ≤ w.heap.size from hB) |>.trans hb3))))
  clear hp hs ho hb3 HS
  go_wp2_with fail
  go_ret
  refine ⟨rfl, l', HF.out.1, ?_, HF.out.2.2.1, HF.out.2.2.2⟩
  exact HF.out.2.1.imp fun {x y} h => by rw [ltOf_cfK] at h; exact h
end Go.Proofs.YtfmphfidloobkaaGreatDoor
namespace Go.Proofs.YtfmphfidloobkaaGreatDoor
set_option maxRecDepth 100000
open Go.RowKit

theorem keyEncB : KeyEnc Tryz.prog 74 ekB (fun _ => True) := keyEnc
def kZB : K25 := ⟨zeros 25, by simp [zeros]⟩
def wr0 : Wr := ⟨kZB, false, Rec.zero⟩
theorem zeroWr_run (w : World) : (zeroValue 79).run Tryz.prog w = .ok (.agg (wrtA wr0)) w := by
  rw [Tryz.zeroValue79 w]; rfl
@[go_sem ↓ high] theorem bWrt0_run (w : World) : (Instr.build 79 #[]).run Tryz.prog w = .ok (.agg (wrtA wr0)) w := by kernel_rfl
theorem look_ok_op {α β : Type} [DecidableEq α] {P : Program} {kt : TypeId} {ek : α → Value} {ev : β → Value} {dom : α → Prop} {w : World} {b : Nat} {L : List (α × β)} {o : Oper} {a : Act} {K : Act → World → Prop} {Q : Exit → Act → World → Prop}
    (E : KeyEnc P kt ek dom) (m x : Operand) (t et : TypeId) (hop : o.op = Op.lookup t m x true) (ht : P.underlying t = some (.map kt et)) (hm : a.eval m = .map (some b)) {z : Value} (h : MapIs ek ev dom w b L)
    (k : α) (hk : dom k) (hx : a.eval x = ek k) (hz : (zeroValue et).run P w = .ok z w) (hK : K (a.put o.dst (.tuple #[((lk L k).map ev).getD z, .bool (lk L k).isSome])) w) : Oper.wp P o a w K Q := by
  unfold Oper.wp
  simp [execOp, hop, hm, hx, lookup_run E ht h hk hz true, Result.andThen]
  exact hK
theorem look_none_op {α : Type} {P : Program} {kt : TypeId} {ek : α → Value} {dom : α → Prop} {w : World} {o : Oper} {a : Act} {K : Act → World → Prop} {Q : Exit → Act → World → Prop}
    (E : KeyEnc P kt ek dom) (m x : Operand) (t et : TypeId) (hop : o.op = Op.lookup t m x true) (ht : P.underlying t = some (.map kt et)) (hm : a.eval m = .map none) {z : Value}
    (k : α) (hk : dom k) (hx : a.eval x = ek k) (hz : (zeroValue et).run P w = .ok z w) (hK : K (a.put o.dst (.tuple #[z, .bool false])) w) : Oper.wp P o a w K Q := by
  obtain ⟨l, hl⟩ := E.reads k hk
  have hf : (Instr.findKey kt (ek k) []).run P w = .ok none w := by
    rcases E.law.find w hl [] (fun e he => by simp at he) with ⟨h1, _⟩ | ⟨j, e, _, h2, _⟩
    · exact h1
    · simp at h2
  unfold Oper.wp
  simp [execOp, hop, hm, hx, Instr.lookup, run_underlying ht, E.law.check w _ hl, hz, hf, Result.andThen]
  exact hK
/-- a key's write, or none -/
def wrOr (L : MW) (k : K25) : Wr := (lk L k).getD wr0
set_option maxHeartbeats 4000000 in
theorem bget_gives {w : World} {B b : Nat} {g : BG} (h : BufAt w B b g) (k : K25) : Gives Tryz.prog 33 #[.pointer (some ⟨b, 0, none⟩), .agg (row8 k.val)] w (.tuple #[.agg (wrtA (wrOr g.W k)), .bool (lk g.W k).isSome]) := by
  have hbl : b < w.heap.size := h.lt b (by simp [BG.blocks])
  have hc : w.cell? ⟨b, 0, none⟩ = some (.map g.m1) := (cells_is h.cells 0).1
  have hkl := k.len
  have HZ := Lib.hid zeroWr_run
  unfold wrOr
  have hw1 := h.w1
  clear h
  rcases hw1 with ⟨hm, hL⟩ | ⟨m, hm, hM⟩
  · rw [hL]
    rw [hm] at hc
    clear hL hm
    unfold Gives
    go_enter Tryz.func33, Tryz.ntmps33
    go_wp2_with fail
    apply wp_region_specs (by rfl) [.val _, .val _, .val _, .val _, .val _, .val _, .val _, .val _, .pure _, .new _] 10 (by rfl) [12, 13, 14, 15, 16, 17, 11, 18, 19, 6] [9] [8] (by rfl) (by rfl) (by decide) (by decide +kernel) (fun _ _ _ _ _ h => h)
    case hF => intro x; simp only [over, List.foldl_cons, List.foldl_nil, List.setIfInBounds_toArray, List.set_cons_succ, List.set_cons_zero]; exact rfl
    case hops =>
      refine ⟨?o0, ?o1, ?o2, ?o3, ?o4, ?o5, ?o6, ?o7, ?o8, ?o9, trivial⟩
      case o0 =>
        intro x w1 hH K hK
        obtain ⟨xs, d, rfl⟩ := grow_of_below hH.below
        clear hH
        try simp only [World.grow_drew] at hK ⊢
        try simp only [World.grow_grow] at hK ⊢
        go_simp
        go_wp2_with fail
        exact ⟨_, rfl, rfl, (by repeat (first | exact below_of_grow _ _ | exact Below.refl _ _ | exact below_more _ _ _ _ | (simp only [← Array.append_assoc]; first | exact below_more _ _ _ _ | exact below_same _ _ _ | exact Below.refl _ _) | exact below_same _ _ _ | (refine Below.alloc ?_ (by first | (simp; done) | (simp; omega)) _) | (refine Below.grow ?_ (by first | (simp; done) | (simp; omega)) _ _) | refine Below.drew ?_ | refine Below.drewN ?_ _ | (refine Below.putF ?_ (by first | (simp; done) | omega | (simp; omega)) _) | (refine Below.setCell ?_ (by first | (simp; done) | (simp; omega)) _))), fun h => by cases h⟩
      case o1 =>
        intro x w1 hH K hK
        have e12 : x 12 = _ := hH.holds 0 (by decide) (by decide +kernel) 12 rfl
        obtain ⟨xs, d, rfl⟩ := grow_of_below hH.below
        clear hH
        try simp only [World.grow_drew] at hK ⊢
        try simp only [World.grow_grow] at hK ⊢
        simp only [e12] at hK ⊢
        clear e12
        go_simp
        go_wp2_with fail
        exact ⟨_, rfl, rfl, (by repeat (first | exact below_of_grow _ _ | exact Below.refl _ _ | exact below_more _ _ _ _ | (simp only [← Array.append_assoc]; first | exact below_more _ _ _ _ | exact below_same _ _ _ | exact Below.refl _ _) | exact below_same _ _ _ | (refine Below.alloc ?_ (by first | (simp; done) | (simp; omega)) _) | (refine Below.grow ?_ (by first | (simp; done) | (simp; omega)) _ _) | refine Below.drew ?_ | refine Below.drewN ?_ _ | (refine Below.putF ?_ (by first | (simp; done) | omega | (simp; omega)) _) | (refine Below.setCell ?_ (by first | (simp; done) | (simp; omega)) _))), fun h => by cases h⟩
      case o2 =>
        intro x w1 hH K hK
        have e13 : x 13 = _ := hH.holds 1 (by decide) (by decide +kernel) 13 rfl
        obtain ⟨xs, d, rfl⟩ := grow_of_below hH.below
        clear hH
        try simp only [World.grow_drew] at hK ⊢
        try simp only [World.grow_grow] at hK ⊢
        simp only [e13] at hK ⊢
        clear e13
        go_simp
        go_wp2_with fail
        exact ⟨_, rfl, rfl, (by repeat (first | exact below_of_grow _ _ | exact Below.refl _ _ | exact below_more _ _ _ _ | (simp only [← Array.append_assoc]; first | exact below_more _ _ _ _ | exact below_same _ _ _ | exact Below.refl _ _) | exact below_same _ _ _ | (refine Below.alloc ?_ (by first | (simp; done) | (simp; omega)) _) | (refine Below.grow ?_ (by first | (simp; done) | (simp; omega)) _ _) | refine Below.drew ?_ | refine Below.drewN ?_ _ | (refine Below.putF ?_ (by first | (simp; done) | omega | (simp; omega)) _) | (refine Below.setCell ?_ (by first | (simp; done) | (simp; omega)) _))), fun h => by cases h⟩
      case o3 =>
        intro x w1 hH K hK
        have e14 : x 14 = _ := hH.holds 2 (by decide) (by decide +kernel) 14 rfl
        obtain ⟨xs, d, rfl⟩ := grow_of_below hH.below
        clear hH
        try simp only [World.grow_drew] at hK ⊢
        try simp only [World.grow_grow] at hK ⊢
        simp only [e14] at hK ⊢
        clear e14
        go_simp
        go_wp2_with fail
        exact ⟨_, rfl, rfl, (by repeat (first | exact below_of_grow _ _ | exact Below.refl _ _ | exact below_more _ _ _ _ | (simp only [← Array.append_assoc]; first | exact below_more _ _ _ _ | exact below_same _ _ _ | exact Below.refl _ _) | exact below_same _ _ _ | (refine Below.alloc ?_ (by first | (simp; done) | (simp; omega)) _) | (refine Below.grow ?_ (by first | (simp; done) | (simp; omega)) _ _) | refine Below.drew ?_ | refine Below.drewN ?_ _ | (refine Below.putF ?_ (by first | (simp; done) | omega | (simp; omega)) _) | (refine Below.setCell ?_ (by first | (simp; done) | (simp; omega)) _))), fun h => by cases h⟩
      case o4 =>
        intro x w1 hH K hK
        obtain ⟨xs, d, rfl⟩ := grow_of_below hH.below
        clear hH
        try simp only [World.grow_drew] at hK ⊢
        try simp only [World.grow_grow] at hK ⊢
        go_simp
        go_wp2_with fail
        exact ⟨_, rfl, rfl, (by repeat (first | exact below_of_grow _ _ | exact Below.refl _ _ | exact below_more _ _ _ _ | (simp only [← Array.append_assoc]; first | exact below_more _ _ _ _ | exact below_same _ _ _ | exact Below.refl _ _) | exact below_same _ _ _ | (refine Below.alloc ?_ (by first | (simp; done) | (simp; omega)) _) | (refine Below.grow ?_ (by first | (simp; done) | (simp; omega)) _ _) | refine Below.drew ?_ | refine Below.drewN ?_ _ | (refine Below.putF ?_ (by first | (simp; done) | omega | (simp; omega)) _) | (refine Below.setCell ?_ (by first | (simp; done) | (simp; omega)) _))), fun h => by cases h⟩
      case o5 =>
        intro x w1 hH K hK
        have e15 : x 15 = _ := hH.holds 3 (by decide) (by decide +kernel) 15 rfl
        have e16 : x 16 = _ := hH.holds 4 (by decide) (by decide +kernel) 16 rfl
        obtain ⟨xs, d, rfl⟩ := grow_of_below hH.below
        clear hH
        try simp only [World.grow_drew] at hK ⊢
        try simp only [World.grow_grow] at hK ⊢
        simp only [e15, e16] at hK ⊢
        clear e15 e16
        refine look_none_op keyEncB _ _ _ _ rfl Tryz.underlying92 rfl k trivial rfl (HZ.out _) ?_
        refine hK _ _ ?_
        exact ⟨_, rfl, rfl, Below.refl _ _, fun h => by cases h⟩
      case o6 =>
        intro x w1 hH K hK
        have e17 : x 17 = _ := hH.holds 5 (by decide) (by decide +kernel) 17 rfl
        obtain ⟨xs, d, rfl⟩ := grow_of_below hH.below
        clear hH
        try simp only [World.grow_drew] at hK ⊢
        try simp only [World.grow_grow] at hK ⊢
        simp only [e17] at hK ⊢
        clear e17
        go_simp
        go_wp2_with fail
        exact ⟨_, rfl, rfl, (by repeat (first | exact below_of_grow _ _ | exact Below.refl _ _ | exact below_more _ _ _ _ | (simp only [← Array.append_assoc]; first | exact below_more _ _ _ _ | exact below_same _ _ _ | exact Below.refl _ _) | exact below_same _ _ _ | (refine Below.alloc ?_ (by first | (simp; done) | (simp; omega)) _) | (refine Below.grow ?_ (by first | (simp; done) | (simp; omega)) _ _) | refine Below.drew ?_ | refine Below.drewN ?_ _ | (refine Below.putF ?_ (by first | (simp; done) | omega | (simp; omega)) _) | (refine Below.setCell ?_ (by first | (simp; done) | (simp; omega)) _))), fun h => by cases h⟩
      case o7 =>
        intro x w1 hH K hK
        have e11 : x 11 = _ := hH.holds 6 (by decide) (by decide +kernel) 11 rfl
        obtain ⟨xs, d, rfl⟩ := grow_of_below hH.below
        clear hH
        try simp only [World.grow_drew] at hK ⊢
        try simp only [World.grow_grow] at hK ⊢
        simp only [e11] at hK ⊢
        clear e11
        go_simp
        go_wp2_with fail
        exact ⟨_, rfl, rfl, (by repeat (first | exact below_of_grow _ _ | exact Below.refl _ _ | exact below_more _ _ _ _ | (simp only [← Array.append_assoc]; first | exact below_more _ _ _ _ | exact below_same _ _ _ | exact Below.refl _ _) | exact below_same _ _ _ | (refine Below.alloc ?_ (by first | (simp; done) | (simp; omega)) _) | (refine Below.grow ?_ (by first | (simp; done) | (simp; omega)) _ _) | refine Below.drew ?_ | refine Below.drewN ?_ _ | (refine Below.putF ?_ (by first | (simp; done) | omega | (simp; omega)) _) | (refine Below.setCell ?_ (by first | (simp; done) | (simp; omega)) _))), fun h => by cases h⟩
      case o8 =>
        intro x w1 hH
        have e11 : x 11 = _ := hH.holds 6 (by decide) (by decide +kernel) 11 rfl
        clear hH
        simp only [e11]
        exact Or.inl ⟨rfl, fun _ => rfl⟩
      case o9 =>
        intro x w1 hH K hK
        obtain ⟨xs, d, rfl⟩ := grow_of_below hH.below
        clear hH
        try simp only [World.grow_drew] at hK ⊢
        try simp only [World.grow_grow] at hK ⊢
        go_simp
        go_wp2_with fail
        exact left_new rfl (by simp) (by first | (simp; done) | (simp; omega))
    case hend =>
      intro x w1 hH
      have e12 : x 12 = _ := hH.holds 0 (by decide) trivial 12 rfl
      have e13 : x 13 = _ := hH.holds 1 (by decide) trivial 13 rfl
      have e14 : x 14 = _ := hH.holds 2 (by decide) trivial 14 rfl
      have e15 : x 15 = _ := hH.holds 3 (by decide) trivial 15 rfl
      have e16 : x 16 = _ := hH.holds 4 (by decide) trivial 16 rfl
      have e17 : x 17 = _ := hH.holds 5 (by decide) trivial 17 rfl
      have e11 : x 11 = _ := hH.holds 6 (by decide) trivial 11 rfl
      have e18 : x 18 = _ := hH.holds 7 (by decide) trivial 18 rfl
      have e19 : x 19 = _ := hH.holds 8 (by decide) trivial 19 rfl
      obtain ⟨b6, e6, l6, u6, o6⟩ := hH.holds 9 (by decide) trivial 6 rfl
      obtain ⟨xs, d, rfl⟩ := grow_of_below hH.below
      clear hH
      simp only [e12, e13, e14, e15, e16, e17, e11, e18, e19, e6]; clear e12 e13 e14 e15 e16 e17 e11 e18 e19 e6
      refine new_known1 o6 l6 u6 ?_
      clear o6
      simp [go_sem] at l6 u6
      simp only [List.drop_succ_cons, List.drop_zero]
      go_wp2_with fail
      refine bodyPost_ret (v := .tuple #[.agg (wrtA wr0), .bool false]) (results_two Tryz.results33 (ResIs.row rfl agg_wrt (cut_heap (((World.putF_heap_ne _ (by omega)).trans (World.grow_heap _ _ _ (by simp))).trans ((heap_al _ _ _).trans (if_pos (by simp)))) (wrtA_size _))) rfl) rfl ⟨rfl, (by repeat (first | exact below_of_grow _ _ | exact Below.refl _ _ | exact below_more _ _ _ _ | (simp only [← Array.append_assoc]; first | exact below_more _ _ _ _ | exact below_same _ _ _ | exact Below.refl _ _) | exact below_same _ _ _ | (refine Below.alloc ?_ (by first | (simp; done) | (simp; omega)) _) | (refine Below.grow ?_ (by first | (simp; done) | (simp; omega)) _ _) | refine Below.drew ?_ | refine Below.drewN ?_ _ | (refine Below.putF ?_ (by first | (simp; done) | omega | (simp; omega)) _) | (refine Below.setCell ?_ (by first | (simp; done) | (simp; omega)) _)))⟩
  · rw [hm] at hc
    clear hm
    generalize hl : lk g.W k = r
    have HM := Lib.hid hM
    have HL := Lib.hid hl
    clear hM hl
    have hr : (r.map evWr).getD (.agg (wrtA wr0)) = .agg (wrtA (r.getD wr0)) := by cases r <;> rfl
    obtain ⟨xw, hx⟩ : ∃ x, x = r.getD wr0 := ⟨_, rfl⟩
    obtain ⟨yb, hy⟩ : ∃ y, y = r.isSome := ⟨_, rfl⟩
    rw [← hx, ← hy]
    rw [← hx] at hr
    have HR := Lib.hid hr
    have HY := Lib.hid hy
    clear hr hx hy
    unfold Gives
    go_enter Tryz.func33, Tryz.ntmps33
    go_wp2_with fail
    apply wp_region_specs (by rfl) [.val _, .val _, .val _, .val _, .val _, .val _, .val _, .val _, .pure _, .new _] 10 (by rfl) [12, 13, 14, 15, 16, 17, 11, 18, 19, 6] [9] [8] (by rfl) (by rfl) (by decide) (by decide +kernel) (fun _ _ _ _ _ h => h)
    case hF => intro x; simp only [over, List.foldl_cons, List.foldl_nil, List.setIfInBounds_toArray, List.set_cons_succ, List.set_cons_zero]; exact rfl
    case hops =>
      refine ⟨?o0, ?o1, ?o2, ?o3, ?o4, ?o5, ?o6, ?o7, ?o8, ?o9, trivial⟩
      case o0 =>
        intro x w1 hH K hK
        obtain ⟨xs, d, rfl⟩ := grow_of_below hH.below
        clear hH
        try simp only [World.grow_drew] at hK ⊢
        try simp only [World.grow_grow] at hK ⊢
        go_simp
        go_wp2_with fail
        exact ⟨_, rfl, rfl, (by repeat (first | exact below_of_grow _ _ | exact Below.refl _ _ | exact below_more _ _ _ _ | (simp only [← Array.append_assoc]; first | exact below_more _ _ _ _ | exact below_same _ _ _ | exact Below.refl _ _) | exact below_same _ _ _ | (refine Below.alloc ?_ (by first | (simp; done) | (simp; omega)) _) | (refine Below.grow ?_ (by first | (simp; done) | (simp; omega)) _ _) | refine Below.drew ?_ | refine Below.drewN ?_ _ | (refine Below.putF ?_ (by first | (simp; done) | omega | (simp; omega)) _) | (refine Below.setCell ?_ (by first | (simp; done) | (simp; omega)) _))), fun h => by cases h⟩
      case o1 =>
        intro x w1 hH K hK
        have e12 : x 12 = _ := hH.holds 0 (by decide) (by decide +kernel) 12 rfl
        obtain ⟨xs, d, rfl⟩ := grow_of_below hH.below
        clear hH
        try simp only [World.grow_drew] at hK ⊢
        try simp only [World.grow_grow] at hK ⊢
        simp only [e12] at hK ⊢
        clear e12
        go_simp
        go_wp2_with fail
        exact ⟨_, rfl, rfl, (by repeat (first | exact below_of_grow _ _ | exact Below.refl _ _ | exact below_more _ _ _ _ | (simp only [← Array.append_assoc]; first | exact below_more _ _ _ _ | exact below_same _ _ _ | exact Below.refl _ _) | exact below_same _ _ _ | (refine Below.alloc ?_ (by first | (simp; done) | (simp; omega)) _) | (refine Below.grow ?_ (by first | (simp; done) | (simp; omega)) _ _) | refine Below.drew ?_ | refine Below.drewN ?_ _ | (refine Below.putF ?_ (by first | (simp; done) | omega | (simp; omega)) _) | (refine Below.setCell ?_ (by first | (simp; done) | (simp; omega)) _))), fun h => by cases h⟩
      case o2 =>
        intro x w1 hH K hK
        have e13 : x 13 = _ := hH.holds 1 (by decide) (by decide +kernel) 13 rfl
        obtain ⟨xs, d, rfl⟩ := grow_of_below hH.below
        clear hH
        try simp only [World.grow_drew] at hK ⊢
        try simp only [World.grow_grow] at hK ⊢
        simp only [e13] at hK ⊢
        clear e13
        go_simp
        go_wp2_with fail
        exact ⟨_, rfl, rfl, (by repeat (first | exact below_of_grow _ _ | exact Below.refl _ _ | exact below_more _ _ _ _ | (simp only [← Array.append_assoc]; first | exact below_more _ _ _ _ | exact below_same _ _ _ | exact Below.refl _ _) | exact below_same _ _ _ | (refine Below.alloc ?_ (by first | (simp; done) | (simp; omega)) _) | (refine Below.grow ?_ (by first | (simp; done) | (simp; omega)) _ _) | refine Below.drew ?_ | refine Below.drewN ?_ _ | (refine Below.putF ?_ (by first | (simp; done) | omega | (simp; omega)) _) | (refine Below.setCell ?_ (by first | (simp; done) | (simp; omega)) _))), fun h => by cases h⟩
      case o3 =>
        intro x w1 hH K hK
        have e14 : x 14 = _ := hH.holds 2 (by decide) (by decide +kernel) 14 rfl
        obtain ⟨xs, d, rfl⟩ := grow_of_below hH.below
        clear hH
        try simp only [World.grow_drew] at hK ⊢
        try simp only [World.grow_grow] at hK ⊢
        simp only [e14] at hK ⊢
        clear e14
        go_simp
        go_wp2_with fail
        exact ⟨_, rfl, rfl, (by repeat (first | exact below_of_grow _ _ | exact Below.refl _ _ | exact below_more _ _ _ _ | (simp only [← Array.append_assoc]; first | exact below_more _ _ _ _ | exact below_same _ _ _ | exact Below.refl _ _) | exact below_same _ _ _ | (refine Below.alloc ?_ (by first | (simp; done) | (simp; omega)) _) | (refine Below.grow ?_ (by first | (simp; done) | (simp; omega)) _ _) | refine Below.drew ?_ | refine Below.drewN ?_ _ | (refine Below.putF ?_ (by first | (simp; done) | omega | (simp; omega)) _) | (refine Below.setCell ?_ (by first | (simp; done) | (simp; omega)) _))), fun h => by cases h⟩
      case o4 =>
        intro x w1 hH K hK
        obtain ⟨xs, d, rfl⟩ := grow_of_below hH.below
        clear hH
        try simp only [World.grow_drew] at hK ⊢
        try simp only [World.grow_grow] at hK ⊢
        go_simp
        go_wp2_with fail
        exact ⟨_, rfl, rfl, (by repeat (first | exact below_of_grow _ _ | exact Below.refl _ _ | exact below_more _ _ _ _ | (simp only [← Array.append_assoc]; first | exact below_more _ _ _ _ | exact below_same _ _ _ | exact Below.refl _ _) | exact below_same _ _ _ | (refine Below.alloc ?_ (by first | (simp; done) | (simp; omega)) _) | (refine Below.grow ?_ (by first | (simp; done) | (simp; omega)) _ _) | refine Below.drew ?_ | refine Below.drewN ?_ _ | (refine Below.putF ?_ (by first | (simp; done) | omega | (simp; omega)) _) | (refine Below.setCell ?_ (by first | (simp; done) | (simp; omega)) _))), fun h => by cases h⟩
      case o5 =>
        intro x w1 hH K hK
        have e15 : x 15 = _ := hH.holds 3 (by decide) (by decide +kernel) 15 rfl
        have e16 : x 16 = _ := hH.holds 4 (by decide) (by decide +kernel) 16 rfl
        obtain ⟨xs, d, rfl⟩ := grow_of_below hH.below
        clear hH
        try simp only [World.grow_drew] at hK ⊢
        try simp only [World.grow_grow] at hK ⊢
        simp only [e15, e16] at hK ⊢
        clear e15 e16
        refine look_ok_op keyEncB _ _ _ _ rfl Tryz.underlying92 rfl (((HM.out.alloc _).alloc _).grow _ _) k trivial rfl (HZ.out _) ?_
        rw [HL.out, HR.out, ← HY.out]
        refine hK _ _ ?_
        exact ⟨_, rfl, rfl, Below.refl _ _, fun h => by cases h⟩
      case o6 =>
        intro x w1 hH K hK
        have e17 : x 17 = _ := hH.holds 5 (by decide) (by decide +kernel) 17 rfl
        obtain ⟨xs, d, rfl⟩ := grow_of_below hH.below
        clear hH
        try simp only [World.grow_drew] at hK ⊢
        try simp only [World.grow_grow] at hK ⊢
        simp only [e17] at hK ⊢
        clear e17
        go_simp
        go_wp2_with fail
        exact ⟨_, rfl, rfl, (by repeat (first | exact below_of_grow _ _ | exact Below.refl _ _ | exact below_more _ _ _ _ | (simp only [← Array.append_assoc]; first | exact below_more _ _ _ _ | exact below_same _ _ _ | exact Below.refl _ _) | exact below_same _ _ _ | (refine Below.alloc ?_ (by first | (simp; done) | (simp; omega)) _) | (refine Below.grow ?_ (by first | (simp; done) | (simp; omega)) _ _) | refine Below.drew ?_ | refine Below.drewN ?_ _ | (refine Below.putF ?_ (by first | (simp; done) | omega | (simp; omega)) _) | (refine Below.setCell ?_ (by first | (simp; done) | (simp; omega)) _))), fun h => by cases h⟩
      case o7 =>
        intro x w1 hH K hK
        have e11 : x 11 = _ := hH.holds 6 (by decide) (by decide +kernel) 11 rfl
        obtain ⟨xs, d, rfl⟩ := grow_of_below hH.below
        clear hH
        try simp only [World.grow_drew] at hK ⊢
        try simp only [World.grow_grow] at hK ⊢
        simp only [e11] at hK ⊢
        clear e11
        go_simp
        go_wp2_with fail
        exact ⟨_, rfl, rfl, (by repeat (first | exact below_of_grow _ _ | exact Below.refl _ _ | exact below_more _ _ _ _ | (simp only [← Array.append_assoc]; first | exact below_more _ _ _ _ | exact below_same _ _ _ | exact Below.refl _ _) | exact below_same _ _ _ | (refine Below.alloc ?_ (by first | (simp; done) | (simp; omega)) _) | (refine Below.grow ?_ (by first | (simp; done) | (simp; omega)) _ _) | refine Below.drew ?_ | refine Below.drewN ?_ _ | (refine Below.putF ?_ (by first | (simp; done) | omega | (simp; omega)) _) | (refine Below.setCell ?_ (by first | (simp; done) | (simp; omega)) _))), fun h => by cases h⟩
      case o8 =>
        intro x w1 hH
        have e11 : x 11 = _ := hH.holds 6 (by decide) (by decide +kernel) 11 rfl
        clear hH
        simp only [e11]
        exact Or.inl ⟨rfl, fun _ => rfl⟩
      case o9 =>
        intro x w1 hH K hK
        obtain ⟨xs, d, rfl⟩ := grow_of_below hH.below
        clear hH
        try simp only [World.grow_drew] at hK ⊢
        try simp only [World.grow_grow] at hK ⊢
        go_simp
        go_wp2_with fail
        exact left_new rfl (by simp) (by first | (simp; done) | (simp; omega))
    case hend =>
      intro x w1 hH
      have e12 : x 12 = _ := hH.holds 0 (by decide) trivial 12 rfl
      have e13 : x 13 = _ := hH.holds 1 (by decide) trivial 13 rfl
      have e14 : x 14 = _ := hH.holds 2 (by decide) trivial 14 rfl
      have e15 : x 15 = _ := hH.holds 3 (by decide) trivial 15 rfl
      have e16 : x 16 = _ := hH.holds 4 (by decide) trivial 16 rfl
      have e17 : x 17 = _ := hH.holds 5 (by decide) trivial 17 rfl
      have e11 : x 11 = _ := hH.holds 6 (by decide) trivial 11 rfl
      have e18 : x 18 = _ := hH.holds 7 (by decide) trivial 18 rfl
      have e19 : x 19 = _ := hH.holds 8 (by decide) trivial 19 rfl
      obtain ⟨b6, e6, l6, u6, o6⟩ := hH.holds 9 (by decide) trivial 6 rfl
      obtain ⟨xs, d, rfl⟩ := grow_of_below hH.below
      clear hH
      simp only [e12, e13, e14, e15, e16, e17, e11, e18, e19, e6]; clear e12 e13 e14 e15 e16 e17 e11 e18 e19 e6
      refine new_known1 o6 l6 u6 ?_
      clear o6
      simp [go_sem] at l6 u6
      simp only [List.drop_succ_cons, List.drop_zero]
      go_wp2_with fail
      refine bodyPost_ret (v := .tuple #[.agg (wrtA xw), .bool yb]) (results_two Tryz.results33 (ResIs.row rfl agg_wrt (cut_heap (((World.putF_heap_ne _ (by omega)).trans (World.grow_heap _ _ _ (by simp))).trans ((heap_al _ _ _).trans (if_pos (by simp)))) (wrtA_size _))) rfl) rfl ⟨rfl, (by repeat (first | exact below_of_grow _ _ | exact Below.refl _ _ | exact below_more _ _ _ _ | (simp only [← Array.append_assoc]; first | exact below_more _ _ _ _ | exact below_same _ _ _ | exact Below.refl _ _) | exact below_same _ _ _ | (refine Below.alloc ?_ (by first | (simp; done) | (simp; omega)) _) | (refine Below.grow ?_ (by first | (simp; done) | (simp; omega)) _ _) | refine Below.drew ?_ | refine Below.drewN ?_ _ | (refine Below.putF ?_ (by first | (simp; done) | omega | (simp; omega)) _) | (refine Below.setCell ?_ (by first | (simp; done) | (simp; omega)) _)))⟩
theorem bgetNil_gives (k : K25) (w : World) : Gives Tryz.prog 33 #[.pointer none, .agg (row8 k.val)] w (.tuple #[.agg (wrtA wr0), .bool false]) := by
  have hkl := k.len
  unfold Gives
  go_enter Tryz.func33, Tryz.ntmps33
  go_wp2_with fail
  refine bodyPost_ret (v := .tuple #[.agg (wrtA wr0), .bool false]) (results_two Tryz.results33 (ResIs.row rfl agg_wrt ((cut_heap ((heap_al _ _ _).trans (if_pos (by simp))) rfl).trans rfl)) rfl) rfl ⟨rfl, (by repeat (first | exact below_of_grow _ _ | exact Below.refl _ _ | exact below_more _ _ _ _ | (simp only [← Array.append_assoc]; first | exact below_more _ _ _ _ | exact below_same _ _ _ | exact Below.refl _ _) | exact below_same _ _ _ | (refine Below.alloc ?_ (by first | (simp; done) | (simp; omega)) _) | (refine Below.grow ?_ (by first | (simp; done) | (simp; omega)) _ _) | refine Below.drew ?_ | refine Below.drewN ?_ _ | (refine Below.putF ?_ (by first | (simp; done) | omega | (simp; omega)) _) | (refine Below.setCell ?_ (by first | (simp; done) | (simp; omega)) _)))⟩
end Go.Proofs.YtfmphfidloobkaaGreatDoor
namespace Go.Proofs.YtfmphfidloobkaaGreatDoor
set_option maxRecDepth 100000
open Go.RowKit

set_option maxHeartbeats 8000000 in
theorem writes_calls {w : World} {B b : Nat} {g : BG} (h : BufAt w B b g) (hlen : g.W.length ≤ 1000) :
    Calls Tryz.prog 42 #[.pointer (some ⟨b, 0, none⟩)] w fun e w' => ∃ v', e = .returned v' ∧ Below w.heap.size w w' ∧ OwnA w' w.heap.size 35 79 v' ((writesB g.W).map wrtA) := by
  have hc : w.cell? ⟨b, 0, none⟩ = some (.map g.m1) := (cells_is h.cells 0).1
  have hkeys := h.keys
  have hbl : b < w.heap.size := h.lt b (by simp [BG.blocks])
  obtain ⟨L, hL⟩ : ∃ L, L = g.W := ⟨_, rfl⟩
  have hw1 := h.w1
  rw [← hL] at hw1 hlen hkeys ⊢
  clear h hL
  rcases hw1 with ⟨hm, hL⟩ | ⟨m, hm, hM⟩
  · rw [hm] at hc
    have hrg := run_range_nilMap (P := Tryz.prog) w _ _ _ Tryz.underlying92
    have hnx : ∀ ty, (Instr.next (.pointer (some ⟨w.heap.size, 0, none⟩)) false ty).run Tryz.prog (w.alloc (.mapIter none 0 #[] 0)) = _ := fun ty => run_next_nilMap w ty 0 0 #[]
    rw [hL]
    clear hm hL hkeys hlen
    have HOC := Lib.hid (fun (W : World) (hb : Below w.heap.size w W) => orderWrites_calls [] (.slice none 0 0) W w.heap.size hb.size (OwnA.nil _ _ _ _) (Nat.zero_le _))
    go_enter Tryz.func42, Tryz.ntmps42
    go_wp2_with fail
    refine wp_loop_rounds 1 ?_
    rw [rounds_succ]
    go_wp2_with fail
    refine (HOC.out _ (by repeat (first | exact below_of_grow _ _ | exact Below.refl _ _ | exact below_more _ _ _ _ | (simp only [← Array.append_assoc]; first | exact below_more _ _ _ _ | exact below_same _ _ _ | exact Below.refl _ _) | exact below_same _ _ _ | (refine Below.alloc ?_ (by first | (simp; done) | (simp; omega)) _) | (refine Below.grow ?_ (by first | (simp; done) | (simp; omega)) _ _) | refine Below.drew ?_ | refine Below.drewN ?_ _ | (refine Below.putF ?_ (by first | (simp; done) | omega | (simp; omega)) _) | (refine Below.setCell ?_ (by first | (simp; done) | (simp; omega)) _)))).mono ?_
    rintro e w3 ⟨rfl, l', hp, _, ho, hb⟩
    have hl' : l' = [] := List.perm_nil.1 hp
    subst hl'
    have HF := Lib.hid (And.intro ho hb)
    clear ho hb hp
    go_wp2_with fail
    go_ret
    exact ⟨.slice none 0 0, rfl, (show Below w.heap.size w (w.alloc (.mapIter none 0 #[] 0)) from (Below.refl _ _).alloc (Nat.le_refl _) _).trans (HF.out.2.mono (by simp)), by rw [show writesB [] = [] from by simp [writesB, sortK]]; exact HF.out.1⟩
  · rw [hm] at hc
    have hu := hM.uniq
    have hml := hM.lt
    have HM := Lib.hid hM
    have HK := Lib.hid (writes_nodup hu hkeys)
    clear hm hM hkeys hu
    go_enter Tryz.func42, Tryz.ntmps42
    go_wp2_with fail
    obtain ⟨w1, hrun, hr1, hb1⟩ := range_run (P := Tryz.prog) (t := 92) (et := 79) Tryz.underlying92 HM.out
    rw [hrun]
    simp only [Result.andThen]
    rw [Oper.upon_value]
    have HR := Lib.hid hr1
    have HB := Lib.hid hb1
    clear hrun hr1 hb1
    have hs1 : w.heap.size + 1 ≤ w1.heap.size := HR.out.lt.2
    go_wp2_with fail
    simp only [Act.put, List.setIfInBounds_toArray, List.set_cons_succ, List.set_cons_zero]
    go_loopg [3] L.length (fun gk s3 wr => ∃ (left done : MW), gk = left.length ∧ Hid (RangeIs ekB evWr (fun _ => True) wr m w.heap.size L left) ∧ Hid ((done ++ left).Perm L) ∧ Hid (Below w.heap.size w wr) ∧ Hid (OwnA wr (w.heap.size + 1) 35 79 s3 ((done.map (·.2)).map wrtA)) ∧ w.heap.size + 1 ≤ wr.heap.size)
    case atStart => exact ⟨L, [], rfl, HR, Lib.hid (List.Perm.refl _), HB, Lib.hid (OwnA.nil _ _ _ _), hs1⟩
    case round =>
      obtain ⟨left, done, hgk, HR2, HP, HB2, HO, hsz⟩ := hrel
      rcases next_run (P := Tryz.prog) 0 HR2.out with ⟨h0, hrun⟩ | ⟨p, w2, hp, hrun, h1, h2, h3⟩
      · have HP2 := Lib.hid (show done.Perm L by have := HP.out; rwa [h0, List.append_nil] at this)
        clear h0 HP
        go_wp2_with fail
        refine (orderWrites_calls (done.map (·.2)) u3 wr (w.heap.size + 1) hsz HO.out (by rw [List.length_map, HP2.out.length_eq]; omega)).mono ?_
        rintro e w3 ⟨rfl, l', hp', hs', ho', hb'⟩
        have heq : l' = writesB L := sortK_unique (f := fun x : Wr => x.k) HK.out (hp'.trans (HP2.out.map (·.2))) hs'
        rw [heq] at ho'
        have HO3 := Lib.hid ho'
        have HB3 := Lib.hid (HB2.out.trans (hb'.mono (Nat.le_succ _)))
        clear ho' hb' hp' hs' heq
        go_wp2_with fail
        go_ret
        exact ⟨_, rfl, HB3.out, HO3.out.mono (Nat.le_succ _)⟩
      · have HP2 := Lib.hid (show (done ++ [p] ++ del left p.1).Perm L by
          have h4 : Uniq left := HR2.out.uniqL
          have := HP.out
          rw [List.append_assoc, List.singleton_append]
          exact ((del_perm h4 hp).append_left done).trans this)
        have hdl : (del left p.1).length < gk := by rw [hgk]; exact del_mem_len hp
        have hlt := h1.lt
        have hr2 := h2.size
        have hne : ∀ g, u3.ownBlock = some g → g ≠ w.heap.size := fun g hg => by have := HO.out.lt g hg; omega
        have HR3 := Lib.hid h1
        have HO2 := Lib.hid (HO.out.keep (w' := w2) (fun g hg hlt => h2.block g (hne g hg)))
        have HB3 := Lib.hid (HB2.out.trans ⟨h2.os, h2.tape, h2.output, by rw [h2.size]; exact Nat.le_refl _, fun k hk => h2.block k (by omega)⟩ : Below w.heap.size w w2)
        have hdone : done.length ≤ 1000 := by
          have := HP.out.length_eq
          rw [List.length_append] at this
          omega
        have hsz2 : w.heap.size + 1 ≤ w2.heap.size := by omega
        clear h1 h2 hp HR2 HP HB2 HO hne hr2 hsz
        obtain ⟨k, x⟩ := p
        simp only [ekB, evWr] at hrun h3
        go_wp2_with (at_builtin; refine wpList_append (B := w.heap.size + 1) (xs := (done.map (·.2)).map wrtA) (ys := [wrtA x]) row_wrt' rfl (.tmp 17) (.tmp 19) rfl (v := u3) rfl ?_ rfl ?_ ?_ ?_ ?_ ?_)
        case refine_1 => have := (HO2.out.alloc (.cells (wrtA x) 79)).alloc (.cells (wrtA x) 79); simpa using this
        case refine_2 =>
          refine ⟨_, sl_one (Nat.le_refl _) (by decide) (cut_heap ((heap_al _ _ _).trans (if_pos ?_)) (by simp))⟩
          simp
        case refine_4 => omega
        case refine_5 => omega
        intro v3 w3 ho hg hv
        obtain ⟨W, hW⟩ : ∃ W, W = ((w2.alloc (Obj.cells (wrtA x) 79)).alloc (Obj.cells (wrtA x) 79)) := ⟨_, rfl⟩
        have hWb : Below w2.heap.size w2 W := by rw [hW]; exact (by repeat (first | exact below_of_grow _ _ | exact Below.refl _ _ | exact below_more _ _ _ _ | (simp only [← Array.append_assoc]; first | exact below_more _ _ _ _ | exact below_same _ _ _ | exact Below.refl _ _) | exact below_same _ _ _ | (refine Below.alloc ?_ (by first | (simp; done) | (simp; omega)) _) | (refine Below.grow ?_ (by first | (simp; done) | (simp; omega)) _ _) | refine Below.drew ?_ | refine Below.drewN ?_ _ | (refine Below.putF ?_ (by first | (simp; done) | omega | (simp; omega)) _) | (refine Below.setCell ?_ (by first | (simp; done) | (simp; omega)) _)))
        rw [← hW] at hg
        clear hv
        have hbb : Below w.heap.size w w3 := Below.grown (HB3.out.trans (hWb.mono (by omega))) hg (by have := hWb.size; omega) (fun q hq => by have := HO2.out.lt q hq; omega)
        have hkeep : ∀ q, q ≤ w.heap.size → w3.heap[q]? = w2.heap[q]? := fun q hq => by
          rw [hg.block q (by have := hWb.size; omega) (fun e => by have := HO2.out.lt q e.symm; omega)]
          exact hWb.block q (by omega)
        have hr3 := HR3.out.keep (hkeep m (by omega)) (hkeep _ (Nat.le_refl _))
        have hs3 : w.heap.size + 1 ≤ w3.heap.size := by have := hg.size; have := hWb.size; omega
        have HO3 := Lib.hid ho
        have HB4 := Lib.hid hbb
        have HR4 := Lib.hid hr3
        clear ho hg hW hWb hbb hkeep hr3 HR3 HO2 HB3
        go_wp2_with fail
        go_roundg (del left k).length
        case measure => exact hdl
        case rel => exact ⟨del left k, done ++ [(k, x)], rfl, HR4, HP2, HB4, Lib.hid (by have := HO3.out; simpa using this), hs3⟩
end Go.Proofs.YtfmphfidloobkaaGreatDoor

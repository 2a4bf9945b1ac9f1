/- Layer 19's law: what is told of a name and a tag, in memory. -/
import Derived.Test.YteepjgdieciogaaGreatDoorQcg
import Derived.Test.YteepjgdieciogaaGreatDoorQac
import Derived.Test.YteepjgdieciogaaGreatDoorQad
import Derived.Test.YteepjgdieciogaaGreatDoorQab
import Derived.Handy
import Derived.Test.YteepjgdieciogaaGreatDoorQcl
import Derived.Test.YteepjgdieciogaaGreatDoorQcp
import Derived.Test.YteepjgdieciogaaGreatDoorQck
import Derived.BigRegion
import Derived.Deep.CutBlock
import Derived.Deep.Cut
namespace Go.Proofs.YteepjgdieciogaaGreatDoor
theorem zvQcr {p : Prop} (h : p := by (go_simp; (first | (with_reducible refine hK _ _ ?_) | go_wp2_with fail); exact ⟨_, rfl, rfl, blv, fun h => by cases h⟩)) : p := h
set_option maxRecDepth 100000
open Go.RowKit

structure Told where
 a : Rec
 b : Rec
 n : UInt8
instance : DecidableEq Told := fun x y =>
 if h : x.a = y.a ∧ x.b = y.b ∧ x.n = y.n then .isTrue (by obtain ⟨h0, h1, h2⟩ := h; cases x; cases y; simp only at *; subst h0 h1 h2; rfl)
 else .isFalse (by rintro rfl; exact h ⟨rfl, rfl, rfl⟩)
def toldL (x : Told) : List Value := recL x.a ++ (recL x.b ++ [.int .i64 (x.n.toNat : Int)])
def toldA (x : Told) : Array Value := (toldL x).toArray
@[go_sem, simp] theorem toldA_size (x : Told) : (toldA x).size = 19 := id rfl
@[go_sem] theorem toldA_all (x : Told) : (toldA x).extract 0 19 = toldA x := by apply Array.extract_eq_self_of_le; simp
@[go_sem] theorem agg_told : Tryz.prog.aggSize 78 = some 19 := by kernel_rfl
@[go_sem ↓ high] theorem ld_told (a : Addr) : loadVar 78 a = rowLoad 78 a := rfl
@[go_sem ↓ high] theorem st_told (a : Addr) (v : Value) : storeVar 78 a v = rowStore 78 a v := rfl
theorem row_told : RowType Tryz.prog 59 78 19 88 := ⟨Tryz.underlying59, by kernel_rfl, by decide, by decide⟩
@[go_sem] theorem one_told (x : Told) : allOne (toldA x) = true := allOne_list (by
 intro v hv
 rcases List.mem_append.1 hv with hv | hv
 ·exact one_recL _ v hv
 ·rcases List.mem_append.1 hv with hv | hv
  ·exact one_recL _ v hv
  ·simp at hv; subst hv; rfl)
theorem flat_told : FlatType Tryz.prog 78 (recKs ++ (recKs ++ [.int .i64])) := ⟨by kernel_rfl, by kernel_rfl, agg_told⟩
def toldLs (x : Told) : List Lit := recLs x.a ++ (recLs x.b ++ [.int .i64 (x.n.toNat : Int)])
theorem told_fit (x : Told) : FitAll (recKs ++ (recKs ++ [.int .i64])) (toldL x) (toldLs x) := (rec_fit _).append ((rec_fit _).append (.cons (fit_u8i _) .nil))
theorem told_inj {x y : Told} (h : toldLs x = toldLs y) : x = y := by
 unfold toldLs at h
 obtain ⟨h1, h2⟩ := List.append_inj h (by rw [(rec_fit x.a).l, (rec_fit y.a).l])
 obtain ⟨h3, h4⟩ := List.append_inj h2 (by rw [(rec_fit x.b).l, (rec_fit y.b).l])
 have e1 := rec_inj h1
 have e2 := rec_inj h3
 simp only [List.cons.injEq, Lit.int.injEq, true_and, and_true] at h4
 have e3 := u8_inj h4
 cases x; cases y; simp only at e1 e2 e3; subst e1 e2 e3; rfl
@[go_sem ↓ high] theorem eq_told (a b : Told) (w : World) : (Op.equalIn 10000 78 (.agg (toldA a)) (.agg (toldA b))).run Tryz.prog w = .ok (decide (a = b)) w :=
 eq_of_flat (f := toldL) (g := toldLs) flat_told told_fit (fun _ _ => told_inj) a b w
def bldTd (t : TypeId) (p q r : Nat × Value) : Sem Value := Instr.build t #[p, q, r]
@[go_sem ↓ high] theorem bTold_eq (f : Nat × Operand → Nat × Value) (p q r' : Nat × Operand) : Instr.build 78 (Array.map f #[p, q, r']) = bldTd 78 (f p) (f q) (f r') := by simp [bldTd]
theorem told_parts (a b : Rec) (n : UInt8) : recA a ++ recA b ++ #[.int .i64 (n.toNat : Int)] = toldA ⟨a, b, n⟩ := by apply Array.ext'; simp [recA, toldA, toldL]
@[go_sem] theorem bTold_run (a b : Rec) (n : UInt8) (w : World) : (bldTd 78 (0, .agg (recA a)) (1, .agg (recA b)) (2, .int .i64 (n.toNat : Int))).run Tryz.prog w = .ok (.agg (toldA ⟨a, b, n⟩)) w := by
 unfold bldTd
 have := build_three (P := Tryz.prog) (w := w) (n := 9) (m := 9) (k := 1) (a := .agg (recA a)) (b := .agg (recA b)) (c := .int .i64 (n.toNat : Int)) Tryz.zeroValue78 Tryz.underlying78 (by intro w; kernel_rfl) (by simp [Value.cells]) (by simp [Value.cells]) (by simp [Value.cells]) (by rfl)
 rw [this]
 exact congrArg (fun c => Result.ok (Value.agg c) w) (told_parts a b n)
/-- what a view tells of a name and a tag -/
def toldOf (f : K25 → List Ver) (T : UInt64) (p b0 : UInt8) (L : List Lnk) (n : List UInt8) (hn : n.length = 12) (t : List UInt8) (ht : t.length = 10) : Told :=
 ⟨(toldV (seenV f T p b0 5 n (zeros 10) ⟨hn, rfl⟩ L)).1, (toldV (seenV f T p b0 6 n t ⟨hn, ht⟩ L)).1, (stateV (seenV f T p b0 5 n (zeros 10) ⟨hn, rfl⟩ L) (seenV f T p b0 6 n t ⟨hn, ht⟩ L)).1⟩
end Go.Proofs.YteepjgdieciogaaGreatDoor
namespace Go.Proofs.YteepjgdieciogaaGreatDoor
open Go.RowKit

/-- what is seen of a name, of a name and a tag -/
def oV (f : K25 → List Ver) (T : UInt64) (p b0 : UInt8) (P : List Lnk) (nm : N12) : Option (UInt8 × Rec) := seenV f T p b0 5 nm.1 (zeros 10) ⟨nm.2, rfl⟩ P
def qV (f : K25 → List Ver) (T : UInt64) (p b0 : UInt8) (P : List Lnk) (nm : N12) (tg : T10) : Option (UInt8 × Rec) := seenV f T p b0 6 nm.1 tg.1 ⟨nm.2, tg.2⟩ P
/-- what is told of a name and a tag, and of all of them -/
def toldTQ (o : N12 → Option (UInt8 × Rec)) (q : N12 → T10 → Option (UInt8 × Rec)) (nm : N12) (tg : T10) : Told := ⟨(toldV (o nm)).1, (toldV (q nm tg)).1, (stateV (o nm) (q nm tg)).1⟩
def rowsTQ (o : N12 → Option (UInt8 × Rec)) (q : N12 → T10 → Option (UInt8 × Rec)) (ns : List N12) (ts : List T10) : List Told := ns.flatMap fun nm => ts.map (toldTQ o q nm)
theorem rowsTQ_nil (o : N12 → Option (UInt8 × Rec)) (q : N12 → T10 → Option (UInt8 × Rec)) (ts : List T10) : rowsTQ o q [] ts = [] := rfl
theorem rowsTQ_snoc (o : N12 → Option (UInt8 × Rec)) (q : N12 → T10 → Option (UInt8 × Rec)) (ns : List N12) (nm : N12) (ts : List T10) : rowsTQ o q (ns ++ [nm]) ts = rowsTQ o q ns ts ++ ts.map (toldTQ o q nm) := by
 simp [rowsTQ]
theorem rowsTQ_len (o : N12 → Option (UInt8 × Rec)) (q : N12 → T10 → Option (UInt8 × Rec)) (ts : List T10) : ∀ ns : List N12, (rowsTQ o q ns ts).length = ns.length * ts.length
 | [] => by simp [rowsTQ]
 | n :: ns => by
  have ih := rowsTQ_len o q ts ns
  unfold rowsTQ at ih ⊢
  rw [List.flatMap_cons, List.length_append, ih, List.length_map, List.length_cons, Nat.succ_mul]
  omega
theorem take_cut {α : Type} {l : List α} {i n : Nat} (hi : i ≤ n) (h : i = l.length ∨ i = n) : l.take i = l.take n := by
 rcases h with rfl | rfl
 ·rw [List.take_of_length_le (Nat.le_refl _), List.take_of_length_le hi]
 ·rfl
section
variable {b0 : UInt8} {f g : K25 → List Ver} {T T' : UInt64}
theorem Later.oV (h : Later b0 f T g T') (p : UInt8) {P : List Lnk} (hl : ∀ l ∈ P, l.1 = b0 ∨ l.2.toNat ≤ T.toNat) : Go.Proofs.YteepjgdieciogaaGreatDoor.oV g T' p b0 P = Go.Proofs.YteepjgdieciogaaGreatDoor.oV f T p b0 P :=
 funext fun nm => h.seenV p (.inl rfl) nm.1 (zeros 10) ⟨nm.2, rfl⟩ P hl
theorem Later.qV (h : Later b0 f T g T') (p : UInt8) {P : List Lnk} (hl : ∀ l ∈ P, l.1 = b0 ∨ l.2.toNat ≤ T.toNat) : Go.Proofs.YteepjgdieciogaaGreatDoor.qV g T' p b0 P = Go.Proofs.YteepjgdieciogaaGreatDoor.qV f T p b0 P :=
 funext fun nm => funext fun tg => h.seenV p (.inr rfl) nm.1 tg.1 ⟨nm.2, tg.2⟩ P hl
end
/-- links whose times are none behind T, but the first one -/
theorem links_low {P : List Lnk} {b0 : UInt8} {T : UInt64} (hf : P = [] ∨ ∃ u q, P = (b0, u) :: q) (h : ∀ i, 1 ≤ i → ∀ hi : i < P.length, (P[i]).2.toNat ≤ T.toNat) : ∀ l ∈ P, l.1 = b0 ∨ l.2.toNat ≤ T.toNat := by
 rcases hf with rfl | ⟨u, q, rfl⟩
 ·intro l hl; simp at hl
 ·intro l hl
  rcases List.mem_cons.1 hl with rfl | hl
  ·exact .inl rfl
  ·obtain ⟨i, hi, rfl⟩ := List.getElem_of_mem hl
   exact .inr (by have := h (i + 1) (by omega) (by simp; omega); simpa using this)
/-- all are apart, as far as looked at -/
theorem apart_snoc (b0 : UInt8) (l : List Wr) (x : Wr) : apartL b0 (l ++ [x]) = (apartL b0 l && (decide (5 ≤ (byt x.k.val 0).toNat) && decide (byt x.k.val 2 ≠ b0))) := by
 simp [apartL, List.all_append]
end Go.Proofs.YteepjgdieciogaaGreatDoor
namespace Go.Proofs.YteepjgdieciogaaGreatDoor
set_option maxRecDepth 100000
open Go.RowKit

theorem OwnA.lower {w : World} {B B' sz : Nat} {e : TypeId} {v : Value} {xs : List (Array Value)} (h : OwnA w B sz e v xs) (hB : B' ≤ B) : OwnA w B' sz e v xs := by
 obtain ⟨h0, h1, h2⟩ := h
 refine ⟨h0, h1, ?_⟩
 rcases h2 with h2 | ⟨g, cap, cur, a, b, r⟩
 ·exact .inl h2
 ·exact .inr ⟨g, cap, cur, a, Nat.le_trans hB b, r⟩
set_option maxHeartbeats 40000000 in
theorem all_calls (x : SomeV) (ns : List N12) (ts : List T10) (vb : Nat) (o : N12 → Option (UInt8 × Rec)) (q : N12 → T10 → Option (UInt8 × Rec)) (w : World) (hN : SlA w w.heap.size 12 x.names (ns.map rowN)) (hT : SlA w w.heap.size 10 x.tags (ts.map rowT)) (hx : ∃ a0 n0 c0 a1 n1 c1, x.rows = .slice a0 n0 c0 ∧ x.own = .slice a1 n1 c1)
  (ho : ∀ nm V, Below w.heap.size w V → Gives Tryz.prog 16 #[.pointer (some ⟨vb, 0, none⟩), .agg (rowN nm)] V (toldT (o nm)))
  (hq : ∀ nm tg V, Below w.heap.size w V → Gives Tryz.prog 17 #[.pointer (some ⟨vb, 0, none⟩), .agg (rowN nm), .agg (rowT tg)] V (toldT (q nm tg)))
  (hs : ∀ nm tg V, Below w.heap.size w V → Gives Tryz.prog 18 #[.pointer (some ⟨vb, 0, none⟩), .agg (rowN nm), .agg (rowT tg)] V (stateT (o nm) (q nm tg))) :
  Calls Tryz.prog 13 #[.pointer (some ⟨vb, 0, none⟩), .agg x.arr] w fun e w' => ∃ v, e = .returned v ∧ Below w.heap.size w w' ∧ OwnA w' w.heap.size 19 78 v ((rowsTQ o q (ns.take 6) (ts.take 4)).map toldA) := by
 obtain ⟨rv, ov, pj, br, sn, at_, nv, tv, ms⟩ := x
 obtain ⟨a0, n0, c0, a1, n1, c1, e0, e1⟩ := hx
 obtain ⟨a6, c6, e6, -, -⟩ := hN.form
 obtain ⟨a7, c7, e7, -, -⟩ := hT.form
 simp only [List.length_map] at e0 e1 e6 e7
 subst e0 e1 e6 e7
 simp only [SomeV.arr]
 simp only at hN hT
 have HN0 := Lib.hid (And.intro hN hT)
 have HTOLD := Lib.hid (And.intro ho (And.intro hq hs))
 clear hN hT ho hq hs
 go_enter Tryz.func13, Tryz.ntmps13
 go_upto_region 1 with fail
 refine wp_name ?_
 intro W0 hW0
 obtain ⟨xb, hxb⟩ : ∃ xb, xb = w.heap.size := ⟨_, rfl⟩
 have hb0 : Below w.heap.size w W0 := by rw [hW0]; exact blw
 have hx0 : W0.heap[xb]? = some (.cells #[.slice a0 n0 c0, .slice a1 n1 c1, .int .i64 pj, .int .i64 br, .bool sn, .int .u64 (at_.toNat : Int), .slice a6 ns.length c6, .slice a7 ts.length c7, .int .i64 ms] 28) := by rw [hW0, hxb]; exact (heap_al _ _ _).trans (if_pos rfl)
 simp only [← hxb]
 have hw0 : w.heap.size ≤ W0.heap.size := hb0.size
 have HN := Lib.hid (And.intro ((HN0.out.1.below hb0).more hw0) ((HN0.out.2.below hb0).more hw0))
 have HB0 := Lib.hid hb0
 have HX := Lib.hid hx0
 clear hW0 hb0 hx0 hxb HN0
 go_wp2_with fail
 go_loopw [5, 6] (fun s5 s6 wr => ∃ i : Nat, i ≤ ns.length ∧ i ≤ 6 ∧ s6 = .int .i64 i ∧ Hid (Below W0.heap.size W0 wr) ∧ Hid (OwnA wr W0.heap.size 19 78 s5 ((rowsTQ o q (ns.take i) (ts.take 4)).map toldA))) (fun _ s6 _ => 6 - (intOf s6).toNat)
 case atStart => exact ⟨0, Nat.zero_le _, Nat.zero_le _, rfl, Lib.hid blw, Lib.hid (OwnA.nil _ _ _ _)⟩
 case round =>
  obtain ⟨i, hi, hi6, rfl, HR, HO⟩ := hrel
  have x6 : wr.cell? ⟨xb, 6, none⟩ = some (.slice a6 ns.length c6) := (cells_is ((HR.out.block xb (lt_of_heap HX.out)).trans HX.out) 6).1.trans rfl
  by_cases hli : i < ns.length
  ·have hliI : (i : Int) < ns.length := by omega
   by_cases h6 : i < 6
   ·have h6I : (i : Int) < 6 := by omega
    go_wp2_with fail
    go_loopw [5, 7] (fun s5 s7 wq => ∃ j : Nat, j ≤ ts.length ∧ j ≤ 4 ∧ s7 = .int .i64 j ∧ Hid (Below W0.heap.size W0 wq) ∧ Hid (OwnA wq W0.heap.size 19 78 s5 ((rowsTQ o q (ns.take i) (ts.take 4) ++ (ts.take j).map (toldTQ o q ns[i])).map toldA))) (fun _ s7 _ => 4 - (intOf s7).toNat)
    case atStart => exact ⟨0, Nat.zero_le _, Nat.zero_le _, rfl, HR, Lib.hid (by simpa using HO.out)⟩
    case round =>
     obtain ⟨j, hj, hj4, rfl, HQ, HP⟩ := hrel
     clear x6
     have x6 : wr.cell? ⟨xb, 6, none⟩ = some (.slice a6 ns.length c6) := (cells_is ((HQ.out.block xb (lt_of_heap HX.out)).trans HX.out) 6).1.trans rfl
     have x7 : wr.cell? ⟨xb, 7, none⟩ = some (.slice a7 ts.length c7) := (cells_is ((HQ.out.block xb (lt_of_heap HX.out)).trans HX.out) 7).1.trans rfl
     have lxq : xb < wr.heap.size := by have := lt_of_heap HX.out; have := HQ.out.size; omega
     by_cases hlj : j < ts.length
     ·have hljI : (j : Int) < ts.length := by omega
      by_cases h4 : j < 4
      ·have h4I : (j : Int) < 4 := by omega
       obtain ⟨-, _, _, he, -, -, hcA⟩ := (HN.out.1.below HQ.out)
       simp only [Value.slice.injEq, List.length_map, true_and] at he
       obtain ⟨rfl, rfl⟩ := he
       obtain ⟨g6, q6, rfl, hlb6, hcut6⟩ := hcA (by simp; omega)
       have hc6 := hcut6 i (rowN ns[i]) (by simp [hli])
       clear hcut6
       obtain ⟨-, _, _, he, -, -, hcB⟩ := (HN.out.2.below HQ.out)
       simp only [Value.slice.injEq, List.length_map, true_and] at he
       obtain ⟨rfl, rfl⟩ := he
       obtain ⟨g7, q7, rfl, hlb7, hcut7⟩ := hcB (by simp; omega)
       have hc7 := hcut7 j (rowT ts[j]) (by simp [hlj])
       clear hcut7
       obtain ⟨N, hNN⟩ : ∃ N, N = ns[i] := ⟨_, rfl⟩
       obtain ⟨G, hGG⟩ : ∃ G, G = ts[j] := ⟨_, rfl⟩
       rw [← hNN] at hc6
       rw [← hGG] at hc7
       have hnx : rowsTQ o q (ns.take i) (ts.take 4) ++ (ts.take (j + 1)).map (toldTQ o q ns[i]) = (rowsTQ o q (ns.take i) (ts.take 4) ++ (ts.take j).map (toldTQ o q ns[i])) ++ [toldTQ o q N G] := by
        rw [List.take_succ_eq_append_getElem hlj, List.map_append, List.append_assoc, hNN, hGG]; rfl
       have hlen : (rowsTQ o q (ns.take i) (ts.take 4) ++ (ts.take j).map (toldTQ o q ns[i])).length ≤ 100 := by
        have h1 := rowsTQ_len o q (ts.take 4) (ns.take i)
        have h2 : (ns.take i).length ≤ 6 := by rw [List.length_take]; omega
        have h3 : (ts.take 4).length ≤ 4 := by rw [List.length_take]; omega
        have h4 : (ns.take i).length * (ts.take 4).length ≤ 6 * 4 := Nat.mul_le_mul h2 h3
        rw [List.length_append, List.length_map, List.length_take]
        omega
       have HNX := Lib.hid hnx
       generalize rowsTQ o q (ns.take i) (ts.take 4) ++ (ts.take j).map (toldTQ o q ns[i]) = rows at HP HNX hlen hnx
       have hsz := HQ.out.size
       have lg6 : g6 < wr.heap.size := by omega
       have lg7 : g7 < wr.heap.size := by omega
       obtain ⟨ho, hq, hs⟩ := HTOLD.out
       have ho := ho N
       have hq := hq N G
       have hs := hs N G
       obtain ⟨nm, hn12⟩ := N
       obtain ⟨tg, ht10⟩ := G
       have htd : toldTQ o q ⟨nm, hn12⟩ ⟨tg, ht10⟩ = ⟨(toldV (o ⟨nm, hn12⟩)).1, (toldV (q ⟨nm, hn12⟩ ⟨tg, ht10⟩)).1, (stateV (o ⟨nm, hn12⟩) (q ⟨nm, hn12⟩ ⟨tg, ht10⟩)).1⟩ := rfl
       unfold rowN at hc6 ho hq hs
       unfold rowT at hc7 hq hs
       simp only at hc6 hc7 ho hq hs
       unfold toldT at ho hq
       unfold stateT at hs
       generalize toldTQ o q ⟨nm, hn12⟩ ⟨tg, ht10⟩ = td at *
       generalize o ⟨nm, hn12⟩ = o1 at *
       generalize q ⟨nm, hn12⟩ ⟨tg, ht10⟩ = q1 at *
       generalize (toldV o1).1 = r1 at *
       generalize (toldV o1).2.1 = n1 at *
       generalize (toldV o1).2.2 = f1 at *
       generalize (toldV q1).1 = r2 at *
       generalize (toldV q1).2.1 = n2 at *
       generalize (toldV q1).2.2 = f2 at *
       generalize (stateV o1 q1).1 = n3 at *
       generalize (stateV o1 q1).2.1 = r3 at *
       generalize (stateV o1 q1).2.2 = f3 at *
       have HTD := Lib.hid htd
       have HOO := Lib.hid (fun V (hb : Below wr.heap.size wr V) => ho V (HB0.out.trans ((HQ.out.trans (hb.mono hsz)).mono hw0)))
       have HQ2 := Lib.hid (fun V (hb : Below wr.heap.size wr V) => hq V (HB0.out.trans ((HQ.out.trans (hb.mono hsz)).mono hw0)))
       have HS := Lib.hid (fun V (hb : Below wr.heap.size wr V) => hs V (HB0.out.trans ((HQ.out.trans (hb.mono hsz)).mono hw0)))
       have hnl : (row8 nm).size = 12 := by simp [hn12]
       have htl : (row8 tg).size = 10 := by simp [ht10]
       clear ho hq hs htd hcA hcB hlb6 hlb7 HTOLD HN hNN hGG hnx HO HR
       go_wp2_with fail
       refine Gives.use (HOO.out _ blw) ?_
       intro xs1 d1
       go_upto_region 9 with fail
       refine wp_name ?_
       intro V1 hV1
       obtain ⟨b8, hb8⟩ : ∃ b, b = wr.heap.size + xs1.size := ⟨_, rfl⟩
       have hr8 : V1.heap[b8]? = some (.cells (recA r1) 72) := by rw [hV1, hb8]; exact (heap_al _ _ _).trans (if_pos (by simp))
       simp only [← hb8]
       have hbV1 : Below wr.heap.size wr V1 := by rw [hV1]; exact blw
       have hx1 := (hbV1.block xb lxq).trans ((HQ.out.block xb (lt_of_heap HX.out)).trans HX.out)
       have y6 : V1.cell? ⟨xb, 6, none⟩ = some (.slice (some ⟨g6, q6, none⟩) ns.length c6) := (cells_is hx1 6).1.trans rfl
       have y7 : V1.cell? ⟨xb, 7, none⟩ = some (.slice (some ⟨g7, q7, none⟩) ts.length c7) := (cells_is hx1 7).1.trans rfl
       have hd6 := (cut_of_heap (hbV1.block g6 lg6) _ _).trans hc6
       have hd7 := (cut_of_heap (hbV1.block g7 lg7) _ _).trans hc7
       have hV1s := hbV1.size
       have lx1 : xb < V1.heap.size := by omega
       have lh6 : g6 < V1.heap.size := by omega
       have lh7 : g7 < V1.heap.size := by omega
       have lh8 : b8 < V1.heap.size := lt_of_heap hr8
       have HT := Lib.hid (fun V (hb : Below V1.heap.size V1 V) => HQ2.out V (hbV1.trans (hb.mono hV1s)))
       have HS1 := Lib.hid (fun V (hb : Below V1.heap.size V1 V) => HS.out V (hbV1.trans (hb.mono hV1s)))
       have HBV := Lib.hid hbV1
       have HX1 := Lib.hid hr8
       clear x6 x7 hc6 hc7 lg6 lg7 hV1 hx1 hbV1 hb8 hr8 HOO HQ2 HS
       go_cut [11, 12, 13] (fun s11 s12 s13 wx => ∃ b11 : Nat, s11 = .pointer (some ⟨b11, 0, none⟩) ∧ Hid (Below V1.heap.size V1 wx) ∧ Hid (wx.heap[b11]? = some (.cells (recA r2) 72)))
       case first =>
        clear HTD HNX HP HQ HX HB0 HS1 HBV HX1
        go_wp2_with fail
        apply wp_region_specs (by rfl) [.val _, .val _, .val _, .val _, .val _, .val _, .val _, .val _, .val _, .val _, .val _, .val _, .val _, .val _, .pure _, .pure _, .new _] 17 (by rfl) [51, 52, 53, 54, 55, 56, 57, 58, 59, 60, 61, 62, 50, 63, 64, 65, 11] [16] [14, 15] (by rfl) (by rfl) (by decide) (by decide +kernel) (fun _ _ _ _ _ h => h)
        case hF => intro x; simp only [over, List.foldl_cons, List.foldl_nil, List.setIfInBounds_toArray, List.set_cons_succ, List.set_cons_zero]; exact rfl
        case hops =>
         refine ⟨?o0, ?o1, ?o2, ?o3, ?o4, ?o5, ?o6, ?o7, ?o8, ?o9, ?o10, ?o11, ?o12, ?o13, ?o14, ?o15, ?o16, trivial⟩
         case o0 =>
          intro x w1 hH K hK
          obtain ⟨xs, d, rfl⟩ := grow_of_below hH.below
          clear hH
          try simp only [World.grow_drew] at hK ⊢
          try simp only [World.grow_grow] at hK ⊢
          exact zvQcr
         case o1 =>
          intro x w1 hH K hK
          obtain ⟨xs, d, rfl⟩ := grow_of_below hH.below
          clear hH
          try simp only [World.grow_drew] at hK ⊢
          try simp only [World.grow_grow] at hK ⊢
          exact zvQcr
         case o2 =>
          intro x w1 hH K hK
          have e52 : x 52 = _ := hH.g 1 52
          obtain ⟨xs, d, rfl⟩ := grow_of_below hH.below
          clear hH
          try simp only [World.grow_drew] at hK ⊢
          try simp only [World.grow_grow] at hK ⊢
          simp only [e52] at hK ⊢
          clear e52
          exact zvQcr
         case o3 =>
          intro x w1 hH K hK
          obtain ⟨xs, d, rfl⟩ := grow_of_below hH.below
          clear hH
          try simp only [World.grow_drew] at hK ⊢
          try simp only [World.grow_grow] at hK ⊢
          exact zvQcr
         case o4 =>
          intro x w1 hH K hK
          have e53 : x 53 = _ := hH.g 2 53
          have e54 : x 54 = _ := hH.g 3 54
          obtain ⟨xs, d, rfl⟩ := grow_of_below hH.below
          clear hH
          try simp only [World.grow_drew] at hK ⊢
          try simp only [World.grow_grow] at hK ⊢
          simp only [e53, e54] at hK ⊢
          clear e53 e54
          exact zvQcr
         case o5 =>
          intro x w1 hH K hK
          have e55 : x 55 = _ := hH.g 4 55
          obtain ⟨xs, d, rfl⟩ := grow_of_below hH.below
          clear hH
          try simp only [World.grow_drew] at hK ⊢
          try simp only [World.grow_grow] at hK ⊢
          simp only [e55] at hK ⊢
          clear e55
          exact zvQcr
         case o6 =>
          intro x w1 hH K hK
          obtain ⟨xs, d, rfl⟩ := grow_of_below hH.below
          clear hH
          try simp only [World.grow_drew] at hK ⊢
          try simp only [World.grow_grow] at hK ⊢
          exact zvQcr
         case o7 =>
          intro x w1 hH K hK
          have e57 : x 57 = _ := hH.g 6 57
          obtain ⟨xs, d, rfl⟩ := grow_of_below hH.below
          clear hH
          try simp only [World.grow_drew] at hK ⊢
          try simp only [World.grow_grow] at hK ⊢
          simp only [e57] at hK ⊢
          clear e57
          exact zvQcr
         case o8 =>
          intro x w1 hH K hK
          obtain ⟨xs, d, rfl⟩ := grow_of_below hH.below
          clear hH
          try simp only [World.grow_drew] at hK ⊢
          try simp only [World.grow_grow] at hK ⊢
          exact zvQcr
         case o9 =>
          intro x w1 hH K hK
          have e58 : x 58 = _ := hH.g 7 58
          have e59 : x 59 = _ := hH.g 8 59
          obtain ⟨xs, d, rfl⟩ := grow_of_below hH.below
          clear hH
          try simp only [World.grow_drew] at hK ⊢
          try simp only [World.grow_grow] at hK ⊢
          simp only [e58, e59] at hK ⊢
          clear e58 e59
          exact zvQcr
         case o10 =>
          intro x w1 hH K hK
          have e60 : x 60 = _ := hH.g 9 60
          obtain ⟨xs, d, rfl⟩ := grow_of_below hH.below
          clear hH
          try simp only [World.grow_drew] at hK ⊢
          try simp only [World.grow_grow] at hK ⊢
          simp only [e60] at hK ⊢
          clear e60
          exact zvQcr
         case o11 =>
          intro x w1 hH K hK
          have e51 : x 51 = _ := hH.g 0 51
          have e56 : x 56 = _ := hH.g 5 56
          have e61 : x 61 = _ := hH.g 10 61
          obtain ⟨xs, d, rfl⟩ := grow_of_below hH.below
          clear hH
          try simp only [World.grow_drew] at hK ⊢
          try simp only [World.grow_grow] at hK ⊢
          simp only [e51, e56, e61] at hK ⊢
          clear e51 e56 e61
          go_simp
          refine Gives.use (HT.out _ blw) ?_
          intro ys e
          go_wp2_with fail
          exact ⟨_, rfl, rfl, blw, fun h => by cases h⟩
         case o12 =>
          intro x w1 hH K hK
          have e62 : x 62 = _ := hH.g 11 62
          obtain ⟨xs, d, rfl⟩ := grow_of_below hH.below
          clear hH
          try simp only [World.grow_drew] at hK ⊢
          try simp only [World.grow_grow] at hK ⊢
          simp only [e62] at hK ⊢
          clear e62
          exact zvQcr
         case o13 =>
          intro x w1 hH K hK
          have e50 : x 50 = _ := hH.g 12 50
          obtain ⟨xs, d, rfl⟩ := grow_of_below hH.below
          clear hH
          try simp only [World.grow_drew] at hK ⊢
          try simp only [World.grow_grow] at hK ⊢
          simp only [e50] at hK ⊢
          clear e50
          exact zvQcr
         case o14 =>
          intro x w1 hH
          have e50 : x 50 = _ := hH.g 12 50
          clear hH
          simp only [e50]
          exact Or.inl ⟨rfl, fun _ => rfl⟩
         case o15 =>
          intro x w1 hH
          have e50 : x 50 = _ := hH.g 12 50
          clear hH
          simp only [e50]
          exact Or.inl ⟨rfl, fun _ => rfl⟩
         case o16 =>
          intro x w1 hH K hK
          obtain ⟨xs, d, rfl⟩ := grow_of_below hH.below
          clear hH
          try simp only [World.grow_drew] at hK ⊢
          try simp only [World.grow_grow] at hK ⊢
          go_simp
          go_wp2_with fail
          exact left_new rfl (by simp) (by first | (simp; done) | (simp; omega))
        case hend =>
         intro x w1 hH
         have e51 : x 51 = _ := hH.t 0 51
         have e52 : x 52 = _ := hH.t 1 52
         have e53 : x 53 = _ := hH.t 2 53
         have e54 : x 54 = _ := hH.t 3 54
         have e55 : x 55 = _ := hH.t 4 55
         have e56 : x 56 = _ := hH.t 5 56
         have e57 : x 57 = _ := hH.t 6 57
         have e58 : x 58 = _ := hH.t 7 58
         have e59 : x 59 = _ := hH.t 8 59
         have e60 : x 60 = _ := hH.t 9 60
         have e61 : x 61 = _ := hH.t 10 61
         have e62 : x 62 = _ := hH.t 11 62
         have e50 : x 50 = _ := hH.t 12 50
         have e63 : x 63 = _ := hH.t 13 63
         have e64 : x 64 = _ := hH.t 14 64
         have e65 : x 65 = _ := hH.t 15 65
         obtain ⟨b11, e11, l11, u11, o11⟩ := hH.t 16 11
         obtain ⟨xs, d, rfl⟩ := grow_of_below hH.below
         clear hH
         simp only [e51, e52, e53, e54, e55, e56, e57, e58, e59, e60, e61, e62, e50, e63, e64, e65, e11]; clear e51 e52 e53 e54 e55 e56 e57 e58 e59 e60 e61 e62 e50 e63 e64 e65 e11
         refine new_known1 o11 l11 u11 ?_
         clear o11
         simp [go_sem] at l11 u11
         simp only [List.drop_succ_cons, List.drop_zero]
         go_wp2_with fail
         go_meet
         exact ⟨_, rfl, Lib.hid blw, Lib.hid (World.putF_heap_eq _ (by first | assumption | (simp; omega)))⟩
       case rest =>
        obtain ⟨b11, rfl, hb2, hr11⟩ := hcut
        generalize wc = V2 at *
        have hV2s := hb2.out.size
        have z6 := (hb2.out.cell (p := ⟨xb, 6, none⟩) lx1).trans y6
        have z7 := (hb2.out.cell (p := ⟨xb, 7, none⟩) lx1).trans y7
        have he6 := (cut_of_heap (hb2.out.block g6 lh6) _ _).trans hd6
        have he7 := (cut_of_heap (hb2.out.block g7 lh7) _ _).trans hd7
        have lx2 : xb < V2.heap.size := by omega
        have li6 : g6 < V2.heap.size := by omega
        have li7 : g7 < V2.heap.size := by omega
        have HS2 := Lib.hid (fun V (hb : Below V2.heap.size V2 V) => HS1.out V (hb2.out.trans (hb.mono hV2s)))
        have HBV2 := Lib.hid (HBV.out.trans (hb2.out.mono HBV.out.size))
        have HX2 := Lib.hid (And.intro ((hb2.out.block b8 lh8).trans HX1.out) hr11.out)
        clear y6 y7 hd6 hd7 lx1 lh6 lh7 lh8 hV1s hV2s hb2 hr11 HX1 HS1 HBV HT
        go_upto_region 10 with fail
        go_cut [14, 15, 16] (fun s14 s15 s16 wx => s14 = .int .i64 (n3.toNat : Int) ∧ Hid (Below V2.heap.size V2 wx))
        case first =>
         clear HTD HNX HP HQ HX HB0 HBV2 HX2
         go_wp2_with fail
         apply wp_region_specs (by rfl) [.val _, .val _, .val _, .val _, .val _, .val _, .val _, .val _, .val _, .val _, .val _, .val _, .val _, .val _, .pure _, .pure _, .new _] 17 (by rfl) [67, 68, 69, 70, 71, 72, 73, 74, 75, 76, 77, 78, 66, 79, 80, 81, 15] [16] [14, 15] (by rfl) (by rfl) (by decide) (by decide +kernel) (fun _ _ _ _ _ h => h)
         case hF => intro x; simp only [over, List.foldl_cons, List.foldl_nil, List.setIfInBounds_toArray, List.set_cons_succ, List.set_cons_zero]; exact rfl
         case hops =>
          refine ⟨?o0, ?o1, ?o2, ?o3, ?o4, ?o5, ?o6, ?o7, ?o8, ?o9, ?o10, ?o11, ?o12, ?o13, ?o14, ?o15, ?o16, trivial⟩
          case o0 =>
           intro x w1 hH K hK
           obtain ⟨xs, d, rfl⟩ := grow_of_below hH.below
           clear hH
           try simp only [World.grow_drew] at hK ⊢
           try simp only [World.grow_grow] at hK ⊢
           exact zvQcr
          case o1 =>
           intro x w1 hH K hK
           obtain ⟨xs, d, rfl⟩ := grow_of_below hH.below
           clear hH
           try simp only [World.grow_drew] at hK ⊢
           try simp only [World.grow_grow] at hK ⊢
           exact zvQcr
          case o2 =>
           intro x w1 hH K hK
           have e68 : x 68 = _ := hH.g 1 68
           obtain ⟨xs, d, rfl⟩ := grow_of_below hH.below
           clear hH
           try simp only [World.grow_drew] at hK ⊢
           try simp only [World.grow_grow] at hK ⊢
           simp only [e68] at hK ⊢
           clear e68
           exact zvQcr
          case o3 =>
           intro x w1 hH K hK
           obtain ⟨xs, d, rfl⟩ := grow_of_below hH.below
           clear hH
           try simp only [World.grow_drew] at hK ⊢
           try simp only [World.grow_grow] at hK ⊢
           exact zvQcr
          case o4 =>
           intro x w1 hH K hK
           have e69 : x 69 = _ := hH.g 2 69
           have e70 : x 70 = _ := hH.g 3 70
           obtain ⟨xs, d, rfl⟩ := grow_of_below hH.below
           clear hH
           try simp only [World.grow_drew] at hK ⊢
           try simp only [World.grow_grow] at hK ⊢
           simp only [e69, e70] at hK ⊢
           clear e69 e70
           exact zvQcr
          case o5 =>
           intro x w1 hH K hK
           have e71 : x 71 = _ := hH.g 4 71
           obtain ⟨xs, d, rfl⟩ := grow_of_below hH.below
           clear hH
           try simp only [World.grow_drew] at hK ⊢
           try simp only [World.grow_grow] at hK ⊢
           simp only [e71] at hK ⊢
           clear e71
           exact zvQcr
          case o6 =>
           intro x w1 hH K hK
           obtain ⟨xs, d, rfl⟩ := grow_of_below hH.below
           clear hH
           try simp only [World.grow_drew] at hK ⊢
           try simp only [World.grow_grow] at hK ⊢
           exact zvQcr
          case o7 =>
           intro x w1 hH K hK
           have e73 : x 73 = _ := hH.g 6 73
           obtain ⟨xs, d, rfl⟩ := grow_of_below hH.below
           clear hH
           try simp only [World.grow_drew] at hK ⊢
           try simp only [World.grow_grow] at hK ⊢
           simp only [e73] at hK ⊢
           clear e73
           exact zvQcr
          case o8 =>
           intro x w1 hH K hK
           obtain ⟨xs, d, rfl⟩ := grow_of_below hH.below
           clear hH
           try simp only [World.grow_drew] at hK ⊢
           try simp only [World.grow_grow] at hK ⊢
           exact zvQcr
          case o9 =>
           intro x w1 hH K hK
           have e74 : x 74 = _ := hH.g 7 74
           have e75 : x 75 = _ := hH.g 8 75
           obtain ⟨xs, d, rfl⟩ := grow_of_below hH.below
           clear hH
           try simp only [World.grow_drew] at hK ⊢
           try simp only [World.grow_grow] at hK ⊢
           simp only [e74, e75] at hK ⊢
           clear e74 e75
           exact zvQcr
          case o10 =>
           intro x w1 hH K hK
           have e76 : x 76 = _ := hH.g 9 76
           obtain ⟨xs, d, rfl⟩ := grow_of_below hH.below
           clear hH
           try simp only [World.grow_drew] at hK ⊢
           try simp only [World.grow_grow] at hK ⊢
           simp only [e76] at hK ⊢
           clear e76
           exact zvQcr
          case o11 =>
           intro x w1 hH K hK
           have e67 : x 67 = _ := hH.g 0 67
           have e72 : x 72 = _ := hH.g 5 72
           have e77 : x 77 = _ := hH.g 10 77
           obtain ⟨xs, d, rfl⟩ := grow_of_below hH.below
           clear hH
           try simp only [World.grow_drew] at hK ⊢
           try simp only [World.grow_grow] at hK ⊢
           simp only [e67, e72, e77] at hK ⊢
           clear e67 e72 e77
           go_simp
           refine Gives.use (HS2.out _ blw) ?_
           intro ys e
           go_wp2_with fail
           exact ⟨_, rfl, rfl, blw, fun h => by cases h⟩
          case o12 =>
           intro x w1 hH K hK
           have e78 : x 78 = _ := hH.g 11 78
           obtain ⟨xs, d, rfl⟩ := grow_of_below hH.below
           clear hH
           try simp only [World.grow_drew] at hK ⊢
           try simp only [World.grow_grow] at hK ⊢
           simp only [e78] at hK ⊢
           clear e78
           exact zvQcr
          case o13 =>
           intro x w1 hH K hK
           have e66 : x 66 = _ := hH.g 12 66
           obtain ⟨xs, d, rfl⟩ := grow_of_below hH.below
           clear hH
           try simp only [World.grow_drew] at hK ⊢
           try simp only [World.grow_grow] at hK ⊢
           simp only [e66] at hK ⊢
           clear e66
           exact zvQcr
          case o14 =>
           intro x w1 hH
           have e66 : x 66 = _ := hH.g 12 66
           clear hH
           simp only [e66]
           exact Or.inl ⟨rfl, fun _ => rfl⟩
          case o15 =>
           intro x w1 hH
           have e66 : x 66 = _ := hH.g 12 66
           clear hH
           simp only [e66]
           exact Or.inl ⟨rfl, fun _ => rfl⟩
          case o16 =>
           intro x w1 hH K hK
           obtain ⟨xs, d, rfl⟩ := grow_of_below hH.below
           clear hH
           try simp only [World.grow_drew] at hK ⊢
           try simp only [World.grow_grow] at hK ⊢
           go_simp
           go_wp2_with fail
           exact left_new rfl (by simp) (by first | (simp; done) | (simp; omega))
         case hend =>
          intro x w1 hH
          have e67 : x 67 = _ := hH.t 0 67
          have e68 : x 68 = _ := hH.t 1 68
          have e69 : x 69 = _ := hH.t 2 69
          have e70 : x 70 = _ := hH.t 3 70
          have e71 : x 71 = _ := hH.t 4 71
          have e72 : x 72 = _ := hH.t 5 72
          have e73 : x 73 = _ := hH.t 6 73
          have e74 : x 74 = _ := hH.t 7 74
          have e75 : x 75 = _ := hH.t 8 75
          have e76 : x 76 = _ := hH.t 9 76
          have e77 : x 77 = _ := hH.t 10 77
          have e78 : x 78 = _ := hH.t 11 78
          have e66 : x 66 = _ := hH.t 12 66
          have e79 : x 79 = _ := hH.t 13 79
          have e80 : x 80 = _ := hH.t 14 80
          have e81 : x 81 = _ := hH.t 15 81
          obtain ⟨b15, e15, l15, u15, o15⟩ := hH.t 16 15
          obtain ⟨xs, d, rfl⟩ := grow_of_below hH.below
          clear hH
          simp only [e67, e68, e69, e70, e71, e72, e73, e74, e75, e76, e77, e78, e66, e79, e80, e81, e15]; clear e67 e68 e69 e70 e71 e72 e73 e74 e75 e76 e77 e78 e66 e79 e80 e81 e15
          refine new_known1 o15 l15 u15 ?_
          clear o15
          simp [go_sem] at l15 u15
          simp only [List.drop_succ_cons, List.drop_zero]
          go_wp2_with fail
          go_meet
          exact ⟨rfl, Lib.hid blw⟩
        case rest =>
         obtain ⟨rfl, hb3⟩ := hcut
         generalize wc = V3 at *
         have h8 := (hb3.out.block b8 (lt_of_heap HX2.out.1)).trans HX2.out.1
         have h11 := (hb3.out.block b11 (lt_of_heap HX2.out.2)).trans HX2.out.2
         have hbq : Below wr.heap.size wr V3 := HBV2.out.trans (hb3.out.mono HBV2.out.size)
         have HB3 := Lib.hid (HQ.out.trans (hbq.mono hsz))
         have HO3 := Lib.hid (HP.out.below hbq)
         have d0 : V3.cut? b8 0 9 = some (recA r1) := cut_heap h8 rfl
         have e0 : V3.cut? b11 0 9 = some (recA r2) := cut_heap h11 rfl
         have l8 := lt_of_heap h8
         have l11 := lt_of_heap h11
         have hs3 := hbq.size
         clear z6 z7 he6 he7 lx2 li6 li7 hb3 HX2 HS2 HBV2 h8 h11 HP HQ hbq
         have hT1 : toldA ⟨r1, r2, n3⟩ = toldA td := by rw [HTD.out]
         have HT1 := Lib.hid hT1
         clear hT1
         go_wp2_with (at_builtin; refine wpList_append (B := W0.heap.size) (xs := rows.map toldA) (ys := [toldA ⟨r1, r2, n3⟩]) row_told rfl (.tmp 82) (.tmp 87) rfl (v := u5) rfl ?_ rfl ?_ ?_ ?_ ?_ ?_)
         case refine_1 => exact HO3.out.alloc _
         case refine_2 => exact ⟨_, sl_one (Nat.le_refl _) (by decide) (cut_heap ((heap_al _ _ _).trans (if_pos (by simp))) (by simp))⟩
         case refine_3 => intro z hz; obtain rfl : z = toldA ⟨r1, r2, n3⟩ := by simpa using hz
                          exact one_told _
         case refine_4 => simp; omega
         case refine_5 => have := HB3.out.size; simp; omega
         intro v3 w3 ho hg _
         have hb4 : Below W0.heap.size W0 w3 := Below.grown (HB3.out.alloc (by have := HB3.out.size; omega) _) hg (by have := HB3.out.size; simp; omega) (fun q hq => by have := HO3.out.lt q hq; simp; omega)
         have HB4 := Lib.hid hb4
         have HO4 := Lib.hid (show OwnA w3 W0.heap.size 19 78 v3 ((rows ++ [td]).map toldA) by rw [HT1.out] at ho; simpa using ho)
         clear hb4 ho hg HB3 HO3 HT1 HTD
         go_wp2_with fail
         go_roundw
         case rel => exact ⟨j + 1, by omega, by omega, by go_num, HB4, Lib.hid (by rw [HNX.out]; exact HO4.out)⟩
         case measure => simp [intOf]; omega
      ·have h4I : ¬ (j : Int) < 4 := by omega
       have HE := Lib.hid (show rowsTQ o q (ns.take i) (ts.take 4) ++ (ts.take j).map (toldTQ o q ns[i]) = rowsTQ o q (ns.take (i + 1)) (ts.take 4) by
        rw [List.take_succ_eq_append_getElem hli, rowsTQ_snoc, take_cut hj4 (.inr (by omega))])
       clear HTOLD HN HO HR
       go_wp2_with fail
       go_roundw
       case rel => exact ⟨i + 1, by omega, by omega, by go_num, HQ, Lib.hid (by rw [← HE.out]; exact HP.out)⟩
       case measure => simp [intOf]; omega
     ·have hljI : ¬ (j : Int) < ts.length := by omega
      have HE := Lib.hid (show rowsTQ o q (ns.take i) (ts.take 4) ++ (ts.take j).map (toldTQ o q ns[i]) = rowsTQ o q (ns.take (i + 1)) (ts.take 4) by
       rw [List.take_succ_eq_append_getElem hli, rowsTQ_snoc, take_cut hj4 (.inl (by omega))])
      clear HTOLD HN HO HR
      go_wp2_with fail
      go_roundw
      case rel => exact ⟨i + 1, by omega, by omega, by go_num, HQ, Lib.hid (by rw [← HE.out]; exact HP.out)⟩
      case measure => simp [intOf]; omega
   ·have h6I : ¬ (i : Int) < 6 := by omega
    have HE := Lib.hid (show ns.take i = ns.take 6 from take_cut hi6 (.inr (by omega)))
    clear HTOLD HN
    go_wp2_with fail
    go_ret
    exact ⟨_, rfl, HB0.out.trans (HR.out.mono hw0), by rw [← HE.out]; exact HO.out.lower hw0⟩
  ·have hliI : ¬ (i : Int) < ns.length := by omega
   have HE := Lib.hid (show ns.take i = ns.take 6 from take_cut hi6 (.inl (by omega)))
   clear HTOLD HN
   go_wp2_with fail
   go_ret
   exact ⟨_, rfl, HB0.out.trans (HR.out.mono hw0), by rw [← HE.out]; exact HO.out.lower hw0⟩
end Go.Proofs.YteepjgdieciogaaGreatDoor

/- The document's record and write: what the operations do with them; a record, a write as the document has it. -/
import Derived.Test.YtcedmfnlkelhkaaGreatDoorQbb
import Derived.Test.YtcedmfnlkelhkaaGreatDoorQag
import Derived.Test.YtcedmfnlkelhkaaGreatDoorQao
import Derived.Handy
import Derived.BigRegion
import Derived.Test.YtcedmfnlkelhkaaGreatDoorQbc
import Derived.Test.YtcedmfnlkelhkaaGreatDoorQaa
namespace Go.Proofs.YtcedmfnlkelhkaaGreatDoor
theorem zwQbt {p : Prop} (h : p := by (go_simp; go_wp2_with fail; exact ⟨_, rfl, rfl, blw, fun h => by cases h⟩)) : p := h
set_option maxRecDepth 100000
open Go.RowKit
@[go_sem] theorem agg_recD : Tryz.prog.aggSize 49 = some 9 := by kernel_rfl
@[go_sem ↓ high] theorem ld_recD (a : Addr) : loadVar 49 a = rowLoad 49 a := rfl
@[go_sem ↓ high] theorem st_recD (a : Addr) (v : Value) : storeVar 49 a v = rowStore 49 a v := rfl
theorem wrap_u32 (b : UInt32) : IntKind.u64.wrap (b.toNat : Int) = b.toNat := by
 have h := b.toNat_lt
 simp [IntKind.wrap, IntKind.bits, IntKind.signed]
 omega
set_option maxHeartbeats 4000000 in
theorem recOf_gives (r : Rec) (w : World) : Gives Tryz.prog 84 #[.agg (recA r)] w (.agg (recD r)) := by
 have h0 := wrap64_byte r.kind
 have h1 := wrap64_byte r.state
 have h2 := wrap64_byte r.user
 have h3 := wrap64_byte r.parent
 have h4 := wrap64_byte r.mask
 have h6 := wrap_u32 r.rev
 unfold Gives
 go_enter Tryz.func84, Tryz.ntmps84
 go_wp2_with fail
 exact bodyPost_ret (v := .agg (recD r)) (results_one Tryz.results84 (ResIs.row (cs := recD r) rfl agg_recD (cut_heap ((heap_al _ _ _).trans (if_pos (by simp))) (by simp)))) rfl ⟨rfl, blw⟩
theorem flat_recD : FlatType Tryz.prog 49 recDKs := ⟨by kernel_rfl, by kernel_rfl, agg_recD⟩
@[go_sem ↓ high] theorem eq_recD (a b : Rec) (w : World) : (Op.equalIn 10000 49 (.agg (recD a)) (.agg (recD b))).run Tryz.prog w = .ok (decide (a = b)) w :=
 eq_of_flat (f := recDL) (g := recDLs) flat_recD recD_fit (fun _ _ => recD_inj) a b w
@[go_sem] theorem recD_all (r : Rec) : (recD r).extract 0 9 = recD r := by apply Array.extract_eq_self_of_le; simp
@[go_sem] theorem zero_recD : (#[.int .i64 0, .int .i64 0, .int .i64 0, .int .i64 0, .int .i64 0, .bool false, .int .u64 0, .int .u64 0, .string { data := #[] }] : Array Value) = recD Rec.zero := id rfl
@[go_sem, simp] theorem recD_0E (r : Rec) (h : 0 < (recD r).size) : (recD r)[0]'h = .int .i64 r.kind.toNat := id rfl
@[go_sem] theorem recD_0 (r : Rec) : (recD r)[0]? = some (.int .i64 r.kind.toNat) := id rfl
@[go_sem, simp] theorem recD_1E (r : Rec) (h : 1 < (recD r).size) : (recD r)[1]'h = .int .i64 r.state.toNat := id rfl
@[go_sem] theorem recD_1 (r : Rec) : (recD r)[1]? = some (.int .i64 r.state.toNat) := id rfl
@[go_sem, simp] theorem recD_2E (r : Rec) (h : 2 < (recD r).size) : (recD r)[2]'h = .int .i64 r.user.toNat := id rfl
@[go_sem] theorem recD_2 (r : Rec) : (recD r)[2]? = some (.int .i64 r.user.toNat) := id rfl
@[go_sem, simp] theorem recD_3E (r : Rec) (h : 3 < (recD r).size) : (recD r)[3]'h = .int .i64 r.parent.toNat := id rfl
@[go_sem] theorem recD_3 (r : Rec) : (recD r)[3]? = some (.int .i64 r.parent.toNat) := id rfl
@[go_sem, simp] theorem recD_4E (r : Rec) (h : 4 < (recD r).size) : (recD r)[4]'h = .int .i64 r.mask.toNat := id rfl
@[go_sem] theorem recD_4 (r : Rec) : (recD r)[4]? = some (.int .i64 r.mask.toNat) := id rfl
@[go_sem, simp] theorem recD_5E (r : Rec) (h : 5 < (recD r).size) : (recD r)[5]'h = .bool r.gone := id rfl
@[go_sem] theorem recD_5 (r : Rec) : (recD r)[5]? = some (.bool r.gone) := id rfl
@[go_sem, simp] theorem recD_6E (r : Rec) (h : 6 < (recD r).size) : (recD r)[6]'h = .int .u64 r.rev.toNat := id rfl
@[go_sem] theorem recD_6 (r : Rec) : (recD r)[6]? = some (.int .u64 r.rev.toNat) := id rfl
@[go_sem, simp] theorem recD_7E (r : Rec) (h : 7 < (recD r).size) : (recD r)[7]'h = .int .u64 r.at_.toNat := id rfl
@[go_sem] theorem recD_7 (r : Rec) : (recD r)[7]? = some (.int .u64 r.at_.toNat) := id rfl
@[go_sem, simp] theorem recD_8E (r : Rec) (h : 8 < (recD r).size) : (recD r)[8]'h = .string (bs r.text.val) := id rfl
@[go_sem] theorem recD_8 (r : Rec) : (recD r)[8]? = some (.string (bs r.text.val)) := id rfl
theorem rkey_list (k : K25) : rkey k.val = (keyDL k).toArray := rfl
@[go_sem, simp] theorem rkeyS (k : K25) : (rkey k.val).size = 25 := by rw [rkey_list]; simp [keyDL_len]
@[go_sem] theorem one_rkey (k : K25) : allOne (rkey k.val) = true := by rw [rkey_list]; exact allOne_list (one_keyDL k)
@[go_sem] theorem agg_wrtD : Tryz.prog.aggSize 161 = some 35 := by kernel_rfl
@[go_sem ↓ high] theorem ld_wrtD (a : Addr) : loadVar 161 a = rowLoad 161 a := rfl
@[go_sem ↓ high] theorem st_wrtD (a : Addr) (v : Value) : storeVar 161 a v = rowStore 161 a v := rfl
theorem flat_wrtD : FlatType Tryz.prog 161 (keyDKs ++ (.bool :: recDKs)) := ⟨by kernel_rfl, by kernel_rfl, agg_wrtD⟩
@[go_sem ↓ high] theorem eq_wrtD (a b : Wr) (w : World) : (Op.equalIn 10000 161 (.agg (wrtD a)) (.agg (wrtD b))).run Tryz.prog w = .ok (decide (a = b)) w :=
 eq_of_flat (f := fun x : Wr => keyDL x.k ++ .bool x.dead :: recDL x.r) (g := fun x => keyDLs x.k ++ .bool x.dead :: recDLs x.r) flat_wrtD (fun x => (keyD_fit _).append (.cons (show fits .bool _ _ from rfl) (recD_fit _))) (fun a b h => by
  have hl : (keyDLs a.k).length = (keyDLs b.k).length := by rw [(keyD_fit a.k).l, (keyD_fit b.k).l]
  obtain ⟨h1, h2⟩ := List.append_inj h hl
  have e1 := keyD_inj h1
  simp only [List.cons.injEq, Lit.bool.injEq] at h2
  have e2 := recD_inj h2.2
  have e3 := h2.1
  cases a; cases b; simp only at e1 e2 e3; subst e1 e2 e3; rfl) a b w
@[go_sem] theorem wrtD_all (x : Wr) : (wrtD x).extract 0 35 = wrtD x := by apply Array.extract_eq_self_of_le; simp
@[go_sem] theorem wrtD_key (x : Wr) : (wrtD x).extract 0 25 = rkey x.k.val := by rw [rkey_list]; exact ext_front _ _ 25 (keyDL_len _)
@[go_sem] theorem wrtD_rec (x : Wr) : (wrtD x).extract 26 35 = recD x.r := by
 have := ext_list (recDL x.r) (keyDL x.k ++ [.bool x.dead]) 26 (by simp [keyDL_len])
 rw [List.append_assoc] at this; exact this
@[go_sem] theorem wrtD_25 (x : Wr) : (wrtD x)[25]? = some (.bool x.dead) := by
 unfold wrtD
 rw [List.getElem?_toArray, List.getElem?_append_right (by simp [keyDL_len])]; simp [keyDL_len]
@[go_sem, simp] theorem wrtD_25E (x : Wr) (h : 25 < (wrtD x).size) : (wrtD x)[25]'h = .bool x.dead := by
 have := wrtD_25 x
 rw [Array.getElem?_eq_getElem h] at this
 exact Option.some.inj this
theorem row_wrtD : RowType Tryz.prog 30 161 35 136 := ⟨Tryz.underlying30, by kernel_rfl, by decide, by decide⟩
theorem wrtD_parts (x : Wr) : rkey x.k.val ++ #[.bool x.dead] ++ recD x.r = wrtD x := by rw [rkey_list]; apply Array.ext'; simp [recD, wrtD]
def bldF3 (t : TypeId) (p q r : Nat × Value) : Sem Value := Instr.build t #[p, q, r]
@[go_sem ↓ high] theorem bWrtF_eq (f : Nat × Operand → Nat × Value) (p q r' : Nat × Operand) : Instr.build 161 (Array.map f #[p, q, r']) = bldF3 161 (f p) (f q) (f r') := by simp [bldF3]
@[go_sem] theorem bWrtF_run (k : K25) (b : Bool) (r : Rec) (w : World) : (bldF3 161 (0, .agg (rkey k.val)) (1, .bool b) (2, .agg (recD r))).run Tryz.prog w = .ok (.agg (wrtD ⟨k, b, r⟩)) w := by
 unfold bldF3
 have := build_three (P := Tryz.prog) (w := w) (n := 25) (m := 1) (k := 9) (a := .agg (rkey k.val)) (b := .bool b) (c := .agg (recD r)) Tryz.zeroValue161 Tryz.underlying161 (by intro w; kernel_rfl) (by rw [rkey_list]; simp [Value.cells, keyDL_len]) (by simp [Value.cells]) (by simp [Value.cells]) (by rfl)
 rw [this]
 exact congrArg (fun c => Result.ok (Value.agg c) w) (wrtD_parts ⟨k, b, r⟩)
set_option maxHeartbeats 4000000 in
theorem wrOf_gives (z : Wr) (w : World) : Gives Tryz.prog 51 #[.agg (wrtA z)] w (.agg (wrtD z)) := by
 have hof := fun W => lawOf_gives z.k.val z.k.len W
 have hrc := recOf_gives z.r
 have HOF := Lib.hid hof
 have HRC := Lib.hid hrc
 clear hof hrc
 unfold Gives
 go_enter Tryz.func51, Tryz.ntmps51
 go_wp2_with fail
 apply wp_region_specs (by rfl) [.val _, .val _, .val _, .val _, .val _, .val _, .val _, .val _, .val _] 9 (by rfl) [3, 4, 5, 6, 7, 8, 9, 10, 11] [] [] (by rfl) (by rfl) (by decide) (by decide +kernel) (fun _ _ _ _ _ h => h)
 case hF => intro x; simp only [over, List.foldl_cons, List.foldl_nil, List.setIfInBounds_toArray, List.set_cons_succ, List.set_cons_zero]; exact rfl
 case hops =>
  refine ⟨?o0, ?o1, ?o2, ?o3, ?o4, ?o5, ?o6, ?o7, ?o8, trivial⟩
  case o0 =>
   intro x w1 hH K hK
   obtain ⟨xs, d, rfl⟩ := grow_of_below hH.below
   clear hH
   try simp only [World.grow_drew] at hK ⊢
   try simp only [World.grow_grow] at hK ⊢
   exact zwQbt
  case o1 =>
   intro x w1 hH K hK
   have e3 : x 3 = _ := hH.g 0 3
   obtain ⟨xs, d, rfl⟩ := grow_of_below hH.below
   clear hH
   try simp only [World.grow_drew] at hK ⊢
   try simp only [World.grow_grow] at hK ⊢
   simp only [e3] at hK ⊢
   clear e3
   exact zwQbt
  case o2 =>
   intro x w1 hH K hK
   have e4 : x 4 = _ := hH.g 1 4
   obtain ⟨xs, d, rfl⟩ := grow_of_below hH.below
   clear hH
   try simp only [World.grow_drew] at hK ⊢
   try simp only [World.grow_grow] at hK ⊢
   simp only [e4] at hK ⊢
   clear e4
   go_simp
   go_wp2_with (refine Gives.use (HOF.out _) ?_; intro ys e)
   exact ⟨_, rfl, rfl, blw, fun h => by cases h⟩
  case o3 =>
   intro x w1 hH K hK
   obtain ⟨xs, d, rfl⟩ := grow_of_below hH.below
   clear hH
   try simp only [World.grow_drew] at hK ⊢
   try simp only [World.grow_grow] at hK ⊢
   exact zwQbt
  case o4 =>
   intro x w1 hH K hK
   have e6 : x 6 = _ := hH.g 3 6
   obtain ⟨xs, d, rfl⟩ := grow_of_below hH.below
   clear hH
   try simp only [World.grow_drew] at hK ⊢
   try simp only [World.grow_grow] at hK ⊢
   simp only [e6] at hK ⊢
   clear e6
   exact zwQbt
  case o5 =>
   intro x w1 hH K hK
   obtain ⟨xs, d, rfl⟩ := grow_of_below hH.below
   clear hH
   try simp only [World.grow_drew] at hK ⊢
   try simp only [World.grow_grow] at hK ⊢
   exact zwQbt
  case o6 =>
   intro x w1 hH K hK
   have e8 : x 8 = _ := hH.g 5 8
   obtain ⟨xs, d, rfl⟩ := grow_of_below hH.below
   clear hH
   try simp only [World.grow_drew] at hK ⊢
   try simp only [World.grow_grow] at hK ⊢
   simp only [e8] at hK ⊢
   clear e8
   exact zwQbt
  case o7 =>
   intro x w1 hH K hK
   have e9 : x 9 = _ := hH.g 6 9
   obtain ⟨xs, d, rfl⟩ := grow_of_below hH.below
   clear hH
   try simp only [World.grow_drew] at hK ⊢
   try simp only [World.grow_grow] at hK ⊢
   simp only [e9] at hK ⊢
   clear e9
   go_simp
   go_wp2_with (refine Gives.use (HRC.out _) ?_; intro ys e)
   exact ⟨_, rfl, rfl, blw, fun h => by cases h⟩
  case o8 =>
   intro x w1 hH K hK
   have e5 : x 5 = _ := hH.g 2 5
   have e7 : x 7 = _ := hH.g 4 7
   have e10 : x 10 = _ := hH.g 7 10
   obtain ⟨xs, d, rfl⟩ := grow_of_below hH.below
   clear hH
   try simp only [World.grow_drew] at hK ⊢
   try simp only [World.grow_grow] at hK ⊢
   simp only [e5, e7, e10] at hK ⊢
   clear e5 e7 e10
   exact zwQbt
 case hend =>
  intro x w1 hH
  have e3 : x 3 = _ := hH.t 0 3
  have e4 : x 4 = _ := hH.t 1 4
  have e5 : x 5 = _ := hH.t 2 5
  have e6 : x 6 = _ := hH.t 3 6
  have e7 : x 7 = _ := hH.t 4 7
  have e8 : x 8 = _ := hH.t 5 8
  have e9 : x 9 = _ := hH.t 6 9
  have e10 : x 10 = _ := hH.t 7 10
  have e11 : x 11 = _ := hH.t 8 11
  obtain ⟨xs, d, rfl⟩ := grow_of_below hH.below
  clear hH
  simp only [e3, e4, e5, e6, e7, e8, e9, e10, e11]; clear e3 e4 e5 e6 e7 e8 e9 e10 e11
  simp only [List.drop_succ_cons, List.drop_zero]
  go_wp2_with fail
  exact bodyPost_ret (v := .agg (wrtD z)) (results_one Tryz.results51 (ResIs.row rfl agg_wrtD (by simp [go_sem]))) rfl ⟨rfl, blw⟩

end Go.Proofs.YtcedmfnlkelhkaaGreatDoor
namespace Go.Proofs.YtcedmfnlkelhkaaGreatDoor
set_option maxRecDepth 100000
open Go.RowKit

def usesL (k : Int) : List UInt8 := if k = 1 then [117] else if k = 2 then [109] else if k = 4 then [112, 115, 97] else if k = 5 then [103, 114, 116] else if k = 6 then [115, 117, 114, 116] else []
theorem refUses10_gives (k : Int) (w : World) : Gives Tryz.prog 140 #[.int .i64 k] w (.string (bs (usesL k))) := by
 by_cases h : 1 ≤ k ∧ k ≤ 6
 ·rcases (show k = 1 ∨ k = 2 ∨ k = 3 ∨ k = 4 ∨ k = 5 ∨ k = 6 by omega) with rfl | rfl | rfl | rfl | rfl | rfl
  all_goals
   unfold Gives
   go_enter Tryz.func140, Tryz.ntmps140
   go_wp2_with fail
   go_ret
   exact ⟨rfl, blw⟩
 ·have hu : usesL k = [] := by unfold usesL; repeat (rw [if_neg (by omega)])
  rw [hu]
  clear hu
  rcases (show k < 1 ∨ 6 < k by omega) with h | h
  all_goals
   unfold Gives
   go_enter Tryz.func140, Tryz.ntmps140
   go_wp2_with fail
   all_goals first | (go_ret; exact ⟨rfl, blw⟩) | (exfalso; omega)
theorem refHas_gives (s : List UInt8) (hs : s.length ≤ 1000) (c : UInt8) (w : World) : Gives Tryz.prog 141 #[.string (bs s), .int .u8 (c.toNat : Int)] w (.bool (s.contains c)) := by
 have hz := bs_size s
 unfold Gives
 go_enter Tryz.func141, Tryz.ntmps141
 go_wp2_with fail
 go_loopw [5] (fun i wr => ∃ (k : Nat), k ≤ s.length ∧ i = .int .i64 k ∧ Hid ((s.take k).contains c = false) ∧ wr = w) (fun i _ => s.length - (intOf i).toNat)
 case atStart => exact ⟨0, by omega, rfl, Lib.hid (by simp), rfl⟩
 case round =>
  obtain ⟨k, hk, rfl, hall, rfl⟩ := hrel
  by_cases hlt : k < s.length
  ·have htk : s.take (k + 1) = s.take k ++ [byt s k] := by rw [List.take_succ_eq_append_getElem hlt, byt_get hlt]
   have hltI : (k : Int) < s.length := by omega
   by_cases he : byt s k = c
   ·have heI : (((byt s k).toNat : Int) == (c.toNat : Int)) = true := by rw [he]; simp
    have hc : s.contains c = true := by rw [List.contains_iff_mem, ← he, ← byt_get hlt]; exact List.getElem_mem hlt
    have HC := Lib.hid hc
    clear hc he htk
    go_wp2_with fail
    go_ret
    exact ⟨congrArg Ending.returned (congrArg Value.bool HC.out.symm), blw⟩
   ·have heI : (((byt s k).toNat : Int) == (c.toNat : Int)) = false := by rw [beq_eq_false_iff_ne]; intro h; exact he (UInt8.toNat_inj.1 (by omega))
    have hs : (s.take (k + 1)).contains c = false := by rw [htk]; have := hall.out; simp at this ⊢; exact ⟨this, fun e => he e.symm⟩
    have HS := Lib.hid hs
    clear hs he htk
    go_wp2_with fail
    go_roundw
    case rel => exact ⟨k + 1, by omega, by go_num, HS, trivial⟩
    case measure => simp [intOf]; omega
  ·have : k = s.length := by omega
   subst this
   have hc := hall.out
   rw [List.take_length] at hc
   have HC := Lib.hid hc
   clear hc hall
   go_wp2_with fail
   go_ret
   exact ⟨congrArg Ending.returned (congrArg Value.bool HC.out.symm), blw⟩
end Go.Proofs.YtcedmfnlkelhkaaGreatDoor
namespace Go.Proofs.YtcedmfnlkelhkaaGreatDoor
theorem bool_cases (b : Bool) : b = false ∨ b = true := by cases b <;> simp
theorem int_zero (x : Nat) : (((x : Int)) != 0) = decide (x ≠ 0) := by
 rw [Bool.eq_iff_iff]; simp
end Go.Proofs.YtcedmfnlkelhkaaGreatDoor
namespace Go.Proofs.YtcedmfnlkelhkaaGreatDoor.Lm
open Go.RowKit

/-- the frame T' is T but for the slots from s up to e -/
def Same (s e : Nat) (T T' : Array Value) : Prop := T'.size = T.size ∧ ∀ k, k < s ∨ e ≤ k → T'[k]? = T[k]?
theorem Same.refl (s e : Nat) (T : Array Value) : Same s e T T := ⟨rfl, fun _ _ => rfl⟩
theorem Same.set {s e j : Nat} {T T' : Array Value} (h : Same s e T T') (h1 : s ≤ j) (h2 : j < e) (v : Value) : Same s e T (T'.setIfInBounds j v) :=
 ⟨by simp [h.1], fun k hk => by rw [Array.getElem?_setIfInBounds_ne (by omega)]; exact h.2 k hk⟩
theorem Same.trans {s m m' e : Nat} {T T' T'' : Array Value} (h : Same s m T T') (h' : Same m' e T' T'') (h1 : s ≤ m') (h2 : m ≤ e) : Same s e T T'' :=
 ⟨h'.1.trans h.1, fun k hk => (h'.2 k (by omega)).trans (h.2 k (by omega))⟩
theorem Same.wide {s e e' : Nat} {T T' : Array Value} (h : Same s e T T') (h1 : e ≤ e') : Same s e' T T' := ⟨h.1, fun k hk => h.2 k (by omega)⟩
theorem Same.join {s e s' e' : Nat} {T T' T'' : Array Value} (h : Same s e T T') (h' : Same s' e' T' T'') (h1 : s ≤ s') (h2 : e' ≤ e) : Same s e T T'' :=
 ⟨h'.1.trans h.1, fun k hk => (h'.2 k (by omega)).trans (h.2 k hk)⟩
theorem set_at {T : Array Value} {j : Nat} {v : Value} (h : j < T.size) : (T.setIfInBounds j v)[j]? = some v := Array.getElem?_setIfInBounds_self_of_lt h
theorem ev {T : Array Value} {df : List Deferred} {k : Nat} {v : Value} (h : T[k]? = some v) : (⟨T, df⟩ : Act).eval (.tmp k) = v := by
 show T.getD k undef = v
 rw [Array.getD_eq_getD_getElem?, h]; rfl

section
variable {P : Program} {ops : Array Oper} {Q : Exit → Act → World → Prop} {T : Array Value} {df : List Deferred} {w : World} {rest : List Oper}
theorem want_yes {o : Oper} {j m : Nat} {t : Bool} (hg : o.guard = some (j, t)) (hj : (ops[j]?).bind (·.dst) = some m) (h : T[m]? = some (.bool t)) : Region.wanted o (yielded ops T) = true := by
 unfold Region.wanted yielded
 rw [hg]
 simp only [hj, Option.bind_some, h]
 simp
theorem want_no {o : Oper} {j m : Nat} {t : Bool} (hg : o.guard = some (j, t)) (hj : (ops[j]?).bind (·.dst) = some m) (h : T[m]? = some (.bool (!t)) ∨ T[m]? = some undef) : Region.wanted o (yielded ops T) = false := by
 unfold Region.wanted yielded
 rw [hg]
 rcases h with h | h
 ·simp only [hj, Option.bind_some, h]
  cases t <;> rfl
 ·simp only [hj, Option.bind_some, h]
  rfl
theorem op_val {o : Oper} {s : Nat} {v : Value} (hd : o.dst = some s) (hw : Region.wanted o (yielded ops T) = true) (hr : (execOp (⟨T, df⟩ : Act).eval o).run P w = .ok (.value v) w)
  (h : wpList P ops Q rest ⟨T.setIfInBounds s v, df⟩ w) : wpList P ops Q (o :: rest) ⟨T, df⟩ w := by
 unfold wpList
 rw [if_pos hw]
 refine .inl ?_
 unfold Oper.wp
 rw [hr, Oper.upon_value, hd]
 exact h
theorem op_call {o : Oper} {s f : Nat} {args : Array Value} {v : Value} (hd : o.dst = some s) (hw : Region.wanted o (yielded ops T) = true) (hr : (execOp (⟨T, df⟩ : Act).eval o).run P w = .ok (.enter f args) w) (hg : Gives P f args w v)
  (h : ∀ xs d, wpList P ops Q rest ⟨T.setIfInBounds s v, df⟩ (w.grow xs d)) : wpList P ops Q (o :: rest) ⟨T, df⟩ w := by
 unfold wpList
 rw [if_pos hw]
 refine .inl ?_
 unfold Oper.wp
 rw [hr, Oper.upon_enter]
 refine Gives.use hg ?_
 intro xs d
 rw [hd]
 exact h xs d
theorem op_skip {o : Oper} {s : Nat} (hd : o.dst = some s) (hw : Region.wanted o (yielded ops T) = false) (h : wpList P ops Q rest ⟨T.setIfInBounds s undef, df⟩ w) : wpList P ops Q (o :: rest) ⟨T, df⟩ w := by
 refine wpList_skip hw ?_
 rw [hd]
 exact h
variable {y p : Nat} {q : String} {e : Array Edge} {g : Option (Nat × Bool)}
theorem run_move (a : Act) (s : Option Nat) (x : Operand) : (execOp a.eval ⟨s, .move x, y, q, e, g⟩).run P w = .ok (.value (a.eval x)) w := rfl
theorem run_pick (a : Act) (s : Option Nat) (c x z : Operand) {b : Bool} (h : a.eval c = .bool b) : (execOp a.eval ⟨s, .pick c x z, y, q, e, g⟩).run P w = .ok (.value (if b then a.eval x else a.eval z)) w := by
 simp only [execOp, h]
 cases b <;> rfl
theorem run_not (a : Act) (s : Option Nat) (t : TypeId) (x : Operand) {b : Bool} (h : a.eval x = .bool b) : (execOp a.eval ⟨s, .unOp .not t x, y, q, e, g⟩).run P w = .ok (.value (.bool (!b))) w := by
 simp only [execOp, h]
 rfl
theorem run_call2 (a : Act) (s : Option Nat) (F : Nat) (x : Operand) (c : Value) (ts : Array TypeId) {u : Value} (hF : ∀ (xs : Array Value) (w : World), (callFunc F xs).run P w = .ok (.enter F xs) w) (h : a.eval x = u) : (execOp a.eval ⟨s, .call { callee := .value (.func F), args := #[x, .const c], argTypes := ts }, y, q, e, g⟩).run P w = .ok (.enter F #[u, c]) w := by
 subst h
 simp [go_sem, hF]

/-- a move, a call that says hb, its No, and both: from a slot m that holds zb -/
theorem core {y5 y6 y7 y8 : Nat} {p5 p6 p7 p8 : String} {e5 e6 e7 e8 : Array Edge} {ts : Array TypeId} {nt : TypeId} (j m u F : Nat) (zb hb : Bool) (us c : Value) (g8 : Option (Nat × Bool))
  (hm : m < u) (hsz : u + 3 < T.size) (hj : (ops[j]?).bind (·.dst) = some m) (tm : T[m]? = some (.bool zb)) (t3 : T[3]? = some us)
  (hF : ∀ (xs : Array Value) (w : World), (callFunc F xs).run P w = .ok (.enter F xs) w) (hc : ∀ w, Gives P F #[us, c] w (.bool hb))
  (h8 : ∀ T', Same u (u + 4) T T' → Region.wanted (⟨some (u + 3), .pick (.tmp m) (.tmp (u + 2)) (.const (.bool false)), y8, p8, e8, g8⟩ : Oper) (yielded ops T') = true)
  (h : ∀ T' xs d, Same u (u + 4) T T' → T'[u + 3]? = some (.bool (zb && !hb)) → wpList P ops Q rest ⟨T', df⟩ (w.grow xs d)) :
  wpList P ops Q (⟨some u, .move (.tmp 3), y5, p5, e5, some (j, true)⟩ :: ⟨some (u + 1), .call { callee := .value (.func F), args := #[.tmp u, .const c], argTypes := ts }, y6, p6, e6, some (j, true)⟩ ::
   ⟨some (u + 2), .unOp .not nt (.tmp (u + 1)), y7, p7, e7, some (j, true)⟩ :: ⟨some (u + 3), .pick (.tmp m) (.tmp (u + 2)) (.const (.bool false)), y8, p8, e8, g8⟩ :: rest) ⟨T, df⟩ w := by
 cases zb with
 | true =>
  refine op_val rfl (want_yes rfl hj tm) (run_move _ _ _) ?_
  rw [ev t3]
  have s1 : Same u (u + 4) T (T.setIfInBounds u us) := (Same.refl _ _ _).set (by omega) (by omega) _
  have a1 : (T.setIfInBounds u us)[u]? = some us := set_at (by omega)
  generalize T.setIfInBounds u us = T1 at s1 a1 ⊢
  refine op_call rfl (want_yes rfl hj ((s1.2 m (by omega)).trans tm)) (run_call2 _ _ _ _ _ _ hF (ev a1)) (hc _) ?_
  intro xs d
  have s2 : Same u (u + 4) T (T1.setIfInBounds (u + 1) (.bool hb)) := s1.set (by omega) (by omega) _
  have a2 : (T1.setIfInBounds (u + 1) (.bool hb))[u + 1]? = some (.bool hb) := set_at (by rw [s1.1]; omega)
  generalize T1.setIfInBounds (u + 1) (.bool hb) = T2 at s2 a2 ⊢
  refine op_val rfl (want_yes rfl hj ((s2.2 m (by omega)).trans tm)) (run_not _ _ _ _ (ev a2)) ?_
  have s3 : Same u (u + 4) T (T2.setIfInBounds (u + 2) (.bool (!hb))) := s2.set (by omega) (by omega) _
  have a3 : (T2.setIfInBounds (u + 2) (.bool (!hb)))[u + 2]? = some (.bool (!hb)) := set_at (by rw [s2.1]; omega)
  generalize T2.setIfInBounds (u + 2) (.bool (!hb)) = T3 at s3 a3 ⊢
  refine op_val rfl (h8 _ s3) (run_pick _ _ _ _ _ (ev ((s3.2 m (by omega)).trans tm))) ?_
  rw [if_pos rfl, ev a3]
  refine h _ _ _ (s3.set (by omega) (by omega) _) ?_
  rw [set_at (by rw [s3.1]; omega)]
  rfl
 | false =>
  have hn : ∀ T', Same u (u + 4) T T' → ∀ o : Oper, o.guard = some (j, true) → Region.wanted o (yielded ops T') = false := fun T' hs o ho => want_no ho hj (.inl ((hs.2 m (by omega)).trans tm))
  have s1 : Same u (u + 4) T (T.setIfInBounds u undef) := (Same.refl _ _ _).set (by omega) (by omega) _
  refine op_skip rfl (hn _ (Same.refl _ _ _) _ rfl) ?_
  generalize T.setIfInBounds u undef = T1 at s1 ⊢
  refine op_skip rfl (hn _ s1 _ rfl) ?_
  have s2 : Same u (u + 4) T (T1.setIfInBounds (u + 1) undef) := s1.set (by omega) (by omega) _
  generalize T1.setIfInBounds (u + 1) undef = T2 at s2 ⊢
  refine op_skip rfl (hn _ s2 _ rfl) ?_
  have s3 : Same u (u + 4) T (T2.setIfInBounds (u + 2) undef) := s2.set (by omega) (by omega) _
  generalize T2.setIfInBounds (u + 2) undef = T3 at s3 ⊢
  refine op_val rfl (h8 _ s3) (run_pick _ _ _ _ _ (ev ((s3.2 m (by omega)).trans tm))) ?_
  have := h (T3.setIfInBounds (u + 3) (.bool false)) #[] w.drawn (s3.set (by omega) (by omega) _) (set_at (by rw [s3.1]; omega))
  rw [World.grow_nil] at this
  exact this

/-- a limb behind others: 'acc || (f != z && !has(us, c))' -/
theorem limb {y0 y1 y2 y3 y4 y5 y6 y7 y8 y9 : Nat} {p0 p1 p2 p3 p4 p5 p6 p7 p8 p9 : String} {e0 e1 e2 e3 e4 e5 e6 e7 e8 e9 : Array Edge} {ts : Array TypeId} {nt st lt bt : TypeId} (i s acc f F : Nat) (b zb hb : Bool) (us c z v pp ad : Value)
  (h3 : 3 < s) (hsz : s + 9 < T.size) (hi : (ops[i]?).bind (·.dst) = some s) (hj : (ops[i + 4]?).bind (·.dst) = some (s + 4))
  (ta : T[acc]? = some (.bool b)) (t1 : T[1]? = some pp) (t3 : T[3]? = some us)
  (hF : ∀ (xs : Array Value) (w : World), (callFunc F xs).run P w = .ok (.enter F xs) w) (hc : ∀ w, Gives P F #[us, c] w (.bool hb))
  (r1 : ∀ T' : Array Value, T'[1]? = some pp → (execOp (⟨T', df⟩ : Act).eval ⟨some (s + 1), .fieldAddr st (.tmp 1) f, y1, p1, e1, some (i, false)⟩).run P w = .ok (.value ad) w)
  (r2 : ∀ T' : Array Value, T'[s + 1]? = some ad → (execOp (⟨T', df⟩ : Act).eval ⟨some (s + 2), .load lt (.tmp (s + 1)), y2, p2, e2, some (i, false)⟩).run P w = .ok (.value v) w)
  (r3 : ∀ T' : Array Value, T'[s + 2]? = some v → (execOp (⟨T', df⟩ : Act).eval ⟨some (s + 3), .binOp .neq lt (.tmp (s + 2)) (.const z) bt, y3, p3, e3, some (i, false)⟩).run P w = .ok (.value (.bool zb)) w)
  (h : ∀ T' xs d, Same s (s + 10) T T' → T'[s + 9]? = some (.bool (b || (zb && !hb))) → wpList P ops Q rest ⟨T', df⟩ (w.grow xs d)) :
  wpList P ops Q (⟨some s, .move (.tmp acc), y0, p0, e0, none⟩ :: ⟨some (s + 1), .fieldAddr st (.tmp 1) f, y1, p1, e1, some (i, false)⟩ :: ⟨some (s + 2), .load lt (.tmp (s + 1)), y2, p2, e2, some (i, false)⟩ ::
   ⟨some (s + 3), .binOp .neq lt (.tmp (s + 2)) (.const z) bt, y3, p3, e3, some (i, false)⟩ :: ⟨some (s + 4), .move (.tmp (s + 3)), y4, p4, e4, some (i, false)⟩ ::
   ⟨some (s + 5), .move (.tmp 3), y5, p5, e5, some (i + 4, true)⟩ :: ⟨some (s + 6), .call { callee := .value (.func F), args := #[.tmp (s + 5), .const c], argTypes := ts }, y6, p6, e6, some (i + 4, true)⟩ ::
   ⟨some (s + 7), .unOp .not nt (.tmp (s + 6)), y7, p7, e7, some (i + 4, true)⟩ :: ⟨some (s + 8), .pick (.tmp (s + 4)) (.tmp (s + 7)) (.const (.bool false)), y8, p8, e8, some (i, false)⟩ ::
   ⟨some (s + 9), .pick (.tmp s) (.const (.bool true)) (.tmp (s + 8)), y9, p9, e9, none⟩ :: rest) ⟨T, df⟩ w := by
 have wn : ∀ (T' : Array Value) (o : Oper), o.guard = none → Region.wanted o (yielded ops T') = true := fun T' o ho => by unfold Region.wanted; rw [ho]
 refine op_val rfl (wn _ _ rfl) (run_move _ _ _) ?_
 rw [ev ta]
 have s1 : Same s (s + 10) T (T.setIfInBounds s (.bool b)) := (Same.refl _ _ _).set (by omega) (by omega) _
 have a1 : (T.setIfInBounds s (.bool b))[s]? = some (.bool b) := set_at (by omega)
 generalize T.setIfInBounds s (.bool b) = T1 at s1 a1 ⊢
 cases b with
 | false =>
  refine op_val rfl (want_yes rfl hi a1) (r1 _ ((s1.2 1 (by omega)).trans t1)) ?_
  have s2 : Same (s + 1) (s + 10) T1 (T1.setIfInBounds (s + 1) ad) := (Same.refl _ _ _).set (by omega) (by omega) _
  have a2 : (T1.setIfInBounds (s + 1) ad)[s + 1]? = some ad := set_at (by rw [s1.1]; omega)
  generalize T1.setIfInBounds (s + 1) ad = T2 at s2 a2 ⊢
  refine op_val rfl (want_yes rfl hi ((s2.2 s (by omega)).trans a1)) (r2 _ a2) ?_
  have s3 : Same (s + 1) (s + 10) T1 (T2.setIfInBounds (s + 2) v) := s2.set (by omega) (by omega) _
  have a3 : (T2.setIfInBounds (s + 2) v)[s + 2]? = some v := set_at (by rw [s2.1, s1.1]; omega)
  generalize T2.setIfInBounds (s + 2) v = T3 at s3 a3 ⊢
  refine op_val rfl (want_yes rfl hi ((s3.2 s (by omega)).trans a1)) (r3 _ a3) ?_
  have s4 : Same (s + 1) (s + 10) T1 (T3.setIfInBounds (s + 3) (.bool zb)) := s3.set (by omega) (by omega) _
  have a4 : (T3.setIfInBounds (s + 3) (.bool zb))[s + 3]? = some (.bool zb) := set_at (by rw [s3.1, s1.1]; omega)
  generalize T3.setIfInBounds (s + 3) (.bool zb) = T4 at s4 a4 ⊢
  refine op_val rfl (want_yes rfl hi ((s4.2 s (by omega)).trans a1)) (run_move _ _ _) ?_
  rw [ev a4]
  have s5 : Same (s + 1) (s + 10) T1 (T4.setIfInBounds (s + 4) (.bool zb)) := s4.set (by omega) (by omega) _
  have a5 : (T4.setIfInBounds (s + 4) (.bool zb))[s + 4]? = some (.bool zb) := set_at (by rw [s4.1, s1.1]; omega)
  generalize T4.setIfInBounds (s + 4) (.bool zb) = T5 at s5 a5 ⊢
  refine core (i + 4) (s + 4) (s + 5) F zb hb us c _ (by omega) (by rw [s5.1, s1.1]; omega) hj a5 ((s5.2 3 (by omega)).trans ((s1.2 3 (by omega)).trans t3)) hF hc ?_ ?_
  ·intro T' hs
   exact want_yes rfl hi ((hs.2 s (by omega)).trans ((s5.2 s (by omega)).trans a1))
  ·intro T6 xs d s6 a6
   have s7 := s5.trans (s6.wide (show s + 5 + 4 ≤ s + 10 by omega)) (by omega) (Nat.le_refl (s + 10))
   refine op_val rfl (wn _ _ rfl) (run_pick _ _ _ _ _ (ev ((s7.2 s (by omega)).trans a1))) ?_
   rw [if_neg (by simp), ev a6]
   refine h _ _ _ (s1.trans (s7.set (by omega) (by omega) _) (by omega) (Nat.le_refl _)) ?_
   rw [set_at (by rw [s7.1, s1.1]; omega)]
   simp
 | true =>
  have hn : ∀ T', Same (s + 1) (s + 10) T1 T' → ∀ o : Oper, o.guard = some (i, false) → Region.wanted o (yielded ops T') = false := fun T' hs o ho => want_no ho hi (.inl ((hs.2 s (by omega)).trans a1))
  refine op_skip rfl (hn _ (Same.refl _ _ _) _ rfl) ?_
  have s2 : Same (s + 1) (s + 10) T1 (T1.setIfInBounds (s + 1) undef) := (Same.refl _ _ _).set (by omega) (by omega) _
  generalize T1.setIfInBounds (s + 1) undef = T2 at s2 ⊢
  refine op_skip rfl (hn _ s2 _ rfl) ?_
  have s3 : Same (s + 1) (s + 10) T1 (T2.setIfInBounds (s + 2) undef) := s2.set (by omega) (by omega) _
  generalize T2.setIfInBounds (s + 2) undef = T3 at s3 ⊢
  refine op_skip rfl (hn _ s3 _ rfl) ?_
  have s4 : Same (s + 1) (s + 10) T1 (T3.setIfInBounds (s + 3) undef) := s3.set (by omega) (by omega) _
  generalize T3.setIfInBounds (s + 3) undef = T4 at s4 ⊢
  refine op_skip rfl (hn _ s4 _ rfl) ?_
  have s5 : Same (s + 1) (s + 10) T1 (T4.setIfInBounds (s + 4) undef) := s4.set (by omega) (by omega) _
  have a5 : (T4.setIfInBounds (s + 4) undef)[s + 4]? = some undef := set_at (by rw [s4.1, s1.1]; omega)
  generalize T4.setIfInBounds (s + 4) undef = T5 at s5 a5 ⊢
  have hk : ∀ T', Same (s + 5) (s + 10) T5 T' → ∀ o : Oper, o.guard = some (i + 4, true) → Region.wanted o (yielded ops T') = false := fun T' hs o ho => want_no ho hj (.inr ((hs.2 (s + 4) (by omega)).trans a5))
  refine op_skip rfl (hk _ (Same.refl _ _ _) _ rfl) ?_
  have s6 : Same (s + 5) (s + 10) T5 (T5.setIfInBounds (s + 5) undef) := (Same.refl _ _ _).set (by omega) (by omega) _
  generalize T5.setIfInBounds (s + 5) undef = T6 at s6 ⊢
  refine op_skip rfl (hk _ s6 _ rfl) ?_
  have s7 : Same (s + 5) (s + 10) T5 (T6.setIfInBounds (s + 6) undef) := s6.set (by omega) (by omega) _
  generalize T6.setIfInBounds (s + 6) undef = T7 at s7 ⊢
  refine op_skip rfl (hk _ s7 _ rfl) ?_
  have s8 : Same (s + 5) (s + 10) T5 (T7.setIfInBounds (s + 7) undef) := s7.set (by omega) (by omega) _
  generalize T7.setIfInBounds (s + 7) undef = T8 at s8 ⊢
  refine op_skip rfl (hn _ (s5.trans s8 (by omega) (Nat.le_refl _)) _ rfl) ?_
  have s9 : Same (s + 5) (s + 10) T5 (T8.setIfInBounds (s + 8) undef) := s8.set (by omega) (by omega) _
  generalize T8.setIfInBounds (s + 8) undef = T9 at s9 ⊢
  have s10 := s5.trans s9 (by omega) (Nat.le_refl (s + 10))
  refine op_val rfl (wn _ _ rfl) (run_pick _ _ _ _ _ (ev ((s10.2 s (by omega)).trans a1))) ?_
  rw [if_pos rfl]
  have := h (T9.setIfInBounds (s + 9) (.bool true)) #[] w.drawn (s1.trans (s10.set (by omega) (by omega) _) (by omega) (Nat.le_refl _)) (set_at (by rw [s10.1, s1.1]; omega))
  rw [World.grow_nil] at this
  exact this
/-- a limb behind others: 'acc || (f && !has(us, c))' -/
theorem limbG {y0 y1 y2 y4 y5 y6 y7 y8 y9 : Nat} {p0 p1 p2 p4 p5 p6 p7 p8 p9 : String} {e0 e1 e2 e4 e5 e6 e7 e8 e9 : Array Edge} {ts : Array TypeId} {nt st lt : TypeId} (i s acc f F : Nat) (b zb hb : Bool) (us c pp ad : Value)
  (h3 : 3 < s) (hsz : s + 8 < T.size) (hi : (ops[i]?).bind (·.dst) = some s) (hj : (ops[i + 3]?).bind (·.dst) = some (s + 3))
  (ta : T[acc]? = some (.bool b)) (t1 : T[1]? = some pp) (t3 : T[3]? = some us)
  (hF : ∀ (xs : Array Value) (w : World), (callFunc F xs).run P w = .ok (.enter F xs) w) (hc : ∀ w, Gives P F #[us, c] w (.bool hb))
  (r1 : ∀ T' : Array Value, T'[1]? = some pp → (execOp (⟨T', df⟩ : Act).eval ⟨some (s + 1), .fieldAddr st (.tmp 1) f, y1, p1, e1, some (i, false)⟩).run P w = .ok (.value ad) w)
  (r2 : ∀ T' : Array Value, T'[s + 1]? = some ad → (execOp (⟨T', df⟩ : Act).eval ⟨some (s + 2), .load lt (.tmp (s + 1)), y2, p2, e2, some (i, false)⟩).run P w = .ok (.value (.bool zb)) w)
  (h : ∀ T' xs d, Same s (s + 9) T T' → T'[s + 8]? = some (.bool (b || (zb && !hb))) → wpList P ops Q rest ⟨T', df⟩ (w.grow xs d)) :
  wpList P ops Q (⟨some s, .move (.tmp acc), y0, p0, e0, none⟩ :: ⟨some (s + 1), .fieldAddr st (.tmp 1) f, y1, p1, e1, some (i, false)⟩ :: ⟨some (s + 2), .load lt (.tmp (s + 1)), y2, p2, e2, some (i, false)⟩ ::
   ⟨some (s + 3), .move (.tmp (s + 2)), y4, p4, e4, some (i, false)⟩ ::
   ⟨some (s + 4), .move (.tmp 3), y5, p5, e5, some (i + 3, true)⟩ :: ⟨some (s + 5), .call { callee := .value (.func F), args := #[.tmp (s + 4), .const c], argTypes := ts }, y6, p6, e6, some (i + 3, true)⟩ ::
   ⟨some (s + 6), .unOp .not nt (.tmp (s + 5)), y7, p7, e7, some (i + 3, true)⟩ :: ⟨some (s + 7), .pick (.tmp (s + 3)) (.tmp (s + 6)) (.const (.bool false)), y8, p8, e8, some (i, false)⟩ ::
   ⟨some (s + 8), .pick (.tmp s) (.const (.bool true)) (.tmp (s + 7)), y9, p9, e9, none⟩ :: rest) ⟨T, df⟩ w := by
 have wn : ∀ (T' : Array Value) (o : Oper), o.guard = none → Region.wanted o (yielded ops T') = true := fun T' o ho => by unfold Region.wanted; rw [ho]
 refine op_val rfl (wn _ _ rfl) (run_move _ _ _) ?_
 rw [ev ta]
 have s1 : Same s (s + 9) T (T.setIfInBounds s (.bool b)) := (Same.refl _ _ _).set (by omega) (by omega) _
 have a1 : (T.setIfInBounds s (.bool b))[s]? = some (.bool b) := set_at (by omega)
 generalize T.setIfInBounds s (.bool b) = T1 at s1 a1 ⊢
 cases b with
 | false =>
  refine op_val rfl (want_yes rfl hi a1) (r1 _ ((s1.2 1 (by omega)).trans t1)) ?_
  have s2 : Same (s + 1) (s + 9) T1 (T1.setIfInBounds (s + 1) ad) := (Same.refl _ _ _).set (by omega) (by omega) _
  have a2 : (T1.setIfInBounds (s + 1) ad)[s + 1]? = some ad := set_at (by rw [s1.1]; omega)
  generalize T1.setIfInBounds (s + 1) ad = T2 at s2 a2 ⊢
  refine op_val rfl (want_yes rfl hi ((s2.2 s (by omega)).trans a1)) (r2 _ a2) ?_
  have s4 : Same (s + 1) (s + 9) T1 (T2.setIfInBounds (s + 2) (.bool zb)) := s2.set (by omega) (by omega) _
  have a4 : (T2.setIfInBounds (s + 2) (.bool zb))[s + 2]? = some (.bool zb) := set_at (by rw [s2.1, s1.1]; omega)
  generalize T2.setIfInBounds (s + 2) (.bool zb) = T4 at s4 a4 ⊢
  refine op_val rfl (want_yes rfl hi ((s4.2 s (by omega)).trans a1)) (run_move _ _ _) ?_
  rw [ev a4]
  have s5 : Same (s + 1) (s + 9) T1 (T4.setIfInBounds (s + 3) (.bool zb)) := s4.set (by omega) (by omega) _
  have a5 : (T4.setIfInBounds (s + 3) (.bool zb))[s + 3]? = some (.bool zb) := set_at (by rw [s4.1, s1.1]; omega)
  generalize T4.setIfInBounds (s + 3) (.bool zb) = T5 at s5 a5 ⊢
  refine core (i + 3) (s + 3) (s + 4) F zb hb us c _ (by omega) (by rw [s5.1, s1.1]; omega) hj a5 ((s5.2 3 (by omega)).trans ((s1.2 3 (by omega)).trans t3)) hF hc ?_ ?_
  ·intro T' hs
   exact want_yes rfl hi ((hs.2 s (by omega)).trans ((s5.2 s (by omega)).trans a1))
  ·intro T6 xs d s6 a6
   have s7 := s5.trans (s6.wide (show s + 4 + 4 ≤ s + 9 by omega)) (by omega) (Nat.le_refl (s + 9))
   refine op_val rfl (wn _ _ rfl) (run_pick _ _ _ _ _ (ev ((s7.2 s (by omega)).trans a1))) ?_
   rw [if_neg (by simp), ev a6]
   refine h _ _ _ (s1.trans (s7.set (by omega) (by omega) _) (by omega) (Nat.le_refl _)) ?_
   rw [set_at (by rw [s7.1, s1.1]; omega)]
   simp
 | true =>
  have hn : ∀ T', Same (s + 1) (s + 9) T1 T' → ∀ o : Oper, o.guard = some (i, false) → Region.wanted o (yielded ops T') = false := fun T' hs o ho => want_no ho hi (.inl ((hs.2 s (by omega)).trans a1))
  refine op_skip rfl (hn _ (Same.refl _ _ _) _ rfl) ?_
  have s2 : Same (s + 1) (s + 9) T1 (T1.setIfInBounds (s + 1) undef) := (Same.refl _ _ _).set (by omega) (by omega) _
  generalize T1.setIfInBounds (s + 1) undef = T2 at s2 ⊢
  refine op_skip rfl (hn _ s2 _ rfl) ?_
  have s4 : Same (s + 1) (s + 9) T1 (T2.setIfInBounds (s + 2) undef) := s2.set (by omega) (by omega) _
  generalize T2.setIfInBounds (s + 2) undef = T4 at s4 ⊢
  refine op_skip rfl (hn _ s4 _ rfl) ?_
  have s5 : Same (s + 1) (s + 9) T1 (T4.setIfInBounds (s + 3) undef) := s4.set (by omega) (by omega) _
  have a5 : (T4.setIfInBounds (s + 3) undef)[s + 3]? = some undef := set_at (by rw [s4.1, s1.1]; omega)
  generalize T4.setIfInBounds (s + 3) undef = T5 at s5 a5 ⊢
  have hk : ∀ T', Same (s + 4) (s + 9) T5 T' → ∀ o : Oper, o.guard = some (i + 3, true) → Region.wanted o (yielded ops T') = false := fun T' hs o ho => want_no ho hj (.inr ((hs.2 (s + 3) (by omega)).trans a5))
  refine op_skip rfl (hk _ (Same.refl _ _ _) _ rfl) ?_
  have s6 : Same (s + 4) (s + 9) T5 (T5.setIfInBounds (s + 4) undef) := (Same.refl _ _ _).set (by omega) (by omega) _
  generalize T5.setIfInBounds (s + 4) undef = T6 at s6 ⊢
  refine op_skip rfl (hk _ s6 _ rfl) ?_
  have s7 : Same (s + 4) (s + 9) T5 (T6.setIfInBounds (s + 5) undef) := s6.set (by omega) (by omega) _
  generalize T6.setIfInBounds (s + 5) undef = T7 at s7 ⊢
  refine op_skip rfl (hk _ s7 _ rfl) ?_
  have s8 : Same (s + 4) (s + 9) T5 (T7.setIfInBounds (s + 6) undef) := s7.set (by omega) (by omega) _
  generalize T7.setIfInBounds (s + 6) undef = T8 at s8 ⊢
  refine op_skip rfl (hn _ (s5.trans s8 (by omega) (Nat.le_refl _)) _ rfl) ?_
  have s9 : Same (s + 4) (s + 9) T5 (T8.setIfInBounds (s + 7) undef) := s8.set (by omega) (by omega) _
  generalize T8.setIfInBounds (s + 7) undef = T9 at s9 ⊢
  have s10 := s5.trans s9 (by omega) (Nat.le_refl (s + 9))
  refine op_val rfl (wn _ _ rfl) (run_pick _ _ _ _ _ (ev ((s10.2 s (by omega)).trans a1))) ?_
  rw [if_pos rfl]
  have := h (T9.setIfInBounds (s + 8) (.bool true)) #[] w.drawn (s1.trans (s10.set (by omega) (by omega) _) (by omega) (Nat.le_refl _)) (set_at (by rw [s10.1, s1.1]; omega))
  rw [World.grow_nil] at this
  exact this

/-- the first limb: 'f != z && !has(us, c)' -/
theorem limb0 {y1 y2 y3 y4 y5 y6 y7 y8 : Nat} {p1 p2 p3 p4 p5 p6 p7 p8 : String} {e1 e2 e3 e4 e5 e6 e7 e8 : Array Edge} {ts : Array TypeId} {nt st lt bt : TypeId} (i s f F : Nat) (zb hb : Bool) (us c z v pp ad : Value)
  (h3 : 3 < s) (hsz : s + 7 < T.size) (hj : (ops[i + 3]?).bind (·.dst) = some (s + 3))
  (t1 : T[1]? = some pp) (t3 : T[3]? = some us)
  (hF : ∀ (xs : Array Value) (w : World), (callFunc F xs).run P w = .ok (.enter F xs) w) (hc : ∀ w, Gives P F #[us, c] w (.bool hb))
  (r1 : ∀ T' : Array Value, T'[1]? = some pp → (execOp (⟨T', df⟩ : Act).eval ⟨some s, .fieldAddr st (.tmp 1) f, y1, p1, e1, none⟩).run P w = .ok (.value ad) w)
  (r2 : ∀ T' : Array Value, T'[s]? = some ad → (execOp (⟨T', df⟩ : Act).eval ⟨some (s + 1), .load lt (.tmp s), y2, p2, e2, none⟩).run P w = .ok (.value v) w)
  (r3 : ∀ T' : Array Value, T'[s + 1]? = some v → (execOp (⟨T', df⟩ : Act).eval ⟨some (s + 2), .binOp .neq lt (.tmp (s + 1)) (.const z) bt, y3, p3, e3, none⟩).run P w = .ok (.value (.bool zb)) w)
  (h : ∀ T' xs d, Same s (s + 8) T T' → T'[s + 7]? = some (.bool (zb && !hb)) → wpList P ops Q rest ⟨T', df⟩ (w.grow xs d)) :
  wpList P ops Q (⟨some s, .fieldAddr st (.tmp 1) f, y1, p1, e1, none⟩ :: ⟨some (s + 1), .load lt (.tmp s), y2, p2, e2, none⟩ ::
   ⟨some (s + 2), .binOp .neq lt (.tmp (s + 1)) (.const z) bt, y3, p3, e3, none⟩ :: ⟨some (s + 3), .move (.tmp (s + 2)), y4, p4, e4, none⟩ ::
   ⟨some (s + 4), .move (.tmp 3), y5, p5, e5, some (i + 3, true)⟩ :: ⟨some (s + 5), .call { callee := .value (.func F), args := #[.tmp (s + 4), .const c], argTypes := ts }, y6, p6, e6, some (i + 3, true)⟩ ::
   ⟨some (s + 6), .unOp .not nt (.tmp (s + 5)), y7, p7, e7, some (i + 3, true)⟩ :: ⟨some (s + 7), .pick (.tmp (s + 3)) (.tmp (s + 6)) (.const (.bool false)), y8, p8, e8, none⟩ :: rest) ⟨T, df⟩ w := by
 have wn : ∀ (T' : Array Value) (o : Oper), o.guard = none → Region.wanted o (yielded ops T') = true := fun T' o ho => by unfold Region.wanted; rw [ho]
 refine op_val rfl (wn _ _ rfl) (r1 _ t1) ?_
 have s2 : Same s (s + 8) T (T.setIfInBounds s ad) := (Same.refl _ _ _).set (by omega) (by omega) _
 have a2 : (T.setIfInBounds s ad)[s]? = some ad := set_at (by omega)
 generalize T.setIfInBounds s ad = T2 at s2 a2 ⊢
 refine op_val rfl (wn _ _ rfl) (r2 _ a2) ?_
 have s3 : Same s (s + 8) T (T2.setIfInBounds (s + 1) v) := s2.set (by omega) (by omega) _
 have a3 : (T2.setIfInBounds (s + 1) v)[s + 1]? = some v := set_at (by rw [s2.1]; omega)
 generalize T2.setIfInBounds (s + 1) v = T3 at s3 a3 ⊢
 refine op_val rfl (wn _ _ rfl) (r3 _ a3) ?_
 have s4 : Same s (s + 8) T (T3.setIfInBounds (s + 2) (.bool zb)) := s3.set (by omega) (by omega) _
 have a4 : (T3.setIfInBounds (s + 2) (.bool zb))[s + 2]? = some (.bool zb) := set_at (by rw [s3.1]; omega)
 generalize T3.setIfInBounds (s + 2) (.bool zb) = T4 at s4 a4 ⊢
 refine op_val rfl (wn _ _ rfl) (run_move _ _ _) ?_
 rw [ev a4]
 have s5 : Same s (s + 8) T (T4.setIfInBounds (s + 3) (.bool zb)) := s4.set (by omega) (by omega) _
 have a5 : (T4.setIfInBounds (s + 3) (.bool zb))[s + 3]? = some (.bool zb) := set_at (by rw [s4.1]; omega)
 generalize T4.setIfInBounds (s + 3) (.bool zb) = T5 at s5 a5 ⊢
 refine core (i + 3) (s + 3) (s + 4) F zb hb us c _ (by omega) (by rw [s5.1]; omega) hj a5 ((s5.2 3 (by omega)).trans t3) hF hc ?_ ?_
 ·intro T' hs
  exact wn _ _ rfl
 ·intro T6 xs d s6 a6
  exact h _ _ _ (s5.trans (s6.wide (show s + 4 + 4 ≤ s + 8 by omega)) (by omega) (Nat.le_refl (s + 8))) a6
end
theorem name_frame {P : Program} {ops : Array Oper} {Q : Exit → Act → World → Prop} {l : List Oper} {T : Array Value} {df : List Deferred} {w : World} (h : ∀ T0, T0 = T → wpList P ops Q l ⟨T0, df⟩ w) : wpList P ops Q l ⟨T, df⟩ w := h T rfl
theorem over_of {s e : Nat} {ds : List Nat} {T T' : Array Value} (hd : ∀ k, k ∈ ds ↔ (s ≤ k ∧ k < e)) (h : Same s e T T') : T' = over T ds (fun d => T'.getD d undef) := by
 apply Array.ext_getElem?
 intro k
 rw [over_get]
 by_cases hk : s ≤ k ∧ k < e
 ·rw [if_pos ((hd k).2 hk)]
  by_cases hz : k < T.size
  ·rw [Array.getElem?_eq_getElem (by rw [h.1]; exact hz), Array.getElem?_eq_getElem hz]
   simp [h.1, hz]
  ·rw [Array.getElem?_eq_none (by rw [h.1]; omega), Array.getElem?_eq_none (by omega)]
   rfl
 ·rw [if_neg (fun hm => hk ((hd k).1 hm))]
  exact h.2 k (by omega)
end Go.Proofs.YtcedmfnlkelhkaaGreatDoor.Lm

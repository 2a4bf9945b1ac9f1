/- A world that has grown by new blocks alone: the word 'grow', and how cells, stores and new blocks read behind it. -/
import Derived.Test.YtcedmfnlkelhkaaGreatDoorRows
import Derived.WalkKit
import Derived.WalkSpells
import Derived.WalkLawsBesides
import Derived.Deep.RegionHeld3
import Derived.Deep.QuietTactic
import Derived.BigQuiet
import Derived.Deep.DeepMust
import Derived.Deep.Light
import Derived.Deep.DeepCutAuto
import Derived.ProofKit
namespace Go.Proofs.YtcedmfnlkelhkaaGreatDoor
open Go.RowKit

def _root_.Go.World.grow (w:World) (xs:Array Obj) (d:Nat):World := { w with heap:=w.heap++xs,drawn:=d }

section
variable {w:World}
@[go_sem,simp] theorem _root_.Go.World.aLo (xs:Array Obj) (d:Nat):(w.grow xs d).heap.size=w.heap.size+xs.size:=by
 simp[World.grow]
@[go_sem,simp] theorem _root_.Go.World.grow_grow (xs ys:Array Obj) (d e:Nat):(w.grow xs d).grow ys e=w.grow (xs++ys) e:=by
 simp[World.grow]
@[go_sem] theorem _root_.Go.World.aB (xs:Array Obj) (d:Nat):w.drew.grow xs d=w.grow xs d:=rfl
@[go_sem] theorem _root_.Go.World.drew_grow (xs:Array Obj) (d:Nat):(w.grow xs d).drew=w.grow xs (d+1):=rfl
@[go_sem] theorem _root_.Go.World.aKz (xs:Array Obj) (d n:Nat):(w.grow xs d).drewN n=w.grow xs (d+n):=rfl
theorem _root_.Go.RowKit.Below.drewN {B:Nat} {a w:World} (h:Below B a w) (n:Nat):Below B a (w.drewN n):=⟨h.os,h.tape,h.output,h.size,h.block⟩
@[go_sem] theorem _root_.Go.World.aJA (a:Addr) (v:Value) (n:Nat):(w.drewN n).setCell a v=(w.setCell a v).drewN n:=rfl
theorem _root_.Go.World.jE:w.grow #[] w.drawn=w:=by simp[World.grow]
theorem _root_.Go.World.bQ (xs:Array Obj) (d n:Nat) (hn:n<w.heap.size):(w.grow xs d).heap[n]? = w.heap[n]? := by
 simp[World.grow,Array.getElem?_append,hn]
@[go_sem] theorem _root_.Go.World.cell?_grow (xs:Array Obj) (d n i:Nat) (hn:n<w.heap.size):(w.grow xs d).cell? ⟨n,i,none⟩=w.cell? ⟨n,i,none⟩:=by
 simp[World.cell?,World.bQ xs d n hn]
@[go_sem] theorem _root_.Go.World.frozen?_grow (xs:Array Obj) (d n i:Nat) (hn:n<w.heap.size):(w.grow xs d).frozen? ⟨n,i,none⟩=w.frozen? ⟨n,i,none⟩:=by
 simp[World.frozen?,World.bQ xs d n hn]
@[go_sem] theorem _root_.Go.World.setCell_grow (xs:Array Obj) (d n i:Nat) (v:Value) (hn:n<w.heap.size) :
  (w.grow xs d).setCell ⟨n,i,none⟩ v=(w.setCell ⟨n,i,none⟩ v).grow xs d:=by
 unfold World.setCell World.grow
 simp only
 congr 1
 apply Array.ext_getElem?
 intro k
 simp only[Array.getElem?_modify,Array.getElem?_append,Array.size_modify]
 by_cases hk:k=n
 ·subst hk;simp[hn]
 by_cases h2:k<w.heap.size
 ·simp[h2]
 simp[h2];intro h;omega
theorem aA {w':World} (h:Below w.heap.size w w'):∃ xs d,w'=w.grow xs d:=by
 refine ⟨w'.heap.extract w.heap.size w'.heap.size,w'.drawn,?_⟩
 obtain ⟨h1,h2,h3,h4,h5⟩:=h
 cases w;cases w'
 simp only at h1 h2 h3 h4 h5
 subst h1 h2 h3
 simp only[World.grow,World.mk.injEq,and_true]
 apply Array.ext_getElem?
 intro k
 rw[Array.getElem?_append]
 split
 ·exact h5 k (by assumption)
 rw[Array.getElem?_extract]
 split
 ·congr 1;omega
 rw[Array.getElem?_eq_none];omega
theorem aS (xs:Array Obj) (d:Nat):Below w.heap.size w (w.grow xs d) :=
 ⟨rfl,rfl,rfl,by simp,fun _ h=>World.bQ _ _ _ h⟩
theorem oD (xs ys:Array Obj) (d e:Nat):Below (w.grow xs d).heap.size (w.grow xs d) (w.grow (xs++ys) e):=by
 rw[<-World.grow_grow xs ys d e];exact aS _ _
theorem vS (xs:Array Obj) (d e:Nat):Below (w.grow xs d).heap.size (w.grow xs d) (w.grow xs e):=by
 have:=oD (w:=w) xs #[] d e
 simpa using this
theorem _root_.Go.RowKit.Below.grow {B:Nat} {a w:World} (h:Below B a w) (hB:B<=w.heap.size) (xs:Array Obj) (d:Nat):Below B a (w.grow xs d) :=
 h.trans ((aS xs d).mono hB)
/-- what lies below stays: found by the rules -/
theorem blw {p:Prop} (h:p:=by repeat (first | exact aS _ _ | exact Below.refl _ _ | exact oD _ _ _ _ | (simp only[<-Array.append_assoc];first | exact oD _ _ _ _ | exact vS _ _ _ | exact Below.refl _ _) | exact vS _ _ _ | (refine Below.alloc ?_ (by first | (simp;done) | (simp;omega)) _) | (refine Below.grow ?_ (by first | (simp;done) | (simp;omega)) _ _) | refine Below.drew ?_ | refine Below.drewN ?_ _ | (refine Below.kD ?_ (by first | (simp;done) | omega | (simp;omega)) _) | (refine Below.setCell ?_ (by first | (simp;done) | (simp;omega)) _))):p:=h
theorem blv {p:Prop} (h:p:=by first | exact Below.refl _ _ | exact vS _ _ _ | exact oD _ _ _ _ | exact aS _ _):p:=h
theorem zh {p:Prop} (h:p:=by (intro x;simp only[over,List.foldl_cons,List.foldl_nil,List.setIfInBounds_toArray,List.set_cons_succ,List.set_cons_zero];exact rfl)):p:=h
theorem zv {p:Prop} (h:p:=by ((try clear hH);(try simp only[World.grow_grow] at hK |-);go_simp;(first | (with_reducible refine hK _ _ ?_) | go_wp2_with fail);exact ⟨_,rfl,rfl,blv,fun h=>by cases h⟩)):p:=h
theorem zx {p:Prop} (h:p:=by ((try clear hH);(try simp only[World.grow_grow] at hK |-);go_simp;go_wp2_with fail;exact ⟨_,rfl,rfl,blv,fun h=>by cases h⟩)):p:=h
theorem zw {p:Prop} (h:p:=by ((try clear hH);(try simp only[World.grow_grow] at hK |-);go_simp;go_wp2_with fail;exact ⟨_,rfl,rfl,blw,fun h=>by cases h⟩)):p:=h
theorem zu {p:Prop} (h:p:=by exact ⟨_,rfl,rfl,blw,fun h=>by cases h⟩):p:=h
end

/-! a block's number is below the size of every later heap: one rule for each number of summands behind it -/
@[go_sem] theorem aR5 (x:Nat):(x<x+1)=True:=by simp only[eq_iff_iff,iff_true];omega
@[go_sem] theorem aR6 (x:Nat) (t0:Nat):(x<x+1+t0)=True:=by simp only[eq_iff_iff,iff_true];omega
@[go_sem] theorem aR7 (x:Nat) (t0 t1:Nat):(x<x+1+t0+t1)=True:=by simp only[eq_iff_iff,iff_true];omega
@[go_sem] theorem aR8 (x:Nat) (t0 t1 t2:Nat):(x<x+1+t0+t1+t2)=True:=by simp only[eq_iff_iff,iff_true];omega
@[go_sem] theorem aR9 (x:Nat) (t0 t1 t2 t3:Nat):(x<x+1+t0+t1+t2+t3)=True:=by simp only[eq_iff_iff,iff_true];omega
@[go_sem] theorem aRa (x:Nat) (t0 t1 t2 t3 t4:Nat):(x<x+1+t0+t1+t2+t3+t4)=True:=by simp only[eq_iff_iff,iff_true];omega
@[go_sem] theorem aRb (x:Nat) (t0 t1 t2 t3 t4 t5:Nat):(x<x+1+t0+t1+t2+t3+t4+t5)=True:=by simp only[eq_iff_iff,iff_true];omega
@[go_sem] theorem aRc (x:Nat) (t0 t1 t2 t3 t4 t5 t6:Nat):(x<x+1+t0+t1+t2+t3+t4+t5+t6)=True:=by simp only[eq_iff_iff,iff_true];omega
@[go_sem] theorem aRd (x:Nat) (t0 t1 t2 t3 t4 t5 t6 t7:Nat):(x<x+1+t0+t1+t2+t3+t4+t5+t6+t7)=True:=by simp only[eq_iff_iff,iff_true];omega
@[go_sem] theorem aRe (x:Nat) (t0 t1 t2 t3 t4 t5 t6 t7 t8:Nat):(x<x+1+t0+t1+t2+t3+t4+t5+t6+t7+t8)=True:=by simp only[eq_iff_iff,iff_true];omega
@[go_sem] theorem aQv (x:Nat) (t0 t1 t2 t3 t4 t5 t6 t7 t8 t9:Nat):(x<x+1+t0+t1+t2+t3+t4+t5+t6+t7+t8+t9)=True:=by simp only[eq_iff_iff,iff_true];omega
@[go_sem] theorem aQw (x:Nat) (t0 t1 t2 t3 t4 t5 t6 t7 t8 t9 t10:Nat):(x<x+1+t0+t1+t2+t3+t4+t5+t6+t7+t8+t9+t10)=True:=by simp only[eq_iff_iff,iff_true];omega
@[go_sem] theorem aQx (x:Nat) (t0 t1 t2 t3 t4 t5 t6 t7 t8 t9 t10 t11:Nat):(x<x+1+t0+t1+t2+t3+t4+t5+t6+t7+t8+t9+t10+t11)=True:=by simp only[eq_iff_iff,iff_true];omega
@[go_sem] theorem aQy (x:Nat) (t0 t1 t2 t3 t4 t5 t6 t7 t8 t9 t10 t11 t12:Nat):(x<x+1+t0+t1+t2+t3+t4+t5+t6+t7+t8+t9+t10+t11+t12)=True:=by simp only[eq_iff_iff,iff_true];omega
@[go_sem] theorem aQz (x:Nat) (t0 t1 t2 t3 t4 t5 t6 t7 t8 t9 t10 t11 t12 t13:Nat):(x<x+1+t0+t1+t2+t3+t4+t5+t6+t7+t8+t9+t10+t11+t12+t13)=True:=by simp only[eq_iff_iff,iff_true];omega
@[go_sem] theorem aRA (x:Nat) (t0 t1 t2 t3 t4 t5 t6 t7 t8 t9 t10 t11 t12 t13 t14:Nat):(x<x+1+t0+t1+t2+t3+t4+t5+t6+t7+t8+t9+t10+t11+t12+t13+t14)=True:=by simp only[eq_iff_iff,iff_true];omega
@[go_sem] theorem aRB (x:Nat) (t0 t1 t2 t3 t4 t5 t6 t7 t8 t9 t10 t11 t12 t13 t14 t15:Nat):(x<x+1+t0+t1+t2+t3+t4+t5+t6+t7+t8+t9+t10+t11+t12+t13+t14+t15)=True:=by simp only[eq_iff_iff,iff_true];omega
@[go_sem] theorem aRC (x:Nat) (t0 t1 t2 t3 t4 t5 t6 t7 t8 t9 t10 t11 t12 t13 t14 t15 t16:Nat):(x<x+1+t0+t1+t2+t3+t4+t5+t6+t7+t8+t9+t10+t11+t12+t13+t14+t15+t16)=True:=by simp only[eq_iff_iff,iff_true];omega
@[go_sem] theorem aRD (x:Nat) (t0 t1 t2 t3 t4 t5 t6 t7 t8 t9 t10 t11 t12 t13 t14 t15 t16 t17:Nat):(x<x+1+t0+t1+t2+t3+t4+t5+t6+t7+t8+t9+t10+t11+t12+t13+t14+t15+t16+t17)=True:=by simp only[eq_iff_iff,iff_true];omega
@[go_sem] theorem aRE (x:Nat) (t0 t1 t2 t3 t4 t5 t6 t7 t8 t9 t10 t11 t12 t13 t14 t15 t16 t17 t18:Nat):(x<x+1+t0+t1+t2+t3+t4+t5+t6+t7+t8+t9+t10+t11+t12+t13+t14+t15+t16+t17+t18)=True:=by simp only[eq_iff_iff,iff_true];omega
@[go_sem] theorem aRF (x:Nat) (t0 t1 t2 t3 t4 t5 t6 t7 t8 t9 t10 t11 t12 t13 t14 t15 t16 t17 t18 t19:Nat):(x<x+1+t0+t1+t2+t3+t4+t5+t6+t7+t8+t9+t10+t11+t12+t13+t14+t15+t16+t17+t18+t19)=True:=by simp only[eq_iff_iff,iff_true];omega
@[go_sem] theorem aRG (x:Nat) (t0 t1 t2 t3 t4 t5 t6 t7 t8 t9 t10 t11 t12 t13 t14 t15 t16 t17 t18 t19 t20:Nat):(x<x+1+t0+t1+t2+t3+t4+t5+t6+t7+t8+t9+t10+t11+t12+t13+t14+t15+t16+t17+t18+t19+t20)=True:=by simp only[eq_iff_iff,iff_true];omega
@[go_sem] theorem aRH (x:Nat) (t0 t1 t2 t3 t4 t5 t6 t7 t8 t9 t10 t11 t12 t13 t14 t15 t16 t17 t18 t19 t20 t21:Nat):(x<x+1+t0+t1+t2+t3+t4+t5+t6+t7+t8+t9+t10+t11+t12+t13+t14+t15+t16+t17+t18+t19+t20+t21)=True:=by simp only[eq_iff_iff,iff_true];omega
@[go_sem] theorem aRI (x:Nat) (t0 t1 t2 t3 t4 t5 t6 t7 t8 t9 t10 t11 t12 t13 t14 t15 t16 t17 t18 t19 t20 t21 t22:Nat):(x<x+1+t0+t1+t2+t3+t4+t5+t6+t7+t8+t9+t10+t11+t12+t13+t14+t15+t16+t17+t18+t19+t20+t21+t22)=True:=by simp only[eq_iff_iff,iff_true];omega
@[go_sem] theorem aRJ (x:Nat) (t0 t1 t2 t3 t4 t5 t6 t7 t8 t9 t10 t11 t12 t13 t14 t15 t16 t17 t18 t19 t20 t21 t22 t23:Nat):(x<x+1+t0+t1+t2+t3+t4+t5+t6+t7+t8+t9+t10+t11+t12+t13+t14+t15+t16+t17+t18+t19+t20+t21+t22+t23)=True:=by simp only[eq_iff_iff,iff_true];omega
@[go_sem] theorem aRK (x:Nat) (t0 t1 t2 t3 t4 t5 t6 t7 t8 t9 t10 t11 t12 t13 t14 t15 t16 t17 t18 t19 t20 t21 t22 t23 t24:Nat):(x<x+1+t0+t1+t2+t3+t4+t5+t6+t7+t8+t9+t10+t11+t12+t13+t14+t15+t16+t17+t18+t19+t20+t21+t22+t23+t24)=True:=by simp only[eq_iff_iff,iff_true];omega
/-! the same, from what is known of a block's number -/
@[go_sem] theorem aRW {x s:Nat} (h:x<s) (t0:Nat):(x<s+t0)=True:=by simp only[eq_iff_iff,iff_true];omega
@[go_sem] theorem aRX {x s:Nat} (h:x<s) (t0 t1:Nat):(x<s+t0+t1)=True:=by simp only[eq_iff_iff,iff_true];omega
@[go_sem] theorem aRY {x s:Nat} (h:x<s) (t0 t1 t2:Nat):(x<s+t0+t1+t2)=True:=by simp only[eq_iff_iff,iff_true];omega
@[go_sem] theorem aRZ {x s:Nat} (h:x<s) (t0 t1 t2 t3:Nat):(x<s+t0+t1+t2+t3)=True:=by simp only[eq_iff_iff,iff_true];omega
@[go_sem] theorem aR0 {x s:Nat} (h:x<s) (t0 t1 t2 t3 t4:Nat):(x<s+t0+t1+t2+t3+t4)=True:=by simp only[eq_iff_iff,iff_true];omega
@[go_sem] theorem aR1 {x s:Nat} (h:x<s) (t0 t1 t2 t3 t4 t5:Nat):(x<s+t0+t1+t2+t3+t4+t5)=True:=by simp only[eq_iff_iff,iff_true];omega
@[go_sem] theorem aR2 {x s:Nat} (h:x<s) (t0 t1 t2 t3 t4 t5 t6:Nat):(x<s+t0+t1+t2+t3+t4+t5+t6)=True:=by simp only[eq_iff_iff,iff_true];omega
@[go_sem] theorem aR3 {x s:Nat} (h:x<s) (t0 t1 t2 t3 t4 t5 t6 t7:Nat):(x<s+t0+t1+t2+t3+t4+t5+t6+t7)=True:=by simp only[eq_iff_iff,iff_true];omega
@[go_sem] theorem aR4 {x s:Nat} (h:x<s) (t0 t1 t2 t3 t4 t5 t6 t7 t8:Nat):(x<s+t0+t1+t2+t3+t4+t5+t6+t7+t8)=True:=by simp only[eq_iff_iff,iff_true];omega
@[go_sem] theorem aQs {x s:Nat} (h:x<s) (t0 t1 t2 t3 t4 t5 t6 t7 t8 t9:Nat):(x<s+t0+t1+t2+t3+t4+t5+t6+t7+t8+t9)=True:=by simp only[eq_iff_iff,iff_true];omega
@[go_sem] theorem aQt {x s:Nat} (h:x<s) (t0 t1 t2 t3 t4 t5 t6 t7 t8 t9 t10:Nat):(x<s+t0+t1+t2+t3+t4+t5+t6+t7+t8+t9+t10)=True:=by simp only[eq_iff_iff,iff_true];omega
@[go_sem] theorem aQu {x s:Nat} (h:x<s) (t0 t1 t2 t3 t4 t5 t6 t7 t8 t9 t10 t11:Nat):(x<s+t0+t1+t2+t3+t4+t5+t6+t7+t8+t9+t10+t11)=True:=by simp only[eq_iff_iff,iff_true];omega

theorem aP {P:Program} {c:Code} {Q:Exit->Act->World->Prop} {a:Act} {w:World} (h:∀ W,W=w->c.wp P Q a W):c.wp P Q a w:=h w rfl
def Gives (P:Program) (f:Nat) (args:Array Value) (w:World) (v:Value):Prop :=
 Calls P f args w fun e w'=>e = .returned v/\Below w.heap.size w w'
theorem Gives.use {P:Program} {f:Nat} {args:Array Value} {w:World} {v:Value} (h:Gives P f args w v) {Q:Ending->World->Prop}
  (hq:∀ xs d,Q (.returned v) (w.grow xs d)):Calls P f args w Q :=
 Calls.mono h fun e w' ⟨he,hb⟩=>by
  obtain ⟨xs,d,rfl⟩:=aA hb
  subst he
  exact hq xs d
theorem dQ {k:IntKind} {a b:Int} (h:a=b):Ending.returned (.int k a) = .returned (.int k b):=by rw[h]
theorem aIu {a b:Bool} (h:a=b):Ending.returned (.bool a) = .returned (.bool b):=by rw[h]
def over (base:Array Value) (ds:List Nat) (x:Nat->Value):Array Value:=ds.foldl (fun t d=>t.setIfInBounds d (x d)) base

theorem aCn (ds:List Nat) (x:Nat->Value):∀ base:Array Value,(over base ds x).size=base.size:=by
 induction ds with
 | nil=>intro base;rfl
 | cons d ds ih=>intro base;show (over (base.setIfInBounds d (x d)) ds x).size=_;rw[ih];simp

theorem nK (x:Nat->Value) (s:Nat) (ds:List Nat):∀ base:Array Value,(over base ds x)[s]? = if s∈ds then (base[s]?).map (fun _=>x s) else base[s]? := by
 induction ds with
 | nil=>intro base;simp[over]
 | cons d ds ih =>
  intro base
  show (over (base.setIfInBounds d (x d)) ds x)[s]? = _
  rw[ih]
  by_cases hs:s∈ds
  ·by_cases hd:d=s
   ·subst hd;simp[hs];by_cases hb:d<base.size <;> simp[hb]
   simp[hs,Array.getElem?_setIfInBounds_ne hd]
  by_cases hd:d=s
  ·subst hd;simp[hs];by_cases hb:d<base.size <;> simp[hb]
  have hd':s≠d:=fun e=>hd e.symm
  simp[hs,hd',Array.getElem?_setIfInBounds_ne hd]

def upd (x:Nat->Value) (d:Nat) (v:Value):Nat->Value:=fun s=>if s=d then v else x s
@[simp] theorem upd_same (x:Nat->Value) (d:Nat) (v:Value):upd x d v d=v:=by simp[upd]
theorem mQ (x:Nat->Value) {d s:Nat} (v:Value) (h:s≠d):upd x d v s=x s:=by simp[upd,h]

theorem uT {base:Array Value} {ds:List Nat} {x:Nat->Value} {d:Nat} (v:Value) (hd:d∈ds):(over base ds x).setIfInBounds d v=over base ds (upd x d v):=by
 apply Array.ext_getElem?
 intro s
 rw[nK]
 by_cases hs:s=d
 ·subst hs
  by_cases hb:s<base.size
  ·rw[Array.getElem?_setIfInBounds_self_of_lt (by rw[aCn];exact hb)];simp[hd,hb]
  rw[Array.getElem?_eq_none (by simp[aCn];omega)];simp[hd,hb]
 rw[Array.getElem?_setIfInBounds_ne (fun e=>hs e.symm),nK]
 simp[mQ _ _ hs]

def iQ (ops:Array Oper) (i:Nat):List Nat:=((ops[i]?).map fun o=>(o.after.toList.filter (Region.binds .any)).map (·.on)).getD []
def past (ops:Array Oper):Nat->Nat->List Nat
 | 0,_ => []
 | f+1,i=>(iQ ops i).flatMap fun j=>j :: past ops f j
def aT (ops:Array Oper) (i:Nat):Option Nat:=(ops[i]?).bind (·.dst)

def iO (ops:Array Oper) (n:Nat) (ds pures:List Nat):Bool :=
 decide (n<=ops.size) &&
 ((List.range ops.size).all fun i=>(iQ ops i).all fun j=>decide (j<i)) &&
 ((List.range ops.size).all fun i=>decide (i<n) || ((List.range i).all fun j=>pures.contains j || (past ops 4 i).contains j)) &&
 ((List.range n).all fun i=>match aT ops i with | some d=>ds.contains d && ((List.range n).all fun j=>decide (i=j) || aT ops j != some d) | none=>true) &&
 (Region.noSelect ops && pures.all fun i=>decide (i<n) && match ops[i]? with
  | some oi=>oi.dst.isSome && (List.range ops.size).all fun j=>decide (j=i) || (past ops 4 i).contains j || (iQ ops j).contains i || (match ops[j]? with | some oj=>oi.apart ops oj | none=>true)
  | none=>false)

section
variable {P:Program} {ops:Array Oper} {Q:Exit->Act->World->Prop}

theorem dO {md:Region.Mode} {l:Array Bool} (hl:l.size=ops.size) {i:Nat} (h:i∈Region.ready md ops l) (hm:md = .any) :
  i<ops.size/\l[i]? = some false /\ ∀ p∈iQ ops i,l[p]? = some true:=by
 subst hm
 have h1:=List.mem_filter.1 h
 have hi:=List.mem_range.1 h1.1
 simp only[Bool.and_eq_true,Bool.not_eq_true'] at h1
 obtain ⟨_,h2,h3⟩:=h1
 refine ⟨hi,?_,?_⟩
 ·rw[Array.getD_eq_getD_getElem?] at h2
  have hi':i<l.size:=by omega
  simp[hi'] at h2
  simp[hi',h2]
 intro p hp
 unfold iQ at hp
 have ho:ops[i]? = some ops[i]:=Array.getElem?_eq_getElem hi
 rw[ho] at hp h3
 simp only[Option.map_some,Option.getD_some,List.mem_map,List.mem_filter] at hp h3
 obtain ⟨e,⟨he1,he2⟩,rfl⟩:=hp
 rw[Array.all_eq_true_iff_forall_mem] at h3
 have:=h3 e (Array.mem_toList_iff.1 he1)
 rw[he2] at this
 simp only[Bool.not_true,Bool.false_or] at this
 rw[Array.getD_eq_getD_getElem?] at this
 cases hx:l[e.on]? with
 | none=>simp[hx] at this
 | some b=>simp[hx] at this;rw[this]

theorem uV {l:Array Bool} {i:Nat} (hi:i<ops.size) (h2:l[i]? = some false) (h3:∀ p∈iQ ops i,l[p]? = some true) :
  i∈Region.ready .any ops l:=by
 unfold Region.ready
 rw[List.mem_filter]
 refine ⟨List.mem_range.2 hi,?_⟩
 simp only[Bool.and_eq_true,Bool.not_eq_true']
 refine ⟨by rw[Array.getD_eq_getD_getElem?,h2];rfl,?_⟩
 have ho:ops[i]? = some ops[i]:=Array.getElem?_eq_getElem hi
 rw[ho]
 simp only[Option.map_some,Option.getD_some]
 rw[Array.all_eq_true_iff_forall_mem]
 intro e he
 cases hb:Region.binds .any e with
 | false=>simp
 | true =>
  simp only[Bool.not_true,Bool.false_or]
  have:=h3 e.on (by
   unfold iQ
   rw[ho]
   simp only[Option.map_some,Option.getD_some,List.mem_map,List.mem_filter]
   exact ⟨e,⟨Array.mem_toList_iff.2 he,hb⟩,rfl⟩)
  rw[Array.getD_eq_getD_getElem?,this];rfl

theorem gK {l:Array Bool} (hc:∀ j,l[j]? = some true -> ∀ p∈iQ ops j,l[p]? = some true) :
  ∀ (f i:Nat),(∀ p∈iQ ops i,l[p]? = some true) -> ∀ j∈past ops f i,l[j]? = some true:=by
 intro f
 induction f with
 | zero=>intro i _ j hj;cases hj
 | succ f ih =>
  intro i hi j hj
  simp only[past,List.mem_flatMap] at hj
  obtain ⟨p,hp,hj⟩:=hj
  rcases List.mem_cons.1 hj with rfl | hj
  ·exact hi _ hp
  exact ih p (hc p (hi p hp)) j hj

def Left (ops:Array Oper) (base:Array Value) (df:List Deferred) (ds:List Nat) (news:List Nat) (R:Nat->Value->World->Prop) (i:Nat) (x:Nat->Value) (w:World) (a':Act) (w':World):Prop :=
 ∃ v,a'=(⟨over base ds x,df⟩:Act).put (aT ops i) v/\R i v w'/\Below w.heap.size w w'/\(i∈news -> ∃ b,v = .pointer (some ⟨b,0,none⟩)/\w.heap.size<=b/\b<w'.heap.size)

structure Held (ops:Array Oper) (n:Nat) (ds news:List Nat) (R:Nat->Value->World->Prop) (w0:World) (L:Nat->Prop) (x:Nat->Value) (w:World):Prop where
 below:Below w0.heap.size w0 w
 holds:∀ i,i<n->L i -> ∀ d,aT ops i=some d->R i (x d) w
 new:∀ i∈news,i<n->L i -> ∀ d,aT ops i=some d -> ∃ b,x d = .pointer (some ⟨b,0,none⟩)/\b<w.heap.size
 apart:∀ i∈news,∀ j∈news,i<n->j<n->L i->L j->i≠j -> ∀ d e,aT ops i=some d->aT ops j=some e->x d≠x e

theorem Held.g {ops:Array Oper} {n:Nat} {ds news:List Nat} {R:Nat->Value->World->Prop} {w0:World} {L:Nat->Prop} {x:Nat->Value} {w:World} (h:Held ops n ds news R w0 L x w) (i d:Nat) (h1:i<n:=by decide) (h2:L i:=by decide +kernel) (h3:aT ops i=some d:=by rfl):R i (x d) w:=h.holds i h1 h2 d h3
theorem Held.t {ops:Array Oper} {n:Nat} {ds news:List Nat} {R:Nat->Value->World->Prop} {w0:World} {L:Nat->Prop} {x:Nat->Value} {w:World} (h:Held ops n ds news R w0 L x w) (i d:Nat) (h1:i<n:=by decide) (h2:L i:=by trivial) (h3:aT ops i=some d:=by rfl):R i (x d) w:=h.holds i h1 h2 d h3
theorem Held.next {n:Nat} {ds news:List Nat} {R:Nat->Value->World->Prop} {w0:World} {L:Nat->Prop} {x:Nat->Value} {w w':World} {v:Value} {i:Nat}
  (h:Held ops n ds news R w0 L x w) (hi:i<n) (hL:¬ L i)
  (hst:∀ i v w w',R i v w->Below w.heap.size w w'->R i v w')
  (hnd:∀ j,j<n->j≠i -> ∀ d,aT ops i=some d->aT ops j≠some d)
  (hR:R i v w') (hb:Below w.heap.size w w') (hnew:i∈news -> ∃ b,v = .pointer (some ⟨b,0,none⟩)/\w.heap.size<=b/\b<w'.heap.size) :
  Held ops n ds news R w0 (fun j=>j=i\/L j) (match aT ops i with | some d=>upd x d v | none=>x) w':=by
 have hxo:∀ j,j<n->j≠i -> ∀ e,aT ops j=some e->(match aT ops i with | some d=>upd x d v | none=>x) e=x e:=by
  intro j hj hji e he
  cases hd:aT ops i with
  | none=>rfl
  | some d=>exact mQ _ _ (fun e'=>hnd j hj hji d hd (e' ▸ he))
 have hxi:∀ d,aT ops i=some d->(match aT ops i with | some d=>upd x d v | none=>x) d=v:=by
  intro d hd;rw[hd];simp
 refine ⟨h.below.trans (hb.mono h.below.size),?_,?_,?_⟩
 ·intro j hj hl d hd
  by_cases hji:j=i
  ·subst hji;rw[hxi d hd];exact hR
  rw[hxo j hj hji d hd];exact hst j _ w w' (h.holds j hj (hl.resolve_left hji) d hd) hb
 ·intro j hjn hj hl d hd
  by_cases hji:j=i
  ·subst hji;rw[hxi d hd];obtain ⟨b,e,_,hb2⟩:=hnew hjn;exact ⟨b,e,hb2⟩
  rw[hxo j hj hji d hd];obtain ⟨b,e,hb2⟩:=h.new j hjn hj (hl.resolve_left hji) d hd;exact ⟨b,e,Nat.lt_of_lt_of_le hb2 hb.size⟩
 intro j hjn k hkn hj hk hlj hlk hjk d e hd he
 by_cases hji:j=i
 ·subst hji
  have hkj:k≠j:=fun e'=>hjk e'.symm
  rw[hxi d hd,hxo k hk hkj e he]
  obtain ⟨b,rfl,hb1,_⟩:=hnew hjn
  obtain ⟨c,ec,hc⟩:=h.new k hkn hk (hlk.resolve_left hkj) e he
  rw[ec];intro hcon;injection hcon with hcon;injection hcon with hcon;injection hcon with hcon;omega
 by_cases hki:k=i
 ·subst hki
  rw[hxi e he,hxo j hj hji d hd]
  obtain ⟨b,rfl,hb1,_⟩:=hnew hkn
  obtain ⟨c,ec,hc⟩:=h.new j hjn hj (hlj.resolve_left hji) d hd
  rw[ec];intro hcon;injection hcon with hcon;injection hcon with hcon;injection hcon with hcon;omega
 rw[hxo j hj hji d hd,hxo k hk hki e he]
 exact h.apart j hjn k hkn hj hk (hlj.resolve_left hji) (hlk.resolve_left hki) hjk d e hd he

theorem count_set {l:Array Bool} {i:Nat} (hi:i<l.size) (hf:l[i]? = some false):(l.setIfInBounds i true).toList.count false+1=l.toList.count false:=by
 have e1:(l.setIfInBounds i true).toList=l.toList.set i true:=by simp
 have hf':l[i]=false:=by simpa [hi] using hf
 rw[e1,List.count_set (by simpa using hi)]
 simp[hf']
 have:0<l.toList.count false:=List.count_pos_iff.2 (Array.mem_toList_iff.2 (Array.mem_of_getElem? hf))
 rw[<-Array.count_toList]
 omega

/-- THE RULE. 'n': how many operations come up in any order; 'ds': their slots; 'news': which of them make a block; 'pures': which of them may come behind later ones, for they yield their value in whatever world; 'R i': what the value of operation i meets, in every world that has grown.
One obligation an operation ('hops': from whatever frame and world in which what must precede it holds), and the rest of the region from whatever all of them have left ('hend'). -/
theorem jL {rid:Nat} {a:Act} {w:World} (hm:P.follows .mixedOrders=true) (n:Nat) (ds news pures:List Nat) (R:Nat->Value->World->Prop)
  (hck:iO ops n ds pures=true)
  (hQ:∀ (s:Nat) v c a w,Q (.panic c) (a.put (some s) v) w->Q (.panic c) a w)
  (hst:∀ i v w w',R i v w->Below w.heap.size w w'->R i v w')
  (hpure:∀ i∈pures,i∉news /\ ∀ o,ops[i]? = some o -> ∀ x w1,Held ops n ds news R w.drew (fun j=>j∈past ops 4 i) x w1 -> ∃ v,Yields P ops o v ⟨over a.tmps ds x,a.defers⟩/\R i v w1)
  (hops:∀ i,i<n->i∉pures -> ∀ o,ops[i]? = some o -> ∀ x w1,Held ops n ds news R w.drew (fun j=>j∈past ops 4 i) x w1 ->
   ∀ K:Act->World->Prop,(∀ a' w',Left ops a.tmps a.defers ds news R i x w1 a' w'->K a' w') ->
   if Region.wanted o (yielded ops (over a.tmps ds x))=true then o.wp P ⟨over a.tmps ds x,a.defers⟩ w1 K Q else K ((⟨over a.tmps ds x,a.defers⟩:Act).put o.dst undef) w1)
  (hend:∀ x w1,Held ops n ds news R w.drew (fun _=>True) x w1->wpList P ops Q (ops.toList.drop n) ⟨over a.tmps ds x,a.defers⟩ w1) :
  (Code.region rid ops true).wp P Q a w:=by
 simp only[iO,Bool.and_eq_true,List.all_eq_true,List.mem_range,Bool.or_eq_true,decide_eq_true_eq] at hck
 obtain ⟨⟨⟨⟨hn,hlt⟩,htail⟩,hds⟩,hnosel,hpu⟩:=hck
 have hmem:∀ i,i<n -> ∀ d,aT ops i=some d->d∈ds:=by
  intro i hi d hd
  have:=hds i hi
  rw[hd] at this
  simp only[Bool.and_eq_true] at this
  simpa using this.1
 have hnd:∀ i,i<n -> ∀ j,j<n->j≠i -> ∀ d,aT ops i=some d->aT ops j≠some d:=by
  intro i hi j hj hji d hd he
  have:=hds i hi
  rw[hd] at this
  simp only[Bool.and_eq_true,List.all_eq_true,List.mem_range,Bool.or_eq_true,decide_eq_true_eq] at this
  rcases this.2 j hj with e | e
  ·exact hji e.symm
  rw[he] at e;simp at e
 have htail':∀ i,i<ops.size->n<=i -> ∀ j,j<i->j∉pures->j∈past ops 4 i:=by
  intro i hi hni j hj hjp
  rcases htail i hi with h | h
  ·omega
  rcases h j hj with h | h
  ·exact (hjp (by simpa using h)).elim
  simpa using h
 -- the invariant
 let Clo:Array Bool->Prop:=fun l => ∀ j,l[j]? = some true -> ∀ p∈iQ ops j,l[p]? = some true
 let PA:Array Bool->Act->World->Prop:=fun l a' w'=>(∀ t,n<=t->t<ops.size->l[t]? = some false)/\(∃ i,i<n/\l[i]? = some false) /\
  ∃ x,a'=⟨over a.tmps ds x,a.defers⟩/\Held ops n ds news R w.drew (fun j=>l[j]? = some true) x w'
 let PB:Array Bool->Act->World->Prop:=fun l a' w' => ∃ k,n<=k/\k<=ops.size/\(∀ j,j<k->l[j]? = some true)/\(∀ j,k<=j->j<ops.size->l[j]? = some false)/\wpList P ops Q (ops.toList.drop k) a' w'
 let Inv:Array Bool->Act->World->Prop:=fun l a' w'=>l.size=ops.size/\Clo l/\(PA l a' w'\/PB l a' w')
 have enterB:∀ (l:Array Bool) x w',(∀ t,n<=t->t<ops.size->l[t]? = some false)->(∀ j,j<n->l[j]? = some true) ->
   Held ops n ds news R w.drew (fun j=>l[j]? = some true) x w'->PB l ⟨over a.tmps ds x,a.defers⟩ w':=by
  intro l x w' h1 h2 h3
  refine ⟨n,Nat.le_refl _,hn,h2,h1,hend x w' ⟨h3.below,fun i hi _=>h3.holds i hi (h2 i hi),fun i him hi _=>h3.new i him hi (h2 i hi),fun i him j hjm hi hj _ _=>h3.apart i him j hjm hi hj (h2 i hi) (h2 j hj)⟩⟩
 have leastReady:∀ (l:Array Bool) k,k<ops.size->l[k]? = some false->(∀ j,j<k->l[j]? = some true)->k∈Region.ready .any ops l:=by
  intro l k hk h1 h2
  exact uV (ops:=ops) hk h1 (fun p hp=>h2 p (hlt k hk p hp))
 have least:∀ (l:Array Bool) m,l.size=ops.size->m<ops.size->l[m]? = some false -> ∃ k,k<=m/\l[k]? = some false /\ ∀ j,j<k->l[j]? = some true:=by
  intro l m hl
  induction m using Nat.strongRecOn with
  | ind m ih =>
   intro hm1 hm2
   by_cases hex:∃ j,j<m/\l[j]? = some false
   ·obtain ⟨j,hj,hjf⟩:=hex
    obtain ⟨k,hk,hk2⟩:=ih j hj (by omega) hjf
    exact ⟨k,by omega,hk2⟩
   refine ⟨m,Nat.le_refl _,hm2,fun j hj => ?_⟩
   have hjs:j<l.size:=by omega
   cases hb:l[j] with
   | true=>simp[hjs,hb]
   | false=>exact (hex ⟨j,hj,by simp[hjs,hb]⟩).elim
 have setClo:∀ (l:Array Bool) i,Clo l->(∀ p∈iQ ops i,l[p]? = some true)->Clo (l.setIfInBounds i true):=by
  intro l i hc hp j hj p hpj
  have keep:∀ q:Nat,l[q]? = some true->(l.setIfInBounds i true)[q]? = some true:=by
   intro q hq
   by_cases hqi:i=q
   ·subst hqi
    have:i<l.size:=by
     rcases Nat.lt_or_ge i l.size with h | h
     ·exact h
     rw[Array.getElem?_eq_none h] at hq;cases hq
    rw[Array.getElem?_setIfInBounds_self_of_lt this]
   rw[Array.getElem?_setIfInBounds_ne hqi];exact hq
  by_cases hji:i=j
  ·subst hji;exact keep p (hp p hpj)
  rw[Array.getElem?_setIfInBounds_ne hji] at hj;exact keep p (hc j hj p hpj)
 -- behind operation i of the first n
 have next:∀ (l:Array Bool) x w' i,l.size=ops.size->Clo l->(∀ t,n<=t->t<ops.size->l[t]? = some false)->Held ops n ds news R w.drew (fun j=>l[j]? = some true) x w' ->
   i<n->l[i]? = some false->(∀ p∈iQ ops i,l[p]? = some true) -> ∀ a1 w1,Left ops a.tmps a.defers ds news R i x w' a1 w1->Inv (l.setIfInBounds i true) a1 w1:=by
  rintro l x w' i hl hc hT hH hin hfi hpi a1 w1 ⟨v,rfl,hR,hB,hnew⟩
  have hset:∀ j,(l.setIfInBounds i true)[j]? = if j=i then some true else l[j]? := by
   intro j
   by_cases hji:j=i
   ·subst hji;rw[if_pos rfl,Array.getElem?_setIfInBounds_self_of_lt (by omega)]
   ·rw[if_neg hji,Array.getElem?_setIfInBounds_ne (fun e=>hji e.symm)]
  have hc':=setClo l i hc hpi
  have hl':(l.setIfInBounds i true).size=ops.size:=by simpa using hl
  have hH':=hH.next (v:=v) hin (by rw[hfi];simp) hst (fun j hj hji d hd=>hnd i hin j hj hji d hd) hR hB hnew
  have hfr:(⟨over a.tmps ds x,a.defers⟩:Act).put (aT ops i) v=⟨over a.tmps ds (match aT ops i with | some d=>upd x d v | none=>x),a.defers⟩:=by
   cases hd:aT ops i with
   | none=>rfl
   | some d=>simp only[Act.put];rw[uT v (hmem i hin d hd)]
  rw[hfr]
  have hH2:Held ops n ds news R w.drew (fun j=>(l.setIfInBounds i true)[j]? = some true) (match aT ops i with | some d=>upd x d v | none=>x) w1:=by
   have himp:∀ j,(l.setIfInBounds i true)[j]? = some true->(j=i\/l[j]? = some true):=by
    intro j hj;rw[hset] at hj;by_cases hji:j=i
    ·exact .inl hji
    ·rw[if_neg hji] at hj;exact .inr hj
   exact ⟨hH'.below,fun j hj hjl=>hH'.holds j hj (himp j hjl),fun j hjm hj hjl=>hH'.new j hjm hj (himp j hjl),fun j hjm k hkm hj hk hjl hkl=>hH'.apart j hjm k hkm hj hk (himp j hjl) (himp k hkl)⟩
  refine ⟨hl',hc',?_⟩
  have hT':∀ t,n<=t->t<ops.size->(l.setIfInBounds i true)[t]? = some false:=by
   intro t ht1 ht2;rw[hset,if_neg (by omega)];exact hT t ht1 ht2
  by_cases hall:∃ j,j<n/\(l.setIfInBounds i true)[j]? = some false
  ·exact .inl ⟨hT',hall,_,rfl,hH2⟩
  ·refine .inr (enterB _ _ _ hT' (fun j hj => ?_) hH2)
   have hjs:j<(l.setIfInBounds i true).size:=by omega
   cases hb:(l.setIfInBounds i true)[j] with
   | true=>rw[Array.getElem?_eq_getElem hjs,hb]
   | false=>exact (hall ⟨j,hj,by rw[Array.getElem?_eq_getElem hjs,hb]⟩).elim
 have main:∀ (fuel:Nat) (l:Array Bool) (a':Act) (w':World),Inv l a' w'->l.toList.count false<=fuel->wpAny P .any ops Q fuel l a' w':=by
  intro fuel
  induction fuel with
  | zero =>
   rintro l a' w' ⟨hl,hc,hAB⟩ hcnt
   have hnone:∀ i:Nat,l[i]? ≠ some false:=by
    intro i hi
    have h0:l.toList.count false=0:=by omega
    rw[List.count_eq_zero] at h0
    exact h0 (Array.mem_toList_iff.2 (Array.mem_of_getElem? hi))
   have hr:Region.ready .any ops l = []:=by
    rw[List.eq_nil_iff_forall_not_mem]
    intro i hi
    exact hnone i (dO hl hi rfl).2.1
   refine ⟨hr,?_⟩
   rcases hAB with ⟨_,⟨m,hm1,hm2⟩,_⟩ | ⟨k,hk1,hk2,hk3,hk4,hW⟩
   ·exact (hnone m hm2).elim
   rcases Nat.lt_or_ge k ops.size with h | h
   ·exact (hnone k (hk4 k (Nat.le_refl _) h)).elim
   rw[List.drop_of_length_le (by simpa using h)] at hW
   exact hW
  | succ fuel ih =>
   rintro l a' w' ⟨hl,hc,hAB⟩ hcnt
   have hcnt':∀ i,i<ops.size->l[i]? = some false->(l.setIfInBounds i true).toList.count false<=fuel:=by
    intro i hi hf
    have:=count_set (l:=l) (i:=i) (by omega) hf
    omega
   rcases hAB with ⟨hT,⟨m0,hm01,hm02⟩,x,rfl,hH⟩ | ⟨k,hk1,hk2,hk3,hk4,hW⟩
   ·by_cases hp:∃ i,i∈pures/\i∈Region.ready .any ops l
    ·-- a pure one is taken first
     obtain ⟨i,hip,hir⟩:=hp
     obtain ⟨hi,hfi,hpi⟩:=dO hl hir rfl
     have hpast:=gK hc 4 i hpi
     have hpi2:=hpu i hip
     obtain ⟨hin,hpi3⟩:=hpi2
     have ho:ops[i]? = some ops[i]:=Array.getElem?_eq_getElem hi
     rw[ho] at hpi3
     simp only[Bool.and_eq_true,List.all_eq_true,List.mem_range,Bool.or_eq_true,decide_eq_true_eq] at hpi3
     obtain ⟨hsome,hap⟩:=hpi3
     have hHp:Held ops n ds news R w.drew (fun j=>j∈past ops 4 i) x w' :=
      ⟨hH.below,fun j hj hjp=>hH.holds j hj (hpast j hjp),fun j hjm hj hjp=>hH.new j hjm hj (hpast j hjp),fun j hjm k hkm hj hk hjp hkp=>hH.apart j hjm k hkm hj hk (hpast j hjp) (hpast k hkp)⟩
     obtain ⟨hnn,hpr⟩:=hpure i hip
     obtain ⟨v,hy,hR⟩:=hpr _ ho x w' hHp
     obtain ⟨d,hd⟩:=Option.isSome_iff_exists.1 hsome
     have hinv:=next l x w' i hl hc hT hH hin hfi hpi ((⟨over a.tmps ds x,a.defers⟩:Act).put (aT ops i) v) w' ⟨v,rfl,hR,Below.refl _ _,fun h=>(hnn h).elim⟩
     have hdst:aT ops i=ops[i].dst:=by unfold aT;rw[ho];rfl
     rw[hdst] at hinv
     refine wpAny_first ho (Region.noSelect_spec hnosel) (by rw[hd];exact fun c a w=>hQ d v c a w) fuel l _ w' ?_ hir hy (ih _ _ _ hinv (hcnt' i hi hfi))
     intro j oj hoj hji hun hno
     have hjs:j<ops.size:=(Array.getElem?_eq_some_iff.1 hoj).1
     rcases hap j hjs with ((h | h) | h) | h
     ·exact (hji h).elim
     ·have:=hpast j (by simpa using h)
      rw[Array.getD_eq_getD_getElem?,this] at hun
      simp at hun
     ·exfalso
      have h':i∈iQ ops j:=by simpa using h
      unfold iQ at h'
      rw[hoj] at h'
      simp only[Option.map_some,Option.getD_some,List.mem_map,List.mem_filter] at h'
      obtain ⟨e,⟨he1,he2⟩,he3⟩:=h'
      exact hno e (Array.mem_toList_iff.1 he1) he2 he3
     rw[hoj] at h;exact h
    -- no pure one is ready: what is ready is one of the first n
    obtain ⟨m,hm1,hm2,hm3⟩:=least l m0 hl (by omega) hm02
    have hmr:=leastReady l m (by omega) hm2 hm3
    have hmp:m∉pures:=fun h=>hp ⟨m,h,hmr⟩
    refine ⟨fun h=>(by rw[h] at hmr;cases hmr),fun i hr => ?_⟩
    obtain ⟨hi,hfi,hpi⟩:=dO hl hr rfl
    have hpast:=gK hc 4 i hpi
    have hip:i∉pures:=fun h=>hp ⟨i,h,hr⟩
    have ho:ops[i]? = some ops[i]:=Array.getElem?_eq_getElem hi
    have hin:i<n:=by
     rcases Nat.lt_or_ge i n with h | h
     ·exact h
     have:=hpast m (htail' i hi h m (by omega) hmp)
     rw[hm2] at this;cases this
    have hHp:Held ops n ds news R w.drew (fun j=>j∈past ops 4 i) x w' :=
     ⟨hH.below,fun j hj hjp=>hH.holds j hj (hpast j hjp),fun j hjm hj hjp=>hH.new j hjm hj (hpast j hjp),fun j hjm k hkm hj hk hjp hkp=>hH.apart j hjm k hkm hj hk (hpast j hjp) (hpast k hkp)⟩
    have key:=hops i hin hip _ ho x w' hHp (wpAny P .any ops Q fuel (l.setIfInBounds i true))
     (fun a1 w1 hleft=>ih _ _ _ (next l x w' i hl hc hT hH hin hfi hpi a1 w1 hleft) (hcnt' i hi hfi))
    unfold wpOp
    rw[ho]
    show if Region.wanted ops[i] (yielded ops (over a.tmps ds x))=true then _ else _
    split
    ·rename_i hw;rw[if_pos hw] at key;exact .inl key
    rename_i hw;rw[if_neg hw] at key;exact key
   refine ⟨fun hnil => ?_,fun i hr => ?_⟩
   ·rcases Nat.lt_or_ge k ops.size with h | h
    ·have:=leastReady l k h (hk4 k (Nat.le_refl _) h) hk3
     rw[hnil] at this;cases this
    rw[List.drop_of_length_le (by simpa using h)] at hW
    exact hW
   obtain ⟨hi,hfi,hpi⟩:=dO hl hr rfl
   have hpast:=gK hc 4 i hpi
   have ho:ops[i]? = some ops[i]:=Array.getElem?_eq_getElem hi
   have hnp:∀ q,n<=q->q∉pures:=by
    intro q hq hqp
    have:=(hpu q hqp).1
    omega
   have hik:i=k:=by
    rcases Nat.lt_trichotomy i k with h | h | h
    ·rw[hk3 i h] at hfi;cases hfi
    ·exact h
    have:=hpast k (htail' i hi (by omega) k h (hnp k hk1))
    rw[hk4 k (Nat.le_refl _) (by omega)] at this;cases this
   subst hik
   have hset:∀ j,(l.setIfInBounds i true)[j]? = if j=i then some true else l[j]? := by
    intro j
    by_cases hji:j=i
    ·subst hji;rw[if_pos rfl,Array.getElem?_setIfInBounds_self_of_lt (by omega)]
    rw[if_neg hji,Array.getElem?_setIfInBounds_ne (fun e=>hji e.symm)]
   have hdrop:ops.toList.drop i=ops[i] :: ops.toList.drop (i+1):=by
    rw[List.drop_eq_getElem_cons (by simpa using hi)];simp
   rw[hdrop] at hW
   have goalB:∀ a1 w1,wpList P ops Q (ops.toList.drop (i+1)) a1 w1->wpAny P .any ops Q fuel (l.setIfInBounds i true) a1 w1:=by
    intro a1 w1 h1
    refine ih _ _ _ ⟨by simpa using hl,setClo l i hc hpi,.inr ⟨i+1,by omega,by omega,?_,?_,h1⟩⟩ (hcnt' i hi hfi)
    ·intro j hj;rw[hset];split
     ·rfl
     exact hk3 j (by omega)
    intro j hj1 hj2;rw[hset,if_neg (by omega)];exact hk4 j (by omega) hj2
   unfold wpList at hW
   unfold wpOp
   rw[ho]
   show if Region.wanted ops[i] (yielded ops a'.tmps)=true then _ else _
   split
   ·rename_i hw;rw[if_pos hw] at hW;exact hW.imp (Oper.wp_mono goalB) id
   rename_i hw;rw[if_neg hw] at hW;exact goalB _ _ hW
 refine wp_region_any hm (main ops.size _ _ _ ?_ (by simp))
 have hrep:∀ j:Nat,j<ops.size->(Array.replicate ops.size false)[j]? = some false:=by intro j hj;simp[hj]
 refine ⟨by simp,?_,?_⟩
 ·intro j hj
  rw[Array.getElem?_replicate] at hj
  split at hj <;> simp at hj
 have hx0:a=⟨over a.tmps ds (fun d=>a.tmps.getD d undef),a.defers⟩:=by
  have:over a.tmps ds (fun d=>a.tmps.getD d undef)=a.tmps:=by
   apply Array.ext_getElem?
   intro s
   rw[nK]
   split
   ·rw[Array.getD_eq_getD_getElem?]
    cases a.tmps[s]? <;> rfl
   rfl
  rw[this]
 have hH0:Held ops n ds news R w.drew (fun j=>(Array.replicate ops.size false)[j]? = some true) (fun d=>a.tmps.getD d undef) w.drew:=by
  have hno:∀ j:Nat,(Array.replicate ops.size false)[j]? ≠ some true:=by
   intro j hj
   rw[Array.getElem?_replicate] at hj
   split at hj <;> simp at hj
  exact ⟨Below.refl _ _,fun j _ hj=>(hno j hj).elim,fun j _ _ hj=>(hno j hj).elim,fun j _ _ _ _ _ hj=>(hno j hj).elim⟩
 rcases Nat.eq_zero_or_pos n with h0 | h0
 ·subst h0
  rw[hx0]
  exact .inr (enterB _ _ _ (fun t _ ht=>hrep t ht) (fun j hj=>by omega) hH0)
 exact .inl ⟨fun t _ ht=>hrep t ht,⟨0,h0,hrep 0 (by omega)⟩,_,hx0,hH0⟩
end
def _root_.Go.World.kD (w:World) (_B b:Nat) (o:Obj):World := { w with heap:=w.heap.setIfInBounds b o }

section
variable {w:World} {B b:Nat}
@[go_sem,simp] theorem _root_.Go.World.aML (o:Obj):(w.kD B b o).heap.size=w.heap.size:=by simp[World.kD]
theorem _root_.Go.World.aAG {o:Obj} (h:w.heap[b]? = some o):w.kD B b o=w:=by
 have:w.heap.setIfInBounds b o=w.heap:=by
  apply Array.ext_getElem?
  intro k
  by_cases hk:b=k
  ·subst hk;rw[h]
   have:b<w.heap.size:=by
    rcases Nat.lt_or_ge b w.heap.size with hlt | hge
    ·exact hlt
    rw[Array.getElem?_eq_none hge] at h;cases h
   rw[Array.getElem?_setIfInBounds_self_of_lt this]
  rw[Array.getElem?_setIfInBounds_ne hk]
 simp[World.kD,this]
theorem _root_.Go.World.bV (o:Obj) {n:Nat} (h:n≠b):(w.kD B b o).heap[n]? = w.heap[n]? := by
 simp only[World.kD];rw[Array.getElem?_setIfInBounds_ne (fun e=>h e.symm)]
theorem _root_.Go.World.dX (o:Obj) (h:b<w.heap.size):(w.kD B b o).heap[b]? = some o:=by
 simp only[World.kD];rw[Array.getElem?_setIfInBounds_self_of_lt h]
@[go_sem] theorem _root_.Go.World.aHy (c:Array Value) (t:TypeId) (i:Nat) (h:b<w.heap.size):(w.kD B b (.cells c t)).cell? ⟨b,i,none⟩=c[i]? := by
 simp[World.cell?,World.dX _ h]
@[go_sem] theorem _root_.Go.World.aGM (c:Array Value) (t:TypeId) (i:Nat) (h:b<w.heap.size):(w.kD B b (.cells c t)).frozen? ⟨b,i,none⟩=false:=by
 simp[World.frozen?,World.dX _ h]
@[go_sem] theorem _root_.Go.World.aHz (o:Obj) (n i:Nat) (h1:n<B) (h2:B<=b):(w.kD B b o).cell? ⟨n,i,none⟩=w.cell? ⟨n,i,none⟩:=by
 simp[World.cell?,World.bV (w:=w) (B:=B) o (show n≠b by omega)]
@[go_sem] theorem _root_.Go.World.aGN (o:Obj) (n i:Nat) (h1:n<B) (h2:B<=b):(w.kD B b o).frozen? ⟨n,i,none⟩=w.frozen? ⟨n,i,none⟩:=by
 simp[World.frozen?,World.bV (w:=w) (B:=B) o (show n≠b by omega)]
@[go_sem] theorem _root_.Go.World.aGb (o:Obj) (n i:Nat) (h:n≠b):(w.kD B b o).cell? ⟨n,i,none⟩=w.cell? ⟨n,i,none⟩:=by
 simp[World.cell?,World.bV (w:=w) (B:=B) o h]
@[go_sem] theorem _root_.Go.World.aFS (o:Obj) (n i:Nat) (h:n≠b):(w.kD B b o).frozen? ⟨n,i,none⟩=w.frozen? ⟨n,i,none⟩:=by
 simp[World.frozen?,World.bV (w:=w) (B:=B) o h]
theorem _root_.Go.World.qY (o:Obj) (n i:Nat) (v:Value) (h:n≠b):(w.kD B b o).setCell ⟨n,i,none⟩ v=(w.setCell ⟨n,i,none⟩ v).kD B b o:=by
 unfold World.setCell World.kD
 simp only
 congr 1
 apply Array.ext_getElem?
 intro k
 by_cases hk:b=k
 ·subst hk
  rw[Array.getElem?_modify,if_neg h]
  by_cases hb:b<w.heap.size
  ·rw[Array.getElem?_setIfInBounds_self_of_lt hb,Array.getElem?_setIfInBounds_self_of_lt (by simpa using hb)]
  rw[Array.getElem?_eq_none (by simp;omega),Array.getElem?_eq_none (by simp;omega)]
 rw[Array.getElem?_setIfInBounds_ne hk,Array.getElem?_modify,Array.getElem?_modify,Array.getElem?_setIfInBounds_ne hk]
@[go_sem] theorem _root_.Go.World.aGR (o:Obj) (n i:Nat) (v:Value) (h1:n<B) (h2:B<=b):(w.kD B b o).setCell ⟨n,i,none⟩ v=(w.setCell ⟨n,i,none⟩ v).kD B b o :=
 World.qY o n i v (by omega)
@[go_sem] theorem _root_.Go.World.aFp (o:Obj) (n i:Nat) (v:Value) (h:n≠b):(w.kD B b o).setCell ⟨n,i,none⟩ v=(w.setCell ⟨n,i,none⟩ v).kD B b o :=
 World.qY o n i v h
@[go_sem] theorem _root_.Go.World.aGQ (c:Array Value) (t:TypeId) (i:Nat) (v:Value) (h:b<w.heap.size) :
  (w.kD B b (.cells c t)).setCell ⟨b,i,none⟩ v=w.kD B b (.cells (c.setIfInBounds i v) t):=by
 unfold World.setCell World.kD
 simp only
 congr 1
 apply Array.ext_getElem?
 intro k
 by_cases hk:b=k
 ·subst hk
  rw[Array.getElem?_modify,if_pos rfl,Array.getElem?_setIfInBounds_self_of_lt h,Array.getElem?_setIfInBounds_self_of_lt h]
  rfl
 rw[Array.getElem?_modify,if_neg hk,Array.getElem?_setIfInBounds_ne hk,Array.getElem?_setIfInBounds_ne hk]
@[go_sem] theorem _root_.Go.World.aMK (o:Obj):(w.kD B b o).drew=w.drew.kD B b o:=rfl
theorem _root_.Go.RowKit.Below.kD {B':Nat} {a:World} (h:Below B' a w) (hb:B'<=b) (o:Obj):Below B' a (w.kD B b o) :=
 h.trans ⟨rfl,rfl,rfl,by simp,fun k hk=>World.bV o (by omega)⟩
end

structure Spec where
 R:Nat->Value->World->Prop
 stays:∀ B v w w',R B v w->Below w.heap.size w w'->R B v w'
 pureVal:Option Value
 pureOk:∀ v,pureVal=some v -> ∀ B w,R B v w
 isNew:Bool
def Spec.val (v:Value):Spec:=⟨fun _ u _=>u=v,fun _ _ _ _ h _=>h,none,fun _ h=>(by cases h),false⟩
def Spec.pure (v:Value):Spec:=⟨fun _ u _=>u=v,fun _ _ _ _ h _=>h,some v,fun _ h _ _=>(by cases h;rfl),false⟩
def Spec.new (o:Obj):Spec:=⟨fun B u w => ∃ b,u = .pointer (some ⟨b,0,none⟩)/\B<=b/\b<w.heap.size/\w.heap[b]? = some o,
 fun _ _ _ _ ⟨b,h1,h2,h3,h4⟩ hb=>⟨b,h1,h2,Nat.lt_of_lt_of_le h3 hb.size,(by rw[hb.block b h3];exact h4)⟩,none,fun _ h=>(by cases h),true⟩
def Spec.rel (R:Value->World->Prop):Spec:=⟨fun _ u w => ∀ w',Below w.heap.size w w'->R u w',fun _ _ _ _ h hb w'' h2=>h w'' (hb.trans (h2.mono hb.size)),none,fun _ h=>(by cases h),false⟩
def fG (l:List Spec):List Nat:=(List.range l.length).filter fun i=>((l[i]?).map fun s=>s.pureVal.isSome).getD false
def nI (l:List Spec):List Nat:=(List.range l.length).filter fun i=>((l[i]?).map (·.isNew)).getD false
def RS (B:Nat) (l:List Spec) (i:Nat) (v:Value) (w:World):Prop:=match l[i]? with | some s=>s.R B v w | none=>True
theorem agD {ops:Array Oper} {n:Nat} {ds news:List Nat} {R:Nat->Value->World->Prop} {W:World} {L:Nat->Prop} {C:(Nat->Value)->World->Prop} (h:∀ x xs d,Held ops n ds news R W.drew L x (W.grow xs d)->C x (W.grow xs d)):∀ x w1,Held ops n ds news R W.drew L x w1->C x w1:=by
 intro x w1 hH
 obtain ⟨xs,d,rfl⟩:=aA hH.below
 exact h x xs d hH
theorem Held.k {ops:Array Oper} {n:Nat} {ds news:List Nat} {R:Nat->Value->World->Prop} {w0:World} {L:Nat->Prop} {x:Nat->Value} {w:World} (h:Held ops n ds news R w0 L x w) (i:Nat) {d:Nat} (h1:i<n:=by decide) (h2:L i:=by first | trivial | decide +kernel) (h3:aT ops i=some d:=by rfl):R i (x d) w:=h.holds i h1 h2 d h3
theorem Held.e {ops:Array Oper} {n:Nat} {ds news:List Nat} {R:Nat->Value->World->Prop} {w0:World} {L:Nat->Prop} {x:Nat->Value} {w:World} (h:Held ops n ds news R w0 L x w) (i d:Nat) {v:Value} (h1:i<n:=by decide) (h2:L i:=by first | trivial | decide +kernel) (h3:aT ops i=some d:=by rfl) (h4:R i (x d) w->x d=v:=by exact fun h=>h):x d=v:=h4 (h.holds i h1 h2 d h3)
theorem oz0 {ops:Array Oper} {n:Nat} {ds news:List Nat} {R:Nat->Value->World->Prop} {W:World} {L:Nat->Prop} {C:(Nat->Value)->World->Prop} (h:∀ x xs d,Held ops n ds news R W.drew L x (W.grow xs d)->C x (W.grow xs d):=by (intro x xs d hH K hK;clear hH;(try simp only[World.grow_grow] at hK |-);go_simp;(first | (with_reducible refine hK _ _ ?_) | go_wp2_with fail);exact ⟨_,rfl,rfl,blv,fun h=>by cases h⟩)):∀ x w1,Held ops n ds news R W.drew L x w1->C x w1:=agD h
theorem oz1 {ops:Array Oper} {n:Nat} {ds news:List Nat} {R:Nat->Value->World->Prop} {W:World} {L:Nat->Prop} {C:(Nat->Value)->World->Prop} (i1 d1:Nat) {v1:Value} (h11:i1<n:=by decide) (h21:L i1:=by decide +kernel) (h31:aT ops i1=some d1:=by rfl) (h41:∀ u w,R i1 u w->u=v1:=by (intro u w h;exact h)) (h:∀ x xs d,x d1=v1->C x (W.grow xs d):=by (intro x xs d e K hK;simp only[e] at hK |-;clear e;(try simp only[World.grow_grow] at hK |-);go_simp;(first | (with_reducible refine hK _ _ ?_) | go_wp2_with fail);exact ⟨_,rfl,rfl,blv,fun h=>by cases h⟩)):∀ x w1,Held ops n ds news R W.drew L x w1->C x w1:=agD fun x xs d hH=>h x xs d (h41 _ _ (hH.holds i1 h11 h21 d1 h31))
theorem oz2 {ops:Array Oper} {n:Nat} {ds news:List Nat} {R:Nat->Value->World->Prop} {W:World} {L:Nat->Prop} {C:(Nat->Value)->World->Prop} (i1 d1 i2 d2:Nat) {v1 v2:Value} (h11:i1<n:=by decide) (h21:L i1:=by decide +kernel) (h31:aT ops i1=some d1:=by rfl) (h41:∀ u w,R i1 u w->u=v1:=by (intro u w h;exact h)) (h12:i2<n:=by decide) (h22:L i2:=by decide +kernel) (h32:aT ops i2=some d2:=by rfl) (h42:∀ u w,R i2 u w->u=v2:=by (intro u w h;exact h)) (h:∀ x xs d,x d1=v1->x d2=v2->C x (W.grow xs d):=by (intro x xs d e f K hK;simp only[e,f] at hK |-;clear e f;(try simp only[World.grow_grow] at hK |-);go_simp;(first | (with_reducible refine hK _ _ ?_) | go_wp2_with fail);exact ⟨_,rfl,rfl,blv,fun h=>by cases h⟩)):∀ x w1,Held ops n ds news R W.drew L x w1->C x w1:=agD fun x xs d hH=>h x xs d (h41 _ _ (hH.holds i1 h11 h21 d1 h31)) (h42 _ _ (hH.holds i2 h12 h22 d2 h32))
theorem ox0 {ops:Array Oper} {n:Nat} {ds news:List Nat} {R:Nat->Value->World->Prop} {W:World} {L:Nat->Prop} {C:(Nat->Value)->World->Prop} (h:∀ x xs d,Held ops n ds news R W.drew L x (W.grow xs d)->C x (W.grow xs d):=by (intro x xs d hH K hK;clear hH;(try simp only[World.grow_grow] at hK |-);go_simp;go_wp2_with fail;exact ⟨_,rfl,rfl,blv,fun h=>by cases h⟩)):∀ x w1,Held ops n ds news R W.drew L x w1->C x w1:=agD h
theorem ox1 {ops:Array Oper} {n:Nat} {ds news:List Nat} {R:Nat->Value->World->Prop} {W:World} {L:Nat->Prop} {C:(Nat->Value)->World->Prop} (i1 d1:Nat) {v1:Value} (h11:i1<n:=by decide) (h21:L i1:=by decide +kernel) (h31:aT ops i1=some d1:=by rfl) (h41:∀ u w,R i1 u w->u=v1:=by (intro u w h;exact h)) (h:∀ x xs d,x d1=v1->C x (W.grow xs d):=by (intro x xs d e K hK;simp only[e] at hK |-;clear e;(try simp only[World.grow_grow] at hK |-);go_simp;go_wp2_with fail;exact ⟨_,rfl,rfl,blv,fun h=>by cases h⟩)):∀ x w1,Held ops n ds news R W.drew L x w1->C x w1:=agD fun x xs d hH=>h x xs d (h41 _ _ (hH.holds i1 h11 h21 d1 h31))
theorem ox2 {ops:Array Oper} {n:Nat} {ds news:List Nat} {R:Nat->Value->World->Prop} {W:World} {L:Nat->Prop} {C:(Nat->Value)->World->Prop} (i1 d1 i2 d2:Nat) {v1 v2:Value} (h11:i1<n:=by decide) (h21:L i1:=by decide +kernel) (h31:aT ops i1=some d1:=by rfl) (h41:∀ u w,R i1 u w->u=v1:=by (intro u w h;exact h)) (h12:i2<n:=by decide) (h22:L i2:=by decide +kernel) (h32:aT ops i2=some d2:=by rfl) (h42:∀ u w,R i2 u w->u=v2:=by (intro u w h;exact h)) (h:∀ x xs d,x d1=v1->x d2=v2->C x (W.grow xs d):=by (intro x xs d e f K hK;simp only[e,f] at hK |-;clear e f;(try simp only[World.grow_grow] at hK |-);go_simp;go_wp2_with fail;exact ⟨_,rfl,rfl,blv,fun h=>by cases h⟩)):∀ x w1,Held ops n ds news R W.drew L x w1->C x w1:=agD fun x xs d hH=>h x xs d (h41 _ _ (hH.holds i1 h11 h21 d1 h31)) (h42 _ _ (hH.holds i2 h12 h22 d2 h32))
theorem ow0 {ops:Array Oper} {n:Nat} {ds news:List Nat} {R:Nat->Value->World->Prop} {W:World} {L:Nat->Prop} {C:(Nat->Value)->World->Prop} (h:∀ x xs d,Held ops n ds news R W.drew L x (W.grow xs d)->C x (W.grow xs d):=by (intro x xs d hH K hK;clear hH;(try simp only[World.grow_grow] at hK |-);go_simp;go_wp2_with fail;exact ⟨_,rfl,rfl,blw,fun h=>by cases h⟩)):∀ x w1,Held ops n ds news R W.drew L x w1->C x w1:=agD h
theorem ow1 {ops:Array Oper} {n:Nat} {ds news:List Nat} {R:Nat->Value->World->Prop} {W:World} {L:Nat->Prop} {C:(Nat->Value)->World->Prop} (i1 d1:Nat) {v1:Value} (h11:i1<n:=by decide) (h21:L i1:=by decide +kernel) (h31:aT ops i1=some d1:=by rfl) (h41:∀ u w,R i1 u w->u=v1:=by (intro u w h;exact h)) (h:∀ x xs d,x d1=v1->C x (W.grow xs d):=by (intro x xs d e K hK;simp only[e] at hK |-;clear e;(try simp only[World.grow_grow] at hK |-);go_simp;go_wp2_with fail;exact ⟨_,rfl,rfl,blw,fun h=>by cases h⟩)):∀ x w1,Held ops n ds news R W.drew L x w1->C x w1:=agD fun x xs d hH=>h x xs d (h41 _ _ (hH.holds i1 h11 h21 d1 h31))
theorem ow2 {ops:Array Oper} {n:Nat} {ds news:List Nat} {R:Nat->Value->World->Prop} {W:World} {L:Nat->Prop} {C:(Nat->Value)->World->Prop} (i1 d1 i2 d2:Nat) {v1 v2:Value} (h11:i1<n:=by decide) (h21:L i1:=by decide +kernel) (h31:aT ops i1=some d1:=by rfl) (h41:∀ u w,R i1 u w->u=v1:=by (intro u w h;exact h)) (h12:i2<n:=by decide) (h22:L i2:=by decide +kernel) (h32:aT ops i2=some d2:=by rfl) (h42:∀ u w,R i2 u w->u=v2:=by (intro u w h;exact h)) (h:∀ x xs d,x d1=v1->x d2=v2->C x (W.grow xs d):=by (intro x xs d e f K hK;simp only[e,f] at hK |-;clear e f;(try simp only[World.grow_grow] at hK |-);go_simp;go_wp2_with fail;exact ⟨_,rfl,rfl,blw,fun h=>by cases h⟩)):∀ x w1,Held ops n ds news R W.drew L x w1->C x w1:=agD fun x xs d hH=>h x xs d (h41 _ _ (hH.holds i1 h11 h21 d1 h31)) (h42 _ _ (hH.holds i2 h12 h22 d2 h32))
def aCN (B:Nat) (s:Spec) (fr:Array Value) (df:List Deferred) (d:Option Nat) (w:World) (a':Act) (w':World):Prop :=
 ∃ v,(⟨fr,df⟩:Act).put d v=a'/\s.R B v w'/\Below w.heap.size w w'/\(s.isNew=true -> ∃ b,v = .pointer (some ⟨b,0,none⟩)/\w.heap.size<=b/\b<w'.heap.size)
def aD3 (P:Program) (ops:Array Oper) (Q:Exit->Act->World->Prop) (w0:World) (F:(Nat->Value)->Array Value) (df:List Deferred) (ds news:List Nat) (n:Nat) (all:List Spec) (i:Nat) (o:Oper) (s:Spec):Prop :=
 match s.pureVal with
 | some v => ∀ x w1,Held ops n ds news (RS w0.heap.size all) w0 (fun j=>j∈past ops 4 i) x w1->Yields P ops o v ⟨F x,df⟩
 | none => ∀ x w1,Held ops n ds news (RS w0.heap.size all) w0 (fun j=>j∈past ops 4 i) x w1 ->
   ∀ K:Act->World->Prop,(∀ a' w',aCN w0.heap.size s (F x) df o.dst w1 a' w'->K a' w') ->
   if Region.wanted o (yielded ops (F x))=true then o.wp P ⟨F x,df⟩ w1 K Q else K ((⟨F x,df⟩:Act).put o.dst undef) w1
def Obl (P:Program) (ops:Array Oper) (Q:Exit->Act->World->Prop) (w0:World) (F:(Nat->Value)->Array Value) (df:List Deferred) (ds news:List Nat) (n:Nat) (all:List Spec):Nat->List Oper->List Spec->Prop
 | i,o :: l,s :: ss=>aD3 P ops Q w0 F df ds news n all i o s/\Obl P ops Q w0 F df ds news n all (i+1) l ss
 | _,_,_=>True

theorem Obl.at_ {P:Program} {ops:Array Oper} {Q:Exit->Act->World->Prop} {w0:World} {F:(Nat->Value)->Array Value} {df:List Deferred} {ds news:List Nat} {n:Nat} {all:List Spec} :
  ∀ (l:List Oper) (ss:List Spec) (k:Nat),Obl P ops Q w0 F df ds news n all k l ss -> ∀ i o s,l[i]? = some o->ss[i]? = some s->aD3 P ops Q w0 F df ds news n all (k+i) o s
 | o :: l,s :: ss,k,h,0,o',s',ho,hs=>by
  simp at ho hs;subst ho;subst hs;exact h.1
 | o :: l,s :: ss,k,h,i+1,o',s',ho,hs=>by
  have:=Obl.at_ l ss (k+1) h.2 i o' s' (by simpa using ho) (by simpa using hs)
  simpa [Nat.add_assoc,Nat.add_comm 1 i] using this
 | [],_,_,_,_,_,_,ho,_=>by simp at ho
 | _ :: _, [],_,_,_,_,_,_,hs=>by simp at hs

theorem kG {l:List Spec} {i:Nat} (h:i∈fG l):∃ s v,l[i]? = some s/\s.pureVal=some v:=by
 unfold fG at h
 rw[List.mem_filter] at h
 obtain ⟨_,h2⟩:=h
 cases hs:l[i]? with
 | none=>simp[hs] at h2
 | some s =>
  rw[hs] at h2
  simp only[Option.map_some,Option.getD_some] at h2
  obtain ⟨v,hv⟩:=Option.isSome_iff_exists.1 h2
  exact ⟨s,v,rfl,hv⟩
theorem gJ {l:List Spec} {i:Nat} (hi:i<l.length) (h:i∉fG l):∀ s,l[i]? = some s->s.pureVal=none:=by
 intro s hs
 cases hv:s.pureVal with
 | none=>rfl
 | some v =>
  refine (h ?_).elim
  unfold fG
  rw[List.mem_filter,hs]
  refine ⟨List.mem_range.2 hi,?_⟩
  simp[hv]

theorem aG {P:Program} {ops:Array Oper} {Q:Exit->Act->World->Prop} {rid:Nat} {a:Act} {w:World} (hm:P.follows .mixedOrders=true) (specs:List Spec) (n:Nat) (hn:specs.length=n) (ds news pures:List Nat) (hnews:nI specs=news)
  (hpures:fG specs=pures) (hpn:∀ i∈news,i∉pures) (hck:iO ops n ds pures=true)
  (hQ:∀ (s:Nat) v c a w,Q (.panic c) (a.put (some s) v) w->Q (.panic c) a w)
  (F:(Nat->Value)->Array Value) (hF:∀ x,over a.tmps ds x=F x)
  (hops:Obl P ops Q w.drew F a.defers ds news n specs 0 ops.toList specs)
  (hend:∀ x w1,Held ops n ds news (RS w.drew.heap.size specs) w.drew (fun _=>True) x w1->wpList P ops Q (ops.toList.drop n) ⟨F x,a.defers⟩ w1) :
  (Code.region rid ops true).wp P Q a w:=by
 subst hn;subst hnews;subst hpures
 refine jL hm specs.length ds (nI specs) (fG specs) (RS w.drew.heap.size specs) hck hQ ?_ ?_ ?_ ?_
 ·intro i v w1 w2 h hb
  unfold RS at *
  split
  ·rename_i s hs;rw[hs] at h;exact s.stays _ v w1 w2 h hb
  trivial
 ·intro i hip
  obtain ⟨s,v,hs,hv⟩:=kG hip
  refine ⟨fun hm=>hpn i hm hip,fun o ho x w1 hH => ?_⟩
  have:=hops.at_ _ _ _ i o _ (by simpa using ho) hs
  rw[Nat.zero_add] at this
  unfold aD3 at this
  rw[hv] at this
  refine ⟨v,?_,?_⟩
  ·rw[hF];exact this x w1 hH
  unfold RS;rw[hs];exact s.pureOk v hv _ _
 ·intro i hi hip o ho x w1 hH K hK
  have hs:specs[i]? = some specs[i]:=List.getElem?_eq_getElem hi
  have hnp:=gJ hi hip _ hs
  have key:=hops.at_ _ _ _ i o specs[i] (by simpa using ho) hs
  rw[Nat.zero_add] at key
  unfold aD3 at key
  rw[hnp] at key
  have key2:=key x w1 hH
  rw[hF]
  refine key2 K ?_
  rintro a' w' ⟨v,rfl,hR,hB,hN⟩
  refine hK _ _ ⟨v,?_,?_,hB,fun hmem=>hN ?_⟩
  ·rw[<-hF];unfold aT;rw[ho];rfl
  ·unfold RS;rw[hs];exact hR
  unfold nI at hmem
  rw[List.mem_filter,hs] at hmem
  simpa using hmem.2
 intro x w1 hH
 rw[hF]
 exact hend x w1 hH
theorem lJ {B b:Nat} {o:Obj} {fr:Array Value} {df:List Deferred} {d:Option Nat} {w:World} {a':Act} (he:(⟨fr,df⟩:Act).put d (.pointer (some ⟨b,0,none⟩))=a') (hb:b=w.heap.size) (hB:B<=w.heap.size) :
  aCN B (.new o) fr df d w a' (w.alloc o):=by
 subst hb
 have hs:(w.alloc o).heap.size=w.heap.size+1:=by simp
 refine ⟨_,he,⟨_,rfl,hB,by omega,?_⟩,(Below.refl _ _).alloc (Nat.le_refl _) _,fun _=>⟨_,rfl,Nat.le_refl _,by omega⟩⟩
 show (w.heap.push o)[w.heap.size]? = some o
 simp
theorem rO {P:Program} {ops:Array Oper} {Q:Exit->Act->World->Prop} {l:List Oper} {a:Act} {w:World} {B b1:Nat} {o1:Obj} (h1:w.heap[b1]? = some o1) (_:B<=b1) (_:b1<w.heap.size)
  (hk:wpList P ops Q l a (w.kD B b1 o1)):wpList P ops Q l a w:=by rw[World.aAG h1] at hk;exact hk
theorem aBQ {P:Program} {ops:Array Oper} {Q:Exit->Act->World->Prop} {l:List Oper} {a:Act} {w:World} {B b1 b2:Nat} {o1 o2:Obj} (h1:w.heap[b1]? = some o1) (_:B<=b1) (_:b1<w.heap.size) (h2:w.heap[b2]? = some o2) (_:B<=b2) (_:b2<w.heap.size)
  (hk:wpList P ops Q l a ((w.kD B b1 o1).kD B b2 o2)):wpList P ops Q l a w:=by rw[World.aAG h1,World.aAG h2] at hk;exact hk
attribute [go_sem] Value.oneCell'
theorem uN {w:World} (o:Obj) {r:Nat} (h:r<w.heap.size):(w.alloc o).heap[r]? = w.heap[r]? := by
 show (w.heap.push o)[r]? = _
 rw[Array.getElem?_push,if_neg (by omega)]

def _root_.Go.Program.bJ (P:Program) (t:TypeId):Option Nat :=
 match P.underlying t with
 | some (.struct _) | some (.array _ _)=>(P.info? t).map (·.size)
 | _=>none
def _root_.Go.World.aW (w:World) (n o sz:Nat):Option (Array Value) :=
 match w.heap[n]? with
 | some (.cells c _ _)=>if o+sz<=c.size then some (c.extract o (o+sz)) else none
 | _=>none
def _root_.Go.World.aN (w:World) (n o sz:Nat):Bool :=
 match w.heap[n]? with
 | some (.cells c _ (0,0))=>decide (o+sz<=c.size)
 | _=>false
def bT (c:Array Value) (o:Nat) (vs:Array Value):Array Value:=c.extract 0 o++vs++c.extract (o+vs.size) c.size
def _root_.Go.World.lay (w:World) (n o:Nat) (vs:Array Value):World :=
 { w with heap:=w.heap.modify n fun
   | .cells c t fr => .cells (bT c o vs) t fr
   | x=>x }

section
variable {P:Program} {w:World}

theorem iZ {c:Array Value} {o:Nat} {vs:Array Value} (h:o+vs.size<=c.size) (k:Nat):(bT c o vs)[k]? = if o<=k/\k<o+vs.size then vs[k - o]? else c[k]? := by
 unfold bT
 rw[Array.getElem?_append,Array.getElem?_append]
 simp only[Array.size_append,Array.size_extract]
 have e1:min o c.size - 0=o:=by omega
 rw[e1]
 by_cases h1:k<o
 ·rw[if_pos (by omega),if_pos h1,if_neg (by omega),Array.getElem?_extract]
  rw[if_pos (by omega)];congr 1;omega
 by_cases h2:k<o+vs.size
 ·rw[if_pos h2,if_neg h1,if_pos ⟨by omega,h2⟩]
 rw[if_neg h2,if_neg (by omega),Array.getElem?_extract]
 split
 ·congr 1;omega
 rw[Array.getElem?_eq_none (by omega)]
theorem dN {c vs:Array Value} (h:vs.size=c.size):bT c 0 vs=vs:=by
 apply Array.ext_getElem?
 intro k
 rw[iZ (by omega)]
 split
 ·simp
 rw[Array.getElem?_eq_none (by omega),Array.getElem?_eq_none (by omega)]
theorem aFt {c:Array Value} {o:Nat} {v:Value} (h:o<c.size):bT c o #[v]=c.setIfInBounds o v:=by
 apply Array.ext_getElem?
 intro k
 rw[iZ (by simp;omega)]
 by_cases hk:o=k
 ·subst hk
  rw[Array.getElem?_setIfInBounds_self_of_lt h];simp
 rw[Array.getElem?_setIfInBounds_ne hk,if_neg (by simp;omega)]

theorem dF {n o sz:Nat} {cs:Array Value} (h:w.aW n o sz=some cs):cs.size=sz /\ ∀ j,j<sz->w.cell? ⟨n,o+j,none⟩=cs[j]? := by
 unfold World.aW at h
 split at h
 ·rename_i c t fr hc
  split at h
  ·rename_i hle
   simp at h;subst h
   refine ⟨by rw[Array.size_extract];omega,fun j hj => ?_⟩
   simp only[World.cell?,hc]
   rw[if_neg (by simp),Array.getElem?_extract,if_pos (by omega)]
  cases h
 cases h

theorem addr_add (n o j:Nat):(⟨n,o,none⟩:Addr).add j=⟨n,o+j,none⟩:=by
 unfold Addr.add;split
 ·subst_vars;rfl
 rfl

theorem aDE {t:TypeId} {sz:Nat} (h:P.bJ t=some sz) (w:World):(isAgg t).run P w = .ok true w/\(sizeOf t).run P w = .ok sz w:=by
 unfold Program.bJ at h
 split at h
 ·rename_i fs hu
  simp only[Option.map_eq_some_iff] at h
  obtain ⟨i,hi,rfl⟩:=h
  exact ⟨by simp[isAgg,run_underlying hu],by simp[sizeOf,typeInfo,hi]⟩
 ·rename_i m e hu
  simp only[Option.map_eq_some_iff] at h
  obtain ⟨i,hi,rfl⟩:=h
  exact ⟨by simp[isAgg,run_underlying hu],by simp[sizeOf,typeInfo,hi]⟩
 cases h

theorem xJ {t:TypeId} {sz n o:Nat} {cs:Array Value} (ht:P.bJ t=some sz) (hc:w.aW n o sz=some cs) :
  (loadVar t ⟨n,o,none⟩).run P w = .ok (.agg cs) w:=by
 obtain ⟨h1,h2⟩:=dF hc
 obtain ⟨ha,hs⟩:=aDE ht w
 have hl:(loadCells ⟨n,o,none⟩ cs.toList.length).run P w = .ok cs.toList.toArray w :=
  run_loadCells_list (P:=P) w ⟨n,o,none⟩ cs.toList (fun j v hv=>by
   have hj:j<cs.size:=by have:=(List.getElem?_eq_some_iff.1 hv).1;simpa using this
   rw[addr_add,h2 j (by omega)]
   simpa using hv)
 simp only[Array.length_toList,Array.toArray_toList,h1] at hl
 simp[loadVar,Sem.run_bind,ha,hs,hl]

def eX (t:TypeId) (a:Addr):Sem Value:=loadVar t a
def bH (t:TypeId) (a:Addr) (v:Value):Sem Unit:=storeVar t a v
@[go_sem] theorem aK6 {t:TypeId} {n o:Nat} (ht:(P.bJ t).isSome=true) (hc:(w.aW n o ((P.bJ t).getD 0)).isSome=true) :
  (eX t ⟨n,o,none⟩).run P w = .ok (.agg ((w.aW n o ((P.bJ t).getD 0)).getD #[])) w:=by
 obtain ⟨sz,hs⟩:=Option.isSome_iff_exists.1 ht
 rw[hs] at hc |-
 obtain ⟨cs,hcs⟩:=Option.isSome_iff_exists.1 hc
 simp only[Option.getD_some] at hcs |-
 rw[hcs]
 exact xJ hs hcs

theorem aB1 {n o sz:Nat} (h:w.aN n o sz=true):∃ c t,w.heap[n]? = some (.cells c t (0,0))/\o+sz<=c.size:=by
 unfold World.aN at h
 split at h
 ·rename_i c t hc
  exact ⟨c,t,hc,by simpa using h⟩
 cases h

theorem aBK {n o:Nat} {c vs:Array Value} {t:TypeId} (h:w.heap[n]? = some (.cells c t (0,0))):w.setRow n (bT c o vs)=w.lay n o vs:=by
 unfold World.setRow World.lay
 congr 1
 apply Array.ext_getElem?
 intro k
 rw[Array.getElem?_modify,Array.getElem?_modify]
 split
 ·subst_vars;rw[h];rfl
 rfl

theorem aCA {t:TypeId} {n o:Nat} {vs:Array Value} (ht:P.bJ t=some vs.size) (hc:w.aN n o vs.size=true) (h1:vs.all (·.oneCell')=true) :
  (storeVar t ⟨n,o,none⟩ (.agg vs)).run P w = .ok () (w.lay n o vs):=by
 obtain ⟨c,e,hn,hl⟩:=aB1 hc
 obtain ⟨_,hs⟩:=aDE ht w
 have:=run_storeCells_at P n o e vs.toList 0 c w hn (by simpa using hl) (fun v hv=>(Array.all_eq_true_iff_forall_mem.1 h1) v (by simpa using hv))
 have e2:(c.toList.take (o+0)++vs.toList++c.toList.drop (o+0+vs.toList.length)).toArray=bT c o vs:=by
  apply Array.ext'
  simp[bT,List.extract_eq_take_drop]
  rw[List.take_of_length_le];simp
 rw[e2,aBK hn] at this
 simp[storeVar,hs,Value.cells,this]

@[go_sem] theorem nM {t:TypeId} {n o:Nat} {vs:Array Value} (ht:P.bJ t=some vs.size) (hc:w.aN n o vs.size=true) (h1:vs.all (·.oneCell')=true) :
  (bH t ⟨n,o,none⟩ (.agg vs)).run P w = .ok () (w.lay n o vs):=aCA ht hc h1

/-! the words behind a new block, a world that has grown, a block that is known, a draw -/
@[go_sem] theorem qG (c:Array Value) (t:TypeId) (n o sz:Nat) (hn:n=w.heap.size):(w.alloc (.cells c t)).aW n o sz=if o+sz<=c.size then some (c.extract o (o+sz)) else none:=by
 subst hn;unfold World.aW;rw[_root_.Go.heap_alloc_new]
@[go_sem] theorem nP (x:Obj) (n o sz:Nat) (hn:n<w.heap.size):(w.alloc x).aW n o sz=w.aW n o sz:=by
 unfold World.aW;rw[uN (w:=w) x hn]
@[go_sem] theorem lI (xs:Array Obj) (d n o sz:Nat) (hn:n<w.heap.size):(w.grow xs d).aW n o sz=w.aW n o sz:=by
 simp[World.aW,World.bQ xs d n hn]
@[go_sem] theorem aN2 (n o sz:Nat):w.drew.aW n o sz=w.aW n o sz:=rfl
@[go_sem] theorem aLd (k n o sz:Nat):(w.drewN k).aW n o sz=w.aW n o sz:=rfl
@[go_sem] theorem aJR {B b:Nat} (c:Array Value) (t:TypeId) (o sz:Nat) (h:b<w.heap.size):(w.kD B b (.cells c t)).aW b o sz=if o+sz<=c.size then some (c.extract o (o+sz)) else none:=by
 simp[World.aW,World.dX _ h]
@[go_sem] theorem aJS {B b:Nat} (x:Obj) (n o sz:Nat) (h1:n<B) (h2:B<=b):(w.kD B b x).aW n o sz=w.aW n o sz:=by
 simp[World.aW,World.bV (w:=w) (B:=B) x (show n≠b by omega)]
@[go_sem] theorem aIV {B b:Nat} (x:Obj) (n o sz:Nat) (h:n≠b):(w.kD B b x).aW n o sz=w.aW n o sz:=by
 simp[World.aW,World.bV (w:=w) (B:=B) x h]
@[go_sem] theorem aIE (c:Array Value) (t:TypeId) (n o sz:Nat) (hn:n=w.heap.size):(w.alloc (.cells c t)).aN n o sz=decide (o+sz<=c.size):=by
 subst hn;unfold World.aN;rw[_root_.Go.heap_alloc_new];rfl
@[go_sem] theorem aGT (x:Obj) (n o sz:Nat) (hn:n<w.heap.size):(w.alloc x).aN n o sz=w.aN n o sz:=by
 unfold World.aN;rw[uN (w:=w) x hn]
@[go_sem] theorem aLD (xs:Array Obj) (d n o sz:Nat) (hn:n<w.heap.size):(w.grow xs d).aN n o sz=w.aN n o sz:=by
 simp[World.aN,World.bQ xs d n hn]
@[go_sem] theorem there_drew (n o sz:Nat):w.drew.aN n o sz=w.aN n o sz:=rfl
@[go_sem] theorem aKi (k n o sz:Nat):(w.drewN k).aN n o sz=w.aN n o sz:=rfl
@[go_sem] theorem aIF {B b:Nat} (c:Array Value) (t:TypeId) (o sz:Nat) (h:b<w.heap.size):(w.kD B b (.cells c t)).aN b o sz=decide (o+sz<=c.size):=by
 simp[World.aN,World.dX _ h]
@[go_sem] theorem aIG {B b:Nat} (x:Obj) (n o sz:Nat) (h1:n<B) (h2:B<=b):(w.kD B b x).aN n o sz=w.aN n o sz:=by
 simp[World.aN,World.bV (w:=w) (B:=B) x (show n≠b by omega)]
@[go_sem] theorem aHd {B b:Nat} (x:Obj) (n o sz:Nat) (h:n≠b):(w.kD B b x).aN n o sz=w.aN n o sz:=by
 simp[World.aN,World.bV (w:=w) (B:=B) x h]

theorem aY {n o k:Nat} {vs:Array Value} (h:k≠n):(w.lay n o vs).heap[k]? = w.heap[k]? := by
 simp only[World.lay,Array.getElem?_modify];rw[if_neg (fun e=>h e.symm)]
@[go_sem,simp] theorem lay_size (n o:Nat) (vs:Array Value):(w.lay n o vs).heap.size=w.heap.size:=by simp[World.lay]
@[go_sem] theorem aJU (c:Array Value) (t:TypeId) (n o:Nat) (vs:Array Value) (hn:n=w.heap.size):(w.alloc (.cells c t)).lay n o vs=w.alloc (.cells (bT c o vs) t):=by
 subst hn
 unfold World.lay World.alloc
 congr 1
 apply Array.ext_getElem?
 intro k
 rw[Array.getElem?_modify]
 by_cases hk:w.heap.size=k
 ·subst hk;simp
 rw[if_neg hk];simp only[Array.getElem?_push];rw[if_neg (fun e=>hk e.symm),if_neg (fun e=>hk e.symm)]
@[go_sem] theorem aIC (x:Obj) (n o:Nat) (vs:Array Value) (hn:n<w.heap.size):(w.alloc x).lay n o vs=(w.lay n o vs).alloc x:=by
 unfold World.lay World.alloc
 congr 1
 apply Array.ext_getElem?
 intro k
 simp only[Array.getElem?_modify,Array.getElem?_push,Array.size_modify]
 by_cases hk:k=w.heap.size
 ·subst hk;simp[Nat.ne_of_lt hn]
 simp[hk]
@[go_sem] theorem aNc (xs:Array Obj) (d n o:Nat) (vs:Array Value) (hn:n<w.heap.size):(w.grow xs d).lay n o vs=(w.lay n o vs).grow xs d:=by
 unfold World.lay World.grow
 simp only
 congr 1
 apply Array.ext_getElem?
 intro k
 simp only[Array.getElem?_modify,Array.getElem?_append,Array.size_modify]
 by_cases hk:k=n
 ·subst hk;simp[hn]
 by_cases h2:k<w.heap.size
 ·simp[h2]
 simp[h2];intro h;omega
@[go_sem] theorem aNb (n o:Nat) (vs:Array Value):w.drew.lay n o vs=(w.lay n o vs).drew:=rfl
@[go_sem] theorem aLu (k n o:Nat) (vs:Array Value):(w.drewN k).lay n o vs=(w.lay n o vs).drewN k:=rfl
theorem zS {B b:Nat} (x:Obj) (n o:Nat) (vs:Array Value) (h:n≠b):(w.kD B b x).lay n o vs=(w.lay n o vs).kD B b x:=by
 unfold World.lay World.kD
 simp only
 congr 1
 apply Array.ext_getElem?
 intro k
 by_cases hk:b=k
 ·subst hk
  rw[Array.getElem?_modify,if_neg h]
  by_cases hb:b<w.heap.size
  ·rw[Array.getElem?_setIfInBounds_self_of_lt hb,Array.getElem?_setIfInBounds_self_of_lt (by simpa using hb)]
  rw[Array.getElem?_eq_none (by simp;omega),Array.getElem?_eq_none (by simp;omega)]
 rw[Array.getElem?_setIfInBounds_ne hk,Array.getElem?_modify,Array.getElem?_modify,Array.getElem?_setIfInBounds_ne hk]
@[go_sem] theorem aJW {B b:Nat} (x:Obj) (n o:Nat) (vs:Array Value) (h1:n<B) (h2:B<=b):(w.kD B b x).lay n o vs=(w.lay n o vs).kD B b x:=zS x n o vs (by omega)
@[go_sem] theorem aIa {B b:Nat} (x:Obj) (n o:Nat) (vs:Array Value) (h:n≠b):(w.kD B b x).lay n o vs=(w.lay n o vs).kD B b x:=zS x n o vs h
@[go_sem] theorem aJV {B b:Nat} (c:Array Value) (t:TypeId) (o:Nat) (vs:Array Value) (h:b<w.heap.size):(w.kD B b (.cells c t)).lay b o vs=w.kD B b (.cells (bT c o vs) t):=by
 unfold World.lay World.kD
 simp only
 congr 1
 apply Array.ext_getElem?
 intro k
 by_cases hk:b=k
 ·subst hk
  rw[Array.getElem?_modify,if_pos rfl,Array.getElem?_setIfInBounds_self_of_lt h,Array.getElem?_setIfInBounds_self_of_lt h]
  rfl
 rw[Array.getElem?_modify,if_neg hk,Array.getElem?_setIfInBounds_ne hk,Array.getElem?_setIfInBounds_ne hk]
theorem _root_.Go.RowKit.Below.lay {B:Nat} {a:World} (h:Below B a w) {n o:Nat} {vs:Array Value} (hn:B<=n):Below B a (w.lay n o vs) :=
 h.trans ⟨rfl,rfl,rfl,by simp,fun k hk=>aY (by omega)⟩
@[go_sem] theorem aKa (c vs:Array Value) (h:vs.size=c.size):bT c 0 vs=vs:=dN h
/-! the results of a function, where some lie in memory: one equation for each place -/
def aO (P:Program) (w:World) (tmps:Array Value):ResultVar->Value->Prop
 | .tmp t,v=>tmps.getD t undef=v
 | .cell p ty,v => ∃ n o,tmps.getD p undef = .pointer (some ⟨n,o,none⟩)/\(loadVar ty ⟨n,o,none⟩).run P w = .ok v w
theorem aO.row {tmps:Array Value} {p:Tmp} {ty:TypeId} {n o sz:Nat} {cs:Array Value} (hp:tmps.getD p undef = .pointer (some ⟨n,o,none⟩)) (ht:P.bJ ty=some sz) (hc:w.aW n o sz=some cs) :
  aO P w tmps (.cell p ty) (.agg cs):=⟨n,o,hp,xJ ht hc⟩
theorem wO {tmps:Array Value} {r:ResultVar} {v:Value} (h:aO P w tmps r v) :
  (match r with | .tmp t=>(pure (tmps.getD t undef):Sem Value) | .cell a t=>do loadVar t (<-asAddr (tmps.getD a undef))).run P w = .ok v w:=by
 cases r with
 | tmp t=>simp only[aO] at h;simp[<-h]
 | cell p ty =>
  obtain ⟨n,o,hp,hl⟩:=h
  simp only[hp,asAddr]
  simp[hl]
theorem fE {fn:Func} {r:ResultVar} {tmps:Array Value} {v:Value} (h:fn.results = #[r]) (h1:aO P w tmps r v):(results fn tmps).run P w = .ok v w:=by
 have:=wO h1
 unfold results
 rw[h]
 simp only[List.mapM_toArray,List.mapM_cons,List.mapM_nil,bind_pure_comp,map_pure,Functor.map_map,Sem.run_map]
 cases r <;> simp_all
theorem aH {fn:Func} {r s:ResultVar} {tmps:Array Value} {v u:Value} (h:fn.results = #[r,s]) (h1:aO P w tmps r v) (h2:aO P w tmps s u):(results fn tmps).run P w = .ok (.tuple #[v,u]) w:=by
 have e1:=wO h1
 have e2:=wO h2
 unfold results
 rw[h]
 simp only[List.mapM_toArray,List.mapM_cons,List.mapM_nil,bind_pure_comp,map_pure,Functor.map_map,Sem.run_map,Sem.run_bind]
 cases r <;> cases s <;> simp_all
theorem bK {fn:Func} {r s q:ResultVar} {tmps:Array Value} {v u x:Value} (h:fn.results = #[r,s,q]) (h1:aO P w tmps r v) (h2:aO P w tmps s u) (h3:aO P w tmps q x) :
  (results fn tmps).run P w = .ok (.tuple #[v,u,x]) w:=by
 have e1:=wO h1
 have e2:=wO h2
 have e3:=wO h3
 unfold results
 rw[h]
 simp only[List.mapM_toArray,List.mapM_cons,List.mapM_nil,bind_pure_comp,map_pure,Functor.map_map,Sem.run_map,Sem.run_bind]
 cases r <;> cases s <;> cases q <;> simp_all
end
def bZ (a:Array Value):Bool:=a.all (·.oneCell')
def bs (l:List UInt8):ByteArray:=⟨l.toArray⟩
theorem aOe (s:ByteArray):s=bs s.data.toList:=by
 obtain ⟨⟨l⟩⟩:=s
 rfl
@[go_sem] theorem aG7 (l:List UInt8):(bs l).toList=l:=by rw[ByteArray.toList_eq];rfl
theorem bD (s:List UInt8):(bs s).size=s.length:=by simp[bs,ByteArray.size]
theorem aEY (s:List UInt8) (n:Nat):(bs s).extract 0 n=bs (s.take n):=by
 apply ByteArray.ext
 simp[bs,ByteArray.data_extract]
theorem aD8 (s:List UInt8) (a b:Nat):(bs s).extract a b=bs ((s.take b).drop a):=by
 apply ByteArray.ext
 simp[bs,ByteArray.data_extract,List.extract_eq_take_drop]
 rw[List.drop_take]
theorem bytes_append (a b:List UInt8):ByteArray.mk a.toArray++ByteArray.mk b.toArray=ByteArray.mk (a++b).toArray:=by
 apply ByteArray.ext;simp
def byt (l:List UInt8) (i:Nat):UInt8:=l.getD i 0
theorem bP {l:List UInt8} {i:Nat} (h:i<l.length):l[i]'h=byt l i:=by
 unfold byt;rw[List.getD_eq_getElem?_getD,List.getElem?_eq_getElem h];rfl
@[go_sem] theorem aPz (l:List UInt8) (i:Nat) (h:i<(bs l).size):(bs l)[i]'h=byt l i:=by
 unfold byt
 have h2:i<l.length:=by rw[bD] at h;exact h
 rw[List.getD_eq_getElem?_getD,List.getElem?_eq_getElem h2]
 rfl
theorem qE (a b:List UInt8):bs a++bs b=bs (a++b):=bytes_append a b
end Go.Proofs.YtcedmfnlkelhkaaGreatDoor
namespace Go.Proofs.YtcedmfnlkelhkaaGreatDoor
open Go.RowKit Go.ChangeShapes Go.WideShapes

def CK:=Option (Option IntKind)
def CK.b:CK:=some none
def CK.i (k:IntKind):CK:=some (some k)
def CK.s:CK:=none
def CK.fits:CK->Value->Prop
 | some none,v => ∃ x,v = .bool x
 | some (some k),v => ∃ n,v = .int k n/\(Lit.int k n).wf=true
 | none,v => ∃ s,v = .string s/\s.size<=maxLen
def aU:List CK->List Value->Prop
 | [], []=>True
 | k :: ks,v :: vs=>k.fits v/\aU ks vs
 | _,_=>False
theorem aU.append:∀ {a b:List CK} {cs:List Value},aU a (cs.take a.length)->aU b (cs.drop a.length)->aU (a++b) cs
 | [],_,_,_,h=>h
 | _ :: _,_, [],h,_=>by simp[aU] at h
 | _ :: ks,b,v :: vs,h,h2=>by
  simp only[List.length_cons,List.take_succ_cons,aU] at h
  exact ⟨h.1,aU.append h.2 (by simpa using h2)⟩

def oK (P:Program) (g:TypeId->Option (List CK)):List Field->Nat->Option (List CK)
 | [],_=>some []
 | f :: r,off=>(g f.type).bind fun ks=>if f.offset=off/\ks.length=P.cellsOf f.type then (oK P g r (off+ks.length)).map (ks ++ ·) else none
def flatK (P:Program):Nat->TypeId->Option (List CK)
 | 0,_=>none
 | f+1,t=>match P.underlying t with
  | some .bool=>some [.b]
  | some (.int k)=>some [.i k]
  | some .string=>some [.s]
  | some (.struct fs)=>(oK P (flatK P f) fs.toList 0).bind fun ks=>if ks.length=P.cellsOf t then some ks else none
  | some (.array n e)=>(flatK P f e).bind fun ks=>if ks.length=P.cellsOf e/\n * ks.length=P.cellsOf t then some (List.replicate n ks).flatten else none
  | _=>none

section
variable {H:Type} {enc:TypeId×Value->H} {P:Program} {w:World} {base:Nat} {spare:Nat->Bool} {held:Bool}

theorem qJ {g:TypeId->Option (List CK)} {cs:List Value}:∀ (fs:List Field) (off:Nat) (ks:List CK),oK P g fs off=some ks ->
  (∀ (i:Nat) (f:Field),fs[i]? = some f -> ∀ k,g f.type=some k->aU k ((cs.drop f.offset).take (P.cellsOf f.type))) ->
  cs.length=off+ks.length->aU ks (cs.drop off)
 | [],off,ks,h,_,hl=>by
  simp[oK] at h;subst h
  have:cs.drop off = []:=by apply List.drop_of_length_le;simp at hl;omega
  rw[this];trivial
 | f :: r,off,ks,h,hf,hl=>by
  simp only[oK,Option.bind_eq_some_iff] at h
  obtain ⟨k,hk,h⟩:=h
  split at h
  ·rename_i hc
   simp only[Option.map_eq_some_iff] at h
   obtain ⟨k2,hk2,rfl⟩:=h
   refine aU.append ?_ ?_
   ·have:=hf 0 f rfl k hk
    rw[hc.1,<-hc.2] at this
    exact this
   ·rw[List.drop_drop]
    exact qJ r (off+k.length) k2 hk2 (fun i f' h'=>hf (i+1) f' (by simpa using h')) (by simp at hl;omega)
  ·cases h

theorem aBG {k:List CK} {n:Nat}:∀ (m:Nat) (cs:List Value),cs.length=m * k.length ->
  (∀ i,i<m->aU k ((cs.drop (i * k.length)).take k.length))->aU (List.replicate m k).flatten cs
 | 0,cs,hl,_=>by
  have:cs = []:=by apply List.length_eq_zero_iff.1;simpa using hl
  subst this;trivial
 | m+1,cs,hl,h=>by
  rw[List.replicate_succ,List.flatten_cons]
  refine aU.append ?_ ?_
  ·simpa using h 0 (by omega)
  ·refine aBG (n:=n) m _ (by rw[List.length_drop,hl,Nat.succ_mul];omega) (fun i hi => ?_)
   have:=h (i+1) (by omega)
   rw[List.drop_drop,show k.length+i * k.length=(i+1) * k.length by rw[Nat.succ_mul];omega]
   exact this

theorem zJ:∀ (f:Nat) (t:TypeId) (ks:List CK),flatK P f t=some ks -> ∀ (fuel:Nat) (cs:List Value) (y:DataW H×List MemPlace),
  DataW.trod enc P w base spare held fuel t cs=some y->aU ks cs:=by
 intro f
 induction f with
 | zero=>intro t ks h;simp[flatK] at h
 | succ f ih =>
  intro t ks h fuel cs y hy
  unfold flatK at h
  split at h
  ·rename_i ht
   simp at h;subst h
   cases fuel with
   | zero=>simp[DataW.trod] at hy
   | succ n =>
    unfold DataW.trod at hy
    rw[ht] at hy
    split at hy <;> first | exact ⟨⟨_,rfl⟩,trivial⟩ | simp_all
  ·rename_i k ht
   simp at h;subst h
   obtain ⟨n,rfl,_,hw⟩:=DataW.trod_int ht hy
   exact ⟨⟨n,rfl,hw⟩,trivial⟩
  ·rename_i ht
   simp at h;subst h
   obtain ⟨s,rfl,_,hs⟩:=DataW.trod_string ht hy
   exact ⟨⟨s,rfl,hs⟩,trivial⟩
  ·rename_i fs ht
   simp only[Option.bind_eq_some_iff] at h
   obtain ⟨k,hk,h⟩:=h
   split at h
   ·rename_i hl
    simp at h;subst h
    obtain ⟨xs,n,rfl,_,hcs,hxs,hf⟩:=DataW.trod_struct ht hy
    have:=qJ (P:=P) (cs:=cs) fs.toList 0 k hk (fun i f' hf' k' hk'=>by
     have h1:=hf i f' (by simpa using hf')
     have hi:i<xs.length:=by
      have:=(List.getElem?_eq_some_iff.1 hf').1
      simp at this;omega
     rw[List.getElem?_eq_getElem hi] at h1
     exact ih _ _ hk' _ _ _ h1) (by omega)
    simpa using this
   cases h
  ·rename_i n e ht
   simp only[Option.bind_eq_some_iff] at h
   obtain ⟨k,hk,h⟩:=h
   split at h
   ·rename_i hc
    simp at h;subst h
    cases fuel with
    | zero=>simp[DataW.trod] at hy
    | succ q =>
     unfold DataW.trod at hy
     rw[ht] at hy
     simp only at hy
     split at hy
     ·rename_i hl
      simp only[Option.map_eq_some_iff] at hy
      obtain ⟨xs,hxs,_⟩:=hy
      refine aBG (n:=0) n cs (by rw[hl,<-hc.2]) (fun i hi => ?_)
      have h1:=mapM_some_get hxs i i (by simp[hi])
      have hlen:xs.length=n:=by simpa using mapM_some_length hxs
      rw[List.getElem?_eq_getElem (by omega)] at h1
      rw[<-hc.1] at h1
      exact ih _ _ hk _ _ _ h1
     cases hy
   cases h
  cases h
end

def Reads (P:Program) (w:World) (t:TypeId) (v:Value):Prop :=
 (∃ base,Value.okWide P w .any base t v) /\ ∃ (H:Type) (enc:TypeId×Value->H) (d:DataW H) (p:List MemPlace),DataW.Trod enc P w 0 (fun _=>true) true t v d p

theorem Reads.flat {P:Program} {w:World} {t:TypeId} {v:Value} (h:Reads P w t v) (f:Nat) {ks:List CK} (hk:flatK P f t=some ks):aU ks v.cells.toList:=by
 obtain ⟨_,H,enc,d,p,fuel,hd⟩:=h
 exact zJ f t ks hk fuel _ _ hd
theorem Reads.agg {P:Program} {w:World} {t:TypeId} {v:Value} {fs:Array Field} (h:Reads P w t v) (ht:P.underlying t=some (.struct fs)):∃ cs,v = .agg cs:=by
 obtain ⟨⟨base,hv⟩,_⟩:=h
 unfold Value.okWide at hv
 rw[ht] at hv
 obtain ⟨cs,h,_⟩:=hv
 exact ⟨cs,h⟩
theorem Reads.int {P:Program} {w:World} {t:TypeId} {v:Value} {k:IntKind} (h:Reads P w t v) (ht:P.underlying t=some (.int k)):∃ n,v = .int k n/\(Lit.int k n).wf=true:=by
 obtain ⟨⟨base,hv⟩,H,enc,d,p,fuel,hd⟩:=h
 obtain ⟨n,rfl,_,_,hw⟩:=open_int ht hv ⟨fuel,hd⟩
 exact ⟨n,rfl,hw⟩
theorem Reads.string {P:Program} {w:World} {t:TypeId} {v:Value} (h:Reads P w t v) (ht:P.underlying t=some .string):∃ s,v = .string s/\s.size<=maxLen:=by
 obtain ⟨⟨base,hv⟩,H,enc,d,p,fuel,hd⟩:=h
 obtain ⟨s,rfl,_,_,hw⟩:=Go.ChangeMaps.open_string ht hv ⟨fuel,hd⟩
 exact ⟨s,rfl,hw⟩

theorem aCW {w:World} {base n:Nat} {a:Addr} {cs:List Value} (h:w.cells? base a n=some cs):cs.length=n /\ ∀ j,j<n->w.cell? (a.add j)=cs[j]? := by
 unfold World.cells? at h
 split at h
 ·have hl:=mapM_some_length h
  simp at hl
  refine ⟨hl,fun j hj => ?_⟩
  have:=mapM_some_get h j j (by simp[hj])
  exact this
 cases h

theorem Reads.slice {P:Program} {w:World} {t e:TypeId} {v:Value} (h:Reads P w t v) (ht:P.underlying t=some (.slice e)) (f:Nat) {ks:List CK} (hk:flatK P f e=some ks) (hs:ks.length=P.cellsOf e) :
  v = .slice none 0 0 \/ ∃ x len cap,v = .slice (some x) len cap/\len<=cap/\cap<=maxLen /\ ∀ i,i<len -> ∃ cs,cs.length=ks.length/\(∀ j,j<ks.length->w.cell? ((x.add (i * ks.length)).add j)=cs[j]?)/\aU ks cs:=by
 obtain ⟨⟨base,hv⟩,H,enc,d,p,fuel,hd⟩:=h
 obtain ⟨a0,len,cap,rfl⟩:=okWide_slice ht hv
 rcases DataW.trod_slice ht hd with ⟨hcs,_⟩ | ⟨x,len',cap',elems,rest,n,_,hcs,_,_,hl,hm,hel,hc,_⟩
 ·simp[Value.cells] at hcs
  obtain ⟨rfl,rfl,rfl⟩:=hcs
  exact .inl rfl
 simp[Value.cells] at hcs
 obtain ⟨rfl,rfl,rfl⟩:=hcs
 refine .inr ⟨x,len,cap,rfl,hl,hm,fun i hi => ?_⟩
 have h1:=hc i hi
 rw[List.getElem?_eq_getElem (by omega)] at h1
 simp only[Option.bind_eq_some_iff] at h1
 obtain ⟨cs,h2,h3⟩:=h1
 obtain ⟨h4,h5⟩:=aCW h2
 rw[<-hs] at h4 h5 h2
 refine ⟨cs,h4,fun j hj => ?_,zJ f e ks hk _ _ _ h3⟩
 exact h5 j (by omega)

end Go.Proofs.YtcedmfnlkelhkaaGreatDoor

/- Keys, names and tags as lists of bytes: what the functions of layers 4, 5 and 6 compute, in plain Lean. -/
import Derived.Test.YtcedmfnlkelhkaaGreatDoorJaa
import Derived.Lib.Split
import Derived.Lib.Join
import Derived.Lib.TrimByte
import Derived.Lib.ItoaNum
import Derived.Lib.Hide
import Derived.DeepKeys
import Derived.Lib.SmallJoins
import Derived.Maps.AppendAt
import Derived.OwnWalk
import Derived.Laws.CopyOwn
namespace Go.Proofs.YtcedmfnlkelhkaaGreatDoor
set_option maxHeartbeats 40000000

/-! bytes -/
def yI (c:UInt8):Bool:=decide (97<=c.toNat) && decide (c.toNat<=122)
def aGU (c:UInt8):Bool:=decide (65<=c.toNat) && decide (c.toNat<=90)
def lK (c:UInt8):Bool:=yI c || aGU c
def rZ (c:UInt8):Bool:=decide (48<=c.toNat) && decide (c.toNat<=57)
def xU (c:UInt8):Bool:=yI c || rZ c || c == 45 || c == 95 || c == 46
def dK (c:UInt8):UInt8:=if aGU c=true then c+32 else c
def eF (c:UInt8):UInt8:=if yI c=true then c - 32 else c
def zeros (n:Nat):List UInt8:=List.replicate n 0
def bG (n:Nat) (s:List UInt8):List UInt8:=s++zeros (n - s.length)

/-! layer 4: names -/
def fP (s:List UInt8):Bool:=decide (1<=s.length) && decide (s.length<=12) && yI (byt s 0) && s.all xU
def gI (s:List UInt8):List UInt8:=if fP s=true then bG 12 s else zeros 12
def jF (s:List UInt8):Int:=if fP s=true then 0 else 15
def dV (n:List UInt8):List UInt8:=n.takeWhile (· != 0)
def dJ (n:List UInt8):Bool:=fP (dV n) && bG 12 (dV n) == n
def kU (n:List UInt8):List UInt8:=if dJ n=true then dV n else []

/-! layer 5: tags: three bytes, four, three -/
def qU:List UInt8 := [114,111,111,116]
def lF (p:List UInt8):Bool:=decide (2<=p.length) && decide (p.length<=3) && p.all lK
def bM (p:List UInt8):Bool:=decide (p.length=4) && p.all lK
def bF (p:List UInt8):Bool:=(decide (p.length=2) && p.all lK) || (decide (p.length=3) && p.all rZ)
def title:List UInt8->List UInt8
 | [] => []
 | c :: r=>eF (dK c) :: r.map dK
def aBY:List (List UInt8)->List UInt8
 | []=>zeros 4
 | p :: _=>if bM p=true then title p else zeros 4
def iH:List (List UInt8)->List (List UInt8)
 | [] => []
 | p :: r=>if bM p=true then r else p :: r
def aAm:List (List UInt8)->List UInt8
 | []=>zeros 3
 | p :: _=>if bF p=true then bG 3 (p.map eF) else zeros 3
def iW:List (List UInt8)->List (List UInt8)
 | [] => []
 | p :: r=>if bF p=true then r else p :: r
def vC:List (List UInt8)->Option (List UInt8)
 | []=>none
 | p :: r=>if lF p=true/\iW (iH r) = [] then some (bG 3 (p.map dK)++aBY r++aAm (iH r)) else none
def splitOn (c:UInt8):List UInt8->List (List UInt8)
 | [] => [[]]
 | b :: l=>if b=c then [] :: splitOn c l else
  match splitOn c l with
  | p :: r=>(b :: p) :: r
  | [] => [[b]]
def lH (s:List UInt8):Option (List UInt8):=if s=qU then some (zeros 10) else vC (splitOn 45 s)
def fM (s:List UInt8):List UInt8:=(lH s).getD (zeros 10)
def iI (s:List UInt8):Int:=if (lH s).isSome=true then 0 else 14
def partT (b:List UInt8):List UInt8:=Lib.trimRightB b 0
def vY (t:List UInt8):List UInt8:=t.take 3
def kL (t:List UInt8):List UInt8:=(t.drop 3).take 4
def kK (t:List UInt8):List UInt8:=t.drop 7
def dashed (p:List UInt8):List UInt8:=if p = [] then [] else 45 :: p
def fF (t:List UInt8):List UInt8:=if t=zeros 10 then qU else partT (vY t)++dashed (partT (kL t))++dashed (partT (kK t))
def aZ (t:List UInt8):Bool:=lH (fF t) == some t
/-! layer 6: keys: kind, project, at, a name, a tag -/
def jK (kind:Int):Int:=if kind=2 then 16 else if kind=4\/kind=5\/kind=6 then 4 else 0
def fU (kind:Int):Bool:=decide (kind=5) || decide (kind=6)
def jG (kind:Int):Bool:=decide (kind=3) || decide (kind=6)
def gV (kind project at_:Int) (n t:List UInt8):Int :=
 if kind<1\/6<kind then 16
 else if project<0\/4<=project\/(0<jK kind/\(at_<0\/jK kind<=at_)) then 5
 else if fU kind=true/\dJ n=false then 15
 else if jG kind=true/\(aZ t=false\/t=zeros 10) then 14
 else 0
def byteOf (x:Int):UInt8:=UInt8.ofNat (x % 256).toNat
def oZ (kind project at_:Int) (n t:List UInt8):List UInt8 :=
 [byteOf kind,byteOf project,if 0<jK kind then byteOf at_ else 0]++(if fU kind=true then n else zeros 12)++(if jG kind=true then t else zeros 10)
def keyOf (kind project at_:Int) (n t:List UInt8):List UInt8:=if gV kind project at_ n t=0 then oZ kind project at_ n t else zeros 25
def aI5 (k:List UInt8):UInt8:=byt k 0
def aI6 (k:List UInt8):UInt8:=byt k 1
def kAt (k:List UInt8):UInt8:=byt k 2
def aFU (k:List UInt8):List UInt8:=(k.drop 3).take 12
def aNa (k:List UInt8):List UInt8:=k.drop 15
def kT (k:List UInt8):Bool :=
 decide (gV (aI5 k).toNat (aI6 k).toNat (kAt k).toNat (aFU k) (aNa k)=0) && keyOf (aI5 k).toNat (aI6 k).toNat (kAt k).toNat (aFU k) (aNa k) == k
def oL:List UInt8->List UInt8->Bool
 | [], []=>false
 | [],_ :: _=>true
 | _ :: _, []=>false
 | a :: x,b :: y=>if a=b then oL x y else decide (a<b)
end Go.Proofs.YtcedmfnlkelhkaaGreatDoor
namespace Go.Proofs.YtcedmfnlkelhkaaGreatDoor
set_option maxHeartbeats 40000000
open Go.RowKit

def aJ (l:List UInt8):Array Value:=(l.map fun b=>Value.int .u8 (b.toNat:Int)).toArray
@[go_sem,simp] theorem oN (l:List UInt8):(aJ l).size=l.length:=by simp[aJ]
@[go_sem] theorem kY (l:List UInt8) (a b:Nat):(aJ l).extract a b=aJ ((l.take b).drop a):=by
 apply Array.ext'
 simp[aJ,List.extract_eq_take_drop]
 rw[List.drop_take]
theorem lS (l:List UInt8) (i:Nat) (h:i<l.length):(aJ l)[i]? = some (.int .u8 ((byt l i).toNat:Int)):=by
 simp[aJ,h,bP h]
@[go_sem] theorem aMZ (l:List UInt8) (i:Nat) (h:i<l.length):(aJ l)[i]? = some (.int .u8 ((byt l i).toNat:Int)):=lS l i h
@[go_sem,simp] theorem aM0 (l:List UInt8) (i:Nat) (h:i<(aJ l).size):(aJ l)[i]'h = .int .u8 ((byt l i).toNat:Int):=by
 have h2:i<l.length:=by simpa using h
 have:=lS l i h2
 rw[Array.getElem?_eq_getElem h] at this
 exact Option.some.inj this
@[go_sem] theorem aEs (l:List UInt8) (i:Nat) (b:UInt8):(aJ l).setIfInBounds i (.int .u8 (b.toNat:Int))=aJ (l.set i b):=by
 apply Array.ext_getElem?
 intro k
 by_cases hk:i=k
 ·subst hk
  by_cases h:i<l.length
  ·rw[Array.getElem?_setIfInBounds_self_of_lt (by simpa using h)];simp[aJ,h]
  rw[Array.getElem?_eq_none (by simp;omega),Array.getElem?_eq_none (by simp;omega)]
 rw[Array.getElem?_setIfInBounds_ne hk];simp[aJ,hk]
theorem yN (l:List UInt8):(aJ l).all (·.oneCell')=true:=by
 rw[Array.all_eq_true_iff_forall_mem]
 intro v hv
 simp[aJ] at hv
 obtain ⟨b,_,rfl⟩:=hv
 rfl
@[go_sem] theorem aFi {P:Program} {w:World} {t:TypeId} {n o:Nat} {l:List UInt8} (ht:P.bJ t=some l.length) (hc:w.aN n o l.length=true) :
  (bH t ⟨n,o,none⟩ (.agg (aJ l))).run P w = .ok () (w.lay n o (aJ l)) :=
 nM (by rw[ht,oN]) (by rw[oN];exact hc) (yN l)
@[go_sem] theorem aMb (l:List UInt8) (n:Nat) (h:l.length<=n):l.take n=l:=List.take_of_length_le h
theorem aBw {a b:List UInt8}:aJ a=aJ b ↔ a=b:=by
 constructor
 ·intro h
  have:=congrArg Array.toList h
  simp only[aJ,List.toList_toArray] at this
  induction a generalizing b with
  | nil=>cases b with
   | nil=>rfl
   | cons y b=>simp at this
  | cons x a ih =>
   cases b with
   | nil=>simp at this
   | cons y b =>
    simp only[List.map_cons,List.cons.injEq,Value.int.injEq,true_and] at this
    have e:x=y:=by apply UInt8.toNat_inj.1;omega
    rw[e,ih (by simp[aJ,this.2]) this.2]
 intro h;rw[h]
@[go_sem] theorem aQq:(#[.int .u8 0,.int .u8 0,.int .u8 0,.int .u8 0,.int .u8 0,.int .u8 0,.int .u8 0,.int .u8 0,.int .u8 0,.int .u8 0,.int .u8 0,.int .u8 0]:Array Value)=aJ (zeros 12):=rfl
@[go_sem] theorem aQp:(#[.int .u8 0,.int .u8 0,.int .u8 0,.int .u8 0,.int .u8 0,.int .u8 0,.int .u8 0,.int .u8 0,.int .u8 0,.int .u8 0]:Array Value)=aJ (zeros 10):=rfl
@[go_sem] theorem aQr:(#[.int .u8 0,.int .u8 0,.int .u8 0,.int .u8 0,.int .u8 0,.int .u8 0,.int .u8 0,.int .u8 0,.int .u8 0,.int .u8 0,.int .u8 0,.int .u8 0,.int .u8 0,.int .u8 0,.int .u8 0,.int .u8 0,.int .u8 0,.int .u8 0,.int .u8 0,.int .u8 0,.int .u8 0,.int .u8 0,.int .u8 0,.int .u8 0,.int .u8 0]:Array Value)=aJ (zeros 25):=rfl
@[go_sem,simp] theorem aMw (n:Nat):(zeros n).length=n:=by simp[zeros]
theorem dM {n:Nat} {s:List UInt8} (h:s.length<=n):(bG n s).length=n:=by simp[bG];omega
theorem aAC {n k:Nat} {s:List UInt8} (hn:s.length<=n) (h:k<s.length):(bG n (s.take k)).set k (byt s k)=bG n (s.take (k+1)):=by
 have hl:(s.take k).length=k:=by simp;omega
 unfold bG
 rw[List.set_append_right _ _ (by omega),hl,Nat.sub_self]
 have e:zeros (n - k)=0 :: zeros (n - (k+1)):=by
  unfold zeros;rw[show n - k=n - (k+1)+1 by omega,List.replicate_succ]
 rw[e,List.set_cons_zero,List.take_succ_eq_append_getElem h,List.append_assoc]
 simp only[List.length_append,hl,List.length_cons,List.length_nil]
 rw[bP h]
 rfl
theorem oM (n:Nat):bG n []=zeros n:=by simp[bG]
theorem aBa (pre q post:List UInt8) (n k:Nat) (hn:q.length<=n) (hk:k<q.length) :
  (pre++bG n (q.take k)++post).set (pre.length+k) (byt q k)=pre++bG n (q.take (k+1))++post:=by
 have hl:(bG n (q.take k)).length=n:=dM (by simp;omega)
 rw[List.append_assoc,List.set_append_right _ _ (by omega),Nat.add_sub_cancel_left,List.set_append_left _ _ (by omega),aAC hn hk,List.append_assoc]
theorem yE (pre q:List UInt8) (n k:Nat) (hn:q.length<=n) (hk:k<q.length):(pre++bG n (q.take k)).set (pre.length+k) (byt q k)=pre++bG n (q.take (k+1)):=by
 have:=aBa pre q [] n k hn hk
 simpa using this
theorem aD9 (f:UInt8->UInt8) (l:List UInt8) (k:Nat) (h:k<l.length):byt (l.map f) k=f (byt l k):=by
 rw[<-bP (by simpa using h),<-bP h,List.getElem_map]
theorem pJ {α:Type} (p:α->Bool):∀ l:List α,(l.takeWhile p).length<=l.length
 | []=>Nat.le_refl _
 | x :: l=>by
  rw[List.takeWhile_cons]
  split
  ·have:=pJ p l
   simp only[List.length_cons];omega
  ·simp
theorem qK (vs:List Value) (o:Nat):∀ (c:Array Value) (k:Nat),o+k+vs.length<=c.size ->
  (vs.zipIdx k).foldl (fun cs (x:Value×Nat)=>cs.setIfInBounds (o+x.snd) x.fst) c=bT c (o+k) vs.toArray:=by
 induction vs with
 | nil =>
  intro c k h
  apply Array.ext_getElem?
  intro j
  rw[iZ (by simpa using h),if_neg (by simp)]
  rfl
 | cons v vs ih =>
  intro c k h
  simp only[List.length_cons] at h
  rw[List.zipIdx_cons,List.foldl_cons,ih _ (k+1) (by simp;omega)]
  apply Array.ext_getElem?
  intro j
  rw[iZ (by simp;omega),iZ (by simp;omega)]
  simp only[List.size_toArray,List.length_cons,List.getElem?_toArray]
  by_cases h1:o+k=j
  ·subst h1
   rw[if_neg (by omega),if_pos (by omega),Array.getElem?_setIfInBounds_self_of_lt (by omega),Nat.sub_self]
   rfl
  rw[Array.getElem?_setIfInBounds_ne h1]
  by_cases h2:o+(k+1)<=j/\j<o+(k+1)+vs.length
  ·rw[if_pos h2,if_pos (by omega),show j - (o+k)=(j - (o+(k+1)))+1 by omega,List.getElem?_cons_succ]
  rw[if_neg h2,if_neg (by omega)]
@[go_sem] theorem aLm (c:Array Value) (l:List UInt8) (o n:Nat) (hn:n=l.length) (h:o+l.length<=c.size) :
  Array.foldl (fun cs x=>cs.setIfInBounds (o+x.snd) x.fst) c (aJ l).zipIdx 0 n=bT c o (aJ l):=by
 subst hn
 have:=qK (aJ l).toList o c 0 (by simp[aJ];omega)
 rw[Array.toArray_toList,Nat.add_zero] at this
 rw[<-this]
 have e:l.length=(aJ l).zipIdx.size:=by simp
 rw[e,<-Array.foldl_toList]
 simp
@[go_sem] theorem aLl (c vs:Array Value) (n:Nat) (hn:n=vs.size) (h:vs.size=c.size):Array.foldl (fun cs x=>cs.setIfInBounds x.snd x.fst) c vs.zipIdx 0 n=vs:=by
 subst hn
 have:=qK vs.toList 0 c 0 (by simp;omega)
 simp only[Nat.zero_add,Array.toArray_toList,dN h] at this
 have e:vs.size=vs.zipIdx.size:=by simp
 rw[e,<-Array.foldl_toList]
 refine Eq.trans ?_ this
 simp
def fits (k:TypeDesc) (v:Value) (l:Lit):Prop :=
 match k,v,l with
 | .bool,.bool a,.bool b=>a=b
 | .int q,.int q' n,.int q2 m=>q'=q/\q2=q/\n=m/\(Lit.int q n).wf=true
 | .string,.string s,.string m=>m=s.data.toList/\s.size<=maxLen
 | _,_,_=>False
def wY (P:Program) (total:Nat):Nat->List Field->Bool
 | o, []=>o == total
 | o,f :: r=>f.offset == o && wY P total (o+P.cellsOf f.type) r
def vX (P:Program):Nat->TypeId->List TypeDesc->Bool
 | 0,_,_=>false
 | d+1,t,ks =>
  match P.underlying t with
  | some .bool=>(match ks with | [.bool]=>true | _=>false)
  | some (.int q)=>(match ks with | [.int q']=>q == q' | _=>false)
  | some .string=>(match ks with | [.string]=>true | _=>false)
  | some (.array n e)=>ks.length == P.cellsOf t && P.cellsOf t == n * P.cellsOf e && (List.range n).all fun i=>vX P d e ((ks.drop (i * P.cellsOf e)).take (P.cellsOf e))
  | some (.struct fs) => ks.length == P.cellsOf t && fs.all (·.name != "_") && wY P (P.cellsOf t) 0 fs.toList && fs.toList.all fun f => vX P d f.type ((ks.drop f.offset).take (P.cellsOf f.type))
  | _=>false
structure iT (ks:List TypeDesc) (cs:List Value) (ls:List Lit):Prop where
 c:cs.length=ks.length
 l:ls.length=ks.length
 at_:∀ (i:Nat) (k:TypeDesc) (v:Value) (m:Lit),ks[i]? = some k->cs[i]? = some v->ls[i]? = some m->fits k v m
theorem iT.part {ks:List TypeDesc} {cs:List Value} {ls:List Lit} (h:iT ks cs ls) (o n:Nat):iT ((ks.drop o).take n) ((cs.drop o).take n) ((ls.drop o).take n):=by
 refine ⟨by simp[h.c],by simp[h.l],fun i k v m h1 h2 h3 => ?_⟩
 rw[List.getElem?_take] at h1 h2 h3
 split at h1
 ·rename_i hi
  rw[if_pos hi,List.getElem?_drop] at h2 h3
  rw[List.getElem?_drop] at h1
  exact h.at_ _ _ _ _ h1 h2 h3
 cases h1
theorem chunks {α:Type} (m:Nat):∀ (n:Nat) (ls:List α),ls.length=n * m->((List.range n).map fun i=>(ls.drop (i * m)).take m).flatten=ls
 | 0,ls,h=>by simp at h;simp[h]
 | n+1,ls,h=>by
  rw[List.range_succ,List.map_append,List.flatten_append]
  have h1:n * m<=ls.length:=by rw[h,Nat.succ_mul];omega
  have ih:=chunks m n (ls.take (n * m)) (by simp;omega)
  have e:(List.range n).map (fun i=>(ls.drop (i * m)).take m)=(List.range n).map (fun i=>((ls.take (n * m)).drop (i * m)).take m):=by
   apply List.map_congr_left
   intro i hi
   rw[List.mem_range] at hi
   have:i * m+m<=n * m:=by rw[<-Nat.succ_mul];exact Nat.mul_le_mul_right _ hi
   rw[List.drop_take,List.take_take]
   congr 1
   omega
  rw[e,ih]
  simp only[List.map_cons,List.map_nil,List.flatten_cons,List.flatten_nil,List.append_nil]
  rw[List.take_of_length_le (i:=m) (by simp;rw[h,Nat.succ_mul];omega),List.take_append_drop]
theorem zF {α:Type} (P:Program) (ls:List α):∀ (fs:List Field) (o:Nat),wY P ls.length o fs=true->o<=ls.length->(fs.map fun f=>(ls.drop f.offset).take (P.cellsOf f.type)).flatten=ls.drop o
 | [],o,h,_=>by simp[wY] at h;subst h;simp
 | f :: r,o,h,ho=>by
  simp only[wY,Bool.and_eq_true,beq_iff_eq] at h
  obtain ⟨h1,h2⟩:=h
  rw[List.map_cons,List.flatten_cons,h1]
  by_cases hl:o+P.cellsOf f.type<=ls.length
  ·rw[zF P ls r _ h2 hl,<-List.drop_drop,List.take_append_drop]
  ·exfalso
   have:∀ (r:List Field) (o:Nat),ls.length<o->wY P ls.length o r=false:=by
    intro r
    induction r with
    | nil=>intro o ho;simp[wY];omega
    | cons g r ih=>intro o ho;simp only[wY,Bool.and_eq_false_iff];right;exact ih _ (by omega)
   rw[this r _ (by omega)] at h2
   cases h2
theorem mapM_some {α β:Type} (f:α->Option β) (g:α->β):∀ l:List α,(∀ x∈l,f x=some (g x))->l.mapM f=some (l.map g)
 | [],_=>rfl
 | x :: l,h=>by
  rw[List.mapM_cons,h x (by simp),mapM_some f g l fun y hy=>h y (by simp[hy])]
  rfl
theorem kW {P:Program}:∀ (d:Nat) (t:TypeId) (ks:List TypeDesc),vX P d t ks=true -> ∀ (cs:List Value) (ls:List Lit),iT ks cs ls->P.keyLits d t cs=some ls
 | 0,_,_,h,_,_,_=>by cases h
 | d+1,t,ks,h,cs,ls,hf=>by
  have hc:=hf.c
  have hl:=hf.l
  unfold vX at h
  unfold Program.keyLits
  split at h
  ·rename_i hu
   rw[hu]
   split at h
   ·match cs,ls,hc,hl with
    | [v], [m],_,_ =>
     have:=hf.at_ 0 _ v m rfl rfl rfl
     cases v <;> cases m <;> simp_all [fits]
   ·cases h
  ·rename_i q hu
   rw[hu]
   split at h
   ·rename_i q'
    match cs,ls,hc,hl with
    | [v], [m],_,_ =>
     have hfit:=hf.at_ 0 _ v m rfl rfl rfl
     have hq:q=q':=by simpa using h
     subst hq
     cases v <;> cases m <;> first
      | (simp[fits] at hfit;done)
      | (simp only[fits] at hfit
         obtain ⟨rfl,rfl,rfl,hw⟩:=hfit
         simp[hw])
   ·cases h
  ·rename_i hu
   rw[hu]
   split at h
   ·match cs,ls,hc,hl with
    | [v], [m],_,_ =>
     have:=hf.at_ 0 _ v m rfl rfl rfl
     cases v <;> cases m <;> simp_all [fits]
   ·cases h
  ·rename_i n e hu
   rw[hu]
   simp only[Bool.and_eq_true,beq_iff_eq] at h
   obtain ⟨⟨h1,h2⟩,h3⟩:=h
   simp only[]
   rw[if_pos (by omega),mapM_some _ (fun i=>(ls.drop (i * P.cellsOf e)).take (P.cellsOf e))]
   ·simp only[Option.map_some]
    rw[chunks _ n ls (by omega)]
   ·intro i hi
    exact kW d e _ (List.all_eq_true.1 h3 i hi) _ _ (hf.part _ _)
  ·rename_i fs hu
   rw[hu]
   simp only[Bool.and_eq_true,beq_iff_eq] at h
   obtain ⟨⟨⟨h1,h2⟩,h3⟩,h4⟩:=h
   simp only[]
   rw[if_pos ⟨by omega,h2⟩,mapM_some _ (fun f=>(ls.drop f.offset).take (P.cellsOf f.type))]
   ·simp only[Option.map_some]
    have:=zF P ls fs.toList 0 (by rw[hl,h1];exact h3) (Nat.zero_le _)
    rw[this]
    rfl
   ·intro f hf2
    exact kW d f.type _ (List.all_eq_true.1 h4 f hf2) _ _ (hf.part _ _)
  ·cases h

structure fQ (P:Program) (t:TypeId) (ks:List TypeDesc):Prop where
 kinds:vX P 6 t ks=true
 key:P.keyTypeAt 6 t=true
 size:P.bJ t=some ks.length
theorem nN {P:Program} {t:TypeId} {n:Nat} {cs:Array Value} (h:P.bJ t=some n) (hc:cs.size=n):(Value.agg cs).formed P t=true:=by
 unfold Program.bJ at h
 unfold Value.formed Program.cellsOf
 split at h
 ·rename_i fs hu
  simp only[Option.map_eq_some_iff] at h
  obtain ⟨i,hi,rfl⟩:=h
  simp[hu,hi,hc]
 ·rename_i m e hu
  simp only[Option.map_eq_some_iff] at h
  obtain ⟨i,hi,rfl⟩:=h
  simp[hu,hi,hc]
 cases h
theorem aBb {P:Program} {t:TypeId} {ks:List TypeDesc} (ht:fQ P t ks) (w:World) {a b:Array Value} {la lb:List Lit} (ha:iT ks a.toList la) (hb:iT ks b.toList lb) :
  ∃ r:Bool,(Op.equalIn 10000 t (.agg a) (.agg b)).run P w = .ok r w/\(r=true ↔ la=lb) :=
 run_equalIn_deep 9994 6 t ht.key w 6 6 (.agg a) (.agg b) la lb (nN ht.size (by simpa using ha.c)) (nN ht.size (by simpa using hb.c)) (kW 6 t ks ht.kinds _ _ ha) (kW 6 t ks ht.kinds _ _ hb)

/-! rows of bytes -/
def fA (n:Nat):List TypeDesc:=List.replicate n (.int .u8)
def kR (l:List UInt8):List Lit:=l.map fun b => .int .u8 (b.toNat:Int)
theorem nD {a b:List UInt8} (h:kR a=kR b):a=b:=by
 apply aBw.1
 unfold aJ
 congr 1
 have:=congrArg (List.map fun l:Lit=>match l with | .int k n=>Value.int k n | _ => .nilIface) h
 simp only[kR,List.map_map] at this
 exact this
theorem rU (l:List UInt8):iT (fA l.length) (aJ l).toList (kR l):=by
 refine ⟨by simp[aJ,fA],by simp[kR,fA],fun i k v m h1 h2 h3 => ?_⟩
 simp only[fA,List.getElem?_replicate] at h1
 split at h1
 ·rename_i hi
  simp only[Option.some.injEq] at h1
  subst h1
  simp only[aJ,List.getElem?_map,List.getElem?_eq_getElem hi,Option.map_some,Option.some.injEq,kR] at h2 h3
  subst h2 h3
  refine ⟨rfl,rfl,rfl,?_⟩
  have:=l[i].toNat_lt
  have e1:IntKind.u8.min=0:=rfl
  have e2:IntKind.u8.max=255:=rfl
  simp only[Lit.wf,e1,e2,Bool.and_eq_true,decide_eq_true_eq]
  omega
 cases h1
theorem wM {P:Program} {t:TypeId} {a b:List UInt8} (ht:fQ P t (fA a.length)) (hl:b.length=a.length) (w:World) :
  (Op.equalIn 10000 t (.agg (aJ a)) (.agg (aJ b))).run P w = .ok (a == b) w:=by
 have hb:=rU b
 rw[hl] at hb
 obtain ⟨r,h1,h2⟩:=aBb ht w (rU a) hb
 rw[h1]
 congr 1
 rw[Bool.eq_iff_iff,h2,beq_iff_eq]
 exact ⟨nD,fun h=>by rw[h]⟩
@[go_sem] theorem rD:Tryz.prog.bJ 56=some 12:=by kernel_rfl
@[go_sem ↓ high] theorem ld_name (a:Addr):loadVar 56 a=eX 56 a:=rfl
@[go_sem ↓ high] theorem st_name (a:Addr) (v:Value):storeVar 56 a v=bH 56 a v:=rfl

theorem aGo:fQ Tryz.prog 56 (fA 12):=⟨by kernel_rfl,by kernel_rfl,rD⟩
@[go_sem ↓ high] theorem aOm (a b:List UInt8) (ha:a.length=12) (hb:b.length=12) (w:World) :
  (Op.equalIn 10000 56 (.agg (aJ a)) (.agg (aJ b))).run Tryz.prog w = .ok (a == b) w :=
 wM (by rw[ha];exact aGo) (by rw[ha,hb]) w
@[go_sem] theorem lC:Tryz.prog.bJ 60=some 10:=by kernel_rfl
@[go_sem ↓ high] theorem aQM (a:Addr):loadVar 60 a=eX 60 a:=rfl
@[go_sem ↓ high] theorem aQd (a:Addr) (v:Value):storeVar 60 a v=bH 60 a v:=rfl
theorem aI2:fQ Tryz.prog 60 (fA 10):=⟨by kernel_rfl,by kernel_rfl,lC⟩
@[go_sem ↓ high] theorem aQE (a b:List UInt8) (ha:a.length=10) (hb:b.length=10) (w:World) :
  (Op.equalIn 10000 60 (.agg (aJ a)) (.agg (aJ b))).run Tryz.prog w = .ok (a == b) w :=
 wM (by rw[ha];exact aI2) (by rw[ha,hb]) w

@[go_sem] theorem aJg:Tryz.prog.bJ 71=some 10:=by kernel_rfl
@[go_sem ↓ high] theorem aQH (a:Addr):loadVar 71 a=eX 71 a:=rfl
@[go_sem ↓ high] theorem aQ8 (a:Addr) (v:Value):storeVar 71 a v=bH 71 a v:=rfl
@[go_sem] theorem aGY:Tryz.prog.bJ 260=some 25:=by kernel_rfl
@[go_sem ↓ high] theorem aQJ (a:Addr):loadVar 260 a=eX 260 a:=rfl
@[go_sem ↓ high] theorem aQa (a:Addr) (v:Value):storeVar 260 a v=bH 260 a v:=rfl
@[go_sem] theorem nO:Tryz.prog.bJ 132=some 25:=by kernel_rfl
@[go_sem ↓ high] theorem aQK (a:Addr):loadVar 132 a=eX 132 a:=rfl
@[go_sem ↓ high] theorem aQb (a:Addr) (v:Value):storeVar 132 a v=bH 132 a v:=rfl
theorem aE7:fQ Tryz.prog 132 (fA 25):=⟨by kernel_rfl,by kernel_rfl,nO⟩
@[go_sem ↓ high] theorem aQC (a b:List UInt8) (ha:a.length=25) (hb:b.length=25) (w:World) :
  (Op.equalIn 10000 132 (.agg (aJ a)) (.agg (aJ b))).run Tryz.prog w = .ok (a == b) w :=
 wM (by rw[ha];exact aE7) (by rw[ha,hb]) w
section
variable {w:World} {base size n:Nat} {e:TypeId} {v:Value} {xs:List Value}
theorem aIo {w':World} (h:w.ownsRow base e size v n xs) (hk:∀ g,base<=g->g<w.heap.size->v.ownBlock=some g->w'.heap[g]? = w.heap[g]?):w'.ownsRow base e size v n xs:=by
 obtain ⟨h1,h2⟩:=h
 refine ⟨h1,?_⟩
 rcases h2 with h2 | ⟨g,cap,cur,hv,hg,hh,r⟩
 ·exact .inl h2
 have hlt:g<w.heap.size:=by
  rcases Nat.lt_or_ge g w.heap.size with h | h
  ·exact h
  rw[Array.getElem?_eq_none h] at hh;cases hh
 exact .inr ⟨g,cap,cur,hv,hg,by rw[hk g hg hlt (by rw[hv];rfl)];exact hh,r⟩
end

def Rd (w:World) (B:Nat) (v:Value) (n:Nat) (xs:List Value):Prop :=
 ∃ a cap,v = .slice a n cap/\n<=cap/\cap<=maxLen/\(0<n -> ∃ b o,a=some ⟨b,o,none⟩/\b<B /\ ∀ j u,xs[j]? = some u->w.cell? ⟨b,o+j,none⟩=some u)
theorem Rd.keep {w w':World} {B n:Nat} {v:Value} {xs:List Value} (h:Rd w B v n xs) (hb:Below B w w'):Rd w' B v n xs:=by
 obtain ⟨a,cap,h1,h2,h3,h4⟩:=h
 refine ⟨a,cap,h1,h2,h3,fun hn => ?_⟩
 obtain ⟨b,o,e,hlt,hc⟩:=h4 hn
 exact ⟨b,o,e,hlt,fun j u hu=>by rw[hb.cell (p:=⟨b,o+j,none⟩) hlt];exact hc j u hu⟩
theorem Rd.more {w:World} {B B' n:Nat} {v:Value} {xs:List Value} (h:Rd w B v n xs) (hB:B<=B'):Rd w B' v n xs:=by
 obtain ⟨a,cap,h1,h2,h3,h4⟩:=h
 refine ⟨a,cap,h1,h2,h3,fun hn => ?_⟩
 obtain ⟨b,o,e,hlt,hc⟩:=h4 hn
 exact ⟨b,o,e,by omega,hc⟩
theorem Rd.aJ2 {w:World} {base n:Nat} {e:TypeId} {size:Nat} {v:Value} {xs:List Value} (h:w.ownsRow base e size v n xs):Rd w w.heap.size v n xs:=by
 obtain ⟨h1,h2⟩:=h
 rcases h2 with ⟨rfl,rfl⟩ | ⟨g,cap,cur,rfl,hg,hh,hn,hm,hs,hx⟩
 ·exact ⟨none,0,rfl,Nat.le_refl _,Nat.zero_le _,fun h=>by omega⟩
 refine ⟨_,cap,rfl,hn,hm,fun _=>⟨g,0,rfl,?_,fun j u hu => ?_⟩⟩
 ·rcases Nat.lt_or_ge g w.heap.size with h | h
  ·exact h
  rw[Array.getElem?_eq_none h] at hh;cases hh
 rw[<-hx,List.getElem?_take] at hu
 split at hu
 ·simp only[World.cell?,hh]
  rw[if_neg (by simp),Nat.zero_add,<-Array.getElem?_toList];exact hu
 cases hu
def SlA (w:World) (B sz:Nat) (v:Value) (xs:List (Array Value)):Prop :=
 (∀ x∈xs,x.size=sz) /\ ∃ a cap,v = .slice a xs.length cap/\xs.length<=cap/\cap<=maxLen /\
  (0<xs.length -> ∃ b o,a=some ⟨b,o,none⟩/\b<B /\ ∀ i x,xs[i]? = some x->w.aW b (o+i * sz) sz=some x)
theorem aK {w w':World} {b:Nat} (h:w'.heap[b]? = w.heap[b]?) (o sz:Nat):w'.aW b o sz=w.aW b o sz:=by
 unfold World.aW;rw[h]
theorem iC {w:World} {b o n i m:Nat} {c:Array Value} (h:w.aW b o n=some c) (hi:i+m<=n):w.aW b (o+i) m=some (c.extract i (i+m)):=by
 unfold World.aW at h |-
 split at h
 ·rename_i cs t fr hc
  split at h
  ·rename_i hle
   obtain rfl:=Option.some.inj h
   rw[if_pos (by omega)]
   congr 1
   have hs:(cs.extract o (o+n)).size=n:=by simp;omega
   apply Array.ext_getElem?
   intro j
   by_cases hj:j<m
   ·rw[Array.getElem?_extract,Array.getElem?_extract,hs,if_pos (by omega),if_pos (by omega),Array.getElem?_extract,if_pos (by omega)]
    congr 1;omega
   rw[Array.getElem?_eq_none (by simp;omega),Array.getElem?_eq_none (by simp;omega)]
  cases h
 cases h
theorem SlA.keep {w w':World} {B sz:Nat} {v:Value} {xs:List (Array Value)} (h:SlA w B sz v xs) (hk:∀ b,b<B->w'.heap[b]? = w.heap[b]?):SlA w' B sz v xs:=by
 obtain ⟨h0,a,cap,h1,h2,h3,h4⟩:=h
 refine ⟨h0,a,cap,h1,h2,h3,fun hn => ?_⟩
 obtain ⟨b,o,e,hlt,hc⟩:=h4 hn
 exact ⟨b,o,e,hlt,fun i x hx=>by rw[aK (hk b hlt)];exact hc i x hx⟩
theorem SlA.below {w w':World} {B sz:Nat} {v:Value} {xs:List (Array Value)} (h:SlA w B sz v xs) (hb:Below B w w'):SlA w' B sz v xs:=h.keep hb.block
theorem SlA.more {w:World} {B B' sz:Nat} {v:Value} {xs:List (Array Value)} (h:SlA w B sz v xs) (hB:B<=B'):SlA w B' sz v xs:=by
 obtain ⟨h0,a,cap,h1,h2,h3,h4⟩:=h
 refine ⟨h0,a,cap,h1,h2,h3,fun hn => ?_⟩
 obtain ⟨b,o,e,hlt,hc⟩:=h4 hn
 exact ⟨b,o,e,by omega,hc⟩
theorem SlA.nil (w:World) (B sz:Nat):SlA w B sz (.slice none 0 0) [] :=
 ⟨fun x hx=>by simp at hx,none,0,rfl,Nat.le_refl _,Nat.zero_le _,fun h=>by simp at h⟩

def lD (xs:List (Array Value)):List Value:=(xs.map (·.toList)).flatten
theorem aC7 (xs ys:List (Array Value)):lD (xs++ys)=lD xs++lD ys:=by simp[lD]
theorem uM {sz:Nat}:∀ {xs:List (Array Value)},(∀ x∈xs,x.size=sz)->(lD xs).length=xs.length * sz
 | [],_=>by simp[lD]
 | x :: xs,h=>by
  have ih:=uM (fun y hy=>h y (List.mem_cons_of_mem x hy))
  unfold lD at ih |-
  rw[List.map_cons,List.flatten_cons,List.length_append,ih,List.length_cons,Array.length_toList,h x (by simp),Nat.succ_mul,Nat.add_comm]
theorem zI {sz:Nat}:∀ {xs:List (Array Value)},(∀ x∈xs,x.size=sz) -> ∀ (i:Nat) (x:Array Value),xs[i]? = some x -> ∀ j,j<sz->(lD xs)[i * sz+j]? = x[j]?
 | [],_,i,x,h,_,_=>by simp at h
 | y :: xs,h,0,x,hx,j,hj=>by
  simp at hx;subst hx
  have hs:=h y (by simp)
  unfold lD
  rw[List.map_cons,List.flatten_cons,Nat.zero_mul,Nat.zero_add,List.getElem?_append_left (by simp[hs,hj])]
  simp
 | y :: xs,h,i+1,x,hx,j,hj=>by
  have hs:=h y (by simp)
  have ih:=zI (fun z hz=>h z (List.mem_cons_of_mem y hz)) i x (by simpa using hx) j hj
  unfold lD at ih |-
  rw[List.map_cons,List.flatten_cons,List.getElem?_append_right (by simp[hs,Nat.succ_mul];omega),<-ih]
  congr 1
  simp[hs,Nat.succ_mul];omega
theorem SlA.aJ2 {w:World} {base sz:Nat} {e:TypeId} {v:Value} {xs:List (Array Value)} (hs:∀ x∈xs,x.size=sz) (h:w.ownsRow base e sz v xs.length (lD xs)):SlA w w.heap.size sz v xs:=by
 obtain ⟨h1,h2⟩:=h
 refine ⟨hs,?_⟩
 rcases h2 with ⟨rfl,hn⟩ | ⟨g,cap,cur,rfl,hg,hh,hn,hm,hsz,hx⟩
 ·refine ⟨none,0,by rw[hn],by omega,Nat.zero_le _,fun h=>by omega⟩
 have hlt:g<w.heap.size:=by
  rcases Nat.lt_or_ge g w.heap.size with h | h
  ·exact h
  rw[Array.getElem?_eq_none h] at hh;cases hh
 refine ⟨_,cap,rfl,hn,hm,fun _=>⟨g,0,rfl,hlt,fun i x hi => ?_⟩⟩
 have hil:i<xs.length:=(List.getElem?_eq_some_iff.1 hi).1
 have hfl:=uM hs
 have hle:i * sz+sz<=xs.length * sz:=by rw[<-Nat.succ_mul];exact Nat.mul_le_mul_right _ hil
 have hcl:(lD xs).length<=cur.size:=by rw[<-hx,List.length_take];simp;omega
 unfold World.aW
 simp only[hh,Nat.zero_add]
 rw[if_pos (by omega)]
 congr 1
 apply Array.ext_getElem?
 intro j
 have hxs:x.size=sz:=hs x (List.mem_of_getElem? hi)
 by_cases hj:j<sz
 ·rw[Array.getElem?_extract,if_pos (by omega),<-zI hs i x hi j hj,<-hx,List.getElem?_take,if_pos (by omega),Array.getElem?_toList]
 rw[Array.getElem?_eq_none (by rw[Array.size_extract];omega),Array.getElem?_eq_none (by omega)]

def kE (P:Program) (t e:TypeId) (sz bytes:Nat):Prop :=
 P.underlying t=some (.slice e)/\(P.info? e).map (fun i=>(i.size,i.bytes,i.zero.map (·.cells.size)))=some (sz,bytes,some sz)/\0<sz/\bytes<=1000000
def gU (w:World) (B sz:Nat) (e:TypeId) (v:Value) (xs:List (Array Value)):Prop:=(∀ x∈xs,x.size=sz)/\w.ownsRow B e sz v xs.length (lD xs)
theorem gU.nil (w:World) (B sz:Nat) (e:TypeId):gU w B sz e (.slice none 0 0) []:=⟨fun x hx=>by simp at hx,World.ownsRow_nil _ _ _ _⟩
theorem gU.keep {w w':World} {B sz:Nat} {e:TypeId} {v:Value} {xs:List (Array Value)} (h:gU w B sz e v xs) (hk:∀ g,v.ownBlock=some g->g<w.heap.size->w'.heap[g]? = w.heap[g]?):gU w' B sz e v xs :=
 ⟨h.1,aIo h.2 fun g _ hlt hv=>hk g hv hlt⟩
theorem gU.grow {w:World} {B sz:Nat} {e:TypeId} {v:Value} {xs:List (Array Value)} (h:gU w B sz e v xs) (ys:Array Obj) (d:Nat):gU (w.grow ys d) B sz e v xs:=h.keep fun _ _ hlt=>World.bQ _ _ _ hlt
theorem gU.alloc {w:World} {B sz:Nat} {e:TypeId} {v:Value} {xs:List (Array Value)} (h:gU w B sz e v xs) (o:Obj):gU (w.alloc o) B sz e v xs:=h.keep fun _ _ hlt=>uN (w:=w) o hlt
theorem gU.drew {w:World} {B sz:Nat} {e:TypeId} {v:Value} {xs:List (Array Value)} (h:gU w B sz e v xs):gU w.drew B sz e v xs:=h
theorem gU.drewN {w:World} {B sz:Nat} {e:TypeId} {v:Value} {xs:List (Array Value)} (h:gU w B sz e v xs) (n:Nat):gU (w.drewN n) B sz e v xs:=h
theorem gU.below {w w':World} {B sz:Nat} {e:TypeId} {v:Value} {xs:List (Array Value)} (h:gU w B sz e v xs) (hb:Below w.heap.size w w'):gU w' B sz e v xs:=h.keep fun g _ hlt=>hb.block g hlt
theorem gU.lt {w:World} {B sz:Nat} {e:TypeId} {v:Value} {xs:List (Array Value)} (h:gU w B sz e v xs):∀ g,v.ownBlock=some g->B<=g/\g<w.heap.size:=by
 obtain ⟨_,_,h2⟩:=h
 intro g hg
 rcases h2 with ⟨rfl,_⟩ | ⟨g',cap,cur,rfl,hb,hh,_⟩
 ·cases hg
 simp only[Value.ownBlock,Option.some.injEq] at hg
 subst hg
 exact ⟨hb,(Array.getElem?_eq_some_iff.1 hh).1⟩
theorem gU.sl {w:World} {B sz:Nat} {e:TypeId} {v:Value} {xs:List (Array Value)} (h:gU w B sz e v xs):SlA w w.heap.size sz v xs:=SlA.aJ2 h.1 h.2
theorem gU.form {w:World} {B sz:Nat} {e:TypeId} {v:Value} {xs:List (Array Value)} (h:gU w B sz e v xs):∃ a cap,v = .slice a xs.length cap/\cap<=maxLen/\xs.length<=cap:=by
 obtain ⟨_,a,cap,h1,h2,h3,_⟩:=h.sl
 exact ⟨a,cap,h1,h3,h2⟩

section
variable {P:Program} {w:World} {B sz bytes:Nat} {t e ty:TypeId} {v:Value} {xs:List (Array Value)}
theorem vN (R:kE P t e sz bytes) (h:gU w B sz e v xs) {B2:Nat} {y:Value} {ys:List (Array Value)} (hy:SlA w B2 sz y ys) (h1:∀ x∈ys,bZ x=true) (hn:xs.length+ys.length<=100000) (hB:B<=w.heap.size) :
  ∃ v' w',(Builtin.append_ #[t,t] ty #[v,y]).run P w = .ok v' w'/\gU w' B sz e v' (xs++ys)/\w.grownBy w' v.ownBlock/\(v'.ownBlock=v.ownBlock\/v'.ownBlock=some w.heap.size):=by
 obtain ⟨ht,hi,hsz,hby⟩:=R
 cases hq:P.info? e with
 | none=>simp[hq] at hi
 | some i =>
  simp only[hq,Option.map_some,Option.some.injEq,Prod.mk.injEq,Option.map_eq_some_iff] at hi
  obtain ⟨hi1,hi2,z,hz,hz2⟩:=hi
  obtain ⟨hys,a,cap,rfl,hc1,hc2,hc3⟩:=hy
  have hsize:∀ x∈xs++ys,x.size=sz:=by
   intro x hx
   rcases List.mem_append.1 hx with hx | hx
   ·exact h.1 x hx
   exact hys x hx
  have hbytes:(xs.length+ys.length) * bytes<=140737488355328:=Nat.le_trans (Nat.mul_le_mul hn hby) (by decide)
  have hml:xs.length+ys.length<=maxLen:=by unfold maxLen;omega
  have fin:∀ (ad:Addr),(∀ j u,(lD ys)[j]? = some u->w.cell? (ad.add j)=some u)->(cap':Nat) -> ∃ v' w',(Builtin.append_ #[t,t] ty #[v,.slice (some ad) ys.length cap']).run P w = .ok v' w'/\gU w' B sz e v' (xs++ys)/\w.grownBy w' v.ownBlock/\(v'.ownBlock=v.ownBlock\/v'.ownBlock=some w.heap.size):=by
   intro ad hcell cap'
   obtain ⟨v',w',hr,h2,h3,_,h5⟩:=run_append_own_at (P:=P) w B t ty e i z sz bytes ht hq hz hi1 hi2 hz2 hsz v xs.length (lD xs) h.2 ad ys.length cap' (lD ys) (uM hys) hcell (fun u hu=>by
    unfold lD at hu
    rw[List.mem_flatten] at hu
    obtain ⟨l,hl,hul⟩:=hu
    obtain ⟨x,hx,rfl⟩:=List.mem_map.1 hl
    have:=h1 x hx
    unfold bZ at this
    exact (Array.all_eq_true_iff_forall_mem.1 this) u (by simpa using hul)) hml hbytes hB
   exact ⟨v',w',hr,⟨hsize,by rw[List.length_append,aC7];exact h2⟩,h3,h5⟩
  rcases Nat.eq_zero_or_pos ys.length with h0 | h0
  ·have hnil:ys = []:=List.eq_nil_of_length_eq_zero h0
   subst hnil
   cases a with
   | none =>
    refine ⟨v,w,?_,by simpa using h,World.grownBy.refl w _,.inl rfl⟩
    rcases h.2.2 with ⟨rfl,hn0⟩ | ⟨g,cap',cur,rfl,_,_,hnc,_⟩
    ·simp[Builtin.append_,run_underlying ht,sizeOf,typeInfo,hq,Builtin.lenOf,Builtin.firstCells]
    simp[Builtin.append_,run_underlying ht,sizeOf,typeInfo,hq,Builtin.lenOf,Builtin.firstCells,hnc,storeCells]
   | some ad=>exact fin ad (fun j u hu=>by simp[lD] at hu) cap
  obtain ⟨b,o,rfl,hlt,hcut⟩:=hc3 h0
  refine fin ⟨b,o,none⟩ (fun j u hu => ?_) cap
  rw[addr_add]
  have hjl:j<ys.length * sz:=by rw[<-uM hys];exact (List.getElem?_eq_some_iff.1 hu).1
  have hq1:j / sz<ys.length:=Nat.div_lt_of_lt_mul (by rw[Nat.mul_comm];exact hjl)
  have hx:=List.getElem?_eq_getElem hq1
  have hr:=Nat.mod_lt j hsz
  have hdm:j / sz * sz+j % sz=j:=by rw[Nat.mul_comm];exact Nat.div_add_mod j sz
  have h2:=zI hys _ _ hx _ hr
  rw[hdm,hu] at h2
  have:=(dF (hcut _ _ hx)).2 _ hr
  rw[Nat.add_assoc,hdm,<-h2] at this
  exact this
theorem iE {ops:Array Oper} {rest:List Oper} {o:Oper} {a:Act} {Q:Exit->Act->World->Prop} (R:kE P t e sz bytes) (hgd:o.guard=none) (s x:Operand)
  (ho:o.op = .call { callee := .builtin .append,args := #[s,x],argTypes := #[t,t] }) (hs:a.eval s=v) (h:gU w B sz e v xs) {y:Value} {ys:List (Array Value)} (hx:a.eval x=y) (hy:∃ B2,SlA w B2 sz y ys)
  (h1:∀ x∈ys,bZ x=true) (hn:xs.length+ys.length<=100000) (hB:B<=w.heap.size)
  (hK:∀ v' w',gU w' B sz e v' (xs++ys)->w.grownBy w' v.ownBlock->(v'.ownBlock=v.ownBlock\/v'.ownBlock=some w.heap.size)->wpList P ops Q rest (a.put o.dst v') w'):wpList P ops Q (o :: rest) a w:=by
 refine wpList_plain hgd fun K' hK' => ?_
 obtain ⟨B2,hy⟩:=hy
 obtain ⟨v',w',hr,h2,h3,h4⟩:=vN (ty:=o.type) R h hy h1 hn hB
 unfold Oper.wp execOp
 simp only[ho,resolve,invoke,builtin,Sem.run_bind,Sem.run_pure,Result.andThen_ok,List.map_toArray,List.map_cons,List.map_nil,hs,hx,hr]
 exact hK' _ _ (hK v' w' h2 h3 h4)
end
theorem pW {w:World} {b o c sz:Nat} {y:Array Value} (hc:1<=c) (hm:c<=maxLen) (h:w.aW b o sz=some y):SlA w (b+1) sz (.slice (some ⟨b,o,none⟩) 1 c) [y]:=by
 refine ⟨fun x hx => ?_,_,c,rfl,hc,hm,fun _=>⟨b,o,rfl,by omega,fun i x hx => ?_⟩⟩
 ·simp at hx;subst hx;exact (dF h).1
 match i,hx with
 | 0,hx=>simp at hx;subst hx;simpa using h

theorem step_append {P:Program} {w:World} {B sz bytes:Nat} {t e:TypeId} {v:Value} {xs:List (Array Value)} {ops:Array Oper} {o:Oper} {a:Act} {K:Act->World->Prop} {Q:Exit->Act->World->Prop} {E:Prop} (R:kE P t e sz bytes) (hgd:o.guard=none) (s x:Operand)
  (ho:o.op = .call { callee := .builtin .append,args := #[s,x],argTypes := #[t,t] }) (hs:a.eval s=v) (h:gU w B sz e v xs) {y:Value} {ys:List (Array Value)} (hx:a.eval x=y) (hy:∃ B2,SlA w B2 sz y ys)
  (h1:∀ x∈ys,bZ x=true) (hn:xs.length+ys.length<=100000) (hB:B<=w.heap.size)
  (hK:∀ v' w',gU w' B sz e v' (xs++ys)->w.grownBy w' v.ownBlock->(v'.ownBlock=v.ownBlock\/v'.ownBlock=some w.heap.size)->K (a.put o.dst v') w') :
  if Region.wanted o (yielded ops a.tmps)=true then Oper.wp P o a w K Q else E:=by
 rw[if_pos (by simp[Region.wanted,hgd])]
 obtain ⟨B2,hy⟩:=hy
 obtain ⟨v',w',hr,h2,h3,h4⟩:=vN (ty:=o.type) R h hy h1 hn hB
 unfold Oper.wp execOp
 simp only[ho,resolve,invoke,builtin,Sem.run_bind,Sem.run_pure,Result.andThen_ok,List.map_toArray,List.map_cons,List.map_nil,hs,hx,hr]
 exact hK v' w' h2 h3 h4
theorem SlA.form {w:World} {B sz:Nat} {v:Value} {xs:List (Array Value)} (h:SlA w B sz v xs):∃ a cap,v = .slice a xs.length cap/\xs.length<=cap/\cap<=maxLen:=by
 obtain ⟨_,a,cap,h1,h2,h3,_⟩:=h
 exact ⟨a,cap,h1,h2,h3⟩
theorem SlA.take {w:World} {B sz cap n:Nat} {a:Option Addr} {xs:List (Array Value)} (h:SlA w B sz (.slice a xs.length cap) xs) (hn:n<=xs.length):SlA w B sz (.slice a n cap) (xs.take n):=by
 obtain ⟨h0,a',cap',h1,h2,h3,h4⟩:=h
 simp only[Value.slice.injEq,true_and] at h1
 obtain ⟨rfl,rfl⟩:=h1
 have hl:(xs.take n).length=n:=by simp;omega
 refine ⟨fun x hx=>h0 x (List.mem_of_mem_take hx),a,cap,by rw[hl],by omega,h3,fun hp => ?_⟩
 obtain ⟨b,o,e,hlt,hc⟩:=h4 (by omega)
 refine ⟨b,o,e,hlt,fun i x hx=>hc i x ?_⟩
 rw[List.getElem?_take] at hx
 split at hx
 ·exact hx
 cases hx
theorem aCo {w:World} {B g sz:Nat} {e:TypeId} (h:w.heap[g]? = some (.cells #[] e)) (hB:B<=g):gU w B sz e (.slice (some ⟨g,0,none⟩) 0 0) [] :=
 ⟨fun x hx=>by simp at hx,by simp[lD],.inr ⟨g,0, #[],rfl,hB,h,Nat.le_refl _,Nat.zero_le _,by simp,by simp[lD]⟩⟩
theorem SlA.drop {w:World} {B sz cap n:Nat} {a:Option Addr} {xs:List (Array Value)} (h:SlA w B sz (.slice a xs.length cap) xs) (hn:n<=xs.length) :
  SlA w B sz (.slice (if cap=n then a else a.map fun x=>x.add (n * sz)) (xs.length - n) (cap - n)) (xs.drop n):=by
 obtain ⟨h0,a',cap',h1,h2,h3,h4⟩:=h
 simp only[Value.slice.injEq,true_and] at h1
 obtain ⟨rfl,rfl⟩:=h1
 have hl:(xs.drop n).length=xs.length - n:=by simp
 refine ⟨fun x hx=>h0 x (List.mem_of_mem_drop hx),_,cap - n,by rw[hl],by omega,by omega,fun hp => ?_⟩
 obtain ⟨b,o,e,hlt,hc⟩:=h4 (by omega)
 subst e
 have hne:¬ cap=n:=by omega
 rw[if_neg hne]
 refine ⟨b,o+n * sz,by simp[addr_add],hlt,fun i x hx => ?_⟩
 rw[List.getElem?_drop] at hx
 have:=hc (n+i) x hx
 rwa [show o+(n+i) * sz=o+n * sz+i * sz by rw[Nat.add_mul];omega] at this
theorem aC (w:World) (o:Obj) (n:Nat):(w.alloc o).heap[n]? = if n=w.heap.size then some o else w.heap[n]? := by
 show (w.heap.push o)[n]? = _
 rw[Array.getElem?_push]
theorem SlA.alloc {w:World} {B sz:Nat} {v:Value} {xs:List (Array Value)} (h:SlA w B sz v xs) (o:Obj) (hB:B<=w.heap.size):SlA (w.alloc o) B sz v xs:=h.keep fun b hb=>uN (w:=w) o (by omega)
theorem SlA.grow {w:World} {B sz:Nat} {v:Value} {xs:List (Array Value)} (h:SlA w B sz v xs) (ys:Array Obj) (d:Nat) (hB:B<=w.heap.size):SlA (w.grow ys d) B sz v xs:=h.keep fun b hb=>World.bQ _ _ _ (by omega)
theorem aI {w:World} {b sz:Nat} {c:Array Value} {t:TypeId} (h:w.heap[b]? = some (.cells c t)) (hs:c.size=sz):w.aW b 0 sz=some c:=by
 unfold World.aW
 simp only[h]
 rw[if_pos (by omega)]
 congr 1
 apply Array.extract_eq_self_of_le;omega
def K25 := { l:List UInt8 // l.length=25 }
instance:DecidableEq K25:=inferInstanceAs (DecidableEq { l:List UInt8 // l.length=25 })
@[go_sem,simp] theorem K25.len (k:K25):k.val.length=25:=k.property
def Txt := { l:List UInt8 // l.length<=maxLen }
instance:DecidableEq Txt:=inferInstanceAs (DecidableEq { l:List UInt8 // l.length<=maxLen })
def Txt.nil:Txt:=⟨[],Nat.zero_le _⟩
structure Rec where
 kind:UInt8
 state:UInt8
 user:UInt8
 parent:UInt8
 mask:UInt8
 gone:Bool
 rev:UInt32
 at_:UInt64
 text:Txt
instance:DecidableEq Rec:=fun a b =>
 if h:a.kind=b.kind/\a.state=b.state/\a.user=b.user/\a.parent=b.parent/\a.mask=b.mask/\a.gone=b.gone/\a.rev=b.rev/\a.at_=b.at_/\a.text=b.text then
  .isTrue (by obtain ⟨h0,h1,h2,h3,h4,h5,h6,h7,h8⟩:=h;cases a;cases b;simp only at *;subst h0 h1 h2 h3 h4 h5 h6 h7 h8;rfl)
 else .isFalse (by rintro rfl;exact h ⟨rfl,rfl,rfl,rfl,rfl,rfl,rfl,rfl,rfl⟩)
def Rec.zero:Rec:=⟨0,0,0,0,0,false,0,0,Txt.nil⟩
structure Cell where
 is_:Bool
 r:Rec
instance:DecidableEq Cell:=fun a b =>
 if h:a.is_=b.is_/\a.r=b.r then .isTrue (by obtain ⟨h0,h1⟩:=h;cases a;cases b;simp only at *;subst h0 h1;rfl)
 else .isFalse (by rintro rfl;exact h ⟨rfl,rfl⟩)
def Cell.zero:Cell:=⟨false,Rec.zero⟩
structure Ent where
 k:K25
 r:Rec
instance:DecidableEq Ent:=fun a b =>
 if h:a.k=b.k/\a.r=b.r then .isTrue (by obtain ⟨h0,h1⟩:=h;cases a;cases b;simp only at *;subst h0 h1;rfl)
 else .isFalse (by rintro rfl;exact h ⟨rfl,rfl⟩)
structure Wr where
 k:K25
 dead:Bool
 r:Rec
instance:DecidableEq Wr:=fun a b =>
 if h:a.k=b.k/\a.dead=b.dead/\a.r=b.r then .isTrue (by obtain ⟨h0,h1,h2⟩:=h;cases a;cases b;simp only at *;subst h0 h1 h2;rfl)
 else .isFalse (by rintro rfl;exact h ⟨rfl,rfl,rfl⟩)

/-! the cells: of the program, of the document -/
def xG (r:Rec):List Value := [.int .u8 r.kind.toNat,.int .u8 r.state.toNat,.int .u8 r.user.toNat,.int .u8 r.parent.toNat,.int .u8 r.mask.toNat,.bool r.gone,.int .u32 r.rev.toNat,.int .u64 r.at_.toNat,.string (bs r.text.val)]
def tH (r:Rec):List Value := [.int .i64 r.kind.toNat,.int .i64 r.state.toNat,.int .i64 r.user.toNat,.int .i64 r.parent.toNat,.int .i64 r.mask.toNat,.bool r.gone,.int .u64 r.rev.toNat,.int .u64 r.at_.toNat,.string (bs r.text.val)]
def aGO (k:K25):List Value:=k.val.map fun b => .int .u8 (b.toNat:Int)
def xQ (k:K25):List Value := .int .i64 ((byt k.val 0).toNat) :: .int .i64 ((byt k.val 1).toNat) :: .int .i64 ((byt k.val 2).toNat) :: (k.val.drop 3).map fun b => .int .u8 (b.toNat:Int)
def bI (r:Rec):Array Value:=(xG r).toArray
def dS (r:Rec):Array Value:=(tH r).toArray
def aCV (c:Cell):Array Value:=(.bool c.is_ :: xG c.r).toArray
def aLb (c:Cell):Array Value:=(.bool c.is_ :: tH c.r).toArray
def aGh (e:Ent):Array Value:=(aGO e.k++xG e.r).toArray
def aOj (e:Ent):Array Value:=(xQ e.k++tH e.r).toArray
def iJ (x:Wr):Array Value:=(aGO x.k ++ .bool x.dead :: xG x.r).toArray
def kC (x:Wr):Array Value:=(xQ x.k ++ .bool x.dead :: tH x.r).toArray
theorem eU (k:K25):(aGO k).length=25:=by simp[aGO]
theorem fB (k:K25):(xQ k).length=25:=by simp[xQ]
theorem aEp (r:Rec):(xG r).length=9:=rfl
theorem aCs (r:Rec):(tH r).length=9:=rfl
@[go_sem,simp] theorem aMM (r:Rec):(bI r).size=9:=id rfl
@[go_sem,simp] theorem aMV (r:Rec):(dS r).size=9:=id rfl
@[go_sem,simp] theorem aKx (c:Cell):(aCV c).size=10:=id rfl
@[go_sem,simp] theorem aKy (c:Cell):(aLb c).size=10:=id rfl
@[go_sem,simp] theorem aLh (e:Ent):(aGh e).size=34:=by simp[aGh,eU,aEp]
@[go_sem,simp] theorem aLi (e:Ent):(aOj e).size=34:=by simp[aOj,fB,aCs]
@[go_sem,simp] theorem aD2 (x:Wr):(iJ x).size=35:=by simp[iJ,eU,aEp]
@[go_sem,simp] theorem vJ (x:Wr):(kC x).size=35:=by simp[kC,fB,aCs]

/-! every value takes one cell -/
theorem aEg (k:K25):∀ v∈aGO k,v.oneCell'=true:=by intro v hv;unfold aGO at hv;obtain ⟨b,_,rfl⟩:=List.mem_map.1 hv;rfl
theorem uP (k:K25):∀ v∈xQ k,v.oneCell'=true:=by
 intro v hv
 unfold xQ at hv
 simp only[List.mem_cons] at hv
 rcases hv with rfl | rfl | rfl | hv
 ·rfl
 ·rfl
 ·rfl
 obtain ⟨b,_,rfl⟩:=List.mem_map.1 hv;rfl
theorem uQ (r:Rec):∀ v∈xG r,v.oneCell'=true:=by
 intro v hv
 simp only[xG,List.mem_cons,List.not_mem_nil,or_false] at hv
 rcases hv with rfl | rfl | rfl | rfl | rfl | rfl | rfl | rfl | rfl <;> rfl
theorem qP (r:Rec):∀ v∈tH r,v.oneCell'=true:=by
 intro v hv
 simp only[tH,List.mem_cons,List.not_mem_nil,or_false] at hv
 rcases hv with rfl | rfl | rfl | rfl | rfl | rfl | rfl | rfl | rfl <;> rfl
theorem dH {l:List Value} (h:∀ v∈l,v.oneCell'=true):bZ l.toArray=true:=by
 unfold bZ;rw[Array.all_eq_true_iff_forall_mem];intro v hv;exact h v (by simpa using hv)
@[go_sem] theorem aNm (r:Rec):bZ (bI r)=true:=dH (uQ r)
@[go_sem] theorem aBj (r:Rec):bZ (dS r)=true:=dH (qP r)
@[go_sem] theorem aMG (c:Cell):bZ (aCV c)=true:=dH (by intro v hv;rcases List.mem_cons.1 hv with rfl | hv;rfl;exact uQ _ v hv)
@[go_sem] theorem aMH (c:Cell):bZ (aLb c)=true:=dH (by intro v hv;rcases List.mem_cons.1 hv with rfl | hv;rfl;exact qP _ v hv)
@[go_sem] theorem aNk (e:Ent):bZ (aGh e)=true:=dH (by intro v hv;rcases List.mem_append.1 hv with hv | hv;exact aEg _ v hv;exact uQ _ v hv)
@[go_sem] theorem aNl (e:Ent):bZ (aOj e)=true:=dH (by intro v hv;rcases List.mem_append.1 hv with hv | hv;exact uP _ v hv;exact qP _ v hv)
@[go_sem] theorem aIk (x:Wr):bZ (iJ x)=true:=dH (by intro v hv;rcases List.mem_append.1 hv with hv | hv;exact aEg _ v hv;rcases List.mem_cons.1 hv with rfl | hv;rfl;exact uQ _ v hv)
@[go_sem] theorem aIl (x:Wr):bZ (kC x)=true:=dH (by intro v hv;rcases List.mem_append.1 hv with hv | hv;exact uP _ v hv;rcases List.mem_cons.1 hv with rfl | hv;rfl;exact qP _ v hv)
@[go_sem] theorem eH {P:Program} {w:World} {t:TypeId} {n o:Nat} {vs:Array Value} (h1:bZ vs=true) (ht:P.bJ t=some vs.size) (hc:w.aN n o vs.size=true) :
  (bH t ⟨n,o,none⟩ (.agg vs)).run P w = .ok () (w.lay n o vs):=nM ht hc h1

/-! parts -/
theorem ext_list (l m:List Value) (n:Nat) (h:m.length=n):((m++l).toArray).extract n (n+l.length)=l.toArray:=by
 apply Array.ext'
 simp[List.extract_eq_take_drop,<-h]
theorem uK (l m:List Value) (n:Nat) (h:m.length=n):((m++l).toArray).extract 0 n=m.toArray:=by
 apply Array.ext'
 simp[List.extract_eq_take_drop,<-h]
theorem aI8 (k:K25):(aGO k).toArray=aJ k.val:=rfl
@[go_sem] theorem aN6 (e:Ent):(aGh e).extract 0 25=aJ e.k.val:=uK _ _ 25 (eU _)
@[go_sem] theorem aN7 (e:Ent):(aGh e).extract 25 34=bI e.r:=ext_list _ _ 25 (eU _)
@[go_sem] theorem aN5 (e:Ent):(aGh e).extract 0 34=aGh e:=by apply Array.extract_eq_self_of_le;simp
@[go_sem] theorem aNp (r:Rec):(bI r).extract 0 9=bI r:=by apply Array.extract_eq_self_of_le;simp
@[go_sem] theorem aL9 (c:Cell):(aCV c).extract 0 10=aCV c:=by apply Array.extract_eq_self_of_le;simp
@[go_sem] theorem aLa (c:Cell):(aCV c).extract 1 10=bI c.r:=ext_list (xG c.r) [.bool c.is_] 1 rfl
@[go_sem] theorem aOh (c:Cell):(aCV c)[0]? = some (.bool c.is_):=id rfl
@[go_sem,simp] theorem aN1 (c:Cell) (h:0<(aCV c).size):(aCV c)[0]'h = .bool c.is_:=id rfl
@[go_sem] theorem aOI (x:Wr):(iJ x).extract 0 35=iJ x:=by apply Array.extract_eq_self_of_le;simp
@[go_sem] theorem aOJ (x:Wr):(iJ x).extract 0 25=aJ x.k.val:=uK _ _ 25 (eU _)
@[go_sem] theorem aJN (x:Wr):(iJ x).extract 26 35=bI x.r:=by
 have:=ext_list (xG x.r) (aGO x.k ++ [.bool x.dead]) 26 (by simp[eU])
 rw[List.append_assoc] at this;exact this
@[go_sem] theorem aHp (x:Wr):(iJ x)[25]? = some (.bool x.dead):=by
 unfold iJ
 rw[List.getElem?_toArray,List.getElem?_append_right (by simp[eU])];simp[eU]
@[go_sem,simp] theorem aOE (x:Wr) (h:25<(iJ x).size):(iJ x)[25]'h = .bool x.dead:=by
 have:=aHp x
 rw[Array.getElem?_eq_getElem h] at this
 exact Option.some.inj this
@[go_sem] theorem aJs (e:Ent):(aGh e)[33]? = some (.string (bs e.r.text.val)):=by
 unfold aGh
 rw[List.getElem?_toArray,List.getElem?_append_right (by simp[eU])];simp[eU,xG]
@[go_sem,simp] theorem aN4 (e:Ent) (h:33<(aGh e).size):(aGh e)[33]'h = .string (bs e.r.text.val):=by
 have:=aJs e
 rw[Array.getElem?_eq_getElem h] at this
 exact Option.some.inj this
/-! equality -/
theorem iT.cons {k:TypeDesc} {v:Value} {l:Lit} {ks:List TypeDesc} {vs:List Value} {ls:List Lit} (h:fits k v l) (hs:iT ks vs ls):iT (k :: ks) (v :: vs) (l :: ls):=by
 refine ⟨by simp[hs.c],by simp[hs.l],fun i q u m h1 h2 h3 => ?_⟩
 cases i with
 | zero=>simp at h1 h2 h3;subst h1 h2 h3;exact h
 | succ i=>exact hs.at_ i q u m (by simpa using h1) (by simpa using h2) (by simpa using h3)
theorem iT.nil:iT [] [] []:=⟨rfl,rfl,fun i _ _ _ h=>by simp at h⟩
theorem iT.append {ks ks':List TypeDesc} {vs vs':List Value} {ls ls':List Lit} (h:iT ks vs ls) (h':iT ks' vs' ls'):iT (ks++ks') (vs++vs') (ls++ls'):=by
 refine ⟨by simp[h.c,h'.c],by simp[h.l,h'.l],fun i q u m h1 h2 h3 => ?_⟩
 by_cases hi:i<ks.length
 ·rw[List.getElem?_append_left hi] at h1
  rw[List.getElem?_append_left (by rw[h.c];exact hi)] at h2
  rw[List.getElem?_append_left (by rw[h.l];exact hi)] at h3
  exact h.at_ i q u m h1 h2 h3
 rw[List.getElem?_append_right (by omega)] at h1
 rw[List.getElem?_append_right (by rw[h.c];omega),h.c] at h2
 rw[List.getElem?_append_right (by rw[h.l];omega),h.l] at h3
 exact h'.at_ _ q u m h1 h2 h3
theorem aC6 (b:UInt8):fits (.int .u8) (.int .u8 b.toNat) (.int .u8 b.toNat):=by
 refine ⟨rfl,rfl,rfl,?_⟩
 have:=b.toNat_lt
 have e1:IntKind.u8.min=0:=rfl
 have e2:IntKind.u8.max=255:=rfl
 simp only[Lit.wf,e1,e2,Bool.and_eq_true,decide_eq_true_eq]
 omega
theorem nR (b:UInt8):fits (.int .i64) (.int .i64 b.toNat) (.int .i64 b.toNat):=by
 refine ⟨rfl,rfl,rfl,?_⟩
 have:=b.toNat_lt
 have e1:IntKind.i64.min = -9223372036854775808:=rfl
 have e2:IntKind.i64.max=9223372036854775807:=rfl
 simp only[Lit.wf,e1,e2,Bool.and_eq_true,decide_eq_true_eq]
 omega
theorem aGl (b:UInt32):fits (.int .u32) (.int .u32 b.toNat) (.int .u32 b.toNat):=by
 refine ⟨rfl,rfl,rfl,?_⟩
 have:=b.toNat_lt
 have e1:IntKind.u32.min=0:=rfl
 have e2:IntKind.u32.max=4294967295:=rfl
 simp only[Lit.wf,e1,e2,Bool.and_eq_true,decide_eq_true_eq]
 omega
theorem aIY (b:UInt32):fits (.int .u64) (.int .u64 b.toNat) (.int .u64 b.toNat):=by
 refine ⟨rfl,rfl,rfl,?_⟩
 have:=b.toNat_lt
 have e1:IntKind.u64.min=0:=rfl
 have e2:IntKind.u64.max=18446744073709551615:=rfl
 simp only[Lit.wf,e1,e2,Bool.and_eq_true,decide_eq_true_eq]
 omega
theorem aDh (b:UInt64):fits (.int .u64) (.int .u64 b.toNat) (.int .u64 b.toNat):=by
 refine ⟨rfl,rfl,rfl,?_⟩
 have:=b.toNat_lt
 have e1:IntKind.u64.min=0:=rfl
 have e2:IntKind.u64.max=18446744073709551615:=rfl
 simp only[Lit.wf,e1,e2,Bool.and_eq_true,decide_eq_true_eq]
 omega
theorem aDg (t:Txt):fits .string (.string (bs t.val)) (.string t.val):=by
 refine ⟨by simp[bs],?_⟩
 rw[bD];exact t.property
def aMW:List TypeDesc := [.int .u8,.int .u8,.int .u8,.int .u8,.int .u8,.bool,.int .u32,.int .u64,.string]
def aIs (r:Rec):List Lit := [.int .u8 r.kind.toNat,.int .u8 r.state.toNat,.int .u8 r.user.toNat,.int .u8 r.parent.toNat,.int .u8 r.mask.toNat,.bool r.gone,.int .u32 r.rev.toNat,.int .u64 r.at_.toNat,.string r.text.val]
def aHT:List TypeDesc := [.int .i64,.int .i64,.int .i64,.int .i64,.int .i64,.bool,.int .u64,.int .u64,.string]
def aBU (r:Rec):List Lit := [.int .i64 r.kind.toNat,.int .i64 r.state.toNat,.int .i64 r.user.toNat,.int .i64 r.parent.toNat,.int .i64 r.mask.toNat,.bool r.gone,.int .u64 r.rev.toNat,.int .u64 r.at_.toNat,.string r.text.val]
theorem aKW (r:Rec):iT aMW (xG r) (aIs r) :=
 .cons (aC6 _) (.cons (aC6 _) (.cons (aC6 _) (.cons (aC6 _) (.cons (aC6 _) (.cons (show fits .bool _ _ from rfl) (.cons (aGl _) (.cons (aDh _) (.cons (aDg _) .nil))))))))
theorem aEn (r:Rec):iT aHT (tH r) (aBU r) :=
 .cons (nR _) (.cons (nR _) (.cons (nR _) (.cons (nR _) (.cons (nR _) (.cons (show fits .bool _ _ from rfl) (.cons (aIY _) (.cons (aDh _) (.cons (aDg _) .nil))))))))
def aI9 (k:K25):List Lit:=kR k.val
def aGx:List TypeDesc := .int .i64 :: .int .i64 :: .int .i64 :: fA 22
def xC (k:K25):List Lit := .int .i64 (byt k.val 0).toNat :: .int .i64 (byt k.val 1).toNat :: .int .i64 (byt k.val 2).toNat :: kR (k.val.drop 3)
theorem aKE (k:K25):iT (fA 25) (aGO k) (aI9 k):=by
 have:=rU k.val
 rw[K25.len] at this
 exact this
theorem yG (k:K25):iT aGx (xQ k) (xC k):=by
 have:=rU (k.val.drop 3)
 rw[List.length_drop,K25.len] at this
 exact .cons (nR _) (.cons (nR _) (.cons (nR _) this))
theorem mO {a b:UInt8} (h:(a.toNat:Int)=b.toNat):a=b:=UInt8.toNat_inj.1 (by omega)
theorem aKX {a b:Rec} (h:aIs a=aIs b):a=b:=by
 obtain ⟨a0,a1,a2,a3,a4,a5,a6,a7,⟨a8,_⟩⟩:=a
 obtain ⟨b0,b1,b2,b3,b4,b5,b6,b7,⟨b8,_⟩⟩:=b
 simp only[aIs,List.cons.injEq,Lit.int.injEq,Lit.bool.injEq,Lit.string.injEq,true_and,and_true] at h
 obtain ⟨h0,h1,h2,h3,h4,h5,h6,h7,h8⟩:=h
 obtain rfl:=mO h0;obtain rfl:=mO h1;obtain rfl:=mO h2;obtain rfl:=mO h3;obtain rfl:=mO h4
 obtain rfl:a6=b6:=UInt32.toNat_inj.1 (by omega)
 obtain rfl:a7=b7:=UInt64.toNat_inj.1 (by omega)
 subst h5 h8;rfl
theorem aEo {a b:Rec} (h:aBU a=aBU b):a=b:=by
 obtain ⟨a0,a1,a2,a3,a4,a5,a6,a7,⟨a8,_⟩⟩:=a
 obtain ⟨b0,b1,b2,b3,b4,b5,b6,b7,⟨b8,_⟩⟩:=b
 simp only[aBU,List.cons.injEq,Lit.int.injEq,Lit.bool.injEq,Lit.string.injEq,true_and,and_true] at h
 obtain ⟨h0,h1,h2,h3,h4,h5,h6,h7,h8⟩:=h
 obtain rfl:=mO h0;obtain rfl:=mO h1;obtain rfl:=mO h2;obtain rfl:=mO h3;obtain rfl:=mO h4
 obtain rfl:a6=b6:=UInt32.toNat_inj.1 (by omega)
 obtain rfl:a7=b7:=UInt64.toNat_inj.1 (by omega)
 subst h5 h8;rfl
theorem key_inj {a b:K25} (h:aI9 a=aI9 b):a=b:=Subtype.ext (nD h)
theorem K25.split (k:K25):k.val=byt k.val 0 :: byt k.val 1 :: byt k.val 2 :: k.val.drop 3:=by
 obtain ⟨l,hl⟩:=k
 match l,hl with
 | a :: b :: c :: r,_=>rfl
theorem aEa {a b:K25} (h:xC a=xC b):a=b:=by
 simp only[xC,List.cons.injEq,Lit.int.injEq,true_and] at h
 obtain ⟨h0,h1,h2,h3⟩:=h
 apply Subtype.ext
 rw[K25.split a,K25.split b,mO h0,mO h1,mO h2,nD h3]
theorem lZ {P:Program} {t:TypeId} {ks:List TypeDesc} {α:Type} [DecidableEq α] {f:α->List Value} {g:α->List Lit} (ht:fQ P t ks) (hf:∀ a,iT ks (f a) (g a)) (hi:∀ a b,g a=g b->a=b) (a b:α) (w:World) :
  (Op.equalIn 10000 t (.agg (f a).toArray) (.agg (f b).toArray)).run P w = .ok (decide (a=b)) w:=by
 obtain ⟨r,h1,h2⟩:=aBb ht w (a:=(f a).toArray) (b:=(f b).toArray) (by simpa using hf a) (by simpa using hf b)
 rw[h1]
 congr 1
 rw[Bool.eq_iff_iff,h2,decide_eq_true_eq]
 exact ⟨hi a b,fun h=>by rw[h]⟩
def spl (a:List UInt8) (o:Nat) (b:List UInt8):List UInt8:=(a.take o++b++a.drop (o+b.length)).take a.length
@[go_sem] theorem aEI (a b:List UInt8) (o:Nat) (h:o+b.length<=a.length):bT (aJ a) o (aJ b)=aJ (spl a o b):=by
 unfold bT
 rw[kY,kY,oN,oN]
 apply Array.ext'
 unfold spl
 rw[List.take_of_length_le (l:=a.take o++b++a.drop (o+b.length)) (by simp;omega)]
 simp[aJ]
@[go_sem] theorem aP5 (a b:List UInt8) (o:Nat):(spl a o b).length=a.length:=by simp[spl];omega
def _root_.Go.Program.aAN (P:Program) (t:TypeId):Option Nat:=match P.underlying t with | some (.slice e)=>(P.info? e).map (·.size) | _=>none
@[go_sem] theorem aJh (l:List UInt8):bZ (aJ l)=true:=yN l
@[go_sem] theorem aJ5 {P:Program} {w:World} {dT sT ty:TypeId} {g o dLen dCap a p sLen sCap:Nat} (hs:P.aAN dT=some 1)
  (hd:w.aN g o (min sLen dLen)=true) (hr:(w.aW a p (min sLen dLen)).isSome=true) (h1:bZ ((w.aW a p (min sLen dLen)).getD #[])=true) :
  (Builtin.copy_ #[dT,sT] ty #[.slice (some ⟨g,o,none⟩) dLen dCap,.slice (some ⟨a,p,none⟩) sLen sCap]).run P w = .ok (goInt ((min sLen dLen:Nat):Int)) (w.lay g o ((w.aW a p (min sLen dLen)).getD #[])):=by
 obtain ⟨c,t,hg,hl⟩:=aB1 hd
 obtain ⟨cs,hcs⟩:=Option.isSome_iff_exists.1 hr
 rw[hcs] at h1 |-
 simp only[Option.getD_some] at h1 |-
 obtain ⟨h2,h3⟩:=dF hcs
 unfold Program.aAN at hs
 split at hs
 ·rename_i e hu
  have:=run_copy_row (P:=P) w dT sT ty e g o dLen dCap ⟨a,p,none⟩ sLen sCap c t cs.toList hu hs hg (by simpa using h2) (fun j v hv=>by
   rw[addr_add,h3 j (by have:=(List.getElem?_eq_some_iff.1 hv).1;simp at this;omega),<-hv];simp) (by simp;omega) (fun v hv=>(Array.all_eq_true_iff_forall_mem.1 (show cs.all (·.oneCell')=true from h1)) v (by simpa using hv))
  rw[this]
  congr 1
  ·simp only[Array.length_toList,h2]
  have e2:(c.toList.take o++cs.toList++c.toList.drop (o+cs.toList.length)).toArray=bT c o cs:=by
   apply Array.ext'
   simp[bT,List.extract_eq_take_drop]
   rw[List.take_of_length_le];simp
  rw[e2,aBK hg]
 cases hs
@[go_sem] theorem aNu:Tryz.prog.aAN 189=some 1:=by kernel_rfl
theorem aKf (t:List UInt8) (h:t.length=10):spl (spl (spl (zeros 10) 0 (t.take 3)) 3 ((t.take 7).drop 3)) 7 (t.drop 7)=t:=by
 match t,h with
 | [a,b,c,d,e,f,g,i,j,k],_=>rfl
set_option maxRecDepth 100000 in
theorem aAo (t:List UInt8) (ht:t.length=10) (w:World):Gives Tryz.prog 135 #[.agg (aJ t)] w (.agg (aJ t)):=by
 have hs:=aKf t ht
 have HS:=Lib.hid hs
 clear hs
 unfold Gives
 go_enter Tryz.func135,Tryz.ntmps135
 go_wp2_with fail
 apply aG (by rfl) [.val _,.val _,.val _] 3 (by rfl) [4,5,6] [] [] (by rfl) (by rfl) (by decide) (by decide +kernel) (fun _ _ _ _ _ h=>h)
 case hF=>intro x;simp only[over,List.foldl_cons,List.foldl_nil,List.setIfInBounds_toArray,List.set_cons_succ,List.set_cons_zero];exact rfl
 case hops =>
  refine ⟨?o0,?o1,?o2,trivial⟩
  case o0 =>
   intro x w1 hH K hK
   obtain ⟨xs,d,rfl⟩:=aA hH.below
   clear hH
   try simp only[World.aB] at hK |-
   try simp only[World.grow_grow] at hK |-
   exact zw
  case o1 =>
   intro x w1 hH K hK
   obtain ⟨xs,d,rfl⟩:=aA hH.below
   clear hH
   try simp only[World.aB] at hK |-
   try simp only[World.grow_grow] at hK |-
   exact zw
  case o2 =>
   intro x w1 hH K hK
   have e5:x 5=_:=hH.g 1 5
   obtain ⟨xs,d,rfl⟩:=aA hH.below
   clear hH
   try simp only[World.aB] at hK |-
   try simp only[World.grow_grow] at hK |-
   simp only[e5] at hK |-
   clear e5
   exact zw
 intro x w1 hH
 have e4:x 4=_:=hH.t 0 4
 have e5:x 5=_:=hH.t 1 5
 have e6:x 6=_:=hH.t 2 6
 obtain ⟨xs,d,rfl⟩:=aA hH.below
 clear hH
 simp only[e4,e5,e6];clear e4 e5 e6
 simp only[List.drop_succ_cons,List.drop_zero]
 go_wp2_with fail
 apply aG (by rfl) [.val _,.val _,.val _] 3 (by rfl) [8,9,10] [] [] (by rfl) (by rfl) (by decide) (by decide +kernel) (fun _ _ _ _ _ h=>h)
 case hF=>intro x;simp only[over,List.foldl_cons,List.foldl_nil,List.setIfInBounds_toArray,List.set_cons_succ,List.set_cons_zero];exact rfl
 case hops =>
  refine ⟨?o0,?o1,?o2,trivial⟩
  case o0 =>
   intro x w1 hH K hK
   obtain ⟨xs,d,rfl⟩:=aA hH.below
   clear hH
   try simp only[World.aB] at hK |-
   try simp only[World.grow_grow] at hK |-
   exact zw
  case o1 =>
   intro x w1 hH K hK
   obtain ⟨xs,d,rfl⟩:=aA hH.below
   clear hH
   try simp only[World.aB] at hK |-
   try simp only[World.grow_grow] at hK |-
   exact zw
  case o2 =>
   intro x w1 hH K hK
   have e9:x 9=_:=hH.g 1 9
   obtain ⟨xs,d,rfl⟩:=aA hH.below
   clear hH
   try simp only[World.aB] at hK |-
   try simp only[World.grow_grow] at hK |-
   simp only[e9] at hK |-
   clear e9
   exact zw
 intro x w1 hH
 have e8:x 8=_:=hH.t 0 8
 have e9:x 9=_:=hH.t 1 9
 have e10:x 10=_:=hH.t 2 10
 obtain ⟨xs,d,rfl⟩:=aA hH.below
 clear hH
 simp only[e8,e9,e10];clear e8 e9 e10
 simp only[List.drop_succ_cons,List.drop_zero]
 go_wp2_with fail
 apply aG (by rfl) [.val _,.val _,.val _] 3 (by rfl) [12,13,14] [] [] (by rfl) (by rfl) (by decide) (by decide +kernel) (fun _ _ _ _ _ h=>h)
 case hF=>intro x;simp only[over,List.foldl_cons,List.foldl_nil,List.setIfInBounds_toArray,List.set_cons_succ,List.set_cons_zero];exact rfl
 case hops =>
  refine ⟨?o0,?o1,?o2,trivial⟩
  case o0 =>
   intro x w1 hH K hK
   obtain ⟨xs,d,rfl⟩:=aA hH.below
   clear hH
   try simp only[World.aB] at hK |-
   try simp only[World.grow_grow] at hK |-
   exact zw
  case o1 =>
   intro x w1 hH K hK
   obtain ⟨xs,d,rfl⟩:=aA hH.below
   clear hH
   try simp only[World.aB] at hK |-
   try simp only[World.grow_grow] at hK |-
   exact zw
  case o2 =>
   intro x w1 hH K hK
   have e13:x 13=_:=hH.g 1 13
   obtain ⟨xs,d,rfl⟩:=aA hH.below
   clear hH
   try simp only[World.aB] at hK |-
   try simp only[World.grow_grow] at hK |-
   simp only[e13] at hK |-
   clear e13
   exact zw
 intro x w1 hH
 have e12:x 12=_:=hH.t 0 12
 have e13:x 13=_:=hH.t 1 13
 have e14:x 14=_:=hH.t 2 14
 obtain ⟨xs,d,rfl⟩:=aA hH.below
 clear hH
 simp only[e12,e13,e14];clear e12 e13 e14
 simp only[List.drop_succ_cons,List.drop_zero]
 go_wp2_with fail
 refine bodyPost_ret (v := .agg (aJ t)) (fE Tryz.results135 (aO.row rfl aJg ?_)) rfl ⟨rfl,blw⟩
 simp[go_sem,HS.out,ht]

theorem aKF (k:List UInt8) (h:k.length=25):spl (spl ((((zeros 25).set 0 (byt k 0)).set 1 (byt k 1)).set 2 (byt k 2)) 3 ((k.take 15).drop 3)) 15 (k.drop 15)=k:=by
 match k,h with
 | [a,b,c,d,e,f,g,i,j,l,m,n,o,p,q,r,s,t,u,v,w,x,y,z,a2],_=>rfl
set_option maxRecDepth 100000 in
theorem sJ (k:List UInt8) (hk:k.length=25) (w:World):Gives Tryz.prog 107 #[.agg (aJ k)] w (.agg (aJ k)):=by
 have hs:=aKF k hk
 have HS:=Lib.hid hs
 clear hs
 have ht:=aAo (k.drop 15) (by simp;omega)
 have HT:=Lib.hid ht
 clear ht
 unfold Gives
 go_enter Tryz.func107,Tryz.ntmps107
 go_wp2_with (go_at_call 135;refine Gives.use (HT.out _) ?_;intro xs0 d0)
 apply aG (by rfl) [.val _,.val _,.val _] 3 (by rfl) [15,16,17] [] [] (by rfl) (by rfl) (by decide) (by decide +kernel) (fun _ _ _ _ _ h=>h)
 case hF=>intro x;simp only[over,List.foldl_cons,List.foldl_nil,List.setIfInBounds_toArray,List.set_cons_succ,List.set_cons_zero];exact rfl
 case hops =>
  refine ⟨?o0,?o1,?o2,trivial⟩
  case o0 =>
   intro x w1 hH K hK
   obtain ⟨xs,d,rfl⟩:=aA hH.below
   clear hH
   try simp only[World.aB] at hK |-
   try simp only[World.grow_grow] at hK |-
   exact zw
  case o1 =>
   intro x w1 hH K hK
   obtain ⟨xs,d,rfl⟩:=aA hH.below
   clear hH
   try simp only[World.aB] at hK |-
   try simp only[World.grow_grow] at hK |-
   exact zw
  case o2 =>
   intro x w1 hH K hK
   have e16:x 16=_:=hH.g 1 16
   obtain ⟨xs,d,rfl⟩:=aA hH.below
   clear hH
   try simp only[World.aB] at hK |-
   try simp only[World.grow_grow] at hK |-
   simp only[e16] at hK |-
   clear e16
   exact zw
 intro x w1 hH
 have e15:x 15=_:=hH.t 0 15
 have e16:x 16=_:=hH.t 1 16
 have e17:x 17=_:=hH.t 2 17
 obtain ⟨xs,d,rfl⟩:=aA hH.below
 clear hH
 simp only[e15,e16,e17];clear e15 e16 e17
 simp only[List.drop_succ_cons,List.drop_zero]
 go_wp2_with fail
 apply aG (by rfl) [.val _,.val _] 2 (by rfl) [19,20] [] [] (by rfl) (by rfl) (by decide) (by decide +kernel) (fun _ _ _ _ _ h=>h)
 case hF=>intro x;simp only[over,List.foldl_cons,List.foldl_nil,List.setIfInBounds_toArray,List.set_cons_succ,List.set_cons_zero];exact rfl
 case hops =>
  refine ⟨?o0,?o1,trivial⟩
  case o0 =>
   intro x w1 hH K hK
   obtain ⟨xs,d,rfl⟩:=aA hH.below
   clear hH
   try simp only[World.aB] at hK |-
   try simp only[World.grow_grow] at hK |-
   exact zw
  case o1 =>
   intro x w1 hH K hK
   obtain ⟨xs,d,rfl⟩:=aA hH.below
   clear hH
   try simp only[World.aB] at hK |-
   try simp only[World.grow_grow] at hK |-
   exact zw
 intro x w1 hH
 have e19:x 19=_:=hH.t 0 19
 have e20:x 20=_:=hH.t 1 20
 obtain ⟨xs,d,rfl⟩:=aA hH.below
 clear hH
 simp only[e19,e20];clear e19 e20
 simp only[List.drop_succ_cons,List.drop_zero]
 go_wp2_with fail
 refine bodyPost_ret (v := .agg (aJ k)) (fE Tryz.results107 (aO.row rfl aGY ?_)) rfl ⟨rfl,blw⟩
 simp[go_sem,HS.out,hk]
end Go.Proofs.YtcedmfnlkelhkaaGreatDoor

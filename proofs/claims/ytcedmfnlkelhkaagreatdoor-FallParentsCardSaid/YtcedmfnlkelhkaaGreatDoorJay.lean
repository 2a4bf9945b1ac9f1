/- The document's tags in plain Lean: three parts; it takes for right just what the program does. -/
import Derived.Test.YtcedmfnlkelhkaaGreatDoorJbl
import Derived.BigRegion
import Derived.IntWalk
namespace Go.Proofs.YtcedmfnlkelhkaaGreatDoor
set_option maxHeartbeats 40000000

abbrev mZ:=List UInt8×List UInt8×List UInt8
def aEj (x:mZ):List UInt8:=bG 3 x.1++bG 4 x.2.1++bG 3 x.2.2
def jT (p:List UInt8):List UInt8:=(p.take 1).map eF++(p.drop 1).map dK
def iF:List (List UInt8)->List UInt8->List UInt8->Option (List UInt8×List UInt8)
 | [],s,r=>some (s,r)
 | p :: q,s,r=>if bM p=true/\s = []/\r = [] then iF q (jT p) r else if bF p=true/\r = [] then iF q s (p.map eF) else none
def aKY:List (List UInt8)->Option mZ
 | []=>none
 | p :: q=>if lF p=true then (iF q [] []).map fun x=>(p.map dK,x) else none
def iV (s:List UInt8):Option mZ:=if s=qU then some ([], [], []) else aKY (splitOn 45 s)
theorem jQ {P:UInt8->Prop} (h:∀ k<256,P (UInt8.ofNat k)) (x:UInt8):P x:=by
 have:=h x.toNat x.toNat_lt
 rwa [UInt8.ofNat_toNat] at this
theorem aKp:∀ c:UInt8,lK c=true->eF (dK c)=eF c:=jQ (by decide +kernel)
theorem aJZ:∀ c:UInt8,lK c=true->dK c≠0:=jQ (by decide +kernel)
theorem aJ8:∀ c:UInt8,lK c=true->eF c≠0:=jQ (by decide +kernel)
theorem aLf:∀ c:UInt8,rZ c=true->eF c≠0:=jQ (by decide +kernel)
theorem aJH {p:List UInt8} (h:p.all lK=true):title p=jT p:=by
 cases p with
 | nil=>rfl
 | cons c r =>
  simp only[List.all_cons,Bool.and_eq_true] at h
  show eF (dK c) :: r.map dK = [eF c]++r.map dK
  rw[aKp c h.1];rfl
theorem aHe {p:List UInt8} (h:bM p=true):jT p ≠ []:=by
 cases p with
 | nil=>simp[bM] at h
 | cons c r=>simp[jT]
theorem aCy {p:List UInt8} (h:bF p=true):p.map eF ≠ []:=by
 cases p with
 | nil=>simp[bF] at h
 | cons c r=>simp
theorem aBN (q:List (List UInt8)) (s r:List UInt8) (hr:r ≠ []):iF q s r=if q = [] then some (s,r) else none:=by
 cases q with
 | nil=>rfl
 | cons p q=>unfold iF;simp[hr]
theorem aCe (q:List (List UInt8)) (s:List UInt8) (hs:s ≠ []):iF q s []=if iW q = [] then some (s,match q with | [] => [] | p :: _=>if bF p=true then p.map eF else []) else none:=by
 cases q with
 | nil=>rfl
 | cons p q =>
  unfold iF
  simp only[hs,and_false,if_false,and_true]
  by_cases h:bF p=true
  ·rw[if_pos h,aBN q s _ (aCy h)]
   simp[iW,h]
  rw[if_neg h];simp[iW,h]
theorem aHx (n:Nat):zeros n=bG n []:=by simp[bG]
theorem aHF (q:List (List UInt8)):(iF q [] []).map (fun x=>bG 4 x.1++bG 3 x.2)=if iW (iH q) = [] then some (aBY q++aAm (iH q)) else none:=by
 cases q with
 | nil=>simp[iF,iW,iH,aBY,aAm,bG]
 | cons p q =>
  unfold iF
  by_cases h:bM p=true
  ·rw[if_pos ⟨h,rfl,rfl⟩,aCe q _ (aHe h)]
   have hl:p.length=4/\p.all lK=true:=by simpa [bM] using h
   have ht:bG 4 (jT p)=title p:=by
    rw[<-aJH hl.2]
    have:(title p).length=4:=by
     cases p with
     | nil=>simp at hl
     | cons c r=>simpa [title] using hl.1
    unfold bG;simp[this,zeros]
   have e1:iH (p :: q)=q:=by simp[iH,h]
   have e2:aBY (p :: q)=title p:=by simp[aBY,h]
   rw[e1,e2]
   by_cases hr:iW q = []
   ·rw[if_pos hr,if_pos hr,Option.map_some,ht]
    congr 2
    cases q with
    | nil=>simp[aAm,bG]
    | cons p2 q2 =>
     by_cases h2:bF p2=true
     ·simp[aAm,h2]
     simp[aAm,h2,bG]
   rw[if_neg hr,if_neg hr];rfl
  have e1:iH (p :: q)=p :: q:=by simp[iH,h]
  have e2:aBY (p :: q)=zeros 4:=by simp[aBY,h]
  rw[if_neg (fun hh=>h hh.1),e1,e2]
  by_cases h2:bF p=true
  ·rw[if_pos ⟨h2,rfl⟩,aBN q _ _ (aCy h2)]
   have e3:iW (p :: q)=q:=by simp[iW,h2]
   have e4:aAm (p :: q)=bG 3 (p.map eF):=by simp[aAm,h2]
   rw[e3,e4]
   by_cases hq:q = []
   ·rw[if_pos hq,if_pos hq,Option.map_some,aHx]
   rw[if_neg hq,if_neg hq];rfl
  rw[if_neg (fun hh=>h2 hh.1)]
  have e3:iW (p :: q)=p :: q:=by simp[iW,h2]
  rw[e3,if_neg (by simp)];rfl
theorem aFv (s:List UInt8):lH s=(iV s).map aEj:=by
 unfold lH iV
 by_cases h:s=qU
 ·rw[if_pos h,if_pos h];rfl
 rw[if_neg h,if_neg h]
 cases splitOn 45 s with
 | nil=>rfl
 | cons p q =>
  show (if lF p=true/\iW (iH q) = [] then some (bG 3 (p.map dK)++aBY q++aAm (iH q)) else none)=(if lF p=true then (iF q [] []).map (fun x=>(p.map dK,x)) else none).map aEj
  have hl:=aHF q
  by_cases hp:lF p=true
  ·rw[if_pos hp]
   by_cases hr:iW (iH q) = []
   ·rw[if_pos ⟨hp,hr⟩]
    rw[if_pos hr] at hl
    cases hx:iF q [] [] with
    | none=>rw[hx] at hl;cases hl
    | some x =>
     rw[hx,Option.map_some,Option.some.injEq] at hl
     simp only[Option.map_some,aEj]
     rw[List.append_assoc,List.append_assoc,hl]
   rw[if_neg (fun hh=>hr hh.2)]
   rw[if_neg hr] at hl
   cases hx:iF q [] [] with
   | none=>rfl
   | some x=>rw[hx] at hl;cases hl
  rw[if_neg hp,if_neg (fun hh=>hp hh.1)];rfl
def aJd (x:mZ):Prop:=(x.1.length<=3/\(0:UInt8)∉x.1)/\(x.2.1.length<=4/\(0:UInt8)∉x.2.1)/\(x.2.2.length<=3/\(0:UInt8)∉x.2.2)
theorem aEN {p:List UInt8} (h:bM p=true):(jT p).length<=4/\(0:UInt8)∉jT p:=by
 have hl:p.length=4 /\ ∀ c∈p,lK c=true:=by simpa [bM] using h
 refine ⟨by simp[jT];omega,fun hm => ?_⟩
 unfold jT at hm
 rcases List.mem_append.1 hm with hm | hm
 ·obtain ⟨c,hc,e⟩:=List.mem_map.1 hm
  exact aJ8 c (hl.2 c (List.mem_of_mem_take hc)) e
 obtain ⟨c,hc,e⟩:=List.mem_map.1 hm
 exact aJZ c (hl.2 c (List.mem_of_mem_drop hc)) e
theorem aEB {p:List UInt8} (h:bF p=true):(p.map eF).length<=3/\(0:UInt8)∉p.map eF:=by
 have hl:(p.length=2 /\ ∀ c∈p,lK c=true)\/(p.length=3 /\ ∀ c∈p,rZ c=true):=by simpa [bF] using h
 refine ⟨by rw[List.length_map];omega,fun hm => ?_⟩
 obtain ⟨c,hc,e⟩:=List.mem_map.1 hm
 rcases hl with hl | hl
 ·exact aJ8 c (hl.2 c hc) e
 exact aLf c (hl.2 c hc) e
theorem wC:∀ (q:List (List UInt8)) (s r:List UInt8) (x:List UInt8×List UInt8),iF q s r=some x->(s.length<=4/\(0:UInt8)∉s)->(r.length<=3/\(0:UInt8)∉r)->(x.1.length<=4/\(0:UInt8)∉x.1)/\(x.2.length<=3/\(0:UInt8)∉x.2)
 | [],s,r,x,h,hs,hr=>by
  obtain rfl:=Option.some.inj h
  exact ⟨hs,hr⟩
 | p :: q,s,r,x,h,hs,hr=>by
  unfold iF at h
  split at h
  ·rename_i hh;exact wC q _ r x h (aEN hh.1) hr
  ·split at h
   ·rename_i hh;exact wC q s _ x h hs (aEB hh.1)
   ·cases h
theorem aAJ {s:List UInt8} {x:mZ} (h:iV s=some x):aJd x:=by
 unfold iV at h
 split at h
 ·obtain rfl:=Option.some.inj h
  exact ⟨⟨Nat.zero_le _,by simp⟩,⟨Nat.zero_le _,by simp⟩,⟨Nat.zero_le _,by simp⟩⟩
 cases hq:splitOn 45 s with
 | nil=>rw[hq] at h;cases h
 | cons p q =>
  rw[hq] at h
  have h:(if lF p=true then (iF q [] []).map (fun x=>(p.map dK,x)) else none)=some x:=h
  split at h
  ·rename_i hp
   cases hx:iF q [] [] with
   | none=>rw[hx] at h;cases h
   | some y =>
    simp only[hx,Option.map_some,Option.some.injEq] at h
    subst h
    have hl:(2<=p.length/\p.length<=3) /\ ∀ c∈p,lK c=true:=by simpa [lF] using hp
    have:=wC q [] [] y hx ⟨Nat.zero_le _,by simp⟩ ⟨Nat.zero_le _,by simp⟩
    refine ⟨⟨by simp;omega,fun hm => ?_⟩,this⟩
    obtain ⟨c,hc,e⟩:=List.mem_map.1 hm
    exact aJZ c (hl.2 c hc) e
  cases h
theorem sO:∀ l:List UInt8,l.takeWhile (· == 0)=zeros (l.takeWhile (· == 0)).length
 | []=>rfl
 | c :: l=>by
  rw[List.takeWhile_cons]
  split
  ·rename_i h
   have:c=0:=by simpa using h
   rw[this,List.length_cons]
   show 0 :: _=0 :: zeros _
   rw[<-sO l]
  ·rfl
theorem aA3 (n:Nat):(zeros n).reverse=zeros n:=by simp[zeros]
theorem aAE {n:Nat} {l:List UInt8} (h:l.length=n):bG n (partT l)=l:=by
 have h1:l=partT l++zeros (l.reverse.takeWhile (· == 0)).length:=by
  have h2:=List.takeWhile_append_dropWhile (p:=fun x:UInt8=>x == 0) (l:=l.reverse)
  have h3:=congrArg List.reverse h2
  rw[List.reverse_append,List.reverse_reverse,sO l.reverse,aA3] at h3
  exact h3.symm
 have h4:=congrArg List.length h1
 rw[List.length_append] at h4
 have h5:(zeros (l.reverse.takeWhile (· == 0)).length).length=(l.reverse.takeWhile (· == 0)).length:=by simp[zeros]
 unfold bG
 rw[show n - (partT l).length=(l.reverse.takeWhile (· == 0)).length by omega]
 exact h1.symm
theorem qH (n:Nat) (l:List UInt8):(zeros n++l).dropWhile (· == 0)=l.dropWhile (· == 0):=by
 induction n with
 | zero=>rfl
 | succ n ih =>
  show (0 :: (zeros n++l)).dropWhile (· == 0)=_
  rw[List.dropWhile_cons_of_pos (by rfl)]
  exact ih
theorem aAD {n:Nat} {x:List UInt8} (h:(0:UInt8)∉x):partT (bG n x)=x:=by
 unfold partT Lib.trimRightB bG
 rw[List.reverse_append,aA3,qH]
 have h1:x.reverse.dropWhile (· == 0)=x.reverse:=by
  cases hx:x.reverse with
  | nil=>rfl
  | cons c r =>
   rw[List.dropWhile_cons_of_neg]
   have hc:c∈x:=by rw[<-List.mem_reverse,hx];exact List.mem_cons_self
   intro he
   have:c=0:=by simpa using he
   exact h (this ▸ hc)
 rw[h1,List.reverse_reverse]
def cZ (b:List UInt8):mZ:=(partT (b.take 3),partT ((b.drop 3).take 4),partT (b.drop 7))
def fD (x:mZ):List UInt8:=if x.1 = [] then qU else x.1++dashed x.2.1++dashed x.2.2
def jV (b:List UInt8):mZ×Bool :=
 if (cZ b).1 = [] then (([], [], []),decide (cZ b=([], [], []))) else if iV (fD (cZ b))=some (cZ b) then (cZ b,true) else (([], [], []),false)
theorem uU {b:List UInt8} (hb:b.length=10):aEj (cZ b)=b:=by
 unfold aEj cZ
 simp only
 rw[aAE (by simp;omega),aAE (by simp;omega),aAE (by simp;omega),List.append_assoc]
 have e:(b.drop 3).take 4++b.drop 7=b.drop 3:=by
  rw[show b.drop 7=(b.drop 3).drop 4 by rw[List.drop_drop],List.take_append_drop]
 rw[e,List.take_append_drop]
theorem aH7 {x:mZ} (h:aJd x):cZ (aEj x)=x:=by
 obtain ⟨⟨h1,h2⟩,⟨h3,h4⟩,⟨h5,h6⟩⟩:=h
 have l1:(bG 3 x.1).length=3:=dM h1
 have l2:(bG 4 x.2.1).length=4:=dM h3
 have l3:(bG 3 x.2.2).length=3:=dM h5
 have e1:(aEj x).take 3=bG 3 x.1:=by
  unfold aEj;rw[List.append_assoc];exact List.take_left' l1
 have e2:(aEj x).drop 3=bG 4 x.2.1++bG 3 x.2.2:=by
  unfold aEj
  rw[List.append_assoc,List.drop_append_of_le_length (by omega),List.drop_of_length_le (by omega)];rfl
 have e3:(aEj x).drop 7=bG 3 x.2.2:=by
  rw[show (aEj x).drop 7=((aEj x).drop 3).drop 4 by rw[List.drop_drop],e2,List.drop_append_of_le_length (by omega),List.drop_of_length_le (by omega)];rfl
 unfold cZ
 rw[e1,e2,e3,List.take_left' l2,aAD h2,aAD h4,aAD h6]
theorem xM (l:List UInt8):splitOn 45 (45 :: l) = [] :: splitOn 45 l:=by
 show (if (45:UInt8)=45 then _ else _)=_
 rw[if_pos rfl]
theorem kJ {b:List UInt8} (hb:b.length=10):(jV b).2=aZ b:=by
 unfold jV
 by_cases h0:(cZ b).1 = []
 ·rw[if_pos h0]
  by_cases hz:cZ b=([], [], [])
  ·have hb0:b=zeros 10:=by rw[<-uU hb,hz];rfl
   rw[hz,hb0];decide
  have hbz:b≠zeros 10:=fun e=>hz (by rw[e];decide)
  rw[decide_eq_false hz]
  symm
  unfold aZ
  have ht:fF b=dashed (cZ b).2.1++dashed (cZ b).2.2:=by
   unfold fF
   rw[if_neg hbz]
   show (cZ b).1++_++_=_
   rw[h0];rfl
  have hd:∃ l,fF b=45 :: l:=by
   rw[ht]
   by_cases h1:(cZ b).2.1 = []
   ·by_cases h2:(cZ b).2.2 = []
    ·exact absurd (Prod.ext h0 (Prod.ext h1 h2)) hz
    rw[h1];unfold dashed;rw[if_pos rfl,if_neg h2];exact ⟨_,rfl⟩
   unfold dashed;rw[if_neg h1];exact ⟨_,rfl⟩
  obtain ⟨l,hl⟩:=hd
  have:lH (fF b)=none:=by
   rw[hl]
   unfold lH
   rw[if_neg (by intro e;have:=congrArg (fun z:List UInt8=>byt z 0) e;exact absurd this (by show ¬ (45:UInt8)=114;decide)),xM]
   show (if lF []=true/\iW (iH (splitOn 45 l)) = [] then some (bG 3 (([]:List UInt8).map dK)++aBY (splitOn 45 l)++aAm (iH (splitOn 45 l))) else none)=none
   rw[if_neg (fun hh=>absurd hh.1 (by decide))]
  rw[this];rfl
 rw[if_neg h0]
 have hbz:b≠zeros 10:=fun e=>h0 (by rw[e];decide)
 have ht:fF b=fD (cZ b):=by
  unfold fF fD
  rw[if_neg hbz,if_neg h0];rfl
 unfold aZ
 rw[ht,aFv]
 by_cases hr:iV (fD (cZ b))=some (cZ b)
 ·rw[if_pos hr,hr,Option.map_some,uU hb];simp
 rw[if_neg hr]
 symm
 cases hx:iV (fD (cZ b)) with
 | none=>rfl
 | some x =>
  rw[Option.map_some]
  rw[beq_eq_false_iff_ne]
  intro he
  have:aEj x=b:=Option.some.inj he
  exact hr (by rw[hx,<-this,aH7 (aAJ hx)])
theorem aF8 {b:List UInt8} (hb:b.length=10) (h:(jV b).2=true):(jV b).1.1 = [] ↔ b=zeros 10:=by
 unfold jV at h |-
 by_cases h0:(cZ b).1 = []
 ·rw[if_pos h0] at h |-
  simp only[true_iff]
  have hz:cZ b=([], [], []):=of_decide_eq_true h
  rw[<-uU hb,hz];rfl
 rw[if_neg h0] at h |-
 have hbz:b≠zeros 10:=fun e=>h0 (by rw[e];decide)
 by_cases hr:iV (fD (cZ b))=some (cZ b)
 ·rw[if_pos hr];exact ⟨fun e=>absurd e h0,fun e=>absurd e hbz⟩
 rw[if_neg hr] at h;cases h
end Go.Proofs.YtcedmfnlkelhkaaGreatDoor
namespace Go.Proofs.YtcedmfnlkelhkaaGreatDoor
set_option maxHeartbeats 40000000
set_option maxRecDepth 100000
open Go.RowKit

def rk (a b c:Int) (l:List UInt8):Array Value:=(.int .i64 a :: .int .i64 b :: .int .i64 c :: l.map fun b=>Value.int .u8 (b.toNat:Int)).toArray
theorem xR (a b c:Int) (l:List UInt8):rk a b c l = #[.int .i64 a,.int .i64 b,.int .i64 c]++aJ l:=by
 apply Array.ext';simp[rk,aJ]
@[go_sem] theorem iY (a b c:Int) (l:List UInt8):(rk a b c l).size=3+l.length:=by simp[xR]
@[go_sem] theorem aQ1 (a b c:Int) (l:List UInt8):(rk a b c l)[0]? = some (.int .i64 a):=by
 rw[xR];rw[Array.getElem?_append_left (by simp)];rfl
@[go_sem,simp] theorem aRL (a b c:Int) (l:List UInt8) (h:0<(rk a b c l).size):(rk a b c l)[0]'h = .int .i64 a:=by
 have:=aQ1 a b c l
 rw[Array.getElem?_eq_getElem h] at this
 exact Option.some.inj this
@[go_sem] theorem aQ2 (a b c:Int) (l:List UInt8):(rk a b c l)[1]? = some (.int .i64 b):=by
 rw[xR];rw[Array.getElem?_append_left (by simp)];rfl
@[go_sem,simp] theorem aRN (a b c:Int) (l:List UInt8) (h:1<(rk a b c l).size):(rk a b c l)[1]'h = .int .i64 b:=by
 have:=aQ2 a b c l
 rw[Array.getElem?_eq_getElem h] at this
 exact Option.some.inj this
@[go_sem] theorem aQ4 (a b c:Int) (l:List UInt8):(rk a b c l)[2]? = some (.int .i64 c):=by
 rw[xR];rw[Array.getElem?_append_left (by simp)];rfl
@[go_sem,simp] theorem aRO (a b c:Int) (l:List UInt8) (h:2<(rk a b c l).size):(rk a b c l)[2]'h = .int .i64 c:=by
 have:=aQ4 a b c l
 rw[Array.getElem?_eq_getElem h] at this
 exact Option.some.inj this
@[go_sem] theorem aQ5 (a b c:Int) (l:List UInt8) (i:Nat) (h:i<l.length):(rk a b c l)[3+i]? = some (.int .u8 ((byt l i).toNat:Int)):=by
 rw[xR]
 rw[Array.getElem?_append_right (by simp)]
 simp[lS l i h]
@[go_sem] theorem aBV (a b c:Int) (l:List UInt8) (o e:Nat) (h:3<=o):(rk a b c l).extract o e=aJ ((l.take (e - 3)).drop (o - 3)):=by
 rw[xR]
 rw[Array.extract_append]
 have:(#[Value.int .i64 a,.int .i64 b,.int .i64 c]:Array Value).extract o e = #[]:=by
  apply Array.ext';simp[List.extract_eq_take_drop];omega
 rw[this,Array.empty_append,kY]
 rfl
@[go_sem] theorem aP0 (a b c:Int) (l:List UInt8) (e:Nat) (h:3+l.length<=e):(rk a b c l).extract 0 e=rk a b c l:=by
 apply Array.extract_eq_self_of_le;simp[xR];omega
theorem aEr (a b c:Int) (l:List UInt8):(rk a b c l).all (·.oneCell')=true:=by
 have:=yN l
 rw[xR]
 rw[Array.all_append,this,Bool.and_true]
 simp[Value.oneCell']
@[go_sem] theorem aPZ (a b c:Int) (l:List UInt8) (i:Nat) (h:3+i<(rk a b c l).size):(rk a b c l)[3+i]'h = .int .u8 ((byt l i).toNat:Int):=by
 have:=aQ5 a b c l i (by rw[iY] at h;omega)
 rw[Array.getElem?_eq_getElem h] at this
 exact Option.some.inj this
@[go_sem] theorem aRM (a b c:Int) (l:List UInt8) (i:Nat) (h:12+i<l.length):(rk a b c l)[15+i]? = some (.int .u8 ((byt l (12+i)).toNat:Int)):=by
 have:=aQ5 a b c l (12+i) (by omega)
 simpa [show 3+(12+i)=15+i by omega] using this
@[go_sem] theorem aQ3 (a b c:Int) (l:List UInt8) (i:Nat) (h:15+i<(rk a b c l).size):(rk a b c l)[15+i]'h = .int .u8 ((byt l (12+i)).toNat:Int):=by
 have:=aPZ a b c l (12+i) (by omega)
 simpa [show 3+(12+i)=15+i by omega] using this
theorem aMX (a b c:Int) (l:List UInt8) (i:Nat) (v:UInt8):(rk a b c l).setIfInBounds (3+i) (.int .u8 (v.toNat:Int))=rk a b c (l.set i v):=by
 rw[xR,xR]
 rw[<-aEs]
 apply Array.ext_getElem?
 intro k
 by_cases hk:3+i=k
 ·subst hk
  by_cases h:i<l.length
  ·rw[Array.getElem?_setIfInBounds_self_of_lt (by simp;omega),Array.getElem?_append_right (by simp)]
   simp[h]
  rw[Array.getElem?_eq_none (by simp;omega),Array.getElem?_eq_none (by simp;omega)]
 rw[Array.getElem?_setIfInBounds_ne hk,Array.getElem?_append,Array.getElem?_append]
 split
 ·rfl
 rename_i h
 simp at h
 simp only[List.size_toArray,List.length_cons,List.length_nil]
 rw[Array.getElem?_setIfInBounds_ne (by omega)]
def iR (k:List UInt8):Array Value:=rk ((byt k 0).toNat) ((byt k 1).toNat) ((byt k 2).toNat) (k.drop 3)
@[go_sem] theorem dR:Tryz.prog.bJ 114=some 25:=by kernel_rfl
@[go_sem ↓ high] theorem aOt (a:Addr):loadVar 114 a=eX 114 a:=rfl
@[go_sem ↓ high] theorem aPa (a:Addr) (v:Value):storeVar 114 a v=bH 114 a v:=rfl
@[go_sem] theorem aH0 {P:Program} {w:World} {t:TypeId} {n o:Nat} {a b c:Int} {l:List UInt8} (ht:P.bJ t=some (3+l.length)) (hc:w.aN n o (3+l.length)=true) :
  (bH t ⟨n,o,none⟩ (.agg (rk a b c l))).run P w = .ok () (w.lay n o (rk a b c l)) :=
 nM (by rw[ht,iY]) (by rw[iY];exact hc) (aEr a b c l)
set_option maxRecDepth 100000 in
theorem sK (k:List UInt8) (hk:k.length=25) (w:World):Gives Tryz.prog 160 #[.agg (iR k)] w (.agg (aJ k)):=by
 have hk25:=hk
 have hl:(k.drop 3).length=22:=by simp;omega
 have h0:IntKind.u8.wrap ((byt k 0).toNat:Int)=(byt k 0).toNat:=by have:=(byt k 0).toNat_lt;simp[IntKind.wrap,IntKind.bits,IntKind.signed];omega
 have h1:IntKind.u8.wrap ((byt k 1).toNat:Int)=(byt k 1).toNat:=by have:=(byt k 1).toNat_lt;simp[IntKind.wrap,IntKind.bits,IntKind.signed];omega
 have h2:IntKind.u8.wrap ((byt k 2).toNat:Int)=(byt k 2).toNat:=by have:=(byt k 2).toNat_lt;simp[IntKind.wrap,IntKind.bits,IntKind.signed];omega
 unfold iR
 generalize hll:k.drop 3=l at *
 generalize hb0:byt k 0=b0 at *
 generalize hb1:byt k 1=b1 at *
 generalize hb2:byt k 2=b2 at *
 have HL:=Lib.hid hll
 have HB0:=Lib.hid hb0
 have HB1:=Lib.hid hb1
 have HB2:=Lib.hid hb2
 clear hll hb0 hb1 hb2
 obtain ⟨k0,hk0⟩:∃ k0,k0=k:=⟨_,rfl⟩
 have HK:=Lib.hid hk0
 rw[<-hk0]
 clear hk0
 unfold Gives
 go_enter Tryz.func160,Tryz.ntmps160
 go_wp2_with fail
 go_region
 go_wp2_with fail
 go_loopw [4] (fun i wr => ∃ (k d:Nat),k<=12/\i = .int .i64 k/\wr=(((w.alloc (.cells (rk b0.toNat b1.toNat b2.toNat l) 114)).alloc (.cells (aJ (zeros 25)) 260)).alloc (.cells (aJ ([b0,b1,b2]++bG 22 (l.take k))) 260)).drewN d) (fun i _=>12 - (intOf i).toNat)
 case atStart=>exact ⟨0,1,by omega,rfl,rfl⟩
 obtain ⟨k,d,hk,rfl,rfl⟩:=hrel
 by_cases hlt:k<12
 ·have hset:=yE [b0,b1,b2] l 22 k (by omega) (by omega)
  have hlen:([b0,b1,b2]++bG 22 (l.take k)).length=25:=by rw[List.length_append,dM (by simp;omega)];rfl
  have hk22:k<22:=by omega
  have hkl:3+k<([b0,b1,b2]++bG 22 (l.take k)).length:=by omega
  simp only[List.length_cons,List.length_nil,Nat.zero_add,Nat.reduceAdd] at hset
  generalize [b0,b1,b2]++bG 22 (l.take k)=tk at *
  have HSET:=Lib.hid hset
  clear hset hlen
  go_wp2_with fail
  go_roundw
  case rel=>exact ⟨k+1,_,by omega,by go_num,by rw[HSET.out]⟩
  simp[intOf];omega
 have:k=12:=by omega
 subst this
 go_wp2_with fail
 go_loopw [5] (fun i wr => ∃ (k d:Nat),k<=10/\i = .int .i64 k/\wr=(((w.alloc (.cells (rk b0.toNat b1.toNat b2.toNat l) 114)).alloc (.cells (aJ (zeros 25)) 260)).alloc (.cells (aJ ([b0,b1,b2]++bG 22 (l.take (12+k)))) 260)).drewN d) (fun i _=>10 - (intOf i).toNat)
 case atStart=>exact ⟨0,d,by omega,rfl,rfl⟩
 obtain ⟨k,d,hk,rfl,rfl⟩:=hrel
 by_cases hlt:k<10
 ·have hset:=yE [b0,b1,b2] l 22 (12+k) (by omega) (by omega)
  have hlen:([b0,b1,b2]++bG 22 (l.take (12+k))).length=25:=by rw[List.length_append,dM (by simp;omega)];rfl
  have hk22:12+k<22:=by omega
  have hkl:15+k<([b0,b1,b2]++bG 22 (l.take (12+k))).length:=by omega
  simp only[List.length_cons,List.length_nil,Nat.zero_add,Nat.reduceAdd,<-Nat.add_assoc] at hset
  generalize [b0,b1,b2]++bG 22 (l.take (12+k))=tk at *
  have HSET:=Lib.hid hset
  clear hset hlen
  go_wp2_with fail
  go_roundw
  case rel=>exact ⟨k+1,_,by omega,by go_num,by rw[HSET.out];rfl⟩
  simp[intOf];omega
 have:k=10:=by omega
 subst this
 have hfin : [b0,b1,b2]++bG 22 (l.take (12+10))=k0:=by
  rw[HK.out,<-HL.out,<-HB0.out,<-HB1.out,<-HB2.out]
  match k,hk25 with
  | [a,b,c,d,e,f,g,i,j,l,m,n,o,p,q,r,s,t,u,v,w,x,y,z,a2],_=>rfl
 have hk0:k0.length=25:=by rw[HK.out];exact hk25
 rw[hfin]
 clear hfin
 go_wp2_with fail
 exact bodyPost_ret (v := .agg (aJ k0)) (fE Tryz.results160 (aO.row rfl aGY (by simp[go_sem,hk0]))) rfl ⟨rfl,blw⟩
theorem aEd:∀ (a b:List UInt8) (k:Nat),k<a.length->a.length=b.length->a.take k=b.take k -> ¬ byt a k=byt b k->oL a b=decide ((byt a k).toNat<(byt b k).toNat)
 | [],_,k,h,_,_,_=>by simp at h
 | x :: a, [],k,_,h,_,_=>by simp at h
 | x :: a,y :: b,0,_,_,_,hne=>by
  have hne:¬ x=y:=hne
  unfold oL
  rw[if_neg hne]
  show decide (x<y)=decide (x.toNat<y.toNat)
  rw[decide_eq_decide];exact UInt8.lt_iff_toNat_lt
 | x :: a,y :: b,k+1,h1,h2,h3,hne=>by
  simp only[List.take_succ_cons,List.cons.injEq] at h3
  unfold oL
  rw[if_pos h3.1]
  exact aEd a b k (by simpa using h1) (by simpa using h2) h3.2 hne
theorem aBL:∀ a:List UInt8,oL a a=false
 | []=>rfl
 | x :: a=>by unfold oL;rw[if_pos rfl];exact aBL a
theorem aIO {a b:UInt8}:((a.toNat:Int) != (b.toNat:Int)) = !(a == b):=by
 rw[Bool.eq_iff_iff];simp[<-UInt8.toNat_inj];omega
theorem aHc {a b:List UInt8} {k:Nat} (ha:k<a.length) (hb:k<b.length) (h:a.take k=b.take k) (he:byt a k=byt b k):a.take (k+1)=b.take (k+1):=by
 rw[List.take_succ_eq_append_getElem ha,List.take_succ_eq_append_getElem hb,h,bP ha,bP hb,he]

set_option maxRecDepth 100000 in
theorem aBp (a b:List UInt8) (ha:a.length=25) (hb:b.length=25) (w:World):Gives Tryz.prog 143 #[.agg (iR a),.agg (iR b)] w (.bool (oL a b)):=by
 have h1:=sK a ha
 have h2:=sK b hb
 have l1:(a.drop 3).length=22:=by simp;omega
 have l2:(b.drop 3).length=22:=by simp;omega
 unfold iR at h1 h2 |-
 have H1:=Lib.hid h1
 have H2:=Lib.hid h2
 generalize a.drop 3=l at *
 generalize b.drop 3=m at *
 clear h1 h2
 unfold Gives
 go_enter Tryz.func143,Tryz.ntmps143
 go_wp2_with fail
 apply aG (by rfl) [.val _,.val _,.val _,.val _,.new _,.new _] 6 (by rfl) [8,9,10,11,5,6] [4,5] [] (by rfl) (by rfl) (by decide) (by decide +kernel) (fun _ _ _ _ _ h=>h)
 case hF=>intro x;simp only[over,List.foldl_cons,List.foldl_nil,List.setIfInBounds_toArray,List.set_cons_succ,List.set_cons_zero];exact rfl
 case hops =>
  refine ⟨?o0,?o1,?o2,?o3,?o4,?o5,trivial⟩
  case o0 =>
   intro x w1 hH K hK
   obtain ⟨xs,d,rfl⟩:=aA hH.below
   clear hH
   try simp only[World.aB] at hK |-
   try simp only[World.grow_grow] at hK |-
   exact zw
  case o1 =>
   intro x w1 hH K hK
   have e8:x 8=_:=hH.g 0 8
   obtain ⟨xs,d,rfl⟩:=aA hH.below
   clear hH
   try simp only[World.aB] at hK |-
   try simp only[World.grow_grow] at hK |-
   simp only[e8] at hK |-
   clear e8
   go_simp
   go_wp2_with (refine Gives.use (H1.out _) ?_;intro ys e)
   exact zu
  case o2 =>
   intro x w1 hH K hK
   obtain ⟨xs,d,rfl⟩:=aA hH.below
   clear hH
   try simp only[World.aB] at hK |-
   try simp only[World.grow_grow] at hK |-
   exact zw
  case o3 =>
   intro x w1 hH K hK
   have e10:x 10=_:=hH.g 2 10
   obtain ⟨xs,d,rfl⟩:=aA hH.below
   clear hH
   try simp only[World.aB] at hK |-
   try simp only[World.grow_grow] at hK |-
   simp only[e10] at hK |-
   clear e10
   go_simp
   go_wp2_with (refine Gives.use (H2.out _) ?_;intro ys e)
   exact zu
  case o4 =>
   intro x w1 hH K hK
   obtain ⟨xs,d,rfl⟩:=aA hH.below
   clear hH
   try simp only[World.aB] at hK |-
   try simp only[World.grow_grow] at hK |-
   go_simp
   go_wp2_with fail
   exact lJ rfl (by simp) (by first | (simp;done) | (simp;omega))
  case o5 =>
   intro x w1 hH K hK
   obtain ⟨xs,d,rfl⟩:=aA hH.below
   clear hH
   try simp only[World.aB] at hK |-
   try simp only[World.grow_grow] at hK |-
   go_simp
   go_wp2_with fail
   exact lJ rfl (by simp) (by first | (simp;done) | (simp;omega))
 intro x w1 hH
 have e8:x 8=_:=hH.t 0 8
 have e9:x 9=_:=hH.t 1 9
 have e10:x 10=_:=hH.t 2 10
 have e11:x 11=_:=hH.t 3 11
 obtain ⟨b5,e5,l5,u5,o5⟩:=hH.t 4 5
 obtain ⟨b6,e6,l6,u6,o6⟩:=hH.t 5 6
 have n5_6:b5≠b6:=fun h=>hH.apart 4 (by decide) 5 (by decide) (by decide) (by decide) trivial trivial (by decide) 5 6 rfl rfl (by rw[e5,e6,h])
 have n6_5:=n5_6.symm
 obtain ⟨xs,d,rfl⟩:=aA hH.below
 clear hH
 simp only[e8,e9,e10,e11,e5,e6];clear e8 e9 e10 e11 e5 e6
 refine aBQ o5 l5 u5 o6 l6 u6 ?_
 clear o5 o6
 simp[go_sem] at l5 u5 l6 u6
 simp only[List.drop_succ_cons,List.drop_zero]
 clear H1 H2
 go_wp2_with fail
 refine aP ?_
 intro W hW
 have hc5:∀ i,i<25->W.cell? ⟨b5,i,none⟩=some (.int .u8 ((byt a i).toNat:Int)):=by
  intro i hi;rw[hW];simp[go_sem, *]
 have hc6:∀ i,i<25->W.cell? ⟨b6,i,none⟩=some (.int .u8 ((byt b i).toNat:Int)):=by
  intro i hi;rw[hW];simp[go_sem, *]
 have hbl:Below w.heap.size w W:=by rw[hW];exact blw
 clear hW l5 u5 l6 u6 n5_6 n6_5
 have HC5:=Lib.hid hc5
 have HC6:=Lib.hid hc6
 clear hc5 hc6
 go_loopw [7] (fun i wr => ∃ (k d:Nat),k<=25/\i = .int .i64 k/\Hid (a.take k=b.take k)/\wr=W.drewN d) (fun i _=>25 - (intOf i).toNat)
 case atStart=>exact ⟨0,0,by omega,rfl,Lib.hid rfl,rfl⟩
 obtain ⟨k,d,hk,rfl,ht,rfl⟩:=hrel
 by_cases hlt:k<25
 ·have c5:=HC5.out k hlt
  have c6:=HC6.out k hlt
  have hkI:(k:Int)<25:=by omega
  by_cases he:byt a k=byt b k
  ·have hne:(((byt a k).toNat:Int) != ((byt b k).toNat:Int))=false:=by rw[he];simp
   have hts:=aHc (by omega) (by omega) ht.out he
   have HTS:=Lib.hid hts
   clear hts he
   go_wp2_with fail
   go_quiet (fail)
   go_wp2_with fail
   go_roundw
   case rel=>exact ⟨k+1,_,by omega,by go_num,HTS,rfl⟩
   simp[intOf];omega
  have hne:(((byt a k).toNat:Int) != ((byt b k).toNat:Int))=true:=by rw[aIO];simp[he]
  have hl:=aEd a b k (by omega) (by omega) ht.out he
  have HLL:=Lib.hid hl
  clear hl he
  go_wp2_with fail
  go_quiet (fail)
  go_wp2_with fail
  go_quiet (fail)
  go_wp2_with fail
  go_ret
  exact ⟨congrArg Ending.returned (congrArg Value.bool HLL.out.symm),((hbl.drewN _).drewN _).drewN _⟩
 have:k=25:=by omega
 subst this
 have hab:a=b:=by
  have:=ht.out
  rwa [List.take_of_length_le (by omega),List.take_of_length_le (by omega)] at this
 have hl:oL a b=false:=by rw[hab];exact aBL b
 have HLL:=Lib.hid hl
 clear hl hab
 go_wp2_with fail
 go_ret
 exact ⟨congrArg Ending.returned (congrArg Value.bool HLL.out.symm),hbl.drewN _⟩
@[go_sem] theorem aQR (a b c:Int):(#[.int .i64 a,.int .i64 b,.int .i64 c,.int .u8 0,.int .u8 0,.int .u8 0,.int .u8 0,.int .u8 0,.int .u8 0,.int .u8 0,.int .u8 0,.int .u8 0,.int .u8 0,.int .u8 0,.int .u8 0,.int .u8 0,.int .u8 0,.int .u8 0,.int .u8 0,.int .u8 0,.int .u8 0,.int .u8 0,.int .u8 0,.int .u8 0,.int .u8 0]:Array Value)=rk a b c (zeros 22):=rfl
@[go_sem] theorem aDH (a b c:Int) (l m:List UInt8) (o:Nat) (h1:3<=o) (h:o+m.length<=3+l.length):bT (rk a b c l) o (aJ m)=rk a b c (spl l (o - 3) m):=by
 obtain ⟨p,rfl⟩:∃ p,o=3+p:=⟨o - 3,by omega⟩
 rw[Nat.add_sub_cancel_left]
 rw[xR,xR,<-aEI _ _ _ (by omega)]
 apply Array.ext_getElem?
 intro j
 rw[iZ (by simp;omega),Array.getElem?_append,Array.getElem?_append]
 simp only[List.size_toArray,List.length_cons,List.length_nil,oN]
 by_cases h2:j<3
 ·rw[if_neg (by omega),if_pos h2,if_pos h2]
 rw[if_neg h2,if_neg h2,iZ (by simp;omega),oN]
 by_cases h3:3+p<=j/\j<3+p+m.length
 ·rw[if_pos h3,if_pos (by omega)];congr 1;omega
 rw[if_neg h3,if_neg (by omega)]
@[go_sem] theorem aNs (a b c:Int) (l:List UInt8) (i:Nat) (v:UInt8):(rk a b c l).setIfInBounds (15+i) (.int .u8 (v.toNat:Int))=rk a b c (l.set (12+i) v):=by
 have:=aMX a b c l (12+i) v
 rwa [show 3+(12+i)=15+i by omega] at this
@[go_sem] theorem aP1 (a b c x:Int) (l:List UInt8):(rk a b c l).setIfInBounds 0 (.int .i64 x)=rk x b c l:=by simp[rk]
@[go_sem] theorem aP2 (a b c x:Int) (l:List UInt8):(rk a b c l).setIfInBounds 1 (.int .i64 x)=rk a x c l:=by simp[rk]
@[go_sem] theorem aK1 (a b c x:Int) (l:List UInt8):(rk a b c l).setIfInBounds 2 (.int .i64 x)=rk a b x l:=by simp[rk]
theorem jA (b:UInt8):wrap64 (b.toNat:Int)=b.toNat:=by
 have h:=b.toNat_lt
 unfold wrap64
 omega
theorem aId (l:List UInt8) (h:l.length=12):spl (zeros 22) 0 l=l++zeros 10:=by
 simp[spl,h]
 rw[List.take_of_length_le (by simp[zeros,h])]
 simp[zeros]
set_option maxRecDepth 100000 in
theorem aDl (k:List UInt8) (hk:k.length=25) (w:World):Gives Tryz.prog 42 #[.agg (aJ k)] w (.agg (iR k)):=by
 have h0:wrap64 ((byt k 0).toNat:Int)=(byt k 0).toNat:=jA _
 have h1:wrap64 ((byt k 1).toNat:Int)=(byt k 1).toNat:=jA _
 have h2:wrap64 ((byt k 2).toNat:Int)=(byt k 2).toNat:=jA _
 have hn:(List.drop 3 (List.take 15 k)).length=12:=by simp;omega
 have ht:(k.drop 15).length=10:=by simp;omega
 have hsp:=aId _ hn
 have hfin:List.drop 3 (List.take 15 k)++k.drop 15=k.drop 3:=by
  rw[List.drop_take,show 15 - 3=12 from rfl,show k.drop 15=(k.drop 3).drop 12 by rw[List.drop_drop],List.take_append_drop]
 have hbyt:∀ i,i<10->byt k (15+i)=byt (k.drop 15) i:=by
  intro i hi
  unfold byt
  rw[List.getD_eq_getElem?_getD,List.getD_eq_getElem?_getD,List.getElem?_drop]
 unfold iR
 rw[<-hfin]
 generalize hnn:List.drop 3 (List.take 15 k)=n12 at *
 have HN:=Lib.hid hnn
 have HB:=Lib.hid hbyt
 have HSP:=Lib.hid hsp
 generalize k.drop 15=t at *
 clear hsp hfin hbyt hnn
 unfold Gives
 go_enter Tryz.func42,Tryz.ntmps42
 go_wp2_with fail
 go_loopw [4] (fun i wr => ∃ (q d:Nat),q<=10/\i = .int .i64 q/\wr=(((w.alloc (.cells (aJ k) 132)).alloc (.cells (rk 0 0 0 (zeros 22)) 114)).alloc (.cells (rk (byt k 0).toNat (byt k 1).toNat (byt k 2).toNat (n12++bG 10 (t.take q))) 114)).drewN d) (fun i _=>10 - (intOf i).toNat)
 case atStart=>exact ⟨0,0,by omega,rfl,by rw[List.take_zero,oM,<-HSP.out,HN.out];rfl⟩
 obtain ⟨q,d,hq,rfl,rfl⟩:=hrel
 by_cases hlt:q<10
 ·have hset:=yE n12 t 10 q (by omega) (by omega)
  have hlen:(n12++bG 10 (t.take q)).length=22:=by rw[List.length_append,dM (by simp;omega)];omega
  rw[hn] at hset
  have hqk:15+q<25:=by omega
  have hb:=HB.out q hlt
  generalize n12++bG 10 (t.take q)=tk at *
  have HSET:=Lib.hid hset
  have HBB:=Lib.hid hb
  clear hset hb
  by_cases h3:q<3
  ·go_wp2_with fail
   go_roundw
   case rel=>exact ⟨q+1,_,by omega,by go_num,by rw[HBB.out,HSET.out]⟩
   simp[intOf];omega
  by_cases h7:q<7
  ·obtain ⟨j,rfl⟩:∃ j,q=3+j:=⟨q - 3,by omega⟩
   have hj:18+j<25:=by omega
   have hbb:=HBB.out
   rw[show 15+(3+j)=18+j by omega] at hbb
   have HB2:=Lib.hid hbb
   clear hbb
   go_wp2_with fail
   go_roundw
   case rel=>exact ⟨3+j+1,_,by omega,by go_num,by rw[<-HSET.out,<-HB2.out]⟩
   simp[intOf];omega
  obtain ⟨j,rfl⟩:∃ j,q=7+j:=⟨q - 7,by omega⟩
  have hj:22+j<25:=by omega
  have hbb:=HBB.out
  rw[show 15+(7+j)=22+j by omega] at hbb
  have HB2:=Lib.hid hbb
  clear hbb
  go_wp2_with fail
  go_roundw
  case rel=>exact ⟨7+j+1,_,by omega,by go_num,by rw[<-HSET.out,<-HB2.out]⟩
  simp[intOf];omega
 have:q=10:=by omega
 subst this
 have hp:bG 10 (t.take 10)=t:=by rw[List.take_of_length_le (by omega)];unfold bG;simp[ht,zeros]
 rw[hp]
 clear hp
 go_wp2_with fail
 exact bodyPost_ret (v := .agg (rk (byt k 0).toNat (byt k 1).toNat (byt k 2).toNat (n12++t))) (fE Tryz.results42 (aO.row rfl dR (by simp[go_sem,hn,ht]))) rfl ⟨rfl,blw⟩
end Go.Proofs.YtcedmfnlkelhkaaGreatDoor

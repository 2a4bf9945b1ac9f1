/- Layer 5 in plain Lean: which tags are right; a tag's parents; its chain. -/
import Derived.Test.YtcedmfnlkelhkaaGreatDoorJay
import Derived.Test.YtcedmfnlkelhkaaGreatDoorJam
namespace Go.Proofs.YtcedmfnlkelhkaaGreatDoor

structure aMy (x:mZ):Prop where
 lang:lF x.1=true/\x.1.map dK=x.1
 script:x.2.1 = []\/(bM x.2.1=true/\jT x.2.1=x.2.1)
 region:x.2.2 = []\/(bF x.2.2=true/\x.2.2.map eF=x.2.2)
theorem aAP {c:UInt8}:∀ {x:List UInt8},c∉x->splitOn c x = [x]
 | [],_=>rfl
 | b :: x,h=>by
  unfold splitOn
  rw[if_neg (fun e=>h (by rw[e];exact List.mem_cons_self)),aAP (fun hm=>h (List.mem_cons_of_mem _ hm))]
theorem aAO {c:UInt8}:∀ {x l:List UInt8},c∉x->splitOn c (x++c :: l)=x :: splitOn c l
 | [],l,_=>by
  show (if c=c then _ else _)=_
  rw[if_pos rfl]
 | b :: x,l,h=>by
  show (if b=c then [] :: splitOn c (x++c :: l) else match splitOn c (x++c :: l) with | p :: r=>(b :: p) :: r | [] => [[b]])=_
  rw[if_neg (fun e=>h (by rw[e];exact List.mem_cons_self)),aAO (fun hm=>h (List.mem_cons_of_mem _ hm))]
theorem aHC:∀ c:UInt8,lK c=true->c≠45:=jQ (by decide +kernel)
theorem aLe:∀ c:UInt8,rZ c=true->c≠45:=jQ (by decide +kernel)
theorem aHG:∀ c:UInt8,lK c=true->lK (dK c)=true:=jQ (by decide +kernel)
theorem aHl:∀ c:UInt8,lK c=true->lK (eF c)=true:=jQ (by decide +kernel)
theorem aKo:∀ c:UInt8,rZ c=true->rZ (eF c)=true:=jQ (by decide +kernel)
theorem aHH:∀ c:UInt8,dK (dK c)=dK c:=jQ (by decide +kernel)
theorem aHm:∀ c:UInt8,eF (eF c)=eF c:=jQ (by decide +kernel)
theorem aKH {p:List UInt8} (h:lF p=true):(45:UInt8)∉p:=by
 have hl:(2<=p.length/\p.length<=3) /\ ∀ c∈p,lK c=true:=by simpa [lF] using h
 exact fun hm=>aHC _ (hl.2 _ hm) rfl
theorem aH1 {p:List UInt8} (h:bM p=true):(45:UInt8)∉p:=by
 have hl:p.length=4 /\ ∀ c∈p,lK c=true:=by simpa [bM] using h
 exact fun hm=>aHC _ (hl.2 _ hm) rfl
theorem aCx {p:List UInt8} (h:bF p=true):(45:UInt8)∉p:=by
 have hl:(p.length=2 /\ ∀ c∈p,lK c=true)\/(p.length=3 /\ ∀ c∈p,rZ c=true):=by simpa [bF] using h
 intro hm
 rcases hl with hl | hl
 ·exact aHC _ (hl.2 _ hm) rfl
 exact aLe _ (hl.2 _ hm) rfl
theorem aBv {p:List UInt8} (h:bF p=true):bM p=false:=by
 have hl:(p.length=2 /\ ∀ c∈p,lK c=true)\/(p.length=3 /\ ∀ c∈p,rZ c=true):=by simpa [bF] using h
 unfold bM
 rw[decide_eq_false (by omega)];rfl
theorem aFP {x:mZ} (h:aMy x):splitOn 45 (fD x)=x.1 :: ((if x.2.1 = [] then [] else [x.2.1])++(if x.2.2 = [] then [] else [x.2.2])):=by
 obtain ⟨l,s,r⟩:=x
 obtain ⟨⟨h1, -⟩,h2,h3⟩:=h
 simp only at h1 h2 h3 |-
 have hl:=aKH h1
 have hne:l ≠ []:=fun e=>by subst e;simp[lF] at h1
 unfold fD
 rw[if_neg hne]
 unfold dashed
 by_cases hs:s = []
 ·by_cases hr:r = []
  ·rw[if_pos hs,if_pos hr,if_pos hs,if_pos hr,List.append_nil,List.append_nil,aAP hl];rfl
  rw[if_pos hs,if_neg hr,if_pos hs,if_neg hr,List.append_nil,aAO hl,aAP (aCx (h3.resolve_left hr).1)];rfl
 have h45:=aH1 (h2.resolve_left hs).1
 by_cases hr:r = []
 ·rw[if_neg hs,if_pos hr,if_neg hs,if_pos hr,List.append_nil,aAO hl,aAP h45];rfl
 rw[if_neg hs,if_neg hr,if_neg hs,if_neg hr,List.append_assoc,List.cons_append,aAO hl,aAO h45,aAP (aCx (h3.resolve_left hr).1)];rfl
theorem aGa {x:mZ} (h:aMy x):iV (fD x)=some x:=by
 have hsp:=aFP h
 have hroot:fD x≠qU:=by
  intro e
  rw[e] at hsp
  have e2:splitOn 45 qU = [qU]:=by decide
  rw[e2] at hsp
  have e3:qU=x.1:=(List.cons.inj hsp).1
  have:=h.lang.1
  rw[<-e3] at this
  exact absurd this (by decide)
 unfold iV
 rw[if_neg hroot,hsp]
 show (if lF x.1=true then (iF _ [] []).map (fun y=>(x.1.map dK,y)) else none)=some x
 rw[if_pos h.lang.1,h.lang.2]
 have hloop:iF ((if x.2.1 = [] then [] else [x.2.1])++(if x.2.2 = [] then [] else [x.2.2])) [] []=some x.2:=by
  obtain ⟨l,s,r⟩:=x
  obtain ⟨-,h2,h3⟩:=h
  simp only at h2 h3 |-
  by_cases hs:s = []
  ·by_cases hr:r = []
   ·subst hs hr;rfl
   obtain ⟨k1,k2⟩:=h3.resolve_left hr
   rw[if_pos hs,if_neg hr]
   show iF [r] [] []=_
   unfold iF
   rw[if_neg (fun hh=>by have:=aBv k1;rw[hh.1] at this;cases this),if_pos ⟨k1,rfl⟩,k2,hs]
   rfl
  obtain ⟨j1,j2⟩:=h2.resolve_left hs
  by_cases hr:r = []
  ·rw[if_neg hs,if_pos hr]
   show iF [s] [] []=_
   unfold iF
   rw[if_pos ⟨j1,rfl,rfl⟩,j2,hr]
   rfl
  obtain ⟨k1,k2⟩:=h3.resolve_left hr
  rw[if_neg hs,if_neg hr]
  show iF [s,r] [] []=_
  unfold iF
  rw[if_pos ⟨j1,rfl,rfl⟩,j2]
  unfold iF
  rw[if_neg (fun hh=>hs hh.2.1),if_pos ⟨k1,rfl⟩,k2]
  rfl
 rw[hloop]
 rfl
theorem aHf {p:List UInt8} (h:bM p=true):bM (jT p)=true/\jT (jT p)=jT p:=by
 have hl:p.length=4 /\ ∀ c∈p,lK c=true:=by simpa [bM] using h
 cases p with
 | nil=>simp at hl
 | cons c q =>
  have e:jT (c :: q)=eF c :: q.map dK:=rfl
  rw[e]
  constructor
  ·have h1:∀ d∈eF c :: q.map dK,lK d=true:=by
    intro d hd
    rcases List.mem_cons.1 hd with rfl | hd
    ·exact aHl _ (hl.2 c List.mem_cons_self)
    obtain ⟨g,hg,rfl⟩:=List.mem_map.1 hd
    exact aHG _ (hl.2 g (List.mem_cons_of_mem _ hg))
   unfold bM
   rw[decide_eq_true (by simpa using hl.1),List.all_eq_true.2 h1];rfl
  show eF (eF c) :: (q.map dK).map dK=_
  rw[aHm,List.map_map]
  congr 1
  exact List.map_congr_left (fun d _=>aHH d)
theorem aFa {p:List UInt8} (h:bF p=true):bF (p.map eF)=true/\(p.map eF).map eF=p.map eF:=by
 have hl:(p.length=2 /\ ∀ c∈p,lK c=true)\/(p.length=3 /\ ∀ c∈p,rZ c=true):=by simpa [bF] using h
 constructor
 ·rcases hl with hl | hl
  ·have h1:∀ d∈p.map eF,lK d=true:=by
    intro d hd
    obtain ⟨g,hg,rfl⟩:=List.mem_map.1 hd
    exact aHl _ (hl.2 g hg)
   unfold bF
   rw[decide_eq_true (by simpa using hl.1),List.all_eq_true.2 h1];rfl
  have h1:∀ d∈p.map eF,rZ d=true:=by
   intro d hd
   obtain ⟨g,hg,rfl⟩:=List.mem_map.1 hd
   exact aKo _ (hl.2 g hg)
  unfold bF
  rw[decide_eq_true (by simpa using hl.1:(p.map eF).length=3),List.all_eq_true.2 h1];simp
 rw[List.map_map]
 exact List.map_congr_left (fun d _=>aHm d)
theorem zV:∀ (q:List (List UInt8)) (s r:List UInt8) (x:List UInt8×List UInt8),iF q s r=some x->(s = []\/(bM s=true/\jT s=s))->(r = []\/(bF r=true/\r.map eF=r))->(x.1 = []\/(bM x.1=true/\jT x.1=x.1))/\(x.2 = []\/(bF x.2=true/\x.2.map eF=x.2))
 | [],s,r,x,h,hs,hr=>by
  obtain rfl:=Option.some.inj h
  exact ⟨hs,hr⟩
 | p :: q,s,r,x,h,hs,hr=>by
  unfold iF at h
  split at h
  ·rename_i hh;exact zV q _ r x h (.inr (aHf hh.1)) hr
  ·split at h
   ·rename_i hh;exact zV q s _ x h hs (.inr (aFa hh.1))
   ·cases h
theorem aJo {s:List UInt8} {x:mZ} (h:iV s=some x):x=([], [], [])\/aMy x:=by
 unfold iV at h
 split at h
 ·exact .inl (Option.some.inj h).symm
 cases hq:splitOn 45 s with
 | nil=>rw[hq] at h;cases h
 | cons p q =>
  rw[hq] at h
  have h:(if lF p=true then (iF q [] []).map (fun x=>(p.map dK,x)) else none)=some x:=h
  split at h
  ·rename_i hp
   cases hx:iF q [] [] with
   | none=>rw[hx] at h;cases h
   | some y =>
    simp only[hx,Option.map_some,Option.some.injEq] at h
    subst h
    have hl:(2<=p.length/\p.length<=3) /\ ∀ c∈p,lK c=true:=by simpa [lF] using hp
    have:=zV q [] [] y hx (.inl rfl) (.inl rfl)
    refine .inr ⟨⟨?_,?_⟩,this.1,this.2⟩
    ·have h1:∀ d∈p.map dK,lK d=true:=by
      intro d hd
      obtain ⟨g,hg,rfl⟩:=List.mem_map.1 hd
      exact aHG _ (hl.2 g hg)
     unfold lF
     rw[List.all_eq_true.2 h1,List.length_map,decide_eq_true hl.1.1,decide_eq_true hl.1.2];rfl
    show (p.map dK).map dK=_
    rw[List.map_map]
    exact List.map_congr_left (fun d _=>aHH d)
  cases h
theorem aDB {b:List UInt8} (hb:b.length=10):aZ b=true ↔ b=zeros 10\/aMy (cZ b):=by
 rw[<-kJ hb]
 unfold jV
 by_cases h0:(cZ b).1 = []
 ·rw[if_pos h0]
  constructor
  ·intro h
   have hz:cZ b=([], [], []):=of_decide_eq_true h
   exact .inl (by rw[<-uU hb,hz];rfl)
  rintro (h | h)
  ·rw[h];decide
  have:=h.lang.1
  rw[h0] at this
  exact absurd this (by decide)
 rw[if_neg h0]
 constructor
 ·intro h
  by_cases hr:iV (fD (cZ b))=some (cZ b)
  ·rcases aJo hr with e | e
   ·exact absurd (congrArg (·.1) e) h0
   exact .inr e
  rw[if_neg hr] at h;cases h
 rintro (h | h)
 ·rw[h] at h0;exact absurd (by decide) h0
 rw[if_pos (aGa h)]
def yK (t:List UInt8):List UInt8:=if t.drop 7≠zeros 3 then t.take 7++zeros 3 else if (t.drop 3).take 4≠zeros 4 then t.take 3++(zeros 4++t.drop 7) else zeros 10
theorem rP {t:List UInt8} (h:t.length=10):(yK t).length=10:=by
 unfold yK
 split
 ·simp[zeros];omega
 split
 ·simp[zeros];omega
 rfl
theorem wJ (n:Nat):partT (zeros n) = []:=by
 unfold partT Lib.trimRightB
 rw[aA3,show zeros n=zeros n ++ [] by simp,qH]
 rfl
theorem aBS {t:List UInt8} (ht:t.length=10) (h:aZ t=true):aZ (yK t)=true:=by
 rw[aDB ht] at h
 rw[aDB (rP ht)]
 rcases h with h | h
 ·left
  subst h
  decide
 unfold yK
 split
 ·right
  have e1:(t.take 7++zeros 3).take 3=t.take 3:=by rw[List.take_append_of_le_length (by simp;omega),List.take_take];rfl
  have e2:((t.take 7++zeros 3).drop 3).take 4=(t.drop 3).take 4:=by
   rw[List.drop_append_of_le_length (by simp;omega),List.take_append_of_le_length (by simp;omega),List.drop_take,List.take_take];rfl
  have e3:(t.take 7++zeros 3).drop 7=zeros 3:=by
   rw[List.drop_append_of_le_length (by simp;omega),List.drop_of_length_le (by simp;omega)];rfl
  unfold cZ
  rw[e1,e2,e3,wJ]
  exact ⟨h.lang,h.script,.inl rfl⟩
 rename_i hr
 have hr:t.drop 7=zeros 3:=Classical.not_not.1 hr
 split
 ·right
  have e1:(t.take 3++(zeros 4++t.drop 7)).take 3=t.take 3:=by rw[List.take_append_of_le_length (by simp;omega),List.take_take];rfl
  have e2:(t.take 3++(zeros 4++t.drop 7)).drop 3=zeros 4++t.drop 7:=by
   rw[List.drop_append_of_le_length (by simp;omega),List.drop_of_length_le (by simp;omega)];rfl
  have e3:(t.take 3++(zeros 4++t.drop 7)).drop 7=t.drop 7:=by
   rw[show (t.take 3++(zeros 4++t.drop 7)).drop 7=((t.take 3++(zeros 4++t.drop 7)).drop 3).drop 4 by rw[List.drop_drop],e2];rfl
  unfold cZ
  rw[e1,e2,e3,hr,wJ,show (zeros 4++zeros 3).take 4=zeros 4 by rfl,wJ]
  exact ⟨h.lang,.inl rfl,.inl rfl⟩
 exact .inl rfl
def tC (t:List UInt8):Nat:=if t=zeros 10 then 0 else 1+(if t.drop 7=zeros 3 then 0 else 1)+(if (t.drop 3).take 4=zeros 4 then 0 else 1)
theorem yL {t:List UInt8} (ht:t.length=10) (hz:t≠zeros 10):tC (yK t)<tC t:=by
 unfold yK
 split
 ·rename_i hr
  have e2:((t.take 7++zeros 3).drop 3).take 4=(t.drop 3).take 4:=by
   rw[List.drop_append_of_le_length (by simp;omega),List.take_append_of_le_length (by simp;omega),List.drop_take,List.take_take];rfl
  have e3:(t.take 7++zeros 3).drop 7=zeros 3:=by
   rw[List.drop_append_of_le_length (by simp;omega),List.drop_of_length_le (by simp;omega)];rfl
  unfold tC
  rw[if_neg hz,if_neg hr,e2,e3,if_pos rfl]
  split
  ·omega
  omega
 rename_i hr
 have hr:t.drop 7=zeros 3:=Classical.not_not.1 hr
 split
 ·rename_i hs
  have e2:(t.take 3++(zeros 4++t.drop 7)).drop 3=zeros 4++t.drop 7:=by
   rw[List.drop_append_of_le_length (by simp;omega),List.drop_of_length_le (by simp;omega)];rfl
  have e3:(t.take 3++(zeros 4++t.drop 7)).drop 7=t.drop 7:=by
   rw[show (t.take 3++(zeros 4++t.drop 7)).drop 7=((t.take 3++(zeros 4++t.drop 7)).drop 3).drop 4 by rw[List.drop_drop],e2];rfl
  unfold tC
  rw[if_neg hz,if_neg hs,e2,e3,hr,if_pos rfl,show (zeros 4++zeros 3).take 4=zeros 4 by rfl,if_pos rfl]
  split <;> omega
 unfold tC
 rw[if_pos rfl,if_neg hz]
 omega
theorem aEm (t:List UInt8):tC t<=3:=by
 unfold tC
 split
 ·omega
 split <;> split <;> omega
def upT:Nat->List UInt8->List (List UInt8)
 | 0,_ => []
 | n+1,t=>t :: if t=zeros 10 then [] else upT n (yK t)
theorem aFB:∀ (n m:Nat) (t:List UInt8),t.length=10->tC t<n->tC t<m->upT n t=upT m t
 | 0,_,_,_,h,_=>absurd h (Nat.not_lt_zero _)
 | _+1,0,_,_,_,h=>absurd h (Nat.not_lt_zero _)
 | n+1,m+1,t,ht,h1,h2=>by
  unfold upT
  by_cases hz:t=zeros 10
  ·rw[if_pos hz,if_pos hz]
  ·have:=yL ht hz
   rw[if_neg hz,if_neg hz,aFB n m _ (rP ht) (by omega) (by omega)]
def oG (t:List UInt8):List (List UInt8):=upT 4 t
theorem aCY {t:List UInt8} (ht:t.length=10):oG t=t :: if t=zeros 10 then [] else oG (yK t):=by
 unfold oG
 show upT (3+1) t=_
 rw[upT]
 by_cases hz:t=zeros 10
 ·rw[if_pos hz,if_pos hz]
 have h1:=yL ht hz
 have h2:=aEm t
 rw[if_neg hz,if_neg hz,aFB 3 4 _ (rP ht) (by omega) (by omega)]
theorem aAz (t:List UInt8) (ht:t.length=10):∀ u∈oG t,u.length=10:=by
 unfold oG
 generalize 4=n
 induction n generalizing t with
 | zero=>intro u hu;cases hu
 | succ n ih =>
  intro u hu
  unfold upT at hu
  rcases List.mem_cons.1 hu with rfl | hu
  ·exact ht
  split at hu
  ·cases hu
  exact ih _ (rP ht) u hu
theorem aFC:∀ (n:Nat) (t:List UInt8),t.length=10->tC t<n->zeros 10∈upT n t
 | 0,_,_,h=>absurd h (Nat.not_lt_zero _)
 | n+1,t,ht,h=>by
  unfold upT
  by_cases hz:t=zeros 10
  ·rw[if_pos hz,hz];exact List.mem_cons_self
  ·have:=yL ht hz
   rw[if_neg hz]
   exact List.mem_cons_of_mem _ (aFC n _ (rP ht) (by omega))
theorem aDb {t:List UInt8} (ht:t.length=10):zeros 10∈oG t:=aFC 4 t ht (by have:=aEm t;omega)
theorem aDV:∀ (n:Nat) (t:List UInt8),(upT n t).length<=n
 | 0,_=>Nat.le_refl _
 | n+1,t=>by
  unfold upT
  split
  ·simp
  ·have:=aDV n (yK t)
   simp;omega
end Go.Proofs.YtcedmfnlkelhkaaGreatDoor
namespace Go.Proofs.YtcedmfnlkelhkaaGreatDoor
open Go.RowKit

def rY (f:K25->List Ver):Prop:=(∀ k,∀ v∈f k,v.dead=false->byt k.val 0=6->v.r.state≠0) /\ ∀ k,f k ≠ []->kT k.val=true
theorem rY.nil:rY (fun _ => []):=⟨fun _ _ h=>(by cases h),fun _ h=>absurd rfl h⟩
theorem aFb {x:Wr} (h:bW x=0):kT x.k.val=true:=by
 unfold bW at h
 split at h
 ·rename_i hk;exact hk
 omega
theorem aJy {x:Wr} (h:bW x=0) (a:UInt64) (hd:(nV a x).dead=false) (hk:byt x.k.val 0=6):(nV a x).r.state≠0:=by
 have hd:x.dead=false:=hd
 have hf:(nV a x).r.state=x.r.state:=by
  show (aBF a x).state=_
  unfold aBF
  split <;> rfl
 rw[hf]
 unfold bW at h
 split at h
 ·rw[hd] at h
  rw[if_neg (by decide)] at h
  split at h
  ·rename_i hr
   split at h
   ·rename_i hkk
    rw[hk] at hkk
    have hkind:x.r.kind=6:=UInt8.toNat_inj.1 hkk
    unfold mW at hr
    split at hr
    ·split at hr
     ·split at hr
      ·rename_i hw
       unfold dZ at hw
       rw[hkind] at hw
       simp only[show ((6:UInt8)=1)=False by decide,show ((6:UInt8)=2)=False by decide,show ((6:UInt8)=4)=False by decide,show ((6:UInt8)=5)=False by decide,if_false,if_true,Bool.and_eq_true,decide_eq_true_eq] at hw
       intro e
       rw[e] at hw
       exact absurd hw.1.1.1 (by decide)
      omega
     omega
    omega
   omega
  rename_i hr;exact absurd h hr
 omega
theorem rY.step {f:K25->List Ver} (h:rY f) {x:Wr} (hx:bW x=0) (a:UInt64):rY (oC a f x):=by
 refine ⟨?_,fun k hk => ?_⟩
 ·intro k v hv hd hk
  unfold oC at hv
  split at hv
  ·rename_i e
   rcases List.mem_append.1 hv with hv | hv
   ·exact h.1 k v hv hd hk
   obtain rfl:=List.mem_singleton.1 hv
   exact aJy hx a hd (by rw[<-e];exact hk)
  exact h.1 k v hv hd hk
 unfold oC at hk
 split at hk
 ·rename_i e
  rw[e];exact aFb hx
 exact h.2 k hk
theorem rY.apply (a:UInt64):∀ (l:List Wr) {f:K25->List Ver},rY f->(∀ x∈l,bW x=0)->rY (dP a f l)
 | [],_,h,_=>h
 | x :: l,f,h,hl=>by
  unfold dP
  rw[List.foldl_cons]
  exact rY.apply a l (h.step (hl x List.mem_cons_self) a) (fun y hy=>hl y (List.mem_cons_of_mem _ hy))
end Go.Proofs.YtcedmfnlkelhkaaGreatDoor

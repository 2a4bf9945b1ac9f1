/- A region that draws its order in which a new block is stored to before other operations. -/
import Derived.Test.YtcedmfnlkelhkaaGreatDoorJaa
namespace Go.Proofs.YtcedmfnlkelhkaaGreatDoor
open Go.RowKit

section
variable {P:Program} {ops:Array Oper} {Q:Exit->Act->World->Prop}
def nx (ops:Array Oper) (i:Nat) (x:Nat->Value) (v:Value):Nat->Value:=match aT ops i with | some d=>upd x d v | none=>x
def aLG (ops:Array Oper) (base:Array Value) (df:List Deferred) (ds:List Nat) (news:List Nat) (H:Nat->(Nat->Value)->World->Prop) (LT:Nat->World->World->Prop) (i:Nat) (x:Nat->Value) (w:World) (a':Act) (w':World):Prop :=
 ∃ v,a'=(⟨over base ds x,df⟩:Act).put (aT ops i) v/\H i (nx ops i x v) w'/\LT i w w'/\(i∈news -> ∃ b,v = .pointer (some ⟨b,0,none⟩)/\w.heap.size<=b/\b<w'.heap.size)
structure sQ (ops:Array Oper) (n:Nat) (news:List Nat) (H:Nat->(Nat->Value)->World->Prop) (w0:World) (L:Nat->Prop) (x:Nat->Value) (w:World):Prop where
 below:Below w0.heap.size w0 w
 holds:∀ i,i<n->L i->H i x w
 new:∀ i∈news,i<n->L i -> ∀ d,aT ops i=some d -> ∃ b,x d = .pointer (some ⟨b,0,none⟩)/\b<w.heap.size
 apart:∀ i∈news,∀ j∈news,i<n->j<n->L i->L j->i≠j -> ∀ d e,aT ops i=some d->aT ops j=some e->x d≠x e
theorem sQ.less {n:Nat} {news:List Nat} {H:Nat->(Nat->Value)->World->Prop} {w0:World} {L L':Nat->Prop} {x:Nat->Value} {w:World} (h:sQ ops n news H w0 L x w) (hL:∀ j,j<n->L' j->L j):sQ ops n news H w0 L' x w :=
 ⟨h.below,fun i hi h'=>h.holds i hi (hL i hi h'),fun i hm hi h'=>h.new i hm hi (hL i hi h'),fun i hm j hm2 hi hj h1 h2=>h.apart i hm j hm2 hi hj (hL i hi h1) (hL j hj h2)⟩
theorem sQ.next {n:Nat} {news:List Nat} {H:Nat->(Nat->Value)->World->Prop} {LT:Nat->World->World->Prop} {w0:World} {L:Nat->Prop} {x:Nat->Value} {w w':World} {v:Value} {i:Nat}
  (h:sQ ops n news H w0 L x w) (hi:i<n) (hL:¬ L i) (hLp:∀ j,j<n->L j->i∉past ops 4 j)
  (hLT:∀ j w w',LT j w w'->w.heap.size<=w'.heap.size/\(Below w0.heap.size w0 w->Below w0.heap.size w0 w'))
  (hst:∀ i j,i<n->j<n->i≠j->j∉past ops 4 i -> ∀ x v w w',H i x w->LT j w w'->H i (nx ops j x v) w')
  (hnd:∀ j,j<n->j≠i -> ∀ d,aT ops i=some d->aT ops j≠some d)
  (hR:H i (nx ops i x v) w') (hb:LT i w w') (hnew:i∈news -> ∃ b,v = .pointer (some ⟨b,0,none⟩)/\w.heap.size<=b/\b<w'.heap.size) :
  sQ ops n news H w0 (fun j=>j=i\/L j) (nx ops i x v) w':=by
 have hxo:∀ j,j<n->j≠i -> ∀ e,aT ops j=some e->nx ops i x v e=x e:=by
  intro j hj hji e he
  unfold nx
  cases hd:aT ops i with
  | none=>rfl
  | some d=>exact mQ _ _ (fun e'=>hnd j hj hji d hd (e' ▸ he))
 have hxi:∀ d,aT ops i=some d->nx ops i x v d=v:=by
  intro d hd
  unfold nx
  rw[hd];simp
 have hsz:=(hLT i w w' hb).1
 refine ⟨(hLT i w w' hb).2 h.below,?_,?_,?_⟩
 ·intro j hj hl
  by_cases hji:j=i
  ·subst hji;exact hR
  exact hst j i hj hi hji (hLp j hj (hl.resolve_left hji)) x v w w' (h.holds j hj (hl.resolve_left hji)) hb
 ·intro j hjn hj hl d hd
  by_cases hji:j=i
  ·subst hji;rw[hxi d hd];obtain ⟨b,e,_,hb2⟩:=hnew hjn;exact ⟨b,e,hb2⟩
  rw[hxo j hj hji d hd];obtain ⟨b,e,hb2⟩:=h.new j hjn hj (hl.resolve_left hji) d hd;exact ⟨b,e,Nat.lt_of_lt_of_le hb2 hsz⟩
 intro j hjn k hkn hj hk hlj hlk hjk d e hd he
 by_cases hji:j=i
 ·subst hji
  have hkj:k≠j:=fun e'=>hjk e'.symm
  rw[hxi d hd,hxo k hk hkj e he]
  obtain ⟨b,rfl,hb1,_⟩:=hnew hjn
  obtain ⟨c,ec,hc⟩:=h.new k hkn hk (hlk.resolve_left hkj) e he
  rw[ec];intro hcon;injection hcon with hcon;injection hcon with hcon;injection hcon with hcon;omega
 by_cases hki:k=i
 ·subst hki
  rw[hxi e he,hxo j hj hji d hd]
  obtain ⟨b,rfl,hb1,_⟩:=hnew hkn
  obtain ⟨c,ec,hc⟩:=h.new j hjn hj (hlj.resolve_left hji) d hd
  rw[ec];intro hcon;injection hcon with hcon;injection hcon with hcon;injection hcon with hcon;omega
 rw[hxo j hj hji d hd,hxo k hk hki e he]
 exact h.apart j hjn k hkn hj hk (hlj.resolve_left hji) (hlk.resolve_left hki) hjk d e hd he

theorem aA1 {rid:Nat} {a:Act} {w:World} (hm:P.follows .mixedOrders=true) (n:Nat) (ds news:List Nat) (H:Nat->(Nat->Value)->World->Prop) (LT:Nat->World->World->Prop)
  (hck:iO ops n ds []=true)
  (hLT:∀ j w1 w',LT j w1 w'->w1.heap.size<=w'.heap.size/\(Below w.drew.heap.size w.drew w1->Below w.drew.heap.size w.drew w'))
  (hst:∀ i j,i<n->j<n->i≠j->j∉past ops 4 i->(∀ d,aT ops j=some d -> ∀ k,k<n->k≠j->aT ops k≠some d) -> ∀ x v w w',H i x w->LT j w w'->H i (nx ops j x v) w')
  (hops:∀ i,i<n -> ∀ o,ops[i]? = some o -> ∀ x w1,sQ ops n news H w.drew (fun j=>j∈past ops 4 i) x w1 ->
   ∀ K:Act->World->Prop,(∀ a' w',aLG ops a.tmps a.defers ds news H LT i x w1 a' w'->K a' w') ->
   if Region.wanted o (yielded ops (over a.tmps ds x))=true then o.wp P ⟨over a.tmps ds x,a.defers⟩ w1 K Q else K ((⟨over a.tmps ds x,a.defers⟩:Act).put o.dst undef) w1)
  (hend:∀ x w1,sQ ops n news H w.drew (fun _=>True) x w1->wpList P ops Q (ops.toList.drop n) ⟨over a.tmps ds x,a.defers⟩ w1) :
  (Code.region rid ops true).wp P Q a w:=by
 simp only[iO,Bool.and_eq_true,List.all_eq_true,List.mem_range,Bool.or_eq_true,decide_eq_true_eq] at hck
 obtain ⟨⟨⟨⟨hn,hlt⟩,htail⟩,hds⟩, -, -⟩:=hck
 have hmem:∀ i,i<n -> ∀ d,aT ops i=some d->d∈ds:=by
  intro i hi d hd
  have:=hds i hi
  rw[hd] at this
  simp only[Bool.and_eq_true] at this
  simpa using this.1
 have hnd:∀ i,i<n -> ∀ j,j<n->j≠i -> ∀ d,aT ops i=some d->aT ops j≠some d:=by
  intro i hi j hj hji d hd he
  have:=hds i hi
  rw[hd] at this
  simp only[Bool.and_eq_true,List.all_eq_true,List.mem_range,Bool.or_eq_true,decide_eq_true_eq] at this
  rcases this.2 j hj with e | e
  ·exact hji e.symm
  rw[he] at e;simp at e
 have hst':∀ i j,i<n->j<n->i≠j->j∉past ops 4 i -> ∀ x v w w',H i x w->LT j w w'->H i (nx ops j x v) w' :=
  fun i j hi hj hij hp=>hst i j hi hj hij hp fun d hd k hk hkj=>hnd j hj k hk hkj d hd
 have htail':∀ i,i<ops.size->n<=i -> ∀ j,j<i->j∈past ops 4 i:=by
  intro i hi hni j hj
  rcases htail i hi with h | h
  ·omega
  rcases h j hj with h | h
  ·simp at h
  simpa using h
 let Clo:Array Bool->Prop:=fun l => ∀ j,l[j]? = some true -> ∀ p∈iQ ops j,l[p]? = some true
 let PA:Array Bool->Act->World->Prop:=fun l a' w'=>(∀ t,n<=t->t<ops.size->l[t]? = some false)/\(∃ i,i<n/\l[i]? = some false) /\
  ∃ x,a'=⟨over a.tmps ds x,a.defers⟩/\sQ ops n news H w.drew (fun j=>l[j]? = some true) x w'
 let PB:Array Bool->Act->World->Prop:=fun l a' w' => ∃ k,n<=k/\k<=ops.size/\(∀ j,j<k->l[j]? = some true)/\(∀ j,k<=j->j<ops.size->l[j]? = some false)/\wpList P ops Q (ops.toList.drop k) a' w'
 let Inv:Array Bool->Act->World->Prop:=fun l a' w'=>l.size=ops.size/\Clo l/\(PA l a' w'\/PB l a' w')
 have enterB:∀ (l:Array Bool) x w',(∀ t,n<=t->t<ops.size->l[t]? = some false)->(∀ j,j<n->l[j]? = some true) ->
   sQ ops n news H w.drew (fun j=>l[j]? = some true) x w'->PB l ⟨over a.tmps ds x,a.defers⟩ w':=by
  intro l x w' h1 h2 h3
  exact ⟨n,Nat.le_refl _,hn,h2,h1,hend x w' (h3.less fun j hj _=>h2 j hj)⟩
 have leastReady:∀ (l:Array Bool) k,k<ops.size->l[k]? = some false->(∀ j,j<k->l[j]? = some true)->k∈Region.ready .any ops l:=by
  intro l k hk h1 h2
  exact uV (ops:=ops) hk h1 (fun p hp=>h2 p (hlt k hk p hp))
 have least:∀ (l:Array Bool) m,l.size=ops.size->m<ops.size->l[m]? = some false -> ∃ k,k<=m/\l[k]? = some false /\ ∀ j,j<k->l[j]? = some true:=by
  intro l m hl
  induction m using Nat.strongRecOn with
  | ind m ih =>
   intro hm1 hm2
   by_cases hex:∃ j,j<m/\l[j]? = some false
   ·obtain ⟨j,hj,hjf⟩:=hex
    obtain ⟨k,hk,hk2⟩:=ih j hj (by omega) hjf
    exact ⟨k,by omega,hk2⟩
   refine ⟨m,Nat.le_refl _,hm2,fun j hj => ?_⟩
   have hjs:j<l.size:=by omega
   cases hb:l[j] with
   | true=>simp[hjs,hb]
   | false=>exact (hex ⟨j,hj,by simp[hjs,hb]⟩).elim
 have setClo:∀ (l:Array Bool) i,Clo l->(∀ p∈iQ ops i,l[p]? = some true)->Clo (l.setIfInBounds i true):=by
  intro l i hc hp j hj p hpj
  have keep:∀ q:Nat,l[q]? = some true->(l.setIfInBounds i true)[q]? = some true:=by
   intro q hq
   by_cases hqi:i=q
   ·subst hqi
    have:i<l.size:=by
     rcases Nat.lt_or_ge i l.size with h | h
     ·exact h
     rw[Array.getElem?_eq_none h] at hq;cases hq
    rw[Array.getElem?_setIfInBounds_self_of_lt this]
   rw[Array.getElem?_setIfInBounds_ne hqi];exact hq
  by_cases hji:i=j
  ·subst hji;exact keep p (hp p hpj)
  rw[Array.getElem?_setIfInBounds_ne hji] at hj;exact keep p (hc j hj p hpj)
 have next:∀ (l:Array Bool) x w' i,l.size=ops.size->Clo l->(∀ t,n<=t->t<ops.size->l[t]? = some false)->sQ ops n news H w.drew (fun j=>l[j]? = some true) x w' ->
   i<n->l[i]? = some false->(∀ p∈iQ ops i,l[p]? = some true) -> ∀ a1 w1,aLG ops a.tmps a.defers ds news H LT i x w' a1 w1->Inv (l.setIfInBounds i true) a1 w1:=by
  rintro l x w' i hl hc hT hH hin hfi hpi a1 w1 ⟨v,rfl,hR,hB,hnew⟩
  have hset:∀ j,(l.setIfInBounds i true)[j]? = if j=i then some true else l[j]? := by
   intro j
   by_cases hji:j=i
   ·subst hji;rw[if_pos rfl,Array.getElem?_setIfInBounds_self_of_lt (by omega)]
   ·rw[if_neg hji,Array.getElem?_setIfInBounds_ne (fun e=>hji e.symm)]
  have hc':=setClo l i hc hpi
  have hl':(l.setIfInBounds i true).size=ops.size:=by simpa using hl
  have hH':=hH.next (v:=v) (LT:=LT) hin (by rw[hfi];simp) (fun j hj hlj hpj=>by
   have:=gK hc 4 j (hc j hlj) i hpj
   rw[hfi] at this;cases this) hLT hst' (fun j hj hji d hd=>hnd i hin j hj hji d hd) hR hB hnew
  have hfr:(⟨over a.tmps ds x,a.defers⟩:Act).put (aT ops i) v=⟨over a.tmps ds (nx ops i x v),a.defers⟩:=by
   unfold nx
   cases hd:aT ops i with
   | none=>rfl
   | some d=>simp only[Act.put];rw[uT v (hmem i hin d hd)]
  rw[hfr]
  have hH2:sQ ops n news H w.drew (fun j=>(l.setIfInBounds i true)[j]? = some true) (nx ops i x v) w1:=by
   refine hH'.less fun j _ hj => ?_
   rw[hset] at hj;by_cases hji:j=i
   ·exact .inl hji
   ·rw[if_neg hji] at hj;exact .inr hj
  refine ⟨hl',hc',?_⟩
  have hT':∀ t,n<=t->t<ops.size->(l.setIfInBounds i true)[t]? = some false:=by
   intro t ht1 ht2;rw[hset,if_neg (by omega)];exact hT t ht1 ht2
  by_cases hall:∃ j,j<n/\(l.setIfInBounds i true)[j]? = some false
  ·exact .inl ⟨hT',hall,_,rfl,hH2⟩
  ·refine .inr (enterB _ _ _ hT' (fun j hj => ?_) hH2)
   have hjs:j<(l.setIfInBounds i true).size:=by omega
   cases hb:(l.setIfInBounds i true)[j] with
   | true=>rw[Array.getElem?_eq_getElem hjs,hb]
   | false=>exact (hall ⟨j,hj,by rw[Array.getElem?_eq_getElem hjs,hb]⟩).elim
 have main:∀ (fuel:Nat) (l:Array Bool) (a':Act) (w':World),Inv l a' w'->l.toList.count false<=fuel->wpAny P .any ops Q fuel l a' w':=by
  intro fuel
  induction fuel with
  | zero =>
   rintro l a' w' ⟨hl,hc,hAB⟩ hcnt
   have hnone:∀ i:Nat,l[i]? ≠ some false:=by
    intro i hi
    have h0:l.toList.count false=0:=by omega
    rw[List.count_eq_zero] at h0
    exact h0 (Array.mem_toList_iff.2 (Array.mem_of_getElem? hi))
   have hr:Region.ready .any ops l = []:=by
    rw[List.eq_nil_iff_forall_not_mem]
    intro i hi
    exact hnone i (dO hl hi rfl).2.1
   refine ⟨hr,?_⟩
   rcases hAB with ⟨_,⟨m,hm1,hm2⟩,_⟩ | ⟨k,hk1,hk2,hk3,hk4,hW⟩
   ·exact (hnone m hm2).elim
   rcases Nat.lt_or_ge k ops.size with h | h
   ·exact (hnone k (hk4 k (Nat.le_refl _) h)).elim
   rw[List.drop_of_length_le (by simpa using h)] at hW
   exact hW
  | succ fuel ih =>
   rintro l a' w' ⟨hl,hc,hAB⟩ hcnt
   have hcnt':∀ i,i<ops.size->l[i]? = some false->(l.setIfInBounds i true).toList.count false<=fuel:=by
    intro i hi hf
    have:=count_set (l:=l) (i:=i) (by omega) hf
    omega
   rcases hAB with ⟨hT,⟨m0,hm01,hm02⟩,x,rfl,hH⟩ | ⟨k,hk1,hk2,hk3,hk4,hW⟩
   ·obtain ⟨m,hm1,hm2,hm3⟩:=least l m0 hl (by omega) hm02
    have hmr:=leastReady l m (by omega) hm2 hm3
    refine ⟨fun h=>(by rw[h] at hmr;cases hmr),fun i hr => ?_⟩
    obtain ⟨hi,hfi,hpi⟩:=dO hl hr rfl
    have hpast:=gK hc 4 i hpi
    have ho:ops[i]? = some ops[i]:=Array.getElem?_eq_getElem hi
    have hin:i<n:=by
     rcases Nat.lt_or_ge i n with h | h
     ·exact h
     have:=hpast m (htail' i hi h m (by omega))
     rw[hm2] at this;cases this
    have key:=hops i hin _ ho x w' (hH.less fun j _ hj=>hpast j hj) (wpAny P .any ops Q fuel (l.setIfInBounds i true))
     (fun a1 w1 hleft=>ih _ _ _ (next l x w' i hl hc hT hH hin hfi hpi a1 w1 hleft) (hcnt' i hi hfi))
    unfold wpOp
    rw[ho]
    show if Region.wanted ops[i] (yielded ops (over a.tmps ds x))=true then _ else _
    split
    ·rename_i hw;rw[if_pos hw] at key;exact .inl key
    rename_i hw;rw[if_neg hw] at key;exact key
   refine ⟨fun hnil => ?_,fun i hr => ?_⟩
   ·rcases Nat.lt_or_ge k ops.size with h | h
    ·have:=leastReady l k h (hk4 k (Nat.le_refl _) h) hk3
     rw[hnil] at this;cases this
    rw[List.drop_of_length_le (by simpa using h)] at hW
    exact hW
   obtain ⟨hi,hfi,hpi⟩:=dO hl hr rfl
   have hpast:=gK hc 4 i hpi
   have ho:ops[i]? = some ops[i]:=Array.getElem?_eq_getElem hi
   have hik:i=k:=by
    rcases Nat.lt_trichotomy i k with h | h | h
    ·rw[hk3 i h] at hfi;cases hfi
    ·exact h
    have:=hpast k (htail' i hi (by omega) k h)
    rw[hk4 k (Nat.le_refl _) (by omega)] at this;cases this
   subst hik
   have hset:∀ j,(l.setIfInBounds i true)[j]? = if j=i then some true else l[j]? := by
    intro j
    by_cases hji:j=i
    ·subst hji;rw[if_pos rfl,Array.getElem?_setIfInBounds_self_of_lt (by omega)]
    rw[if_neg hji,Array.getElem?_setIfInBounds_ne (fun e=>hji e.symm)]
   have hdrop:ops.toList.drop i=ops[i] :: ops.toList.drop (i+1):=by
    rw[List.drop_eq_getElem_cons (by simpa using hi)];simp
   rw[hdrop] at hW
   have goalB:∀ a1 w1,wpList P ops Q (ops.toList.drop (i+1)) a1 w1->wpAny P .any ops Q fuel (l.setIfInBounds i true) a1 w1:=by
    intro a1 w1 h1
    refine ih _ _ _ ⟨by simpa using hl,setClo l i hc hpi,.inr ⟨i+1,by omega,by omega,?_,?_,h1⟩⟩ (hcnt' i hi hfi)
    ·intro j hj;rw[hset];split
     ·rfl
     exact hk3 j (by omega)
    intro j hj1 hj2;rw[hset,if_neg (by omega)];exact hk4 j (by omega) hj2
   unfold wpList at hW
   unfold wpOp
   rw[ho]
   show if Region.wanted ops[i] (yielded ops a'.tmps)=true then _ else _
   split
   ·rename_i hw;rw[if_pos hw] at hW;exact hW.imp (Oper.wp_mono goalB) id
   rename_i hw;rw[if_neg hw] at hW;exact goalB _ _ hW
 refine wp_region_any hm (main ops.size _ _ _ ?_ (by simp))
 have hrep:∀ j:Nat,j<ops.size->(Array.replicate ops.size false)[j]? = some false:=by intro j hj;simp[hj]
 have hno:∀ j:Nat,(Array.replicate ops.size false)[j]? ≠ some true:=by
  intro j hj
  rw[Array.getElem?_replicate] at hj
  split at hj <;> simp at hj
 refine ⟨by simp,fun j hj=>(hno j hj).elim,?_⟩
 have hx0:a=⟨over a.tmps ds (fun d=>a.tmps.getD d undef),a.defers⟩:=by
  have:over a.tmps ds (fun d=>a.tmps.getD d undef)=a.tmps:=by
   apply Array.ext_getElem?
   intro s
   rw[nK]
   split
   ·rw[Array.getD_eq_getD_getElem?]
    cases a.tmps[s]? <;> rfl
   rfl
  rw[this]
 have hH0:sQ ops n news H w.drew (fun j=>(Array.replicate ops.size false)[j]? = some true) (fun d=>a.tmps.getD d undef) w.drew :=
  ⟨Below.refl _ _,fun j _ hj=>(hno j hj).elim,fun j _ _ hj=>(hno j hj).elim,fun j _ _ _ _ _ hj=>(hno j hj).elim⟩
 rcases Nat.eq_zero_or_pos n with h0 | h0
 ·subst h0
  rw[hx0]
  exact .inr (enterB _ _ _ (fun t _ ht=>hrep t ht) (fun j hj=>by omega) hH0)
 exact .inl ⟨fun t _ ht=>hrep t ht,⟨0,h0,hrep 0 (by omega)⟩,_,hx0,hH0⟩
end
structure mX where
 R:Nat->Value->World->Prop
 stays:∀ B v w w',R B v w->Below w.heap.size w w'->R B v w'
 nty:Option TypeId
 staysS:∀ B v (w:World) b c c' t,nty≠some t->R B v w->w.heap[b]? = some (.cells c t)->c'.size=c.size->R B v (w.kD B b (.cells c' t))
 isNew:Bool
 st:Option (Nat×TypeId×Array Value)
def mX.val (v:Value):mX:=⟨fun _ u _=>u=v,fun _ _ _ _ h _=>h,none,fun _ _ _ _ _ _ _ _ h _ _=>h,false,none⟩
def mX.new (k:Array Value) (ty:TypeId):mX:=⟨(Spec.new (.cells k ty)).R,(Spec.new (.cells k ty)).stays,some ty,fun B v w b c c' t hn h hb _=>by
 obtain ⟨b2,h1,h2,h3,h4⟩:=h
 refine ⟨b2,h1,h2,by simpa using h3,?_⟩
 by_cases e:b2=b
 ·subst e
  rw[h4] at hb
  simp only[Option.some.injEq,Obj.cells.injEq,and_true] at hb
  exact absurd (congrArg some hb.2) hn
 ·exact (World.bV _ e).trans h4,true,none⟩
def mX.soft (k:Nat) (ty:TypeId):mX:=⟨fun B u w => ∃ b c,u = .pointer (some ⟨b,0,none⟩)/\B<=b/\w.heap[b]? = some (.cells c ty)/\c.size=k,
 fun _ _ _ _ ⟨b,c,h1,h2,h3,h4⟩ hb=>⟨b,c,h1,h2,(hb.block b (Array.getElem?_eq_some_iff.1 h3).1).trans h3,h4⟩,none,fun B v w b c c' t hn h hb hs=>by
 obtain ⟨b2,c2,h1,h2,h3,h4⟩:=h
 by_cases e:b2=b
 ·subst e
  have h5:=hb
  rw[h3] at h5
  simp only[Option.some.injEq,Obj.cells.injEq,and_true] at h5
  obtain ⟨e1,e2⟩:=h5
  subst e1 e2
  exact ⟨b2,c',h1,h2,World.dX _ (Array.getElem?_eq_some_iff.1 h3).1,hs.trans h4⟩
 ·exact ⟨b2,c2,h1,h2,(World.bV _ e).trans h3,h4⟩,true,none⟩
def mX.sto (sl:Nat) (ty:TypeId) (c:Array Value):mX:=⟨fun _ _ _=>True,fun _ _ _ _ _ _=>trivial,none,fun _ _ _ _ _ _ _ _ _ _ _=>trivial,false,some (sl,ty,c)⟩
def aIg (l:List mX):List Nat:=(List.range l.length).filter fun i=>((l[i]?).map (·.isNew)).getD false
def aPg (l:List mX):List (Nat×Nat×TypeId):=(List.range l.length).filterMap fun i=>((l[i]?).bind (·.st)).map fun p=>(i,p.1,p.2.1)
def aME (l:List mX):List (Option TypeId):=l.map (·.nty)
def aH9 (ops:Array Oper) (n:Nat) (news:List Nat) (sts:List (Nat×Nat×TypeId)) (nt:List (Option TypeId)):Bool :=
 sts.all fun p => !news.contains p.1 && (aT ops p.1).isNone && ((List.range n).any fun k=>(past ops 4 p.1).contains k && aT ops k == some p.2.1) && (List.range n).all fun j=>j == p.1 || ((nt[j]?).getD none != some p.2.2 && sts.all fun q=>q.1 != j || q.2.2 != p.2.2)
def StG (x:Nat->Value) (w:World):Option (Nat×TypeId×Array Value)->Prop
 | none=>True
 | some (sl,t,c) => ∃ b,x sl = .pointer (some ⟨b,0,none⟩)/\w.heap[b]? = some (.cells c t)
def HG (ops:Array Oper) (B:Nat) (l:List mX) (i:Nat) (x:Nat->Value) (w:World):Prop := ∀ s,l[i]? = some s->(∀ d,aT ops i=some d->s.R B (x d) w)/\StG x w s.st
def LG (B:Nat) (l:List mX) (j:Nat) (w w':World):Prop:=match (l[j]?).bind (·.st) with
 | none=>Below w.heap.size w w'
 | some (_,t,c) => ∃ b c0,B<=b/\w.heap[b]? = some (.cells c0 t)/\c.size=c0.size/\w'=w.kD B b (.cells c t)
def aCM (B:Nat) (s:mX) (x:Nat->Value) (fr:Array Value) (df:List Deferred) (d:Option Nat) (w:World) (a':Act) (w':World):Prop:=match s.st with
 | none => ∃ v,(⟨fr,df⟩:Act).put d v=a'/\s.R B v w'/\Below w.heap.size w w'/\(s.isNew=true -> ∃ b,v = .pointer (some ⟨b,0,none⟩)/\w.heap.size<=b/\b<w'.heap.size)
 | some (sl,t,c)=>a'=⟨fr,df⟩ /\ ∃ b c0,x sl = .pointer (some ⟨b,0,none⟩)/\B<=b/\w.heap[b]? = some (.cells c0 t)/\c.size=c0.size/\w'=w.kD B b (.cells c t)
def aLI (P:Program) (ops:Array Oper) (Q:Exit->Act->World->Prop) (w0:World) (F:(Nat->Value)->Array Value) (df:List Deferred) (news:List Nat) (n:Nat) (all:List mX) (i:Nat) (o:Oper) (s:mX):Prop :=
 ∀ x w1,sQ ops n news (HG ops w0.heap.size all) w0 (fun j=>j∈past ops 4 i) x w1 ->
   ∀ K:Act->World->Prop,(∀ a' w',aCM w0.heap.size s x (F x) df o.dst w1 a' w'->K a' w') ->
   if Region.wanted o (yielded ops (F x))=true then o.wp P ⟨F x,df⟩ w1 K Q else K ((⟨F x,df⟩:Act).put o.dst undef) w1
def aLH (P:Program) (ops:Array Oper) (Q:Exit->Act->World->Prop) (w0:World) (F:(Nat->Value)->Array Value) (df:List Deferred) (news:List Nat) (n:Nat) (all:List mX):Nat->List Oper->List mX->Prop
 | i,o :: l,s :: ss=>aLI P ops Q w0 F df news n all i o s/\aLH P ops Q w0 F df news n all (i+1) l ss
 | _,_,_=>True
theorem aLH.at_ {P:Program} {ops:Array Oper} {Q:Exit->Act->World->Prop} {w0:World} {F:(Nat->Value)->Array Value} {df:List Deferred} {news:List Nat} {n:Nat} {all:List mX} :
  ∀ (l:List Oper) (ss:List mX) (k:Nat),aLH P ops Q w0 F df news n all k l ss -> ∀ i o s,l[i]? = some o->ss[i]? = some s->aLI P ops Q w0 F df news n all (k+i) o s
 | o :: l,s :: ss,k,h,0,o',s',ho,hs=>by
  simp at ho hs;subst ho;subst hs;exact h.1
 | o :: l,s :: ss,k,h,i+1,o',s',ho,hs=>by
  have:=aLH.at_ l ss (k+1) h.2 i o' s' (by simpa using ho) (by simpa using hs)
  simpa [Nat.add_assoc,Nat.add_comm 1 i] using this
 | [],_,_,_,_,_,_,ho,_=>by simp at ho
 | _ :: _, [],_,_,_,_,_,_,hs=>by simp at hs
theorem aEe {l:List mX} {i:Nat} {sl:Nat} {t:TypeId} {c:Array Value} (h:(l[i]?).bind (·.st)=some (sl,t,c)):(i,sl,t)∈aPg l:=by
 unfold aPg
 rw[List.mem_filterMap]
 refine ⟨i,List.mem_range.2 ?_,by rw[h];rfl⟩
 rcases Nat.lt_or_ge i l.length with hi | hi
 ·exact hi
 rw[List.getElem?_eq_none hi] at h;cases h
theorem xZ {P:Program} {ops:Array Oper} {Q:Exit->Act->World->Prop} {rid:Nat} {a:Act} {w:World} (hm:P.follows .mixedOrders=true) (specs:List mX) (n:Nat) (hn:specs.length=n) (ds news:List Nat) (sts:List (Nat×Nat×TypeId)) (nt:List (Option TypeId)) (hnews:aIg specs=news)
  (hsts:aPg specs=sts) (hnt:aME specs=nt) (hck:iO ops n ds []=true) (hsk:aH9 ops n news sts nt=true)
  (F:(Nat->Value)->Array Value) (hF:∀ x,over a.tmps ds x=F x)
  (hops:aLH P ops Q w.drew F a.defers news n specs 0 ops.toList specs)
  (hend:∀ x w1,sQ ops n news (HG ops w.drew.heap.size specs) w.drew (fun _=>True) x w1->wpList P ops Q (ops.toList.drop n) ⟨F x,a.defers⟩ w1) :
  (Code.region rid ops true).wp P Q a w:=by
 subst hn hnews hsts hnt
 have hso:∀ i sl t c,(specs[i]?).bind (·.st)=some (sl,t,c)->i∉aIg specs/\aT ops i=none/\(∃ k,k<specs.length/\k∈past ops 4 i/\aT ops k=some sl) /\ ∀ j s,j≠i->specs[j]? = some s->s.nty≠some t /\ ∀ sl' t' c',s.st=some (sl',t',c')->t'≠t:=by
  intro i sl t c h
  have hm:=aEe h
  unfold aH9 at hsk
  have h1:=List.all_eq_true.1 hsk _ hm
  simp only[Bool.and_eq_true,List.any_eq_true,List.all_eq_true,List.mem_range,Bool.or_eq_true,beq_iff_eq,bne_iff_ne] at h1
  obtain ⟨⟨⟨h0,h1⟩,k,hk,hk2,hk3⟩,h2⟩:=h1
  refine ⟨by simpa using h0,by simpa using h1,⟨k,hk,by simpa using hk2,hk3⟩,fun j s hj hs => ?_⟩
  have hjl:j<specs.length:=by
   rcases Nat.lt_or_ge j specs.length with hi | hi
   ·exact hi
   rw[List.getElem?_eq_none hi] at hs;cases hs
  obtain ⟨h3,h4⟩:=(h2 j hjl).resolve_left hj
  refine ⟨?_,fun sl' t' c' he => ?_⟩
  ·unfold aME at h3
   rw[List.getElem?_map,hs] at h3
   simpa using h3
  have h5:=h4 _ (aEe (i:=j) (sl:=sl') (t:=t') (c:=c') (by rw[hs];exact he))
  simpa using h5
 refine aA1 hm specs.length ds (aIg specs) (HG ops w.drew.heap.size specs) (LG w.drew.heap.size specs) hck ?_ ?_ ?_ ?_
 ·intro j w1 w' h
  unfold LG at h
  split at h
  ·exact ⟨h.size,fun hb=>hb.trans (h.mono hb.size)⟩
  obtain ⟨b,c0,h1,h2,h3,rfl⟩:=h
  exact ⟨by simp,fun hb=>hb.kD h1 _⟩
 ·intro i j hi hj hij hp hnd x v w1 w' h hL s hs
  obtain ⟨h1,h2⟩:=h s hs
  have hx:∀ d,aT ops i=some d->nx ops j x v d=x d:=by
   intro d hd
   unfold nx
   cases hdj:aT ops j with
   | none=>rfl
   | some e=>exact mQ _ _ (fun e'=>hnd e hdj i hi hij (e' ▸ hd))
  have hslot:∀ sl t c,s.st=some (sl,t,c)->nx ops j x v sl=x sl:=by
   intro sl t c he
   obtain ⟨-, -,⟨k,hk,hk2,hk3⟩, -⟩:=hso i sl t c (by rw[hs];exact he)
   unfold nx
   cases hdj:aT ops j with
   | none=>rfl
   | some e=>exact mQ _ _ (fun e'=>hnd e hdj k hk (fun e2=>hp (e2 ▸ hk2)) (e' ▸ hk3))
  unfold LG at hL
  split at hL
  ·refine ⟨fun d hd=>by rw[hx d hd];exact s.stays _ _ _ _ (h1 d hd) hL,?_⟩
   cases hst:s.st with
   | none=>trivial
   | some p =>
    obtain ⟨sl,t,c⟩:=p
    rw[hst] at h2
    obtain ⟨b,e1,e2⟩:=h2
    exact ⟨b,(hslot _ _ _ hst).trans e1,(hL.block b (Array.getElem?_eq_some_iff.1 e2).1).trans e2⟩
  rename_i sl' t' c' hj'
  obtain ⟨b,c0,g1,g2,g3,rfl⟩:=hL
  obtain ⟨-, -, -,hso2⟩:=hso j _ _ _ hj'
  obtain ⟨q1,q2⟩:=hso2 i s hij hs
  refine ⟨fun d hd=>by rw[hx d hd];exact s.staysS _ _ _ b c0 c' t' q1 (h1 d hd) g2 g3,?_⟩
  cases hst:s.st with
  | none=>trivial
  | some p =>
   obtain ⟨sl,t,c⟩:=p
   rw[hst] at h2
   obtain ⟨b2,e1,e2⟩:=h2
   refine ⟨b2,(hslot _ _ _ hst).trans e1,?_⟩
   by_cases e:b2=b
   ·subst e
    rw[g2] at e2
    simp only[Option.some.injEq,Obj.cells.injEq,and_true] at e2
    exact absurd e2.2.symm (q2 _ _ _ hst)
   exact (World.bV _ e).trans e2
 ·intro i hi o ho x w1 hH K hK
  have hs:specs[i]? = some specs[i]:=List.getElem?_eq_getElem hi
  have key:=hops.at_ _ _ _ i o specs[i] (by simpa using ho) hs
  rw[Nat.zero_add] at key
  rw[hF]
  have hdo:aT ops i=o.dst:=by unfold aT;rw[ho];rfl
  refine key x w1 hH K ?_
  intro a' w' hleft
  unfold aCM at hleft
  cases hst:specs[i].st with
  | none =>
   rw[hst] at hleft
   obtain ⟨v,rfl,hR,hB,hN⟩:=hleft
   refine hK _ _ ⟨v,?_,?_,?_,fun hmem=>hN ?_⟩
   ·rw[<-hF,hdo]
   ·intro s' hs'
    rw[hs] at hs'
    obtain rfl:=Option.some.inj hs'
    refine ⟨fun d hd => ?_,by rw[hst];trivial⟩
    unfold nx
    rw[hd]
    simpa using hR
   ·unfold LG
    rw[hs,Option.bind_some,hst]
    exact hB
   unfold aIg at hmem
   rw[List.mem_filter,hs] at hmem
   simpa using hmem.2
  | some p =>
   obtain ⟨sl,t,c⟩:=p
   rw[hst] at hleft
   obtain ⟨rfl,b,c0,e1,e2,e3,e4,rfl⟩:=hleft
   obtain ⟨hso3,hso2⟩:=hso i sl t c (by rw[hs,Option.bind_some,hst])
   refine hK _ _ ⟨undef,?_,?_,?_,fun hmem => ?_⟩
   ·rw[<-hF,hso2.1];rfl
   ·intro s' hs'
    rw[hs] at hs'
    obtain rfl:=Option.some.inj hs'
    refine ⟨fun d hd=>(by rw[hso2.1] at hd;cases hd),?_⟩
    rw[hst]
    refine ⟨b,?_,World.dX _ (Array.getElem?_eq_some_iff.1 e3).1⟩
    unfold nx
    rw[hso2.1]
    exact e1
   ·unfold LG
    rw[hs,Option.bind_some,hst]
    exact ⟨b,c0,e2,e3,e4,rfl⟩
   exact absurd hmem hso3
 intro x w1 hH
 rw[hF]
 exact hend x w1 hH
theorem aFw {w:World} {b:Nat} {c:Array Value} {ty:TypeId} (h:w.heap[b]? = some (.cells c ty)):w.aN b 0 c.size=true:=by simp[World.aN,h]
theorem aHA {B b:Nat} {k:Array Value} {ty:TypeId} {x:Nat->Value} {fr:Array Value} {df:List Deferred} {d:Option Nat} {w:World} {a':Act} (he:(⟨fr,df⟩:Act).put d (.pointer (some ⟨b,0,none⟩))=a') (hb:b=w.heap.size) (hB:B<=w.heap.size) :
  aCM B (.new k ty) x fr df d w a' (w.alloc (.cells k ty)):=by
 obtain ⟨v,h1,h2,h3,h4⟩:=lJ (B:=B) (o := .cells k ty) (fr:=fr) (df:=df) (d:=d) (w:=w) he hb hB
 exact ⟨v,h1,h2,h3,h4⟩
theorem aFZ {B b n:Nat} {k:Array Value} {ty:TypeId} {x:Nat->Value} {fr:Array Value} {df:List Deferred} {d:Option Nat} {w:World} {a':Act} (he:(⟨fr,df⟩:Act).put d (.pointer (some ⟨b,0,none⟩))=a') (hb:b=w.heap.size) (hB:B<=w.heap.size) (hk:k.size=n) :
  aCM B (.soft n ty) x fr df d w a' (w.alloc (.cells k ty)):=by
 subst hb
 have hs:(w.alloc (.cells k ty)).heap.size=w.heap.size+1:=by simp
 refine ⟨_,he,⟨_,k,rfl,hB,?_,hk⟩,(Below.refl _ _).alloc (Nat.le_refl _) _,fun _=>⟨_,rfl,Nat.le_refl _,by omega⟩⟩
 show (w.heap.push _)[w.heap.size]? = some _
 simp
theorem aHB {B b sl:Nat} {c0 c:Array Value} {ty:TypeId} {x:Nat->Value} {fr:Array Value} {df:List Deferred} {w:World} (hx:x sl = .pointer (some ⟨b,0,none⟩)) (hB:B<=b) (h0:w.heap[b]? = some (.cells c0 ty)) (hs:c.size=c0.size) :
  aCM B (.sto sl ty c) x fr df none w ⟨fr,df⟩ (w.lay b 0 c):=by
 refine ⟨rfl,b,c0,hx,hB,h0,hs,?_⟩
 have hlt:=(Array.getElem?_eq_some_iff.1 h0).1
 have h1:(w.lay b 0 c).heap=(w.kD B b (.cells c ty)).heap:=by
  apply Array.ext_getElem?
  intro k
  by_cases hk:k=b
  ·subst hk
   rw[World.dX _ hlt]
   simp only[World.lay,Array.getElem?_modify,if_true,h0,Option.map_some]
   rw[dN hs]
  rw[World.bV _ hk]
  exact aY hk
 simp only[World.lay,World.kD] at h1 |-
 rw[h1]
end Go.Proofs.YtcedmfnlkelhkaaGreatDoor

/- The rule for a region that draws its order, once more, with ten levels of what lies behind an operation. -/
import Derived.Test.YtcedmfnlkelhkaaGreatDoorJaa
import Derived.RegionTactic
namespace Go.Proofs.YtcedmfnlkelhkaaGreatDoor.Dn
open Go.RowKit

def iO (ops:Array Oper) (n:Nat) (ds pures:List Nat):Bool :=
 decide (n<=ops.size) &&
 ((List.range ops.size).all fun i=>(iQ ops i).all fun j=>decide (j<i)) &&
 ((List.range ops.size).all fun i=>decide (i<n) || ((List.range i).all fun j=>pures.contains j || (past ops 10 i).contains j)) &&
 ((List.range n).all fun i=>match aT ops i with | some d=>ds.contains d && ((List.range n).all fun j=>decide (i=j) || aT ops j != some d) | none=>true) &&
 (Region.noSelect ops && pures.all fun i=>decide (i<n) && match ops[i]? with
  | some oi=>oi.dst.isSome && (List.range ops.size).all fun j=>decide (j=i) || (past ops 10 i).contains j || (iQ ops j).contains i || (match ops[j]? with | some oj=>oi.apart ops oj | none=>true)
  | none=>false)

section
variable {P:Program} {ops:Array Oper} {Q:Exit->Act->World->Prop}

def Left (ops:Array Oper) (base:Array Value) (df:List Deferred) (ds:List Nat) (news:List Nat) (R:Nat->Value->World->Prop) (i:Nat) (x:Nat->Value) (w:World) (a':Act) (w':World):Prop :=
 ∃ v,a'=(⟨over base ds x,df⟩:Act).put (aT ops i) v/\R i v w'/\Below w.heap.size w w'/\(i∈news -> ∃ b,v = .pointer (some ⟨b,0,none⟩)/\w.heap.size<=b/\b<w'.heap.size)

structure Held (ops:Array Oper) (n:Nat) (ds news:List Nat) (R:Nat->Value->World->Prop) (w0:World) (L:Nat->Prop) (x:Nat->Value) (w:World):Prop where
 below:Below w0.heap.size w0 w
 holds:∀ i,i<n->L i -> ∀ d,aT ops i=some d->R i (x d) w
 new:∀ i∈news,i<n->L i -> ∀ d,aT ops i=some d -> ∃ b,x d = .pointer (some ⟨b,0,none⟩)/\b<w.heap.size
 apart:∀ i∈news,∀ j∈news,i<n->j<n->L i->L j->i≠j -> ∀ d e,aT ops i=some d->aT ops j=some e->x d≠x e

theorem Held.g {ops:Array Oper} {n:Nat} {ds news:List Nat} {R:Nat->Value->World->Prop} {w0:World} {L:Nat->Prop} {x:Nat->Value} {w:World} (h:Held ops n ds news R w0 L x w) (i d:Nat) (h1:i<n:=by decide) (h2:L i:=by decide +kernel) (h3:aT ops i=some d:=by rfl):R i (x d) w:=h.holds i h1 h2 d h3
theorem Held.t {ops:Array Oper} {n:Nat} {ds news:List Nat} {R:Nat->Value->World->Prop} {w0:World} {L:Nat->Prop} {x:Nat->Value} {w:World} (h:Held ops n ds news R w0 L x w) (i d:Nat) (h1:i<n:=by decide) (h2:L i:=by trivial) (h3:aT ops i=some d:=by rfl):R i (x d) w:=h.holds i h1 h2 d h3
theorem Held.next {n:Nat} {ds news:List Nat} {R:Nat->Value->World->Prop} {w0:World} {L:Nat->Prop} {x:Nat->Value} {w w':World} {v:Value} {i:Nat}
  (h:Held ops n ds news R w0 L x w) (hi:i<n) (hL:¬ L i)
  (hst:∀ i v w w',R i v w->Below w.heap.size w w'->R i v w')
  (hnd:∀ j,j<n->j≠i -> ∀ d,aT ops i=some d->aT ops j≠some d)
  (hR:R i v w') (hb:Below w.heap.size w w') (hnew:i∈news -> ∃ b,v = .pointer (some ⟨b,0,none⟩)/\w.heap.size<=b/\b<w'.heap.size) :
  Held ops n ds news R w0 (fun j=>j=i\/L j) (match aT ops i with | some d=>upd x d v | none=>x) w':=by
 have hxo:∀ j,j<n->j≠i -> ∀ e,aT ops j=some e->(match aT ops i with | some d=>upd x d v | none=>x) e=x e:=by
  intro j hj hji e he
  cases hd:aT ops i with
  | none=>rfl
  | some d=>exact mQ _ _ (fun e'=>hnd j hj hji d hd (e' ▸ he))
 have hxi:∀ d,aT ops i=some d->(match aT ops i with | some d=>upd x d v | none=>x) d=v:=by
  intro d hd;rw[hd];simp
 refine ⟨h.below.trans (hb.mono h.below.size),?_,?_,?_⟩
 ·intro j hj hl d hd
  by_cases hji:j=i
  ·subst hji;rw[hxi d hd];exact hR
  rw[hxo j hj hji d hd];exact hst j _ w w' (h.holds j hj (hl.resolve_left hji) d hd) hb
 ·intro j hjn hj hl d hd
  by_cases hji:j=i
  ·subst hji;rw[hxi d hd];obtain ⟨b,e,_,hb2⟩:=hnew hjn;exact ⟨b,e,hb2⟩
  rw[hxo j hj hji d hd];obtain ⟨b,e,hb2⟩:=h.new j hjn hj (hl.resolve_left hji) d hd;exact ⟨b,e,Nat.lt_of_lt_of_le hb2 hb.size⟩
 intro j hjn k hkn hj hk hlj hlk hjk d e hd he
 by_cases hji:j=i
 ·subst hji
  have hkj:k≠j:=fun e'=>hjk e'.symm
  rw[hxi d hd,hxo k hk hkj e he]
  obtain ⟨b,rfl,hb1,_⟩:=hnew hjn
  obtain ⟨c,ec,hc⟩:=h.new k hkn hk (hlk.resolve_left hkj) e he
  rw[ec];intro hcon;injection hcon with hcon;injection hcon with hcon;injection hcon with hcon;omega
 by_cases hki:k=i
 ·subst hki
  rw[hxi e he,hxo j hj hji d hd]
  obtain ⟨b,rfl,hb1,_⟩:=hnew hkn
  obtain ⟨c,ec,hc⟩:=h.new j hjn hj (hlj.resolve_left hji) d hd
  rw[ec];intro hcon;injection hcon with hcon;injection hcon with hcon;injection hcon with hcon;omega
 rw[hxo j hj hji d hd,hxo k hk hki e he]
 exact h.apart j hjn k hkn hj hk (hlj.resolve_left hji) (hlk.resolve_left hki) hjk d e hd he

theorem count_set {l:Array Bool} {i:Nat} (hi:i<l.size) (hf:l[i]? = some false):(l.setIfInBounds i true).toList.count false+1=l.toList.count false:=by
 have e1:(l.setIfInBounds i true).toList=l.toList.set i true:=by simp
 have hf':l[i]=false:=by simpa [hi] using hf
 rw[e1,List.count_set (by simpa using hi)]
 simp[hf']
 have:0<l.toList.count false:=List.count_pos_iff.2 (Array.mem_toList_iff.2 (Array.mem_of_getElem? hf))
 rw[<-Array.count_toList]
 omega

/-- THE RULE. 'n': how many operations come up in any order; 'ds': their slots; 'news': which of them make a block; 'pures': which of them may come behind later ones, for they yield their value in whatever world; 'R i': what the value of operation i meets, in every world that has grown.
One obligation an operation ('hops': from whatever frame and world in which what must precede it holds), and the rest of the region from whatever all of them have left ('hend'). -/
theorem jL {rid:Nat} {a:Act} {w:World} (hm:P.follows .mixedOrders=true) (n:Nat) (ds news pures:List Nat) (R:Nat->Value->World->Prop)
  (hck:iO ops n ds pures=true)
  (hQ:∀ (s:Nat) v c a w,Q (.panic c) (a.put (some s) v) w->Q (.panic c) a w)
  (hst:∀ i v w w',R i v w->Below w.heap.size w w'->R i v w')
  (hpure:∀ i∈pures,i∉news /\ ∀ o,ops[i]? = some o -> ∀ x w1,Held ops n ds news R w.drew (fun j=>j∈past ops 10 i) x w1 -> ∃ v,Yields P ops o v ⟨over a.tmps ds x,a.defers⟩/\R i v w1)
  (hops:∀ i,i<n->i∉pures -> ∀ o,ops[i]? = some o -> ∀ x w1,Held ops n ds news R w.drew (fun j=>j∈past ops 10 i) x w1 ->
   ∀ K:Act->World->Prop,(∀ a' w',Left ops a.tmps a.defers ds news R i x w1 a' w'->K a' w') ->
   if Region.wanted o (yielded ops (over a.tmps ds x))=true then o.wp P ⟨over a.tmps ds x,a.defers⟩ w1 K Q else K ((⟨over a.tmps ds x,a.defers⟩:Act).put o.dst undef) w1)
  (hend:∀ x w1,Held ops n ds news R w.drew (fun _=>True) x w1->wpList P ops Q (ops.toList.drop n) ⟨over a.tmps ds x,a.defers⟩ w1) :
  (Code.region rid ops true).wp P Q a w:=by
 simp only[iO,Bool.and_eq_true,List.all_eq_true,List.mem_range,Bool.or_eq_true,decide_eq_true_eq] at hck
 obtain ⟨⟨⟨⟨hn,hlt⟩,htail⟩,hds⟩,hnosel,hpu⟩:=hck
 have hmem:∀ i,i<n -> ∀ d,aT ops i=some d->d∈ds:=by
  intro i hi d hd
  have:=hds i hi
  rw[hd] at this
  simp only[Bool.and_eq_true] at this
  simpa using this.1
 have hnd:∀ i,i<n -> ∀ j,j<n->j≠i -> ∀ d,aT ops i=some d->aT ops j≠some d:=by
  intro i hi j hj hji d hd he
  have:=hds i hi
  rw[hd] at this
  simp only[Bool.and_eq_true,List.all_eq_true,List.mem_range,Bool.or_eq_true,decide_eq_true_eq] at this
  rcases this.2 j hj with e | e
  ·exact hji e.symm
  rw[he] at e;simp at e
 have htail':∀ i,i<ops.size->n<=i -> ∀ j,j<i->j∉pures->j∈past ops 10 i:=by
  intro i hi hni j hj hjp
  rcases htail i hi with h | h
  ·omega
  rcases h j hj with h | h
  ·exact (hjp (by simpa using h)).elim
  simpa using h
 -- the invariant
 let Clo:Array Bool->Prop:=fun l => ∀ j,l[j]? = some true -> ∀ p∈iQ ops j,l[p]? = some true
 let PA:Array Bool->Act->World->Prop:=fun l a' w'=>(∀ t,n<=t->t<ops.size->l[t]? = some false)/\(∃ i,i<n/\l[i]? = some false) /\
  ∃ x,a'=⟨over a.tmps ds x,a.defers⟩/\Held ops n ds news R w.drew (fun j=>l[j]? = some true) x w'
 let PB:Array Bool->Act->World->Prop:=fun l a' w' => ∃ k,n<=k/\k<=ops.size/\(∀ j,j<k->l[j]? = some true)/\(∀ j,k<=j->j<ops.size->l[j]? = some false)/\wpList P ops Q (ops.toList.drop k) a' w'
 let Inv:Array Bool->Act->World->Prop:=fun l a' w'=>l.size=ops.size/\Clo l/\(PA l a' w'\/PB l a' w')
 have enterB:∀ (l:Array Bool) x w',(∀ t,n<=t->t<ops.size->l[t]? = some false)->(∀ j,j<n->l[j]? = some true) ->
   Held ops n ds news R w.drew (fun j=>l[j]? = some true) x w'->PB l ⟨over a.tmps ds x,a.defers⟩ w':=by
  intro l x w' h1 h2 h3
  refine ⟨n,Nat.le_refl _,hn,h2,h1,hend x w' ⟨h3.below,fun i hi _=>h3.holds i hi (h2 i hi),fun i him hi _=>h3.new i him hi (h2 i hi),fun i him j hjm hi hj _ _=>h3.apart i him j hjm hi hj (h2 i hi) (h2 j hj)⟩⟩
 have leastReady:∀ (l:Array Bool) k,k<ops.size->l[k]? = some false->(∀ j,j<k->l[j]? = some true)->k∈Region.ready .any ops l:=by
  intro l k hk h1 h2
  exact uV (ops:=ops) hk h1 (fun p hp=>h2 p (hlt k hk p hp))
 have least:∀ (l:Array Bool) m,l.size=ops.size->m<ops.size->l[m]? = some false -> ∃ k,k<=m/\l[k]? = some false /\ ∀ j,j<k->l[j]? = some true:=by
  intro l m hl
  induction m using Nat.strongRecOn with
  | ind m ih =>
   intro hm1 hm2
   by_cases hex:∃ j,j<m/\l[j]? = some false
   ·obtain ⟨j,hj,hjf⟩:=hex
    obtain ⟨k,hk,hk2⟩:=ih j hj (by omega) hjf
    exact ⟨k,by omega,hk2⟩
   refine ⟨m,Nat.le_refl _,hm2,fun j hj => ?_⟩
   have hjs:j<l.size:=by omega
   cases hb:l[j] with
   | true=>simp[hjs,hb]
   | false=>exact (hex ⟨j,hj,by simp[hjs,hb]⟩).elim
 have setClo:∀ (l:Array Bool) i,Clo l->(∀ p∈iQ ops i,l[p]? = some true)->Clo (l.setIfInBounds i true):=by
  intro l i hc hp j hj p hpj
  have keep:∀ q:Nat,l[q]? = some true->(l.setIfInBounds i true)[q]? = some true:=by
   intro q hq
   by_cases hqi:i=q
   ·subst hqi
    have:i<l.size:=by
     rcases Nat.lt_or_ge i l.size with h | h
     ·exact h
     rw[Array.getElem?_eq_none h] at hq;cases hq
    rw[Array.getElem?_setIfInBounds_self_of_lt this]
   rw[Array.getElem?_setIfInBounds_ne hqi];exact hq
  by_cases hji:i=j
  ·subst hji;exact keep p (hp p hpj)
  rw[Array.getElem?_setIfInBounds_ne hji] at hj;exact keep p (hc j hj p hpj)
 -- behind operation i of the first n
 have next:∀ (l:Array Bool) x w' i,l.size=ops.size->Clo l->(∀ t,n<=t->t<ops.size->l[t]? = some false)->Held ops n ds news R w.drew (fun j=>l[j]? = some true) x w' ->
   i<n->l[i]? = some false->(∀ p∈iQ ops i,l[p]? = some true) -> ∀ a1 w1,Left ops a.tmps a.defers ds news R i x w' a1 w1->Inv (l.setIfInBounds i true) a1 w1:=by
  rintro l x w' i hl hc hT hH hin hfi hpi a1 w1 ⟨v,rfl,hR,hB,hnew⟩
  have hset:∀ j,(l.setIfInBounds i true)[j]? = if j=i then some true else l[j]? := by
   intro j
   by_cases hji:j=i
   ·subst hji;rw[if_pos rfl,Array.getElem?_setIfInBounds_self_of_lt (by omega)]
   ·rw[if_neg hji,Array.getElem?_setIfInBounds_ne (fun e=>hji e.symm)]
  have hc':=setClo l i hc hpi
  have hl':(l.setIfInBounds i true).size=ops.size:=by simpa using hl
  have hH':=hH.next (v:=v) hin (by rw[hfi];simp) hst (fun j hj hji d hd=>hnd i hin j hj hji d hd) hR hB hnew
  have hfr:(⟨over a.tmps ds x,a.defers⟩:Act).put (aT ops i) v=⟨over a.tmps ds (match aT ops i with | some d=>upd x d v | none=>x),a.defers⟩:=by
   cases hd:aT ops i with
   | none=>rfl
   | some d=>simp only[Act.put];rw[uT v (hmem i hin d hd)]
  rw[hfr]
  have hH2:Held ops n ds news R w.drew (fun j=>(l.setIfInBounds i true)[j]? = some true) (match aT ops i with | some d=>upd x d v | none=>x) w1:=by
   have himp:∀ j,(l.setIfInBounds i true)[j]? = some true->(j=i\/l[j]? = some true):=by
    intro j hj;rw[hset] at hj;by_cases hji:j=i
    ·exact .inl hji
    ·rw[if_neg hji] at hj;exact .inr hj
   exact ⟨hH'.below,fun j hj hjl=>hH'.holds j hj (himp j hjl),fun j hjm hj hjl=>hH'.new j hjm hj (himp j hjl),fun j hjm k hkm hj hk hjl hkl=>hH'.apart j hjm k hkm hj hk (himp j hjl) (himp k hkl)⟩
  refine ⟨hl',hc',?_⟩
  have hT':∀ t,n<=t->t<ops.size->(l.setIfInBounds i true)[t]? = some false:=by
   intro t ht1 ht2;rw[hset,if_neg (by omega)];exact hT t ht1 ht2
  by_cases hall:∃ j,j<n/\(l.setIfInBounds i true)[j]? = some false
  ·exact .inl ⟨hT',hall,_,rfl,hH2⟩
  ·refine .inr (enterB _ _ _ hT' (fun j hj => ?_) hH2)
   have hjs:j<(l.setIfInBounds i true).size:=by omega
   cases hb:(l.setIfInBounds i true)[j] with
   | true=>rw[Array.getElem?_eq_getElem hjs,hb]
   | false=>exact (hall ⟨j,hj,by rw[Array.getElem?_eq_getElem hjs,hb]⟩).elim
 have main:∀ (fuel:Nat) (l:Array Bool) (a':Act) (w':World),Inv l a' w'->l.toList.count false<=fuel->wpAny P .any ops Q fuel l a' w':=by
  intro fuel
  induction fuel with
  | zero =>
   rintro l a' w' ⟨hl,hc,hAB⟩ hcnt
   have hnone:∀ i:Nat,l[i]? ≠ some false:=by
    intro i hi
    have h0:l.toList.count false=0:=by omega
    rw[List.count_eq_zero] at h0
    exact h0 (Array.mem_toList_iff.2 (Array.mem_of_getElem? hi))
   have hr:Region.ready .any ops l = []:=by
    rw[List.eq_nil_iff_forall_not_mem]
    intro i hi
    exact hnone i (dO hl hi rfl).2.1
   refine ⟨hr,?_⟩
   rcases hAB with ⟨_,⟨m,hm1,hm2⟩,_⟩ | ⟨k,hk1,hk2,hk3,hk4,hW⟩
   ·exact (hnone m hm2).elim
   rcases Nat.lt_or_ge k ops.size with h | h
   ·exact (hnone k (hk4 k (Nat.le_refl _) h)).elim
   rw[List.drop_of_length_le (by simpa using h)] at hW
   exact hW
  | succ fuel ih =>
   rintro l a' w' ⟨hl,hc,hAB⟩ hcnt
   have hcnt':∀ i,i<ops.size->l[i]? = some false->(l.setIfInBounds i true).toList.count false<=fuel:=by
    intro i hi hf
    have:=count_set (l:=l) (i:=i) (by omega) hf
    omega
   rcases hAB with ⟨hT,⟨m0,hm01,hm02⟩,x,rfl,hH⟩ | ⟨k,hk1,hk2,hk3,hk4,hW⟩
   ·by_cases hp:∃ i,i∈pures/\i∈Region.ready .any ops l
    ·-- a pure one is taken first
     obtain ⟨i,hip,hir⟩:=hp
     obtain ⟨hi,hfi,hpi⟩:=dO hl hir rfl
     have hpast:=gK hc 10 i hpi
     have hpi2:=hpu i hip
     obtain ⟨hin,hpi3⟩:=hpi2
     have ho:ops[i]? = some ops[i]:=Array.getElem?_eq_getElem hi
     rw[ho] at hpi3
     simp only[Bool.and_eq_true,List.all_eq_true,List.mem_range,Bool.or_eq_true,decide_eq_true_eq] at hpi3
     obtain ⟨hsome,hap⟩:=hpi3
     have hHp:Held ops n ds news R w.drew (fun j=>j∈past ops 10 i) x w' :=
      ⟨hH.below,fun j hj hjp=>hH.holds j hj (hpast j hjp),fun j hjm hj hjp=>hH.new j hjm hj (hpast j hjp),fun j hjm k hkm hj hk hjp hkp=>hH.apart j hjm k hkm hj hk (hpast j hjp) (hpast k hkp)⟩
     obtain ⟨hnn,hpr⟩:=hpure i hip
     obtain ⟨v,hy,hR⟩:=hpr _ ho x w' hHp
     obtain ⟨d,hd⟩:=Option.isSome_iff_exists.1 hsome
     have hinv:=next l x w' i hl hc hT hH hin hfi hpi ((⟨over a.tmps ds x,a.defers⟩:Act).put (aT ops i) v) w' ⟨v,rfl,hR,Below.refl _ _,fun h=>(hnn h).elim⟩
     have hdst:aT ops i=ops[i].dst:=by unfold aT;rw[ho];rfl
     rw[hdst] at hinv
     refine wpAny_first ho (Region.noSelect_spec hnosel) (by rw[hd];exact fun c a w=>hQ d v c a w) fuel l _ w' ?_ hir hy (ih _ _ _ hinv (hcnt' i hi hfi))
     intro j oj hoj hji hun hno
     have hjs:j<ops.size:=(Array.getElem?_eq_some_iff.1 hoj).1
     rcases hap j hjs with ((h | h) | h) | h
     ·exact (hji h).elim
     ·have:=hpast j (by simpa using h)
      rw[Array.getD_eq_getD_getElem?,this] at hun
      simp at hun
     ·exfalso
      have h':i∈iQ ops j:=by simpa using h
      unfold iQ at h'
      rw[hoj] at h'
      simp only[Option.map_some,Option.getD_some,List.mem_map,List.mem_filter] at h'
      obtain ⟨e,⟨he1,he2⟩,he3⟩:=h'
      exact hno e (Array.mem_toList_iff.1 he1) he2 he3
     rw[hoj] at h;exact h
    -- no pure one is ready: what is ready is one of the first n
    obtain ⟨m,hm1,hm2,hm3⟩:=least l m0 hl (by omega) hm02
    have hmr:=leastReady l m (by omega) hm2 hm3
    have hmp:m∉pures:=fun h=>hp ⟨m,h,hmr⟩
    refine ⟨fun h=>(by rw[h] at hmr;cases hmr),fun i hr => ?_⟩
    obtain ⟨hi,hfi,hpi⟩:=dO hl hr rfl
    have hpast:=gK hc 10 i hpi
    have hip:i∉pures:=fun h=>hp ⟨i,h,hr⟩
    have ho:ops[i]? = some ops[i]:=Array.getElem?_eq_getElem hi
    have hin:i<n:=by
     rcases Nat.lt_or_ge i n with h | h
     ·exact h
     have:=hpast m (htail' i hi h m (by omega) hmp)
     rw[hm2] at this;cases this
    have hHp:Held ops n ds news R w.drew (fun j=>j∈past ops 10 i) x w' :=
     ⟨hH.below,fun j hj hjp=>hH.holds j hj (hpast j hjp),fun j hjm hj hjp=>hH.new j hjm hj (hpast j hjp),fun j hjm k hkm hj hk hjp hkp=>hH.apart j hjm k hkm hj hk (hpast j hjp) (hpast k hkp)⟩
    have key:=hops i hin hip _ ho x w' hHp (wpAny P .any ops Q fuel (l.setIfInBounds i true))
     (fun a1 w1 hleft=>ih _ _ _ (next l x w' i hl hc hT hH hin hfi hpi a1 w1 hleft) (hcnt' i hi hfi))
    unfold wpOp
    rw[ho]
    show if Region.wanted ops[i] (yielded ops (over a.tmps ds x))=true then _ else _
    split
    ·rename_i hw;rw[if_pos hw] at key;exact .inl key
    rename_i hw;rw[if_neg hw] at key;exact key
   refine ⟨fun hnil => ?_,fun i hr => ?_⟩
   ·rcases Nat.lt_or_ge k ops.size with h | h
    ·have:=leastReady l k h (hk4 k (Nat.le_refl _) h) hk3
     rw[hnil] at this;cases this
    rw[List.drop_of_length_le (by simpa using h)] at hW
    exact hW
   obtain ⟨hi,hfi,hpi⟩:=dO hl hr rfl
   have hpast:=gK hc 10 i hpi
   have ho:ops[i]? = some ops[i]:=Array.getElem?_eq_getElem hi
   have hnp:∀ q,n<=q->q∉pures:=by
    intro q hq hqp
    have:=(hpu q hqp).1
    omega
   have hik:i=k:=by
    rcases Nat.lt_trichotomy i k with h | h | h
    ·rw[hk3 i h] at hfi;cases hfi
    ·exact h
    have:=hpast k (htail' i hi (by omega) k h (hnp k hk1))
    rw[hk4 k (Nat.le_refl _) (by omega)] at this;cases this
   subst hik
   have hset:∀ j,(l.setIfInBounds i true)[j]? = if j=i then some true else l[j]? := by
    intro j
    by_cases hji:j=i
    ·subst hji;rw[if_pos rfl,Array.getElem?_setIfInBounds_self_of_lt (by omega)]
    rw[if_neg hji,Array.getElem?_setIfInBounds_ne (fun e=>hji e.symm)]
   have hdrop:ops.toList.drop i=ops[i] :: ops.toList.drop (i+1):=by
    rw[List.drop_eq_getElem_cons (by simpa using hi)];simp
   rw[hdrop] at hW
   have goalB:∀ a1 w1,wpList P ops Q (ops.toList.drop (i+1)) a1 w1->wpAny P .any ops Q fuel (l.setIfInBounds i true) a1 w1:=by
    intro a1 w1 h1
    refine ih _ _ _ ⟨by simpa using hl,setClo l i hc hpi,.inr ⟨i+1,by omega,by omega,?_,?_,h1⟩⟩ (hcnt' i hi hfi)
    ·intro j hj;rw[hset];split
     ·rfl
     exact hk3 j (by omega)
    intro j hj1 hj2;rw[hset,if_neg (by omega)];exact hk4 j (by omega) hj2
   unfold wpList at hW
   unfold wpOp
   rw[ho]
   show if Region.wanted ops[i] (yielded ops a'.tmps)=true then _ else _
   split
   ·rename_i hw;rw[if_pos hw] at hW;exact hW.imp (Oper.wp_mono goalB) id
   rename_i hw;rw[if_neg hw] at hW;exact goalB _ _ hW
 refine wp_region_any hm (main ops.size _ _ _ ?_ (by simp))
 have hrep:∀ j:Nat,j<ops.size->(Array.replicate ops.size false)[j]? = some false:=by intro j hj;simp[hj]
 refine ⟨by simp,?_,?_⟩
 ·intro j hj
  rw[Array.getElem?_replicate] at hj
  split at hj <;> simp at hj
 have hx0:a=⟨over a.tmps ds (fun d=>a.tmps.getD d undef),a.defers⟩:=by
  have:over a.tmps ds (fun d=>a.tmps.getD d undef)=a.tmps:=by
   apply Array.ext_getElem?
   intro s
   rw[nK]
   split
   ·rw[Array.getD_eq_getD_getElem?]
    cases a.tmps[s]? <;> rfl
   rfl
  rw[this]
 have hH0:Held ops n ds news R w.drew (fun j=>(Array.replicate ops.size false)[j]? = some true) (fun d=>a.tmps.getD d undef) w.drew:=by
  have hno:∀ j:Nat,(Array.replicate ops.size false)[j]? ≠ some true:=by
   intro j hj
   rw[Array.getElem?_replicate] at hj
   split at hj <;> simp at hj
  exact ⟨Below.refl _ _,fun j _ hj=>(hno j hj).elim,fun j _ _ hj=>(hno j hj).elim,fun j _ _ _ _ _ hj=>(hno j hj).elim⟩
 rcases Nat.eq_zero_or_pos n with h0 | h0
 ·subst h0
  rw[hx0]
  exact .inr (enterB _ _ _ (fun t _ ht=>hrep t ht) (fun j hj=>by omega) hH0)
 exact .inl ⟨fun t _ ht=>hrep t ht,⟨0,h0,hrep 0 (by omega)⟩,_,hx0,hH0⟩
end

structure Spec where
 R:Nat->Value->World->Prop
 stays:∀ B v w w',R B v w->Below w.heap.size w w'->R B v w'
 pureVal:Option Value
 pureOk:∀ v,pureVal=some v -> ∀ B w,R B v w
 isNew:Bool
def Spec.val (v:Value):Spec:=⟨fun _ u _=>u=v,fun _ _ _ _ h _=>h,none,fun _ h=>(by cases h),false⟩
def Spec.pure (v:Value):Spec:=⟨fun _ u _=>u=v,fun _ _ _ _ h _=>h,some v,fun _ h _ _=>(by cases h;rfl),false⟩
def Spec.new (o:Obj):Spec:=⟨fun B u w => ∃ b,u = .pointer (some ⟨b,0,none⟩)/\B<=b/\b<w.heap.size/\w.heap[b]? = some o,
 fun _ _ _ _ ⟨b,h1,h2,h3,h4⟩ hb=>⟨b,h1,h2,Nat.lt_of_lt_of_le h3 hb.size,(by rw[hb.block b h3];exact h4)⟩,none,fun _ h=>(by cases h),true⟩
def Spec.rel (R:Value->World->Prop):Spec:=⟨fun _ u w => ∀ w',Below w.heap.size w w'->R u w',fun _ _ _ _ h hb w'' h2=>h w'' (hb.trans (h2.mono hb.size)),none,fun _ h=>(by cases h),false⟩
def fG (l:List Spec):List Nat:=(List.range l.length).filter fun i=>((l[i]?).map fun s=>s.pureVal.isSome).getD false
def nI (l:List Spec):List Nat:=(List.range l.length).filter fun i=>((l[i]?).map (·.isNew)).getD false
def RS (B:Nat) (l:List Spec) (i:Nat) (v:Value) (w:World):Prop:=match l[i]? with | some s=>s.R B v w | none=>True
theorem agD {ops:Array Oper} {n:Nat} {ds news:List Nat} {R:Nat->Value->World->Prop} {W:World} {L:Nat->Prop} {C:(Nat->Value)->World->Prop} (h:∀ x xs d,Held ops n ds news R W.drew L x (W.grow xs d)->C x (W.grow xs d)):∀ x w1,Held ops n ds news R W.drew L x w1->C x w1:=by
 intro x w1 hH
 obtain ⟨xs,d,rfl⟩:=aA hH.below
 exact h x xs d hH
theorem Held.k {ops:Array Oper} {n:Nat} {ds news:List Nat} {R:Nat->Value->World->Prop} {w0:World} {L:Nat->Prop} {x:Nat->Value} {w:World} (h:Held ops n ds news R w0 L x w) (i:Nat) {d:Nat} (h1:i<n:=by decide) (h2:L i:=by first | trivial | decide +kernel) (h3:aT ops i=some d:=by rfl):R i (x d) w:=h.holds i h1 h2 d h3
theorem Held.e {ops:Array Oper} {n:Nat} {ds news:List Nat} {R:Nat->Value->World->Prop} {w0:World} {L:Nat->Prop} {x:Nat->Value} {w:World} (h:Held ops n ds news R w0 L x w) (i d:Nat) {v:Value} (h1:i<n:=by decide) (h2:L i:=by first | trivial | decide +kernel) (h3:aT ops i=some d:=by rfl) (h4:R i (x d) w->x d=v:=by exact fun h=>h):x d=v:=h4 (h.holds i h1 h2 d h3)
theorem oz0 {ops:Array Oper} {n:Nat} {ds news:List Nat} {R:Nat->Value->World->Prop} {W:World} {L:Nat->Prop} {C:(Nat->Value)->World->Prop} (h:∀ x xs d,Held ops n ds news R W.drew L x (W.grow xs d)->C x (W.grow xs d):=by (intro x xs d hH K hK;clear hH;(try simp only[World.grow_grow] at hK |-);go_simp;(first | (with_reducible refine hK _ _ ?_) | go_wp2_with fail);exact ⟨_,rfl,rfl,blv,fun h=>by cases h⟩)):∀ x w1,Held ops n ds news R W.drew L x w1->C x w1:=agD h
theorem oz1 {ops:Array Oper} {n:Nat} {ds news:List Nat} {R:Nat->Value->World->Prop} {W:World} {L:Nat->Prop} {C:(Nat->Value)->World->Prop} (i1 d1:Nat) {v1:Value} (h11:i1<n:=by decide) (h21:L i1:=by decide +kernel) (h31:aT ops i1=some d1:=by rfl) (h41:∀ u w,R i1 u w->u=v1:=by (intro u w h;exact h)) (h:∀ x xs d,x d1=v1->C x (W.grow xs d):=by (intro x xs d e K hK;simp only[e] at hK |-;clear e;(try simp only[World.grow_grow] at hK |-);go_simp;(first | (with_reducible refine hK _ _ ?_) | go_wp2_with fail);exact ⟨_,rfl,rfl,blv,fun h=>by cases h⟩)):∀ x w1,Held ops n ds news R W.drew L x w1->C x w1:=agD fun x xs d hH=>h x xs d (h41 _ _ (hH.holds i1 h11 h21 d1 h31))
theorem oz2 {ops:Array Oper} {n:Nat} {ds news:List Nat} {R:Nat->Value->World->Prop} {W:World} {L:Nat->Prop} {C:(Nat->Value)->World->Prop} (i1 d1 i2 d2:Nat) {v1 v2:Value} (h11:i1<n:=by decide) (h21:L i1:=by decide +kernel) (h31:aT ops i1=some d1:=by rfl) (h41:∀ u w,R i1 u w->u=v1:=by (intro u w h;exact h)) (h12:i2<n:=by decide) (h22:L i2:=by decide +kernel) (h32:aT ops i2=some d2:=by rfl) (h42:∀ u w,R i2 u w->u=v2:=by (intro u w h;exact h)) (h:∀ x xs d,x d1=v1->x d2=v2->C x (W.grow xs d):=by (intro x xs d e f K hK;simp only[e,f] at hK |-;clear e f;(try simp only[World.grow_grow] at hK |-);go_simp;(first | (with_reducible refine hK _ _ ?_) | go_wp2_with fail);exact ⟨_,rfl,rfl,blv,fun h=>by cases h⟩)):∀ x w1,Held ops n ds news R W.drew L x w1->C x w1:=agD fun x xs d hH=>h x xs d (h41 _ _ (hH.holds i1 h11 h21 d1 h31)) (h42 _ _ (hH.holds i2 h12 h22 d2 h32))
theorem ox0 {ops:Array Oper} {n:Nat} {ds news:List Nat} {R:Nat->Value->World->Prop} {W:World} {L:Nat->Prop} {C:(Nat->Value)->World->Prop} (h:∀ x xs d,Held ops n ds news R W.drew L x (W.grow xs d)->C x (W.grow xs d):=by (intro x xs d hH K hK;clear hH;(try simp only[World.grow_grow] at hK |-);go_simp;go_wp2_with fail;exact ⟨_,rfl,rfl,blv,fun h=>by cases h⟩)):∀ x w1,Held ops n ds news R W.drew L x w1->C x w1:=agD h
theorem ox1 {ops:Array Oper} {n:Nat} {ds news:List Nat} {R:Nat->Value->World->Prop} {W:World} {L:Nat->Prop} {C:(Nat->Value)->World->Prop} (i1 d1:Nat) {v1:Value} (h11:i1<n:=by decide) (h21:L i1:=by decide +kernel) (h31:aT ops i1=some d1:=by rfl) (h41:∀ u w,R i1 u w->u=v1:=by (intro u w h;exact h)) (h:∀ x xs d,x d1=v1->C x (W.grow xs d):=by (intro x xs d e K hK;simp only[e] at hK |-;clear e;(try simp only[World.grow_grow] at hK |-);go_simp;go_wp2_with fail;exact ⟨_,rfl,rfl,blv,fun h=>by cases h⟩)):∀ x w1,Held ops n ds news R W.drew L x w1->C x w1:=agD fun x xs d hH=>h x xs d (h41 _ _ (hH.holds i1 h11 h21 d1 h31))
theorem ox2 {ops:Array Oper} {n:Nat} {ds news:List Nat} {R:Nat->Value->World->Prop} {W:World} {L:Nat->Prop} {C:(Nat->Value)->World->Prop} (i1 d1 i2 d2:Nat) {v1 v2:Value} (h11:i1<n:=by decide) (h21:L i1:=by decide +kernel) (h31:aT ops i1=some d1:=by rfl) (h41:∀ u w,R i1 u w->u=v1:=by (intro u w h;exact h)) (h12:i2<n:=by decide) (h22:L i2:=by decide +kernel) (h32:aT ops i2=some d2:=by rfl) (h42:∀ u w,R i2 u w->u=v2:=by (intro u w h;exact h)) (h:∀ x xs d,x d1=v1->x d2=v2->C x (W.grow xs d):=by (intro x xs d e f K hK;simp only[e,f] at hK |-;clear e f;(try simp only[World.grow_grow] at hK |-);go_simp;go_wp2_with fail;exact ⟨_,rfl,rfl,blv,fun h=>by cases h⟩)):∀ x w1,Held ops n ds news R W.drew L x w1->C x w1:=agD fun x xs d hH=>h x xs d (h41 _ _ (hH.holds i1 h11 h21 d1 h31)) (h42 _ _ (hH.holds i2 h12 h22 d2 h32))
theorem ow0 {ops:Array Oper} {n:Nat} {ds news:List Nat} {R:Nat->Value->World->Prop} {W:World} {L:Nat->Prop} {C:(Nat->Value)->World->Prop} (h:∀ x xs d,Held ops n ds news R W.drew L x (W.grow xs d)->C x (W.grow xs d):=by (intro x xs d hH K hK;clear hH;(try simp only[World.grow_grow] at hK |-);go_simp;go_wp2_with fail;exact ⟨_,rfl,rfl,blw,fun h=>by cases h⟩)):∀ x w1,Held ops n ds news R W.drew L x w1->C x w1:=agD h
theorem ow1 {ops:Array Oper} {n:Nat} {ds news:List Nat} {R:Nat->Value->World->Prop} {W:World} {L:Nat->Prop} {C:(Nat->Value)->World->Prop} (i1 d1:Nat) {v1:Value} (h11:i1<n:=by decide) (h21:L i1:=by decide +kernel) (h31:aT ops i1=some d1:=by rfl) (h41:∀ u w,R i1 u w->u=v1:=by (intro u w h;exact h)) (h:∀ x xs d,x d1=v1->C x (W.grow xs d):=by (intro x xs d e K hK;simp only[e] at hK |-;clear e;(try simp only[World.grow_grow] at hK |-);go_simp;go_wp2_with fail;exact ⟨_,rfl,rfl,blw,fun h=>by cases h⟩)):∀ x w1,Held ops n ds news R W.drew L x w1->C x w1:=agD fun x xs d hH=>h x xs d (h41 _ _ (hH.holds i1 h11 h21 d1 h31))
theorem ow2 {ops:Array Oper} {n:Nat} {ds news:List Nat} {R:Nat->Value->World->Prop} {W:World} {L:Nat->Prop} {C:(Nat->Value)->World->Prop} (i1 d1 i2 d2:Nat) {v1 v2:Value} (h11:i1<n:=by decide) (h21:L i1:=by decide +kernel) (h31:aT ops i1=some d1:=by rfl) (h41:∀ u w,R i1 u w->u=v1:=by (intro u w h;exact h)) (h12:i2<n:=by decide) (h22:L i2:=by decide +kernel) (h32:aT ops i2=some d2:=by rfl) (h42:∀ u w,R i2 u w->u=v2:=by (intro u w h;exact h)) (h:∀ x xs d,x d1=v1->x d2=v2->C x (W.grow xs d):=by (intro x xs d e f K hK;simp only[e,f] at hK |-;clear e f;(try simp only[World.grow_grow] at hK |-);go_simp;go_wp2_with fail;exact ⟨_,rfl,rfl,blw,fun h=>by cases h⟩)):∀ x w1,Held ops n ds news R W.drew L x w1->C x w1:=agD fun x xs d hH=>h x xs d (h41 _ _ (hH.holds i1 h11 h21 d1 h31)) (h42 _ _ (hH.holds i2 h12 h22 d2 h32))
def aCN (B:Nat) (s:Spec) (fr:Array Value) (df:List Deferred) (d:Option Nat) (w:World) (a':Act) (w':World):Prop :=
 ∃ v,(⟨fr,df⟩:Act).put d v=a'/\s.R B v w'/\Below w.heap.size w w'/\(s.isNew=true -> ∃ b,v = .pointer (some ⟨b,0,none⟩)/\w.heap.size<=b/\b<w'.heap.size)
def aD3 (P:Program) (ops:Array Oper) (Q:Exit->Act->World->Prop) (w0:World) (F:(Nat->Value)->Array Value) (df:List Deferred) (ds news:List Nat) (n:Nat) (all:List Spec) (i:Nat) (o:Oper) (s:Spec):Prop :=
 match s.pureVal with
 | some v => ∀ x w1,Held ops n ds news (RS w0.heap.size all) w0 (fun j=>j∈past ops 10 i) x w1->Yields P ops o v ⟨F x,df⟩
 | none => ∀ x w1,Held ops n ds news (RS w0.heap.size all) w0 (fun j=>j∈past ops 10 i) x w1 ->
   ∀ K:Act->World->Prop,(∀ a' w',aCN w0.heap.size s (F x) df o.dst w1 a' w'->K a' w') ->
   if Region.wanted o (yielded ops (F x))=true then o.wp P ⟨F x,df⟩ w1 K Q else K ((⟨F x,df⟩:Act).put o.dst undef) w1
def Obl (P:Program) (ops:Array Oper) (Q:Exit->Act->World->Prop) (w0:World) (F:(Nat->Value)->Array Value) (df:List Deferred) (ds news:List Nat) (n:Nat) (all:List Spec):Nat->List Oper->List Spec->Prop
 | i,o :: l,s :: ss=>aD3 P ops Q w0 F df ds news n all i o s/\Obl P ops Q w0 F df ds news n all (i+1) l ss
 | _,_,_=>True

theorem Obl.at_ {P:Program} {ops:Array Oper} {Q:Exit->Act->World->Prop} {w0:World} {F:(Nat->Value)->Array Value} {df:List Deferred} {ds news:List Nat} {n:Nat} {all:List Spec} :
  ∀ (l:List Oper) (ss:List Spec) (k:Nat),Obl P ops Q w0 F df ds news n all k l ss -> ∀ i o s,l[i]? = some o->ss[i]? = some s->aD3 P ops Q w0 F df ds news n all (k+i) o s
 | o :: l,s :: ss,k,h,0,o',s',ho,hs=>by
  simp at ho hs;subst ho;subst hs;exact h.1
 | o :: l,s :: ss,k,h,i+1,o',s',ho,hs=>by
  have:=Obl.at_ l ss (k+1) h.2 i o' s' (by simpa using ho) (by simpa using hs)
  simpa [Nat.add_assoc,Nat.add_comm 1 i] using this
 | [],_,_,_,_,_,_,ho,_=>by simp at ho
 | _ :: _, [],_,_,_,_,_,_,hs=>by simp at hs

theorem kG {l:List Spec} {i:Nat} (h:i∈fG l):∃ s v,l[i]? = some s/\s.pureVal=some v:=by
 unfold fG at h
 rw[List.mem_filter] at h
 obtain ⟨_,h2⟩:=h
 cases hs:l[i]? with
 | none=>simp[hs] at h2
 | some s =>
  rw[hs] at h2
  simp only[Option.map_some,Option.getD_some] at h2
  obtain ⟨v,hv⟩:=Option.isSome_iff_exists.1 h2
  exact ⟨s,v,rfl,hv⟩
theorem gJ {l:List Spec} {i:Nat} (hi:i<l.length) (h:i∉fG l):∀ s,l[i]? = some s->s.pureVal=none:=by
 intro s hs
 cases hv:s.pureVal with
 | none=>rfl
 | some v =>
  refine (h ?_).elim
  unfold fG
  rw[List.mem_filter,hs]
  refine ⟨List.mem_range.2 hi,?_⟩
  simp[hv]

theorem aG {P:Program} {ops:Array Oper} {Q:Exit->Act->World->Prop} {rid:Nat} {a:Act} {w:World} (hm:P.follows .mixedOrders=true) (specs:List Spec) (n:Nat) (hn:specs.length=n) (ds news pures:List Nat) (hnews:nI specs=news)
  (hpures:fG specs=pures) (hpn:∀ i∈news,i∉pures) (hck:iO ops n ds pures=true)
  (hQ:∀ (s:Nat) v c a w,Q (.panic c) (a.put (some s) v) w->Q (.panic c) a w)
  (F:(Nat->Value)->Array Value) (hF:∀ x,over a.tmps ds x=F x)
  (hops:Obl P ops Q w.drew F a.defers ds news n specs 0 ops.toList specs)
  (hend:∀ x w1,Held ops n ds news (RS w.drew.heap.size specs) w.drew (fun _=>True) x w1->wpList P ops Q (ops.toList.drop n) ⟨F x,a.defers⟩ w1) :
  (Code.region rid ops true).wp P Q a w:=by
 subst hn;subst hnews;subst hpures
 refine jL hm specs.length ds (nI specs) (fG specs) (RS w.drew.heap.size specs) hck hQ ?_ ?_ ?_ ?_
 ·intro i v w1 w2 h hb
  unfold RS at *
  split
  ·rename_i s hs;rw[hs] at h;exact s.stays _ v w1 w2 h hb
  trivial
 ·intro i hip
  obtain ⟨s,v,hs,hv⟩:=kG hip
  refine ⟨fun hm=>hpn i hm hip,fun o ho x w1 hH => ?_⟩
  have:=hops.at_ _ _ _ i o _ (by simpa using ho) hs
  rw[Nat.zero_add] at this
  unfold aD3 at this
  rw[hv] at this
  refine ⟨v,?_,?_⟩
  ·rw[hF];exact this x w1 hH
  unfold RS;rw[hs];exact s.pureOk v hv _ _
 ·intro i hi hip o ho x w1 hH K hK
  have hs:specs[i]? = some specs[i]:=List.getElem?_eq_getElem hi
  have hnp:=gJ hi hip _ hs
  have key:=hops.at_ _ _ _ i o specs[i] (by simpa using ho) hs
  rw[Nat.zero_add] at key
  unfold aD3 at key
  rw[hnp] at key
  have key2:=key x w1 hH
  rw[hF]
  refine key2 K ?_
  rintro a' w' ⟨v,rfl,hR,hB,hN⟩
  refine hK _ _ ⟨v,?_,?_,hB,fun hmem=>hN ?_⟩
  ·rw[<-hF];unfold aT;rw[ho];rfl
  ·unfold RS;rw[hs];exact hR
  unfold nI at hmem
  rw[List.mem_filter,hs] at hmem
  simpa using hmem.2
 intro x w1 hH
 rw[hF]
 exact hend x w1 hH
theorem lJ {B b:Nat} {o:Obj} {fr:Array Value} {df:List Deferred} {d:Option Nat} {w:World} {a':Act} (he:(⟨fr,df⟩:Act).put d (.pointer (some ⟨b,0,none⟩))=a') (hb:b=w.heap.size) (hB:B<=w.heap.size) :
  aCN B (.new o) fr df d w a' (w.alloc o):=by
 subst hb
 have hs:(w.alloc o).heap.size=w.heap.size+1:=by simp
 refine ⟨_,he,⟨_,rfl,hB,by omega,?_⟩,(Below.refl _ _).alloc (Nat.le_refl _) _,fun _=>⟨_,rfl,Nat.le_refl _,by omega⟩⟩
 show (w.heap.push o)[w.heap.size]? = some o
 simp
def aAF (ops:Array Oper) (n:Nat) (ds pures:List Nat):Bool :=
 decide (n<=ops.size) &&
 ((List.range ops.size).all fun i=>(iQ ops i).all fun j=>decide (j<i)) &&
 ((List.range ops.size).all fun i=>decide (i<n) || ((List.range n).all fun j=>pures.contains j || (past ops 10 i).contains j)) &&
 ((List.range n).all fun i=>match aT ops i with | some d=>ds.contains d && ((List.range n).all fun j=>decide (i=j) || aT ops j != some d) | none=>true) &&
 (Region.noSelect ops && pures.all fun i=>decide (i<n) && match ops[i]? with
  | some oi=>oi.dst.isSome && (List.range ops.size).all fun j=>decide (j=i) || (past ops 10 i).contains j || (iQ ops j).contains i || (match ops[j]? with | some oj=>oi.apart ops oj | none=>true)
  | none=>false)
def zH (n N:Nat):Array Bool:=(List.replicate n true++List.replicate (N - n) false).toArray
theorem xA {n N:Nat} (_h:n<=N):(zH n N).toList.count false=N - n:=by
 unfold zH;simp[List.count_append,List.count_replicate]
theorem aGk {n N:Nat} {l:Array Bool} (h0:l.size=N) (hn:n<=N) (h1:∀ t,n<=t->t<N->l[t]? = some false) (h2:∀ j,j<n->l[j]? = some true):l=zH n N:=by
 apply Array.ext_getElem?
 intro j
 unfold zH
 simp only[List.getElem?_toArray]
 by_cases hj:j<n
 ·rw[h2 j hj,List.getElem?_append_left (by simpa using hj)]
  simp[hj]
 rw[List.getElem?_append_right (by simp;omega)]
 by_cases hN:j<N
 ·rw[h1 j (by omega) hN,List.getElem?_replicate,if_pos (by simp;omega)]
 rw[Array.getElem?_eq_none (by omega),List.getElem?_replicate,if_neg (by simp;omega)]

section
variable {P:Program} {ops:Array Oper} {Q:Exit->Act->World->Prop}
/-- THE RULE. 'n': how many operations come up in any order; 'ds': their slots; 'news': which of them make a block; 'pures': which of them may come behind later ones, for they yield their value in whatever world; 'R i': what the value of operation i meets, in every world that has grown.
One obligation an operation ('hops': from whatever frame and world in which what must precede it holds), and the rest of the region from whatever all of them have left ('hend'). -/
theorem aA2 {rid:Nat} {a:Act} {w:World} (hm:P.follows .mixedOrders=true) (n:Nat) (ds news pures:List Nat) (R:Nat->Value->World->Prop)
  (hck:aAF ops n ds pures=true)
  (hQ:∀ (s:Nat) v c a w,Q (.panic c) (a.put (some s) v) w->Q (.panic c) a w)
  (hst:∀ i v w w',R i v w->Below w.heap.size w w'->R i v w')
  (hpure:∀ i∈pures,i∉news /\ ∀ o,ops[i]? = some o -> ∀ x w1,Held ops n ds news R w.drew (fun j=>j∈past ops 10 i) x w1 -> ∃ v,Yields P ops o v ⟨over a.tmps ds x,a.defers⟩/\R i v w1)
  (hops:∀ i,i<n->i∉pures -> ∀ o,ops[i]? = some o -> ∀ x w1,Held ops n ds news R w.drew (fun j=>j∈past ops 10 i) x w1 ->
   ∀ K:Act->World->Prop,(∀ a' w',Left ops a.tmps a.defers ds news R i x w1 a' w'->K a' w') ->
   if Region.wanted o (yielded ops (over a.tmps ds x))=true then o.wp P ⟨over a.tmps ds x,a.defers⟩ w1 K Q else K ((⟨over a.tmps ds x,a.defers⟩:Act).put o.dst undef) w1)
  (hend:∀ x w1,Held ops n ds news R w.drew (fun _=>True) x w1->wpAny P .any ops Q (ops.size - n) (zH n ops.size) ⟨over a.tmps ds x,a.defers⟩ w1) :
  (Code.region rid ops true).wp P Q a w:=by
 simp only[aAF,Bool.and_eq_true,List.all_eq_true,List.mem_range,Bool.or_eq_true,decide_eq_true_eq] at hck
 obtain ⟨⟨⟨⟨hn,hlt⟩,htail⟩,hds⟩,hnosel,hpu⟩:=hck
 have hmem:∀ i,i<n -> ∀ d,aT ops i=some d->d∈ds:=by
  intro i hi d hd
  have:=hds i hi
  rw[hd] at this
  simp only[Bool.and_eq_true] at this
  simpa using this.1
 have hnd:∀ i,i<n -> ∀ j,j<n->j≠i -> ∀ d,aT ops i=some d->aT ops j≠some d:=by
  intro i hi j hj hji d hd he
  have:=hds i hi
  rw[hd] at this
  simp only[Bool.and_eq_true,List.all_eq_true,List.mem_range,Bool.or_eq_true,decide_eq_true_eq] at this
  rcases this.2 j hj with e | e
  ·exact hji e.symm
  rw[he] at e;simp at e
 have htail':∀ i,i<ops.size->n<=i -> ∀ j,j<n->j∉pures->j∈past ops 10 i:=by
  intro i hi hni j hj hjp
  rcases htail i hi with h | h
  ·omega
  rcases h j hj with h | h
  ·exact (hjp (by simpa using h)).elim
  simpa using h
 -- the invariant
 let Clo:Array Bool->Prop:=fun l => ∀ j,l[j]? = some true -> ∀ p∈iQ ops j,l[p]? = some true
 let PA:Array Bool->Act->World->Prop:=fun l a' w'=>(∀ t,n<=t->t<ops.size->l[t]? = some false)/\(∃ i,i<n/\l[i]? = some false) /\
  ∃ x,a'=⟨over a.tmps ds x,a.defers⟩/\Held ops n ds news R w.drew (fun j=>l[j]? = some true) x w'
 let PB:Array Bool->Act->World->Prop:=fun l a' w'=>l=zH n ops.size/\wpAny P .any ops Q (ops.size - n) l a' w'
 let Inv:Array Bool->Act->World->Prop:=fun l a' w'=>l.size=ops.size/\Clo l/\(PA l a' w'\/PB l a' w')
 have enterB:∀ (l:Array Bool) x w',l.size=ops.size->(∀ t,n<=t->t<ops.size->l[t]? = some false)->(∀ j,j<n->l[j]? = some true) ->
   Held ops n ds news R w.drew (fun j=>l[j]? = some true) x w'->PB l ⟨over a.tmps ds x,a.defers⟩ w':=by
  intro l x w' h0 h1 h2 h3
  have hl:=aGk h0 hn h1 h2
  subst hl
  exact ⟨rfl,hend x w' ⟨h3.below,fun i hi _=>h3.holds i hi (h2 i hi),fun i him hi _=>h3.new i him hi (h2 i hi),fun i him j hjm hi hj _ _=>h3.apart i him j hjm hi hj (h2 i hi) (h2 j hj)⟩⟩
 have leastReady:∀ (l:Array Bool) k,k<ops.size->l[k]? = some false->(∀ j,j<k->l[j]? = some true)->k∈Region.ready .any ops l:=by
  intro l k hk h1 h2
  exact uV (ops:=ops) hk h1 (fun p hp=>h2 p (hlt k hk p hp))
 have least:∀ (l:Array Bool) m,l.size=ops.size->m<ops.size->l[m]? = some false -> ∃ k,k<=m/\l[k]? = some false /\ ∀ j,j<k->l[j]? = some true:=by
  intro l m hl
  induction m using Nat.strongRecOn with
  | ind m ih =>
   intro hm1 hm2
   by_cases hex:∃ j,j<m/\l[j]? = some false
   ·obtain ⟨j,hj,hjf⟩:=hex
    obtain ⟨k,hk,hk2⟩:=ih j hj (by omega) hjf
    exact ⟨k,by omega,hk2⟩
   refine ⟨m,Nat.le_refl _,hm2,fun j hj => ?_⟩
   have hjs:j<l.size:=by omega
   cases hb:l[j] with
   | true=>simp[hjs,hb]
   | false=>exact (hex ⟨j,hj,by simp[hjs,hb]⟩).elim
 have setClo:∀ (l:Array Bool) i,Clo l->(∀ p∈iQ ops i,l[p]? = some true)->Clo (l.setIfInBounds i true):=by
  intro l i hc hp j hj p hpj
  have keep:∀ q:Nat,l[q]? = some true->(l.setIfInBounds i true)[q]? = some true:=by
   intro q hq
   by_cases hqi:i=q
   ·subst hqi
    have:i<l.size:=by
     rcases Nat.lt_or_ge i l.size with h | h
     ·exact h
     rw[Array.getElem?_eq_none h] at hq;cases hq
    rw[Array.getElem?_setIfInBounds_self_of_lt this]
   rw[Array.getElem?_setIfInBounds_ne hqi];exact hq
  by_cases hji:i=j
  ·subst hji;exact keep p (hp p hpj)
  rw[Array.getElem?_setIfInBounds_ne hji] at hj;exact keep p (hc j hj p hpj)
 -- behind operation i of the first n
 have next:∀ (l:Array Bool) x w' i,l.size=ops.size->Clo l->(∀ t,n<=t->t<ops.size->l[t]? = some false)->Held ops n ds news R w.drew (fun j=>l[j]? = some true) x w' ->
   i<n->l[i]? = some false->(∀ p∈iQ ops i,l[p]? = some true) -> ∀ a1 w1,Left ops a.tmps a.defers ds news R i x w' a1 w1->Inv (l.setIfInBounds i true) a1 w1:=by
  rintro l x w' i hl hc hT hH hin hfi hpi a1 w1 ⟨v,rfl,hR,hB,hnew⟩
  have hset:∀ j,(l.setIfInBounds i true)[j]? = if j=i then some true else l[j]? := by
   intro j
   by_cases hji:j=i
   ·subst hji;rw[if_pos rfl,Array.getElem?_setIfInBounds_self_of_lt (by omega)]
   ·rw[if_neg hji,Array.getElem?_setIfInBounds_ne (fun e=>hji e.symm)]
  have hc':=setClo l i hc hpi
  have hl':(l.setIfInBounds i true).size=ops.size:=by simpa using hl
  have hH':=hH.next (v:=v) hin (by rw[hfi];simp) hst (fun j hj hji d hd=>hnd i hin j hj hji d hd) hR hB hnew
  have hfr:(⟨over a.tmps ds x,a.defers⟩:Act).put (aT ops i) v=⟨over a.tmps ds (match aT ops i with | some d=>upd x d v | none=>x),a.defers⟩:=by
   cases hd:aT ops i with
   | none=>rfl
   | some d=>simp only[Act.put];rw[uT v (hmem i hin d hd)]
  rw[hfr]
  have hH2:Held ops n ds news R w.drew (fun j=>(l.setIfInBounds i true)[j]? = some true) (match aT ops i with | some d=>upd x d v | none=>x) w1:=by
   have himp:∀ j,(l.setIfInBounds i true)[j]? = some true->(j=i\/l[j]? = some true):=by
    intro j hj;rw[hset] at hj;by_cases hji:j=i
    ·exact .inl hji
    ·rw[if_neg hji] at hj;exact .inr hj
   exact ⟨hH'.below,fun j hj hjl=>hH'.holds j hj (himp j hjl),fun j hjm hj hjl=>hH'.new j hjm hj (himp j hjl),fun j hjm k hkm hj hk hjl hkl=>hH'.apart j hjm k hkm hj hk (himp j hjl) (himp k hkl)⟩
  refine ⟨hl',hc',?_⟩
  have hT':∀ t,n<=t->t<ops.size->(l.setIfInBounds i true)[t]? = some false:=by
   intro t ht1 ht2;rw[hset,if_neg (by omega)];exact hT t ht1 ht2
  by_cases hall:∃ j,j<n/\(l.setIfInBounds i true)[j]? = some false
  ·exact .inl ⟨hT',hall,_,rfl,hH2⟩
  ·refine .inr (enterB _ _ _ hl' hT' (fun j hj => ?_) hH2)
   have hjs:j<(l.setIfInBounds i true).size:=by omega
   cases hb:(l.setIfInBounds i true)[j] with
   | true=>rw[Array.getElem?_eq_getElem hjs,hb]
   | false=>exact (hall ⟨j,hj,by rw[Array.getElem?_eq_getElem hjs,hb]⟩).elim
 have main:∀ (fuel:Nat) (l:Array Bool) (a':Act) (w':World),Inv l a' w'->l.toList.count false=fuel->wpAny P .any ops Q fuel l a' w':=by
  intro fuel
  induction fuel with
  | zero =>
   rintro l a' w' ⟨hl,hc,hAB⟩ hcnt
   have hnone:∀ i:Nat,l[i]? ≠ some false:=by
    intro i hi
    have h0:l.toList.count false=0:=by omega
    rw[List.count_eq_zero] at h0
    exact h0 (Array.mem_toList_iff.2 (Array.mem_of_getElem? hi))
   rcases hAB with ⟨_,⟨m,hm1,hm2⟩,_⟩ | ⟨rfl,hW⟩
   ·exact (hnone m hm2).elim
   rw[xA hn] at hcnt
   rw[hcnt] at hW
   exact hW
  | succ fuel ih =>
   rintro l a' w' ⟨hl,hc,hAB⟩ hcnt
   have hcnt':∀ i,i<ops.size->l[i]? = some false->(l.setIfInBounds i true).toList.count false=fuel:=by
    intro i hi hf
    have:=count_set (l:=l) (i:=i) (by omega) hf
    omega
   rcases hAB with ⟨hT,⟨m0,hm01,hm02⟩,x,rfl,hH⟩ | ⟨rfl,hW⟩
   ·by_cases hp:∃ i,i∈pures/\i∈Region.ready .any ops l
    ·-- a pure one is taken first
     obtain ⟨i,hip,hir⟩:=hp
     obtain ⟨hi,hfi,hpi⟩:=dO hl hir rfl
     have hpast:=gK hc 10 i hpi
     have hpi2:=hpu i hip
     obtain ⟨hin,hpi3⟩:=hpi2
     have ho:ops[i]? = some ops[i]:=Array.getElem?_eq_getElem hi
     rw[ho] at hpi3
     simp only[Bool.and_eq_true,List.all_eq_true,List.mem_range,Bool.or_eq_true,decide_eq_true_eq] at hpi3
     obtain ⟨hsome,hap⟩:=hpi3
     have hHp:Held ops n ds news R w.drew (fun j=>j∈past ops 10 i) x w' :=
      ⟨hH.below,fun j hj hjp=>hH.holds j hj (hpast j hjp),fun j hjm hj hjp=>hH.new j hjm hj (hpast j hjp),fun j hjm k hkm hj hk hjp hkp=>hH.apart j hjm k hkm hj hk (hpast j hjp) (hpast k hkp)⟩
     obtain ⟨hnn,hpr⟩:=hpure i hip
     obtain ⟨v,hy,hR⟩:=hpr _ ho x w' hHp
     obtain ⟨d,hd⟩:=Option.isSome_iff_exists.1 hsome
     have hinv:=next l x w' i hl hc hT hH hin hfi hpi ((⟨over a.tmps ds x,a.defers⟩:Act).put (aT ops i) v) w' ⟨v,rfl,hR,Below.refl _ _,fun h=>(hnn h).elim⟩
     have hdst:aT ops i=ops[i].dst:=by unfold aT;rw[ho];rfl
     rw[hdst] at hinv
     refine wpAny_first ho (Region.noSelect_spec hnosel) (by rw[hd];exact fun c a w=>hQ d v c a w) fuel l _ w' ?_ hir hy (ih _ _ _ hinv (hcnt' i hi hfi))
     intro j oj hoj hji hun hno
     have hjs:j<ops.size:=(Array.getElem?_eq_some_iff.1 hoj).1
     rcases hap j hjs with ((h | h) | h) | h
     ·exact (hji h).elim
     ·have:=hpast j (by simpa using h)
      rw[Array.getD_eq_getD_getElem?,this] at hun
      simp at hun
     ·exfalso
      have h':i∈iQ ops j:=by simpa using h
      unfold iQ at h'
      rw[hoj] at h'
      simp only[Option.map_some,Option.getD_some,List.mem_map,List.mem_filter] at h'
      obtain ⟨e,⟨he1,he2⟩,he3⟩:=h'
      exact hno e (Array.mem_toList_iff.1 he1) he2 he3
     rw[hoj] at h;exact h
    -- no pure one is ready: what is ready is one of the first n
    obtain ⟨m,hm1,hm2,hm3⟩:=least l m0 hl (by omega) hm02
    have hmr:=leastReady l m (by omega) hm2 hm3
    have hmp:m∉pures:=fun h=>hp ⟨m,h,hmr⟩
    refine ⟨fun h=>(by rw[h] at hmr;cases hmr),fun i hr => ?_⟩
    obtain ⟨hi,hfi,hpi⟩:=dO hl hr rfl
    have hpast:=gK hc 10 i hpi
    have hip:i∉pures:=fun h=>hp ⟨i,h,hr⟩
    have ho:ops[i]? = some ops[i]:=Array.getElem?_eq_getElem hi
    have hin:i<n:=by
     rcases Nat.lt_or_ge i n with h | h
     ·exact h
     have:=hpast m (htail' i hi h m (by omega) hmp)
     rw[hm2] at this;cases this
    have hHp:Held ops n ds news R w.drew (fun j=>j∈past ops 10 i) x w' :=
     ⟨hH.below,fun j hj hjp=>hH.holds j hj (hpast j hjp),fun j hjm hj hjp=>hH.new j hjm hj (hpast j hjp),fun j hjm k hkm hj hk hjp hkp=>hH.apart j hjm k hkm hj hk (hpast j hjp) (hpast k hkp)⟩
    have key:=hops i hin hip _ ho x w' hHp (wpAny P .any ops Q fuel (l.setIfInBounds i true))
     (fun a1 w1 hleft=>ih _ _ _ (next l x w' i hl hc hT hH hin hfi hpi a1 w1 hleft) (hcnt' i hi hfi))
    unfold wpOp
    rw[ho]
    show if Region.wanted ops[i] (yielded ops (over a.tmps ds x))=true then _ else _
    split
    ·rename_i hw;rw[if_pos hw] at key;exact .inl key
    rename_i hw;rw[if_neg hw] at key;exact key
   rw[xA hn] at hcnt
   rw[hcnt] at hW
   exact hW
 refine wp_region_any hm (main ops.size _ _ _ ?_ (by simp))
 have hrep:∀ j:Nat,j<ops.size->(Array.replicate ops.size false)[j]? = some false:=by intro j hj;simp[hj]
 refine ⟨by simp,?_,?_⟩
 ·intro j hj
  rw[Array.getElem?_replicate] at hj
  split at hj <;> simp at hj
 have hx0:a=⟨over a.tmps ds (fun d=>a.tmps.getD d undef),a.defers⟩:=by
  have:over a.tmps ds (fun d=>a.tmps.getD d undef)=a.tmps:=by
   apply Array.ext_getElem?
   intro s
   rw[nK]
   split
   ·rw[Array.getD_eq_getD_getElem?]
    cases a.tmps[s]? <;> rfl
   rfl
  rw[this]
 have hH0:Held ops n ds news R w.drew (fun j=>(Array.replicate ops.size false)[j]? = some true) (fun d=>a.tmps.getD d undef) w.drew:=by
  have hno:∀ j:Nat,(Array.replicate ops.size false)[j]? ≠ some true:=by
   intro j hj
   rw[Array.getElem?_replicate] at hj
   split at hj <;> simp at hj
  exact ⟨Below.refl _ _,fun j _ hj=>(hno j hj).elim,fun j _ _ hj=>(hno j hj).elim,fun j _ _ _ _ _ hj=>(hno j hj).elim⟩
 rcases Nat.eq_zero_or_pos n with h0 | h0
 ·subst h0
  rw[hx0]
  exact .inr (enterB _ _ _ (by simp) (fun t _ ht=>hrep t ht) (fun j hj=>by omega) hH0)
 exact .inl ⟨fun t _ ht=>hrep t ht,⟨0,h0,hrep 0 (by omega)⟩,_,hx0,hH0⟩
end

theorem yA {P:Program} {ops:Array Oper} {Q:Exit->Act->World->Prop} {rid:Nat} {a:Act} {w:World} (hm:P.follows .mixedOrders=true) (specs:List Spec) (n:Nat) (hn:specs.length=n) (ds news pures:List Nat) (hnews:nI specs=news)
  (hpures:fG specs=pures) (hpn:∀ i∈news,i∉pures) (hck:aAF ops n ds pures=true)
  (hQ:∀ (s:Nat) v c a w,Q (.panic c) (a.put (some s) v) w->Q (.panic c) a w)
  (F:(Nat->Value)->Array Value) (hF:∀ x,over a.tmps ds x=F x)
  (hops:Obl P ops Q w.drew F a.defers ds news n specs 0 ops.toList specs)
  (hend:∀ x w1,Held ops n ds news (RS w.drew.heap.size specs) w.drew (fun _=>True) x w1->wpAny P .any ops Q (ops.size - n) (zH n ops.size) ⟨F x,a.defers⟩ w1) :
  (Code.region rid ops true).wp P Q a w:=by
 subst hn;subst hnews;subst hpures
 refine aA2 hm specs.length ds (nI specs) (fG specs) (RS w.drew.heap.size specs) hck hQ ?_ ?_ ?_ ?_
 ·intro i v w1 w2 h hb
  unfold RS at *
  split
  ·rename_i s hs;rw[hs] at h;exact s.stays _ v w1 w2 h hb
  trivial
 ·intro i hip
  obtain ⟨s,v,hs,hv⟩:=kG hip
  refine ⟨fun hm=>hpn i hm hip,fun o ho x w1 hH => ?_⟩
  have:=hops.at_ _ _ _ i o _ (by simpa using ho) hs
  rw[Nat.zero_add] at this
  unfold aD3 at this
  rw[hv] at this
  refine ⟨v,?_,?_⟩
  ·rw[hF];exact this x w1 hH
  unfold RS;rw[hs];exact s.pureOk v hv _ _
 ·intro i hi hip o ho x w1 hH K hK
  have hs:specs[i]? = some specs[i]:=List.getElem?_eq_getElem hi
  have hnp:=gJ hi hip _ hs
  have key:=hops.at_ _ _ _ i o specs[i] (by simpa using ho) hs
  rw[Nat.zero_add] at key
  unfold aD3 at key
  rw[hnp] at key
  have key2:=key x w1 hH
  rw[hF]
  refine key2 K ?_
  rintro a' w' ⟨v,rfl,hR,hB,hN⟩
  refine hK _ _ ⟨v,?_,?_,hB,fun hmem=>hN ?_⟩
  ·rw[<-hF];unfold aT;rw[ho];rfl
  ·unfold RS;rw[hs];exact hR
  unfold nI at hmem
  rw[List.mem_filter,hs] at hmem
  simpa using hmem.2
 intro x w1 hH
 rw[hF]
 exact hend x w1 hH

theorem yP {P:Program} {ops:Array Oper} {Q:Exit->Act->World->Prop} {fuel:Nat} {l:Array Bool} {a:Act} {w:World} (i:Nat) {o:Oper} (ho:ops[i]? = some o) (hr:Region.ready .any ops l = [i])
  (h:∀ K':Act->World->Prop,(∀ a w,wpAny P .any ops Q fuel (l.setIfInBounds i true) a w->K' a w)->if Region.wanted o (yielded ops a.tmps)=true then Oper.wp P o a w K' Q else K' (a.put o.dst undef) w):wpAny P .any ops Q (fuel+1) l a w :=
 wpAny_ready hr (by simp) (AllReady.cons ho h AllReady.nil)
end Go.Proofs.YtcedmfnlkelhkaaGreatDoor.Dn

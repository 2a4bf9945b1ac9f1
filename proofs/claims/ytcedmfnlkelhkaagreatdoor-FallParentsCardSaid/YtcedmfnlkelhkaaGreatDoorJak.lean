/- Maps in memory, in plain words: a list of keys and elements in the order in which they came. -/
import Derived.Maps.OwnSet
import Derived.Maps.RangeWalk
import Derived.DeepKeys4
import Derived.Test.YtcedmfnlkelhkaaGreatDoorJaj
import Derived.Test.YtcedmfnlkelhkaaGreatDoorJag
import Derived.Handy
namespace Go.Proofs.YtcedmfnlkelhkaaGreatDoor
set_option maxHeartbeats 40000000
open Go.RowKit Go.ChangeMaps

section
variable {α β:Type} [DecidableEq α]
def lk (L:List (α×β)) (k:α):Option β:=(L.find? fun p=>decide (p.1=k)).map (·.2)
def put (L:List (α×β)) (k:α) (v:β):List (α×β):=if k∈L.map (·.1) then L.map (fun p=>if p.1=k then (k,v) else p) else L ++ [(k,v)]
def del (L:List (α×β)) (k:α):List (α×β):=L.filter fun p=>decide (p.1≠k)
def Uniq (L:List (α×β)):Prop:=(L.map (·.1)).Nodup
omit [DecidableEq α] in
theorem Uniq.tail {p:α×β} {L:List (α×β)} (h:Uniq (p :: L)):Uniq L:=by unfold Uniq at h |-;rw[List.map_cons,List.nodup_cons] at h;exact h.2
theorem aBg {L:List (α×β)} {k:α}:lk L k=none ↔ ∀ p∈L,p.1≠k:=by
 unfold lk
 rw[Option.map_eq_none_iff,List.find?_eq_none]
 simp
theorem aBM:∀ {L:List (α×β)},Uniq L -> ∀ {k:α} {v:β},lk L k=some v ↔ (k,v)∈L
 | [],_,k,v=>by simp[lk]
 | p :: L,h,k,v=>by
  have ih:=aBM (Uniq.tail h) (k:=k) (v:=v)
  unfold lk at ih |-
  unfold Uniq at h
  rw[List.map_cons,List.nodup_cons] at h
  rw[List.find?_cons]
  by_cases hk:p.1=k
  ·simp only[hk,decide_true,Option.map_some,Option.some.injEq,List.mem_cons]
   constructor
   ·rintro rfl;left;rw[<-hk]
   ·rintro (h2 | h2)
    ·rw[<-h2]
    ·exact (h.1 (by rw[hk];exact List.mem_map.2 ⟨_,h2,rfl⟩)).elim
  ·simp only[hk,decide_false,List.mem_cons]
   rw[ih]
   constructor
   ·exact .inr
   ·rintro (h2 | h2)
    ·exact (hk (by rw[<-h2])).elim
    ·exact h2
theorem aEl {L:List (α×β)} (h:Uniq L) (k:α) (v:β):Uniq (put L k v):=by
 unfold put
 split
 ·unfold Uniq at h |-
  rw[List.map_map]
  have:L.map ((·.1) ∘ fun p=>if p.1=k then (k,v) else p)=L.map (·.1):=by
   apply List.map_congr_left
   intro p _
   simp only[Function.comp]
   split
   ·rename_i h;exact h.symm
   rfl
  rw[this];exact h
 rename_i hk
 unfold Uniq at h |-
 rw[List.map_append,List.nodup_append]
 refine ⟨h,by simp,?_⟩
 intro a ha b hb
 simp at hb
 subst hb
 intro e;subst e;exact hk ha
theorem aHE {L:List (α×β)} (k j:α) (v:β):lk (put L k v) j=if j=k then some v else lk L j:=by
 unfold put
 by_cases hk:k∈L.map (·.1)
 ·rw[if_pos hk]
  induction L with
  | nil=>simp at hk
  | cons p L ih =>
   unfold lk at ih |-
   rw[List.map_cons,List.find?_cons,List.find?_cons]
   by_cases hp:p.1=k
   ·rw[if_pos hp]
    by_cases hj:j=k
    ·subst hj;simp
    rw[if_neg hj]
    have h1:¬ k=j:=fun e=>hj e.symm
    simp only[h1,decide_false]
    rw[hp];simp only[h1,decide_false]
    by_cases hk2:k∈L.map (·.1)
    ·have:=ih hk2;rw[if_neg hj] at this;exact this
    have e:L.map (fun p=>if p.1=k then (k,v) else p)=L:=by
     conv=>rhs;rw[<-List.map_id L]
     apply List.map_congr_left
     intro q hq
     rw[if_neg (fun e=>hk2 (List.mem_map.2 ⟨q,hq,e⟩))];rfl
    rw[e]
   rw[if_neg hp]
   by_cases hj:p.1=j
   ·simp only[hj,decide_true,Option.map_some]
    rw[if_neg (fun e=>hp (hj.trans e))]
   simp only[hj,decide_false]
   refine ih ?_
   rw[List.map_cons,List.mem_cons] at hk
   exact hk.resolve_left (fun e=>hp e.symm)
 rw[if_neg hk]
 unfold lk
 rw[List.find?_append]
 by_cases hj:j=k
 ·subst hj
  have:L.find? (fun p=>decide (p.1=j))=none:=by
   rw[List.find?_eq_none];intro p hp;simp;intro e;exact hk (List.mem_map.2 ⟨p,hp,e⟩)
  rw[this,if_pos rfl];simp
 rw[if_neg hj]
 have h1:¬ k=j:=fun e=>hj e.symm
 cases L.find? (fun p=>decide (p.1=j)) <;> simp[h1]
end

section
variable {α β:Type}
structure wV (P:Program) (kt:TypeId) (ek:α->Value) (dom:α->Prop):Prop where
 law:Go.Maps.Keyed P kt
 reads:∀ a,dom a -> ∃ l,_root_.Go.keyOf P kt (ek a)=some l
 inj:∀ a b,dom a->dom b->ek a=ek b->a=b
structure Only (b:Nat) (w w':World):Prop where
 os:w'.os=w.os
 tape:w'.tape=w.tape
 output:w'.output=w.output
 size:w'.heap.size=w.heap.size
 block:∀ k,k≠b->w'.heap[k]? = w.heap[k]?
theorem _root_.Go.RowKit.Below.only {B b:Nat} {a w w':World} (h:Below B a w) (ho:Only b w w') (hb:B<=b):Below B a w' :=
 h.trans ⟨ho.os,ho.tape,ho.output,by rw[ho.size];exact Nat.le_refl _,fun k hk=>ho.block k (by omega)⟩
theorem uS {w:World} {b:Nat} (o:Obj):Only b w (setBlock w b o) :=
 ⟨rfl,rfl,rfl,by simp[setBlock],fun k hk=>by simp only[setBlock];rw[Array.getElem?_setIfInBounds_ne (fun e=>hk e.symm)]⟩
def gQ (ek:α->Value) (ev:β->Value) (dom:α->Prop) (w:World) (b:Nat) (L:List (α×β)):Prop :=
 ∃ es clock,w.heap[b]? = some (.map es clock)/\MapKept.Stamped es clock/\es.toList.map (fun e=>(e.key,e.val))=L.map (fun p=>(ek p.1,ev p.2)) /\ ∀ p∈L,dom p.1
variable {P:Program} {kt:TypeId} {ek:α->Value} {ev:β->Value} {dom:α->Prop} {w:World} {b:Nat} {L:List (α×β)}
theorem gQ.lt (h:gQ ek ev dom w b L):b<w.heap.size:=by
 obtain ⟨es,c,hb,_⟩:=h
 exact (Array.getElem?_eq_some_iff.1 hb).1
theorem gQ.keep {w':World} (h:gQ ek ev dom w b L) (hk:w'.heap[b]? = w.heap[b]?):gQ ek ev dom w' b L:=by
 obtain ⟨es,c,hb,r⟩:=h
 exact ⟨es,c,hk.trans hb,r⟩
theorem gQ.alloc (h:gQ ek ev dom w b L) (o:Obj):gQ ek ev dom (w.alloc o) b L:=h.keep (heap_alloc_old (w:=w) o h.lt)
theorem gQ.grow (h:gQ ek ev dom w b L) (xs:Array Obj) (d:Nat):gQ ek ev dom (w.grow xs d) b L:=h.keep (World.bQ _ _ _ h.lt)
theorem gQ.drewN (h:gQ ek ev dom w b L) (d:Nat):gQ ek ev dom (w.drewN d) b L:=h
theorem gQ.drew (h:gQ ek ev dom w b L):gQ ek ev dom w.drew b L:=h
theorem gQ.below {w':World} {B:Nat} (h:gQ ek ev dom w b L) (hb:Below B w w') (hB:b<B):gQ ek ev dom w' b L:=h.keep (hb.block b hB)
theorem gQ.only {w':World} {c:Nat} (h:gQ ek ev dom w b L) (ho:Only c w w') (hc:b≠c):gQ ek ev dom w' b L:=h.keep (ho.block b hc)
theorem gQ.kD {B c:Nat} (h:gQ ek ev dom w b L) (o:Obj) (hc:b≠c):gQ ek ev dom (w.kD B c o) b L:=h.keep (World.bV _ hc)
theorem gQ.made (w:World):gQ ek ev dom (w.alloc (.map #[] 0)) w.heap.size []:=by
 refine ⟨#[],0,?_,MapKept.stamped_empty 0,rfl,fun p hp=>by simp at hp⟩
 exact _root_.Go.heap_alloc_new w _

theorem gQ.uniq [DecidableEq α] (h:gQ ek ev dom w b L):Uniq L:=by
 obtain ⟨es,c,_,⟨_,_,h3⟩,hm,_⟩:=h
 have e:es.toList.map (·.key)=(L.map (·.1)).map ek:=by
  have:=congrArg (List.map Prod.fst) hm
  simpa [List.map_map,Function.comp_def] using this
 rw[e] at h3
 unfold Uniq
 unfold List.Nodup at h3 |-
 rw[List.pairwise_map] at h3
 exact h3.imp (fun h e=>h (by rw[e]))

theorem aE4 {es:List MapEntry} (hm:es.map (fun e=>(e.key,e.val))=L.map (fun p=>(ek p.1,ev p.2))) {j:Nat} {e:MapEntry} (h:es[j]? = some e):∃ p,L[j]? = some p/\e.key=ek p.1/\e.val=ev p.2:=by
 have:=congrArg (fun l=>l[j]?) hm
 simp only[List.getElem?_map,h,Option.map_some] at this
 cases hp:L[j]? with
 | none=>rw[hp] at this;cases this
 | some p =>
  rw[hp] at this
  simp only[Option.map_some,Option.some.injEq,Prod.mk.injEq] at this
  exact ⟨p,rfl,this.1,this.2⟩
theorem aGi {es:List MapEntry} (hm:es.map (fun e=>(e.key,e.val))=L.map (fun p=>(ek p.1,ev p.2))) {e:MapEntry} (h:e∈es):∃ p∈L,e.key=ek p.1/\e.val=ev p.2:=by
 obtain ⟨j,hj,rfl⟩:=List.getElem_of_mem h
 obtain ⟨p,hp,r⟩:=aE4 hm (List.getElem?_eq_getElem hj)
 exact ⟨p,List.mem_of_getElem? hp,r⟩
theorem aHI {es:List MapEntry} (hm:es.map (fun e=>(e.key,e.val))=L.map (fun p=>(ek p.1,ev p.2))) {p:α×β} (h:p∈L):∃ e∈es,e.key=ek p.1/\e.val=ev p.2:=by
 have:(ek p.1,ev p.2)∈es.map (fun e=>(e.key,e.val)):=by rw[hm];exact List.mem_map.2 ⟨p,h,rfl⟩
 obtain ⟨e,he,h2⟩:=List.mem_map.1 this
 simp only[Prod.mk.injEq] at h2
 exact ⟨e,he,h2.1,h2.2⟩

variable [DecidableEq α]
theorem find_spec (E:wV P kt ek dom) {es:Array MapEntry} (hm:es.toList.map (fun e=>(e.key,e.val))=L.map (fun p=>(ek p.1,ev p.2))) (hd:∀ p∈L,dom p.1) (hu:Uniq L) {k:α} (hk:dom k) (w:World) :
  ((Instr.findKey kt (ek k) es.toList).run P w = .ok none w/\lk L k=none /\ ∀ e∈es.toList,e.key≠ek k) \/
  ∃ j e v,(Instr.findKey kt (ek k) es.toList).run P w = .ok (some (j,ev v)) w/\es.toList[j]? = some e/\e.key=ek k/\L[j]? = some (k,v)/\lk L k=some v:=by
 obtain ⟨l,hl⟩:=E.reads k hk
 rcases E.law.find w hl es.toList (fun e he=>by
  obtain ⟨p,hp,h1,_⟩:=aGi hm he
  obtain ⟨l,hl⟩:=E.reads p.1 (hd p hp)
  exact ⟨l,by rw[h1];exact hl⟩) with ⟨h1,h2⟩ | ⟨j,e,h1,h2,h3⟩
 ·refine .inl ⟨h1,?_,h2⟩
  rw[aBg]
  intro p hp hpk
  obtain ⟨e,he,h4,_⟩:=aHI hm hp
  exact h2 e he (by rw[h4,hpk])
 obtain ⟨p,hp,h4,h5⟩:=aE4 hm h2
 have hpm:=List.mem_of_getElem? hp
 have hpk:p.1=k:=E.inj _ _ (hd p hpm) hk (h4.symm.trans h3)
 obtain ⟨q,v⟩:=p
 simp only at hpk h4 h5
 subst hpk
 refine .inr ⟨j,e,v,by rw[<-h5];exact h1,h2,h3,hp,(aBM hu).2 hpm⟩

theorem wB (E:wV P kt ek dom) {t et:TypeId} (ht:P.underlying t=some (.map kt et)) {z:Value} (h:gQ ek ev dom w b L) {k:α} (hk:dom k) (hz:(zeroValue et).run P w = .ok z w) (ok:Bool) :
  (Instr.lookup t (.map (some b)) (ek k) ok).run P w = .ok (if ok then .tuple #[((lk L k).map ev).getD z,.bool (lk L k).isSome] else ((lk L k).map ev).getD z) w:=by
 have hu:=h.uniq
 obtain ⟨es,c,hb,_,hm,hd⟩:=h
 obtain ⟨l,hl⟩:=E.reads k hk
 rcases find_spec E hm hd hu hk w with ⟨h1,h2,_⟩ | ⟨j,e,v,h1,h2,h3,h4,h5⟩
 ·rw[h2]
  simp[Instr.lookup,run_underlying ht,MapKept.run_getObj_map hb,E.law.check w _ hl,h1,hz,Result.andThen]
 rw[h5]
 simp[Instr.lookup,run_underlying ht,MapKept.run_getObj_map hb,E.law.check w _ hl,h1,Result.andThen]

theorem aB3 (E:wV P kt ek dom) {t et:TypeId} (ht:P.underlying t=some (.map kt et)) (h:gQ ek ev dom w b L) {k:α} (hk:dom k) (v:β) :
  ∃ w',(Instr.mapUpdate t (.map (some b)) (ek k) (ev v)).run P w = .ok () w'/\gQ ek ev dom w' b (put L k v)/\Only b w w'/\w'.drawn=w.drawn:=by
 have hu:=h.uniq
 obtain ⟨es,c,hb,hs,hm,hd⟩:=h
 obtain ⟨l,hl⟩:=E.reads k hk
 rcases find_spec E hm hd hu hk w with ⟨h1,h2,h3⟩ | ⟨j,e,v0,h1,h2,h3,h4,h5⟩
 ·refine ⟨setBlock w b (.map (es.push ⟨ek k,ev v,c⟩) (c+1)),?_,⟨_,_,heap_setBlock_same hb _,MapKept.stamped_push hs h3,?_,?_⟩,uS _,rfl⟩
  ·simp[Instr.mapUpdate,run_underlying ht,MapKept.run_getObj_map hb,E.law.check w false hl,h1,MapKept.run_setObj_map _ hb,Result.andThen,setBlock]
  ·have hn:¬ k∈L.map (·.1):=by
    intro hmem
    obtain ⟨p,hp,e⟩:=List.mem_map.1 hmem
    exact (aBg.1 h2) p hp e
   unfold put
   rw[if_neg hn]
   simp[hm]
  intro p hp
  unfold put at hp
  split at hp
  ·obtain ⟨q,hq,rfl⟩:=List.mem_map.1 hp
   split
   ·exact hk
   exact hd q hq
  rcases List.mem_append.1 hp with hp | hp
  ·exact hd p hp
  simp at hp;subst hp;exact hk
 have hjl:j<es.toList.length:=(List.getElem?_eq_some_iff.1 h2).1
 have hjs:j<es.size:=by simpa using hjl
 have hej:es[j]? = some e:=by rw[<-Array.getElem?_toList];exact h2
 have hput:put L k v=L.map (fun p=>if p.1=k then (k,v) else p):=by
  unfold put
  exact if_pos (List.mem_map.2 ⟨_,List.mem_of_getElem? h4,rfl⟩)
 refine ⟨setBlock w b (.map (es.modify j fun e => { e with key:=ek k,val:=ev v }) c),?_,⟨_,_,heap_setBlock_same hb _,MapKept.stamped_modify hs j _ (fun _ _=>rfl) (fun x _ hx => ?_),?_,?_⟩,uS _,rfl⟩
 ·have hkey:((es[j]?).map (·.key)).getD (ek k)=ek k:=by rw[hej];exact h3
  simp[Instr.mapUpdate,run_underlying ht,MapKept.run_getObj_map hb,E.law.check w false hl,h1,hkey,E.law.stays w hl,MapKept.run_setObj_map _ hb,Result.andThen,setBlock]
 ·rw[hej] at hx;cases hx;exact h3.symm
 ·rw[hput]
  apply List.ext_getElem?
  intro i
  have hmi:=congrArg (fun l=>l[i]?) hm
  simp only[List.getElem?_map,Array.getElem?_toList,Array.getElem?_modify] at hmi |-
  by_cases hij:j=i
  ·subst hij
   rw[if_pos rfl,hej,h4]
   simp
  rw[if_neg hij,hmi]
  cases hLi:L[i]? with
  | none=>rfl
  | some p =>
   simp only[Option.map_some]
   rw[if_neg]
   intro hpk
   have:(L.map (·.1))[i]? = (L.map (·.1))[j]? := by simp[hLi,h4,hpk]
   have hi:i<(L.map (·.1)).length:=by have:=(List.getElem?_eq_some_iff.1 hLi).1;simpa using this
   exact hij (((List.getElem?_inj hi hu).1 this).symm)
 intro p hp
 rw[hput] at hp
 obtain ⟨q,hq,rfl⟩:=List.mem_map.1 hp
 split
 ·exact hk
 exact hd q hq

omit [DecidableEq α] in
/-! the same at the operation -/
section
variable {ops:Array Oper} {rest:List Oper} {o:Oper} {a:Act} {Q:Exit->Act->World->Prop}
omit [DecidableEq α] in
end

/-! ranging over a map that is not written meanwhile -/
def yS (ek:α->Value) (ev:β->Value) (dom:α->Prop) (w:World) (b r:Nat) (L left:List (α×β)):Prop :=
 ∃ es clock since seen,w.heap[r]? = some (.mapIter (some b) since seen clock)/\w.heap[b]? = some (.map es clock)/\MapKept.Stamped es clock/\since<=clock/\(∀ x∈es.toList,x.born<since) /\
  es.toList.map (fun e=>(e.key,e.val))=L.map (fun p=>(ek p.1,ev p.2))/\(∀ p∈L,dom p.1)/\(leftOf es seen).toList.map (fun e=>(e.key,e.val))=left.map (fun p=>(ek p.1,ev p.2))/\left.Sublist L
omit [DecidableEq α] in
theorem yS.keep {r:Nat} {left:List (α×β)} {w':World} (h:yS ek ev dom w b r L left) (h1:w'.heap[b]? = w.heap[b]?) (h2:w'.heap[r]? = w.heap[r]?):yS ek ev dom w' b r L left:=by
 obtain ⟨es,c,s,seen,hr,hb,q⟩:=h
 exact ⟨es,c,s,seen,h2.trans hr,h1.trans hb,q⟩
omit [DecidableEq α] in
omit [DecidableEq α] in
theorem yS.lt {r:Nat} {left:List (α×β)} (h:yS ek ev dom w b r L left):b<w.heap.size/\r<w.heap.size:=by
 obtain ⟨es,c,s,seen,hr,hb,_⟩:=h
 exact ⟨(Array.getElem?_eq_some_iff.1 hb).1,(Array.getElem?_eq_some_iff.1 hr).1⟩
omit [DecidableEq α] in
section
variable {ops:Array Oper} {rest:List Oper} {o:Oper} {a:Act} {Q:Exit->Act->World->Prop}
omit [DecidableEq α] in
end

/-! keys that are rows of bytes, whole numbers -/
theorem zN {t:TypeId} {n:Nat} (hl:laidOutB P=true) (hrow:t<P.types.size) (h0:P.keyTypeAt 6 t=true) (h1:P.keyType t=true) (h2:vX P (P.types.size+1) t (fA n)=true) (h3:P.bJ t=some n)
  (hw:(match P.underlying t with | some (.array _ _) | some (.struct _)=>true | _=>false)=true):wV P t (fun k => .agg (aJ k)) (fun k=>k.length=n) where
 law:=Go.Maps.Keyed.of_law (deep_law_laid hl (by decide:6+1<=10000) hrow h0 hw)
 reads k hk:=by
  have hf:=rU k
  rw[hk] at hf
  have hl:=kW _ t _ h2 _ _ hf
  have hform:(Value.agg (aJ k)).formed P t=true:=nN h3 (by simp[hk])
  have hc:(Value.agg (aJ k)).cells.toList=(aJ k).toList:=rfl
  unfold _root_.Go.keyOf
  split at hw <;> first | cases hw | skip
  ·rename_i hu;rw[hu];simp only[h1,hform,Bool.and_self,if_true,hc,hl,Option.map_some];exact ⟨_,rfl⟩
  ·rename_i hu;rw[hu];simp only[h1,hform,Bool.and_self,if_true,hc,hl,Option.map_some];exact ⟨_,rfl⟩
 inj a b _ _ h:=by simp only[Value.agg.injEq] at h;exact aBw.1 h
theorem aFV {t:TypeId} {q:IntKind} (hu:P.underlying t=some (.int q)):wV P t (fun n:Int => .int q n) (fun n=>(Lit.int q n).wf=true) where
 law:=Go.Maps.int_keyed hu
 reads n hn:=⟨_,Go.Maps.keyOf_int_mk hu hn⟩
 inj a b _ _ h:=by simp only[Value.int.injEq] at h;exact h.2
end
end Go.Proofs.YtcedmfnlkelhkaaGreatDoor
namespace Go.Proofs.YtcedmfnlkelhkaaGreatDoor
set_option maxHeartbeats 40000000
open Go.RowKit

@[go_sem ↓ high] theorem aOk (a b:K25) (w:World):(Op.equalIn 10000 132 (.agg (aJ a.val)) (.agg (aJ b.val))).run Tryz.prog w = .ok (decide (a=b)) w :=
 lZ (f:=aGO) (g:=aI9) aE7 aKE (fun _ _=>key_inj) a b w
theorem laidOutP:laidOutB Tryz.prog=true:=by kernel_rfl
theorem aLp:wV Tryz.prog 132 (fun k:K25 => .agg (aJ k.val)) (fun _=>True) where
 law:=(zN (n:=25) laidOutP (of_decide_eq_true (by kernel_rfl)) (by kernel_rfl) (by kernel_rfl) (by kernel_rfl) nO (by kernel_rfl)).law
 reads k _:=(zN (n:=25) laidOutP (of_decide_eq_true (by kernel_rfl)) (by kernel_rfl) (by kernel_rfl) (by kernel_rfl) nO (by kernel_rfl)).reads k.val k.len
 inj a b _ _ h:=by simp only[Value.agg.injEq] at h;exact Subtype.ext (aBw.1 h)
end Go.Proofs.YtcedmfnlkelhkaaGreatDoor
namespace Go.Proofs.YtcedmfnlkelhkaaGreatDoor
set_option maxHeartbeats 40000000
set_option maxRecDepth 100000
open Go.RowKit

@[go_sem] theorem aOQ:Tryz.prog.bJ 134=some 35:=by kernel_rfl
@[go_sem ↓ high] theorem aQO (a:Addr):loadVar 134 a=eX 134 a:=rfl
@[go_sem ↓ high] theorem aQf (a:Addr) (v:Value):storeVar 134 a v=bH 134 a v:=rfl
theorem aHs (x:Wr) (i:Nat) (hi:i<9):(iJ x)[26+i]? = (bI x.r)[i]? := by
 unfold iJ bI
 rw[List.getElem?_toArray,List.getElem?_toArray,List.getElem?_append_right (by simp[eU];omega),eU]
 rw[show 26+i - 25=i+1 by omega,List.getElem?_cons_succ]
@[go_sem] theorem aHq (x:Wr):(iJ x)[26]? = some (.int .u8 x.r.kind.toNat):=aHs x 0 (by decide)
@[go_sem,simp] theorem aOF (x:Wr) (h:26<(iJ x).size):(iJ x)[26]'h = .int .u8 x.r.kind.toNat:=by
 have:=aHq x
 rw[Array.getElem?_eq_getElem h] at this
 exact Option.some.inj this
@[go_sem] theorem aHr (x:Wr):(iJ x)[33]? = some (.int .u64 x.r.at_.toNat):=aHs x 7 (by decide)
@[go_sem,simp] theorem aOG (x:Wr) (h:33<(iJ x).size):(iJ x)[33]'h = .int .u64 x.r.at_.toNat:=by
 have:=aHr x
 rw[Array.getElem?_eq_getElem h] at this
 exact Option.some.inj this
theorem aJb (x:Wr) (i:Nat) (hi:i<25):(iJ x)[i]? = some (.int .u8 (byt x.k.val i).toNat):=by
 unfold iJ
 rw[List.getElem?_toArray,List.getElem?_append_left (by simp[eU];omega)]
 have:=lS x.k.val i (by rw[K25.len];exact hi)
 rw[<-aI8,List.getElem?_toArray] at this
 exact this
@[go_sem] theorem aMq (x:Wr):(iJ x)[0]? = some (.int .u8 (byt x.k.val 0).toNat):=aJb x 0 (by decide)
@[go_sem,simp] theorem aPm (x:Wr) (h:0<(iJ x).size):(iJ x)[0]'h = .int .u8 (byt x.k.val 0).toNat:=by
 have:=aMq x
 rw[Array.getElem?_eq_getElem h] at this
 exact Option.some.inj this
@[go_sem] theorem aJa (x:Wr):(iJ x)[2]? = some (.int .u8 (byt x.k.val 2).toNat):=aJb x 2 (by decide)
@[go_sem,simp] theorem aPn (x:Wr) (h:2<(iJ x).size):(iJ x)[2]'h = .int .u8 (byt x.k.val 2).toNat:=by
 have:=aJa x
 rw[Array.getElem?_eq_getElem h] at this
 exact Option.some.inj this
def bW (x:Wr):Int :=
 if kT x.k.val=true then
  (if x.dead=true then (if x.r=Rec.zero then 0 else 3)
  else if mW x.r=0 then (if x.r.kind.toNat=(byt x.k.val 0).toNat then 0 else 16) else mW x.r)
 else 3
theorem aEC (x:Wr) (w:World):Gives Tryz.prog 103 #[.agg (iJ x)] w (.int .i64 (bW x)):=by
 have hkr:=aAb x.k.val x.k.property
 have HC:=Lib.hid (zA x.r)
 by_cases hk:kT x.k.val=true
 ·rw[hk] at hkr
  have HK:=Lib.hid hkr
  clear hkr
  cases hd:x.dead with
  | true =>
   by_cases hz:x.r=Rec.zero
   ·have he:bW x=0:=by unfold bW;rw[if_pos hk,if_pos hd,if_pos hz]
    have hdz:decide (x.r=Rec.zero)=true:=decide_eq_true hz
    rw[he]
    clear he hz hk HC
    unfold Gives
    go_enter Tryz.func103,Tryz.ntmps103
    go_wp2_with fail
    refine Gives.use (HK.out _) ?_
    intro xs d
    go_wp2_with fail
    go_ret
    exact ⟨rfl,blw⟩
   have he:bW x=3:=by unfold bW;rw[if_pos hk,if_pos hd,if_neg hz]
   have hdz:decide (x.r=Rec.zero)=false:=decide_eq_false hz
   rw[he]
   clear he hz hk HC
   unfold Gives
   go_enter Tryz.func103,Tryz.ntmps103
   go_wp2_with fail
   refine Gives.use (HK.out _) ?_
   intro xs d
   go_wp2_with fail
   go_ret
   exact ⟨rfl,blw⟩
  | false =>
   by_cases hr:mW x.r=0
   ·rw[hr] at HC
    by_cases he2:x.r.kind.toNat=(byt x.k.val 0).toNat
    ·have he:bW x=0:=by unfold bW;rw[if_pos hk,if_neg (by rw[hd];decide),if_pos hr,if_pos he2]
     have hq:((x.r.kind.toNat:Int) != (byt x.k.val 0).toNat)=false:=by simp[he2]
     rw[he]
     clear he hr hk he2
     unfold Gives
     go_enter Tryz.func103,Tryz.ntmps103
     go_wp2_with fail
     refine Gives.use (HK.out _) ?_
     intro xs d
     go_wp2_with fail
     refine Gives.use (HC.out _) ?_
     intro xs1 d1
     go_wp2_with fail
     go_ret
     exact ⟨rfl,blw⟩
    have he:bW x=16:=by unfold bW;rw[if_pos hk,if_neg (by rw[hd];decide),if_pos hr,if_neg he2]
    have hq:((x.r.kind.toNat:Int) != (byt x.k.val 0).toNat)=true:=by simp;omega
    rw[he]
    clear he hr hk he2
    unfold Gives
    go_enter Tryz.func103,Tryz.ntmps103
    go_wp2_with fail
    refine Gives.use (HK.out _) ?_
    intro xs d
    go_wp2_with fail
    refine Gives.use (HC.out _) ?_
    intro xs1 d1
    go_wp2_with fail
    go_ret
    exact ⟨rfl,blw⟩
   have he:bW x=mW x.r:=by unfold bW;rw[if_pos hk,if_neg (by rw[hd];decide),if_neg hr]
   rw[he]
   have hq:(mW x.r != 0)=true:=by simp[hr]
   clear he hr hk
   generalize mW x.r=q at *
   unfold Gives
   go_enter Tryz.func103,Tryz.ntmps103
   go_wp2_with fail
   refine Gives.use (HK.out _) ?_
   intro xs d
   go_wp2_with fail
   refine Gives.use (HC.out _) ?_
   intro xs1 d1
   go_wp2_with fail
   go_ret
   exact ⟨rfl,blw⟩
 have he:bW x=3:=by unfold bW;rw[if_neg hk]
 rw[he]
 rw[Bool.not_eq_true] at hk
 rw[hk] at hkr
 have HK:=Lib.hid hkr
 clear hkr hk he HC
 unfold Gives
 go_enter Tryz.func103,Tryz.ntmps103
 go_wp2_with fail
 refine Gives.use (HK.out _) ?_
 intro xs d
 go_wp2_with fail
 go_ret
 exact ⟨rfl,blw⟩
def aBB:List K25->List Wr->Int
 | _, []=>0
 | seen,x :: l=>if bW x=0 then (if x.k∈seen then 8 else aBB (x.k :: seen) l) else bW x
def eY (l:List Wr):Int:=if l.length=0 then 1 else if 16<l.length then 2 else aBB [] l
def evB (b:Bool):Value := .bool b
@[go_sem ↓ high] theorem aFg (w:World):(Instr.makeMap 255 none).run Tryz.prog w = .ok (.map (some w.heap.size)) (w.alloc (.map #[] 0)):=by kernel_rfl
theorem aQh:wV Tryz.prog 132 (fun k:K25 => .agg (aJ k.val)) (fun _=>True):=aLp
theorem pO (w:World):(zeroValue 4).run Tryz.prog w = .ok (.bool false) w:=by kernel_rfl
def Stood (L:List (K25×Bool)) (seen:List K25):Prop := ∀ k,lk L k=if k∈seen then some true else none
theorem Stood.nil:Stood [] []:=fun _=>rfl
theorem Stood.put {L:List (K25×Bool)} {seen:List K25} (h:Stood L seen) (k:K25):Stood (put L k true) (k :: seen):=by
 intro j
 rw[aHE]
 by_cases hj:j=k
 ·rw[if_pos hj,if_pos (by rw[hj];exact List.mem_cons_self)]
 rw[if_neg hj,h j]
 by_cases hm:j∈seen
 ·rw[if_pos hm,if_pos (List.mem_cons_of_mem _ hm)]
 rw[if_neg hm,if_neg (by simp[hj,hm])]
theorem wX (lv:Value) (l:List Wr) (w:World) (hl:SlA w w.heap.size 35 lv (l.map iJ)):Gives Tryz.prog 66 #[lv] w (.int .i64 (eY l)):=by
 obtain ⟨a,cap,rfl,hcap,hmx⟩:=hl.form
 rw[List.length_map] at *
 have HL:=Lib.hid hl
 clear hl
 by_cases h0:l.length=0
 ·have he:eY l=1:=by unfold eY;rw[if_pos h0]
  rw[he,h0]
  clear he h0 HL hcap
  unfold Gives
  go_enter Tryz.func66,Tryz.ntmps66
  go_wp2_with fail
  go_ret
  exact ⟨rfl,blw⟩
 by_cases h16:16<l.length
 ·have he:eY l=2:=by unfold eY;rw[if_neg h0,if_pos h16]
  rw[he]
  have h16':(16:Int)<l.length:=by omega
  have h0':((l.length:Int) == 0)=false:=by rw[beq_eq_false_iff_ne];omega
  clear he HL hcap h0 h16
  generalize l.length=n at *
  unfold Gives
  go_enter Tryz.func66,Tryz.ntmps66
  go_wp2_with fail
  go_ret
  exact ⟨rfl,blw⟩
 have he:eY l=aBB [] l:=by unfold eY;rw[if_neg h0,if_neg h16]
 rw[he]
 have HE:=Lib.hid he
 clear he
 have h16':¬ (16:Int)<l.length:=by omega
 have h0':((l.length:Int) == 0)=false:=by rw[beq_eq_false_iff_ne];omega
 obtain ⟨q,hq⟩:∃ q,q=aBB [] l:=⟨_,rfl⟩
 rw[<-hq]
 have HQ:=Lib.hid hq
 clear hq
 have HZ:=Lib.hid pO
 unfold Gives
 go_enter Tryz.func66,Tryz.ntmps66
 go_wp2_with fail
 go_loopw [18] (fun s18 wr => ∃ (i:Nat) (seen:List K25) (L:List (K25×Bool)),i<=l.length/\s18 = .int .i64 i/\Hid (Below w.heap.size w wr)/\Hid (gQ (fun k:K25 => .agg (aJ k.val)) evB (fun _=>True) wr w.heap.size L)/\Hid (Stood L seen/\aBB [] l=aBB seen (l.drop i))) (fun s18 _=>l.length - (intOf s18).toNat)
 case atStart=>exact ⟨0, [], [],Nat.zero_le _,rfl,Lib.hid blw,Lib.hid (gQ.made w),Lib.hid ⟨Stood.nil,rfl⟩⟩
 obtain ⟨i,seen,L,hi,rfl,HB,HM,HST⟩:=hrel
 by_cases hlt:i<l.length
 ·have hltI:(i:Int)<l.length:=by omega
  obtain ⟨_,a',cap',he,_,_,hc⟩:=HL.out.below HB.out
  simp only[Value.slice.injEq,List.length_map,true_and] at he
  obtain ⟨rfl,rfl⟩:=he
  obtain ⟨g,q0,rfl,hlb,hcut⟩:=hc (by simp;omega)
  have hcutk:=hcut i (iJ l[i]) (by simp[hlt])
  have hsz:=HB.out.size
  have hgr:g<wr.heap.size:=by omega
  have hdrop:l.drop i=l[i] :: l.drop (i+1):=List.drop_eq_getElem_cons hlt
  have hst:=HST.out
  rw[hdrop] at hst
  generalize l[i]=x at *
  have hch:aBB [] l=if bW x=0 then (if x.k∈seen then 8 else aBB (x.k :: seen) (l.drop (i+1))) else bW x:=hst.2
  have HCH:=Lib.hid hch
  have HSD:=Lib.hid hst.1
  have HR:=Lib.hid (aEC x)
  clear hcut hc hst hch hdrop HST
  by_cases hr:bW x=0
  ·rw[hr] at HR
   go_wp2_with fail
   refine Gives.use (HR.out _) ?_
   intro xs d
   go_upto_region 12 with fail
   refine aP ?_
   intro W hW
   have hbW:Below wr.heap.size wr W:=by rw[hW];exact blw
   have hcW:W.aW wr.heap.size 0 25=some (aJ x.k.val):=by
    rw[hW,lI _ _ _ _ _ (by simp),qG _ _ _ _ _ rfl]
    simp[go_sem]
   have lW:wr.heap.size<W.heap.size:=by rw[hW];simp;omega
   clear hW HR
   have hmW:=HM.out.keep (hbW.block _ HM.out.lt)
   have hlk:=wB (P:=Tryz.prog) aQh Tryz.underlying255 hmW (k:=x.k) trivial (HZ.out W) false
   rw[HSD.out x.k] at hlk
   by_cases hm:x.k∈seen
   ·have hq8:q=8:=by rw[HQ.out,HCH.out,if_pos hr,if_pos hm]
    rw[if_pos hm] at hlk
    simp only[Option.map_some,Option.getD_some,evB] at hlk
    have HQ8:=Lib.hid (And.intro hq8 hbW)
    clear hq8 hm hr hmW hbW
    go_wp2_with fail
    go_ret
    exact ⟨dQ HQ8.out.1.symm,HB.out.trans (HQ8.out.2.mono hsz)⟩
   have hnx:aBB [] l=aBB (x.k :: seen) (l.drop (i+1)):=by rw[HCH.out,if_pos hr,if_neg hm]
   rw[if_neg hm] at hlk
   simp only[Option.map_none,Option.getD_none] at hlk
   obtain ⟨w2,hrun,hm2,ho2,_⟩:=aB3 (P:=Tryz.prog) aQh Tryz.underlying255 hmW (k:=x.k) trivial true
   simp only[evB] at hrun
   have HF:=Lib.hid (And.intro hm2 (And.intro ((HB.out.trans (hbW.mono hsz)).only ho2 (Nat.le_refl _)) (And.intro (HSD.out.put x.k) hnx)))
   clear hm2 ho2 hmW hbW hr hm hnx
   go_wp2_with fail
   go_roundw
   case rel=>exact ⟨i+1,x.k :: seen,_,by omega,by go_num,Lib.hid HF.out.2.1,Lib.hid HF.out.1,Lib.hid HF.out.2.2⟩
   simp[intOf];omega
  have hne:(bW x != 0)=true:=by simp[hr]
  have hqr:q=bW x:=by rw[HQ.out,HCH.out,if_neg hr]
  have HQR:=Lib.hid hqr
  clear hqr hr
  go_wp2_with fail
  refine Gives.use (HR.out _) ?_
  intro xs d
  go_wp2_with fail
  go_ret
  exact ⟨dQ HQR.out.symm,HB.out.trans ((show Below wr.heap.size wr _ from blw).mono hsz)⟩
 have hie:i=l.length:=by omega
 subst hie
 have hgn:¬ (l.length:Int)<l.length:=by omega
 have hq0:q=0:=by rw[HQ.out,HST.out.2,List.drop_length];rfl
 have HQ0:=Lib.hid hq0
 clear hlt hq0
 go_wp2_with fail
 go_ret
 exact ⟨dQ HQ0.out.symm,HB.out⟩
end Go.Proofs.YtcedmfnlkelhkaaGreatDoor

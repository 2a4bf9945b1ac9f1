/- Layer 14: a store with one key more; with one version more. -/
import Derived.Test.YtcedmfnlkelhkaaGreatDoorJah
namespace Go.Proofs.YtcedmfnlkelhkaaGreatDoor
set_option maxRecDepth 100000
open Go.RowKit

theorem map_inj {α β:Type} {f:α->β}:∀ {l:List α},(l.map f).Nodup -> ∀ {x y:α},x∈l->y∈l->f x=f y->x=y
 | [],_,x,_,hx,_,_=>by simp at hx
 | a :: l,h,x,y,hx,hy,e=>by
  rw[List.map_cons,List.nodup_cons] at h
  have hin:∀ z,z∈l->f z∈l.map f:=fun z hz=>List.mem_map.2 ⟨z,hz,rfl⟩
  rcases List.mem_cons.1 hx with e1 | h1
  ·rcases List.mem_cons.1 hy with e2 | h2
   ·rw[e1,e2]
   ·exact absurd (by rw[<-e1,e];exact hin y h2) h.1
  ·rcases List.mem_cons.1 hy with e2 | h2
   ·exact absurd (by rw[<-e2,<-e];exact hin x h1) h.1
   ·exact map_inj h.2 h1 h2 e
theorem aF3 {P X X' Y:List Nat} (h:(P++(X++Y)).Nodup) (hx:X'=X \/ ∃ g,X' = [g]/\g∉P++(X++Y)):(P++(X'++Y)).Nodup:=by
 rcases hx with rfl | ⟨g,rfl,hg⟩
 ·exact h
 have hs:(P++Y).Nodup:=h.sublist (List.Sublist.append (List.Sublist.refl _) (List.sublist_append_right _ _))
 have hp:(P++([g]++Y)).Perm (g :: (P++Y)):=List.perm_middle
 rw[hp.nodup_iff,List.nodup_cons]
 refine ⟨fun hm=>hg ?_,hs⟩
 rcases List.mem_append.1 hm with hm | hm
 ·exact List.mem_append_left _ hm
 exact List.mem_append_right _ (List.mem_append_right _ hm)
theorem aAA (g:Nat->Value×List Ver) (xs ys:List Nat):kZ g (xs++ys)=kZ g xs++kZ g ys:=by simp[kZ]
theorem aAB (g:Nat->Value×List Ver) (c:Nat) (ys:List Nat):kZ g (c :: ys)=(g c).1.ownBlock.toList++kZ g ys:=by simp[kZ]
theorem rM {g:Nat->Value×List Ver} {cs:List Nat} {c b:Nat} (hc:c∈cs) (hb:(g c).1.ownBlock=some b):b∈kZ g cs :=
 List.mem_flatten.2 ⟨_,List.mem_map.2 ⟨c,hc,rfl⟩,by rw[hb];simp⟩
def Evo (s:Nat) (w:World) (G:SG) (w':World) (G':SG):Prop:=But (G.blocks s) w w' /\ ∀ b∈G'.blocks s,b∈G.blocks s\/w.heap.size<=b
theorem Evo.refl (s:Nat) (w:World) (G:SG):Evo s w G w G:=⟨But.refl _ _,fun _ h => .inl h⟩
theorem Evo.trans {s:Nat} {w w' w'':World} {G G' G'':SG} (h:Evo s w G w' G') (h':Evo s w' G' w'' G''):Evo s w G w'' G'':=by
 refine ⟨⟨h'.1.os.trans h.1.os,h'.1.tape.trans h.1.tape,h'.1.output.trans h.1.output,Nat.le_trans h.1.size h'.1.size,fun b hb hn => ?_⟩,fun b hb => ?_⟩
 ·refine (h'.1.same b (Nat.lt_of_lt_of_le hb h.1.size) (fun hm => ?_)).trans (h.1.same b hb hn)
  rcases h.2 b hm with h1 | h1
  ·exact hn h1
  omega
 rcases h'.2 b hb with h1 | h1
 ·exact h.2 b h1
 exact .inr (Nat.le_trans h.1.size h1)
theorem Evo.grow {s:Nat} {w w':World} (G:SG) (h:Below w.heap.size w w'):Evo s w G w' G:=⟨But.of_below h _,fun _ h => .inl h⟩
section
variable {w w':World} {B s:Nat} {G:SG} {k:K25}
theorem Evo.below {G':SG} (h:Evo s w G w' G') (hs:aV w B s G):Below B w w':=h.1.below hs.low hs.size
theorem aV.yZ (h:aV w B s G):G.chains.Nodup:=by
 have:=h.nodup
 unfold SG.blocks at this
 rw[List.nodup_cons,List.nodup_cons,List.nodup_append,List.nodup_append] at this
 exact this.2.2.2.1.1
theorem aV.aLr (h:aV w B s G) {j k:K25} {c:Nat} (hj:mD G.R j=some c) (hk:mD G.R k=some c):j=k:=by
 have hn:=h.yZ
 unfold SG.chains at hn
 cases hR:G.R with
 | none=>rw[hR] at hj;cases hj
 | some T =>
  rw[hR] at hj hk hn
  have hO:=(h.tree.2 T hR).2
  obtain ⟨a,ha⟩:=(OkR.get hO j c).1 hj
  obtain ⟨b,hb⟩:=(OkR.get hO k c).1 hk
  have:=map_inj hn ha hb rfl
  exact congrArg (fun x:Nat×K25×Nat=>x.2.1) this
theorem aV.app (h:aV w B s G) {c:Nat} (hk:mD G.R k=some c) {v:Ver} (hp:uD w B c (G.g c).1 (G.g c).2 v w') :
  ∃ G',aV w' B s G'/\(G'.last=G.last/\G'.R=G.R)/\G'.live=G.live/\(∀ j,aQ G' j=if j=k then aQ G j ++ [v] else aQ G j)/\Evo s w G w' G':=by
 obtain ⟨sv',hch,hbut,hown⟩:=hp
 have hcm:c∈G.chains:=get_mem hk
 have hlt:=h.lt
 obtain ⟨l1,l2,hl⟩:=List.append_of_mem hcm
 have hcn:=h.yZ
 rw[hl,List.nodup_append,List.nodup_cons] at hcn
 obtain ⟨_,⟨hc2,_⟩,hc1⟩:=hcn
 have hc1':c∉l1:=fun hm=>hc1 c hm c List.mem_cons_self rfl
 have hblk:G.blocks s=(s :: G.t :: (jD G.R++(G.chains++kZ G.g l1)))++((G.g c).1.ownBlock.toList++kZ G.g l2):=by
  unfold SG.blocks
  conv=>lhs;rw[show kZ G.g G.chains=kZ G.g l1++((G.g c).1.ownBlock.toList++kZ G.g l2) by rw[hl,aAA,aAB]]
  simp
 have hg1:kZ (aAV G.g c (sv',(G.g c).2 ++ [v])) l1=kZ G.g l1:=wH fun d hd=>kN _ _ (fun e=>hc1' (e ▸ hd))
 have hg2:kZ (aAV G.g c (sv',(G.g c).2 ++ [v])) l2=kZ G.g l2:=wH fun d hd=>kN _ _ (fun e=>hc2 (e ▸ hd))
 have hblk':SG.blocks s { G with g:=aAV G.g c (sv',(G.g c).2 ++ [v]) }=(s :: G.t :: (jD G.R++(G.chains++kZ G.g l1)))++(sv'.ownBlock.toList++kZ G.g l2):=by
  have e:kZ (aAV G.g c (sv',(G.g c).2 ++ [v])) G.chains=kZ G.g l1++(sv'.ownBlock.toList++kZ G.g l2):=by
   rw[hl,aAA,aAB,hg1,hg2,mP]
  show s :: G.t :: (jD G.R++(G.chains++kZ (aAV G.g c (sv',(G.g c).2 ++ [v])) G.chains))=_
  rw[e]
  simp
 have hnd:=h.nodup
 have hfresh:sv'.ownBlock.toList=(G.g c).1.ownBlock.toList \/ ∃ g,sv'.ownBlock.toList = [g]/\g∉G.blocks s/\w.heap.size<=g:=by
  rcases hown with e | ⟨g,e,hge⟩
  ·exact .inl (by rw[e])
  exact .inr ⟨g,by rw[e];rfl,fun hm=>by have:=hlt g hm;omega,hge⟩
 -- what the call has turned is c and its row alone
 have hpre:∀ b,b∈G.blocks s->b≠c->b∉(G.g c).1.ownBlock.toList->w'.heap[b]? = w.heap[b]? := fun b hb h1 h2=>hbut.same b (hlt b hb) (by simp only[List.mem_cons,not_or];exact ⟨h1,h2⟩)
 have hbn:=hnd
 rw[hblk] at hbn
 have hdis:=(List.nodup_append.1 hbn).2.2
 have hnotown:∀ b,b∈s :: G.t :: (jD G.R++(G.chains++kZ G.g l1))->b∉(G.g c).1.ownBlock.toList:=fun b hb hm=>hdis b hb b (List.mem_append_left _ hm) rfl
 have hnd0:=hnd
 unfold SG.blocks at hnd0
 rw[List.nodup_cons,List.nodup_cons,List.nodup_append] at hnd0
 obtain ⟨hs0,ht0,_,hnc,hfc⟩:=hnd0
 have hsc:s≠c:=fun e=>hs0 (List.mem_cons_of_mem _ (List.mem_append_right _ (List.mem_append_left _ (e ▸ hcm))))
 have htc:G.t≠c:=fun e=>ht0 (List.mem_append_right _ (List.mem_append_left _ (e ▸ hcm)))
 have hin:∀ b∈c :: (G.g c).1.ownBlock.toList,b∈G.blocks s:=by
  intro b hb
  rcases List.mem_cons.1 hb with rfl | hb
  ·exact List.mem_cons_of_mem _ (List.mem_cons_of_mem _ (List.mem_append_right _ (List.mem_append_left _ hcm)))
  rw[hblk];exact List.mem_append_right _ (List.mem_append_left _ hb)
 refine ⟨{ G with g:=aAV G.g c (sv',(G.g c).2 ++ [v]) },⟨?_,?_,?_,?_,?_,?_⟩,⟨rfl,rfl⟩,rfl,?_,hbut.more (fun b hb _=>hin b hb),?_⟩
 ·exact (hpre s List.mem_cons_self hsc (hnotown s List.mem_cons_self)).trans h.store
 ·refine ⟨(hpre G.t (List.mem_cons_of_mem _ List.mem_cons_self) htc (hnotown _ (List.mem_cons_of_mem _ List.mem_cons_self))).trans h.tree.1,fun T hT=>⟨(h.tree.2 T hT).1.keep fun b hb => ?_,(h.tree.2 T hT).2⟩⟩
  have hbf:b∈jD G.R:=by
   have e:G.R=some T:=hT
   rw[e];exact hb
  refine hpre b (List.mem_cons_of_mem _ (List.mem_cons_of_mem _ (List.mem_append_left _ hbf))) (fun e=>hfc b hbf c (List.mem_append_left _ hcm) e) (hnotown b (List.mem_cons_of_mem _ (List.mem_cons_of_mem _ (List.mem_append_left _ hbf))))
 ·intro d hd
  by_cases hdc:d=c
  ·subst hdc
   show vM w' B d (aAV G.g d (sv',(G.g d).2 ++ [v]) d).1 (aAV G.g d (sv',(G.g d).2 ++ [v]) d).2
   rw[mP];exact hch
  show vM w' B d (aAV G.g c (sv',(G.g c).2 ++ [v]) d).1 (aAV G.g c (sv',(G.g c).2 ++ [v]) d).2
  rw[kN _ _ hdc]
  have hd':d∈G.chains:=hd
  have hcd:=h.chain d hd'
  have hdb:d∈s :: G.t :: (jD G.R++(G.chains++kZ G.g l1)):=List.mem_cons_of_mem _ (List.mem_cons_of_mem _ (List.mem_append_right _ (List.mem_append_left _ hd')))
  refine ⟨(hpre d (by rw[hblk];exact List.mem_append_left _ hdb) hdc (hnotown d hdb)).trans hcd.1,hcd.2.keep fun b hb _ => ?_⟩
  have hbo:b∈kZ G.g G.chains:=rM hd' hb
  have hbb:b∈G.blocks s:=List.mem_cons_of_mem _ (List.mem_cons_of_mem _ (List.mem_append_right _ (List.mem_append_right _ hbo)))
  refine hpre b hbb ?_ ?_
  ·rintro rfl
   exact (List.nodup_append.1 hnc).2.2 b hcm b hbo rfl
  intro hm
  rw[hl] at hd'
  rcases List.mem_append.1 hd' with hd1 | hd2
  ·exact hnotown b (List.mem_cons_of_mem _ (List.mem_cons_of_mem _ (List.mem_append_right _ (List.mem_append_right _ (rM hd1 hb))))) hm
  rcases List.mem_cons.1 hd2 with e | hd2
  ·exact hdc e
  have h3:=(List.nodup_append.1 hbn).2.1
  exact (List.nodup_append.1 h3).2.2 b hm b (rM hd2 hb) rfl
 ·rw[hblk']
  refine aF3 hbn ?_
  rcases hfresh with e | ⟨g,e,hg,_⟩
  ·exact .inl e
  exact .inr ⟨g,e,by rw[hblk] at hg;exact hg⟩
 ·intro b hb
  rw[hblk'] at hb
  rcases List.mem_append.1 hb with hb | hb
  ·exact h.low b (by rw[hblk];exact List.mem_append_left _ hb)
  rcases List.mem_append.1 hb with hb | hb
  ·rcases hfresh with e | ⟨g,e,_,hge⟩
   ·rw[e] at hb
    exact h.low b (by rw[hblk];exact List.mem_append_right _ (List.mem_append_left _ hb))
   rw[e,List.mem_singleton] at hb
   have:=h.size
   omega
  exact h.low b (by rw[hblk];exact List.mem_append_right _ (List.mem_append_right _ hb))
 ·exact Nat.le_trans h.size hbut.size
 ·intro j
  by_cases hj:j=k
  ·rw[if_pos hj,hj]
   unfold aQ
   show (match mD G.R k with | none => [] | some c_1=>(aAV G.g c (sv',(G.g c).2 ++ [v]) c_1).2)=_
   rw[hk]
   simp only[mP]
  rw[if_neg hj]
  unfold aQ
  show (match mD G.R j with | none => [] | some c_1=>(aAV G.g c (sv',(G.g c).2 ++ [v]) c_1).2)=_
  cases hd:mD G.R j with
  | none=>rfl
  | some d =>
   have hdc:d≠c:=by
    rintro rfl
    exact hj (h.aLr hd hk)
   simp only[kN _ _ hdc]
 intro b hb
 rw[hblk'] at hb
 rcases List.mem_append.1 hb with hb | hb
 ·exact .inl (by rw[hblk];exact List.mem_append_left _ hb)
 rcases List.mem_append.1 hb with hb | hb
 ·rcases hfresh with e | ⟨g,e,_,hge⟩
  ·rw[e] at hb
   exact .inl (by rw[hblk];exact List.mem_append_right _ (List.mem_append_left _ hb))
  rw[e,List.mem_singleton] at hb
  exact .inr (by omega)
 exact .inl (by rw[hblk];exact List.mem_append_right _ (List.mem_append_right _ hb))
theorem aHM {g:Nat->Value×List Ver} {xs ys:List Nat} (h:xs.Perm ys):(kZ g xs).Perm (kZ g ys):=(h.map _).flatten
theorem aV.aMD (h:aV w B s G) (hk:mD G.R k=none) {c:Nat} {w1:World} (hb:Below w.heap.size w w1) (hc:w.heap.size<=c) (hcc:w1.heap[c]? = some (.cells #[.slice none 0 0] 205)) (hp:aD5 w1 G.t G.R k c w') :
  ∃ G',aV w' B s G'/\(G'.last=G.last/\(dW G'.R).length<=(dW G.R).length+1)/\G'.live=G.live/\(∀ j,aQ G' j=aQ G j)/\mD G'.R k=some c/\G'.g c=(.slice none 0 0, [])/\Evo s w G w' G':=by
 obtain ⟨hbut,a,fa,n',ha,hfa,hafa,htree⟩:=hp
 have h1:=h.keep hb
 have hlt:=h.lt
 have hlc:=lt_of_heap hcc
 have hz:=hb.size
 have hcb:c∉G.blocks s:=fun hm=>by have:=hlt c hm;omega
 have hO:=(htree.2 _ rfl).2
 obtain ⟨l,hl,hpf⟩:=aIr G.R k c a fa
 have hpl:=aEk G.R k c a fa
 have hpc:((aA7 G.R k c a fa).list.map (·.2.2)).Perm (c :: G.chains):=hpl.map _
 have hnd:=h.nodup
 have hnd0:=hnd
 unfold SG.blocks at hnd0
 rw[List.nodup_cons,List.nodup_cons,List.nodup_append] at hnd0
 obtain ⟨hs0,ht0,_,hnc,hfc⟩:=hnd0
 have hne:∀ b,b∈G.blocks s->b≠G.t->b∉jD G.R->w'.heap[b]? = w1.heap[b]? := fun b hbm h2 h3=>hbut.same b (by have:=hlt b hbm;omega) (by simp only[List.mem_cons,not_or];exact ⟨h2,h3⟩)
 have hgc:∀ d∈G.chains,d≠c:=fun d hd e=>hcb (e ▸ List.mem_cons_of_mem _ (List.mem_cons_of_mem _ (List.mem_append_right _ (List.mem_append_left _ hd))))
 have hgo:kZ (aAV G.g c (.slice none 0 0, [])) (c :: G.chains)=kZ G.g G.chains:=by
  rw[aAB,mP]
  rw[show kZ (aAV G.g c (.slice none 0 0, [])) G.chains=kZ G.g G.chains from wH fun d hd=>kN _ _ (hgc d hd)]
  rfl
 have hperm:(SG.blocks s { G with R:=some (aA7 G.R k c a fa),n:=n',g:=aAV G.g c (.slice none 0 0, []) }).Perm (l++(c :: G.blocks s)):=by
  show (s :: G.t :: ((aA7 G.R k c a fa).foot++(((aA7 G.R k c a fa).list.map (·.2.2))++kZ (aAV G.g c (.slice none 0 0, [])) ((aA7 G.R k c a fa).list.map (·.2.2))))).Perm _
  have e1:((aA7 G.R k c a fa).foot++(((aA7 G.R k c a fa).list.map (·.2.2))++kZ (aAV G.g c (.slice none 0 0, [])) ((aA7 G.R k c a fa).list.map (·.2.2)))).Perm ((l++jD G.R)++((c :: G.chains)++kZ G.g G.chains)):=by
   refine hpf.append (hpc.append ?_)
   rw[<-hgo]
   exact aHM hpc
  refine ((e1.cons _).cons _).trans ?_
  have e2:((l++jD G.R)++((c :: G.chains)++kZ G.g G.chains)).Perm (l++(c :: (jD G.R++(G.chains++kZ G.g G.chains)))):=by
   rw[List.append_assoc]
   refine List.Perm.append_left l ?_
   exact List.perm_middle
  refine ((e2.cons _).cons _).trans ?_
  refine ((List.perm_middle (a:=G.t) (l₁:=l)).symm.cons s).trans ?_
  refine (List.perm_middle (a:=s) (l₁:=l)).symm.trans ?_
  refine List.Perm.append_left l ?_
  unfold SG.blocks
  exact ((List.Perm.swap _ _ _).cons s).trans (List.Perm.swap _ _ _)
 have hlm:∀ b∈l,w1.heap.size<=b:=by
  intro b hbm
  rcases hl with rfl | rfl
  ·rw[List.mem_singleton] at hbm;omega
  simp only[List.mem_cons,List.not_mem_nil,or_false] at hbm;rcases hbm with rfl | rfl
  ·exact ha
  exact hfa
 have hln:l.Nodup:=by
  rcases hl with rfl | rfl
  ·simp
  simp[hafa]
 have hst:s≠G.t:=fun e=>hs0 (e ▸ List.mem_cons_self)
 have hsf:s∉jD G.R:=fun hm=>hs0 (List.mem_cons_of_mem _ (List.mem_append_left _ hm))
 have hct:c≠G.t:=fun e=>hcb (e ▸ List.mem_cons_of_mem _ List.mem_cons_self)
 have hcf:c∉jD G.R:=fun hm=>hcb (List.mem_cons_of_mem _ (List.mem_cons_of_mem _ (List.mem_append_left _ hm)))
 have hget:=aKT hO (fun T hT=>(h.tree.2 T hT).2) hk
 refine ⟨{ G with R:=some (aA7 G.R k c a fa),n:=n',g:=aAV G.g c (.slice none 0 0, []) },⟨?_,htree,?_,?_,?_,?_⟩,⟨rfl,Nat.le_of_eq hpl.length_eq⟩,rfl,?_,?_,mP _ _ _,?_⟩
 ·exact (hne s List.mem_cons_self hst hsf).trans h1.store
 ·intro d hd
  have hd':d∈c :: G.chains:=hpc.mem_iff.1 hd
  show vM w' B d (aAV G.g c (.slice none 0 0, []) d).1 (aAV G.g c (.slice none 0 0, []) d).2
  by_cases hdc:d=c
  ·subst hdc
   rw[mP]
   exact ⟨(hbut.same d hlc (by simp only[List.mem_cons,not_or];exact ⟨hct,hcf⟩)).trans hcc,gU.nil _ _ _ _⟩
  rw[kN _ _ hdc]
  have hdm:d∈G.chains:=by
   rcases List.mem_cons.1 hd' with e | h2
   ·exact absurd e hdc
   exact h2
  have hcd:=h1.chain d hdm
  have hdb:d∈G.blocks s:=List.mem_cons_of_mem _ (List.mem_cons_of_mem _ (List.mem_append_right _ (List.mem_append_left _ hdm)))
  refine ⟨(hne d hdb (fun e=>ht0 (List.mem_append_right _ (List.mem_append_left _ (e ▸ hdm)))) (fun hm=>hfc d hm d (List.mem_append_left _ hdm) rfl)).trans hcd.1,hcd.2.keep fun b hbo _ => ?_⟩
  have hbm:=rM hdm hbo
  have hbb:b∈G.blocks s:=List.mem_cons_of_mem _ (List.mem_cons_of_mem _ (List.mem_append_right _ (List.mem_append_right _ hbm)))
  exact hne b hbb (fun e=>ht0 (List.mem_append_right _ (List.mem_append_right _ (e ▸ hbm)))) (fun hm=>hfc b hm b (List.mem_append_right _ hbm) rfl)
 ·rw[hperm.nodup_iff,List.nodup_append,List.nodup_cons]
  refine ⟨hln,⟨hcb,hnd⟩,fun x hx y hy e => ?_⟩
  have:=hlm x hx
  rcases List.mem_cons.1 hy with rfl | hy
  ·omega
  have:=hlt y hy;omega
 ·intro b hbm
  rcases List.mem_append.1 (hperm.mem_iff.1 hbm) with hbm | hbm
  ·have:=hlm b hbm;have:=h.size;omega
  rcases List.mem_cons.1 hbm with rfl | hbm
  ·have:=h.size;omega
  exact h.low b hbm
 ·exact Nat.le_trans h1.size hbut.size
 ·intro j
  unfold aQ
  show (match mD (some (aA7 G.R k c a fa)) j with | none => [] | some c_1=>(aAV G.g c (.slice none 0 0, []) c_1).2)=_
  rw[hget j]
  by_cases hj:j=k
  ·rw[if_pos hj,hj,hk]
   simp only[mP]
  rw[if_neg hj]
  cases hd:mD G.R j with
  | none=>rfl
  | some d=>simp only[kN _ _ (hgc d (get_mem hd))]
 ·show mD (some (aA7 G.R k c a fa)) k=some c
  rw[hget k,if_pos rfl]
 refine ⟨(But.of_below hb _).trans (hbut.more fun b hbm _ => ?_),fun b hbm => ?_⟩
 ·rcases List.mem_cons.1 hbm with rfl | hbm
  ·exact List.mem_cons_of_mem _ List.mem_cons_self
  exact List.mem_cons_of_mem _ (List.mem_cons_of_mem _ (List.mem_append_left _ hbm))
 rcases List.mem_append.1 (hperm.mem_iff.1 hbm) with hbm | hbm
 ·have:=hlm b hbm;exact .inr (by omega)
 rcases List.mem_cons.1 hbm with rfl | hbm
 ·exact .inr hc
 exact .inl hbm
theorem aV.aK7 (h:aV w B s G) (n:Int):aV (w.setCell ⟨s,2,none⟩ (.int .i64 n)) B s { G with live:=n }/\Evo s w G (w.setCell ⟨s,2,none⟩ (.int .i64 n)) { G with live:=n }:=by
 have hs:=h.store
 unfold wW at hs
 have hns:∀ b∈G.blocks s,b≠s->(w.setCell ⟨s,2,none⟩ (.int .i64 n)).heap[b]? = w.heap[b]? := fun b _ hb=>Below.heap_setCell _ ⟨s,2,none⟩ _ _ hb
 have hnd:=h.nodup
 unfold SG.blocks at hnd
 rw[List.nodup_cons] at hnd
 have hin:∀ {b},b∈G.t :: (jD G.R++(G.chains++kZ G.g G.chains))->b≠s:=fun hb e=>hnd.1 (e ▸ hb)
 refine ⟨⟨?_,⟨(hns G.t (List.mem_cons_of_mem _ List.mem_cons_self) (hin List.mem_cons_self)).trans h.tree.1,fun T hT=>⟨(h.tree.2 T hT).1.keep fun b hb => ?_,(h.tree.2 T hT).2⟩⟩,fun c hc => ?_,h.nodup,h.low,by simpa using h.size⟩,But.setCell' _ List.mem_cons_self _ _,fun b hb => .inl hb⟩
 ·unfold wW
  simp only[World.setCell,Array.getElem?_modify,hs,if_true,Option.map_some]
  simp
 ·have e:G.R=some T:=hT
  have hm:b∈G.t :: (jD G.R++(G.chains++kZ G.g G.chains)):=List.mem_cons_of_mem _ (List.mem_append_left _ (by rw[e];exact hb))
  exact hns b (List.mem_cons_of_mem _ hm) (hin hm)
 have hm:c∈G.t :: (jD G.R++(G.chains++kZ G.g G.chains)):=List.mem_cons_of_mem _ (List.mem_append_right _ (List.mem_append_left _ hc))
 refine ⟨(hns c (List.mem_cons_of_mem _ hm) (hin hm)).trans (h.chain c hc).1,(h.chain c hc).2.keep fun b hb _ => ?_⟩
 have hm2:b∈G.t :: (jD G.R++(G.chains++kZ G.g G.chains)):=List.mem_cons_of_mem _ (List.mem_append_right _ (List.mem_append_right _ (rM hc hb)))
 exact hns b (List.mem_cons_of_mem _ hm2) (hin hm2)
theorem aV.setLast (h:aV w B s G) (n:UInt64):aV (w.setCell ⟨s,1,none⟩ (.int .u64 n.toNat)) B s { G with last:=n }/\Evo s w G (w.setCell ⟨s,1,none⟩ (.int .u64 n.toNat)) { G with last:=n }:=by
 have hs:=h.store
 unfold wW at hs
 have hns:∀ b∈G.blocks s,b≠s->(w.setCell ⟨s,1,none⟩ (.int .u64 n.toNat)).heap[b]? = w.heap[b]? := fun b _ hb=>Below.heap_setCell _ ⟨s,1,none⟩ _ _ hb
 have hnd:=h.nodup
 unfold SG.blocks at hnd
 rw[List.nodup_cons] at hnd
 have hin:∀ {b},b∈G.t :: (jD G.R++(G.chains++kZ G.g G.chains))->b≠s:=fun hb e=>hnd.1 (e ▸ hb)
 refine ⟨⟨?_,⟨(hns G.t (List.mem_cons_of_mem _ List.mem_cons_self) (hin List.mem_cons_self)).trans h.tree.1,fun T hT=>⟨(h.tree.2 T hT).1.keep fun b hb => ?_,(h.tree.2 T hT).2⟩⟩,fun c hc => ?_,h.nodup,h.low,by simpa using h.size⟩,But.setCell' _ List.mem_cons_self _ _,fun b hb => .inl hb⟩
 ·unfold wW
  simp only[World.setCell,Array.getElem?_modify,hs,if_true,Option.map_some]
  simp
 ·have e:G.R=some T:=hT
  have hm:b∈G.t :: (jD G.R++(G.chains++kZ G.g G.chains)):=List.mem_cons_of_mem _ (List.mem_append_left _ (by rw[e];exact hb))
  exact hns b (List.mem_cons_of_mem _ hm) (hin hm)
 have hm:c∈G.t :: (jD G.R++(G.chains++kZ G.g G.chains)):=List.mem_cons_of_mem _ (List.mem_append_right _ (List.mem_append_left _ hc))
 refine ⟨(hns c (List.mem_cons_of_mem _ hm) (hin hm)).trans (h.chain c hc).1,(h.chain c hc).2.keep fun b hb _ => ?_⟩
 have hm2:b∈G.t :: (jD G.R++(G.chains++kZ G.g G.chains)):=List.mem_cons_of_mem _ (List.mem_append_right _ (List.mem_append_right _ (rM hc hb)))
 exact hns b (List.mem_cons_of_mem _ hm2) (hin hm2)
end
end Go.Proofs.YtcedmfnlkelhkaaGreatDoor

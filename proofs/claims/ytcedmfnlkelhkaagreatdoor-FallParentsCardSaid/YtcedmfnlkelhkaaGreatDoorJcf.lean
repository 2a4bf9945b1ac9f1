/- The document's store in plain Lean: its rows, in order, beside what a store's keys have. -/
import Derived.Test.YtcedmfnlkelhkaaGreatDoorJbz
import Derived.Test.YtcedmfnlkelhkaaGreatDoorJap
import Derived.Test.YtcedmfnlkelhkaaGreatDoorJbt
import Derived.Handy
namespace Go.Proofs.YtcedmfnlkelhkaaGreatDoor
open Go.RowKit

abbrev VR:=Value×List Ver
abbrev RD:=List (K25×VR)
def vsR (R:RD) (k:K25):List Ver:=((lk R k).map (·.2)).getD []
def slR (R:RD) (k:K25):Value:=((lk R k).map (·.1)).getD (.slice none 0 0)
def qA (R:RD):Nat:=R.countP fun p=>qM p.2.2
theorem aJY {β:Type}:∀ (D:List (K25×β)) (k:K25) (i:Nat) (h:i<D.length),(∀ j (h:j<D.length),j<i->D[j].1≠k)->D[i].1=k->lk D k=some D[i].2
 | a :: D,k,0,_,_,he=>by
  have he:a.1=k:=he
  unfold lk
  rw[List.find?_cons_of_pos (by simpa using he)]
  rfl
 | a :: D,k,i+1,h,hn,he=>by
  have h0:a.1≠k:=hn 0 (by simp) (by omega)
  have ih:=aJY D k i (by simpa using h) (fun j hj hji=>hn (j+1) (by simp;omega) (by omega)) he
  unfold lk at ih |-
  rw[List.find?_cons_of_neg (by simpa using h0),ih]
  rfl
theorem aLv {β:Type} (D:List (K25×β)) (k:K25) (hn:∀ j (h:j<D.length),D[j].1≠k):lk D k=none:=by
 refine aBg.2 fun p hp => ?_
 obtain ⟨j,hj,rfl⟩:=List.getElem_of_mem hp
 exact hn j hj
section
variable {β:Type} {R:List (K25×β)} {k:K25} {y:β}
theorem aIW (h:lk R k=none):del R k=R:=by
 unfold del
 rw[List.filter_eq_self]
 intro p hp
 exact decide_eq_true (aBg.1 h p hp)
theorem aCk (hu:Uniq R):((k,y) :: del R k).Nodup:=by
 rw[List.nodup_cons]
 refine ⟨fun hm => ?_,(oP hu).sublist List.filter_sublist⟩
 have:=(List.mem_filter.1 hm).2
 simp at this
theorem aBm (hu:Uniq R) (h:lk R k=some y):R.Perm ((k,y) :: del R k):=by
 have hm:=(aBM hu).1 h
 refine (List.perm_ext_iff_of_nodup (oP hu) (aCk hu)).2 fun p => ?_
 rw[List.mem_cons]
 unfold del
 rw[List.mem_filter]
 constructor
 ·intro hp
  by_cases e:p.1=k
  ·left
   obtain ⟨a,b⟩:=p
   simp only at e
   subst e
   have:=(aBM hu).2 hp
   rw[h] at this
   simp only[Option.some.injEq] at this
   rw[this]
  exact .inr ⟨hp,decide_eq_true e⟩
 rintro (rfl | ⟨hp,_⟩)
 ·exact hm
 exact hp
theorem aH2 (hs:SA R):(oQ R k y).Perm ((k,y) :: del R k):=by
 refine (List.perm_ext_iff_of_nodup (oP (hs.set k y).uniq) (aCk hs.uniq)).2 fun p => ?_
 rw[yJ p hs,List.mem_cons]
 unfold del
 rw[List.mem_filter]
 simp
theorem aKK (hs:SA R) (j:K25):lk (oQ R k y) j=if j=k then some y else lk R j:=by
 rw[aKJ (set_perm hs (List.Perm.refl _) hs.uniq k y) (aEl hs.uniq k y),aHE]
theorem aEc (R:List (K25×β)) (k:K25) (y:β):(oQ R k y).length<=R.length+1:=by
 have h1:(R.takeWhile (ltA k)).length+(R.dropWhile (ltA k)).length=R.length:=by rw[<-List.length_append,List.takeWhile_append_dropWhile]
 have h2:=List.length_filter_le (fun p:K25×β=>decide (p.1≠k)) (R.dropWhile (ltA k))
 unfold oQ
 simp only[List.length_append,List.length_cons]
 omega
end
section
variable {β:Type} {k:K25} {y:β}
theorem qV (a:K25×β) (X:List (K25×β)):oQ (a :: X) k y=if ltA k a=true then a :: oQ X k y else (k,y) :: (a :: X).filter fun p=>decide (p.1≠k):=by
 unfold oQ
 rw[List.takeWhile_cons,List.dropWhile_cons]
 split <;> rfl
theorem aEw:∀ {X:List (K25×β)},X.all (ltA k)=true->oQ X k y=X ++ [(k,y)]
 | [],_=>rfl
 | a :: X,h=>by
  rw[List.all_cons,Bool.and_eq_true] at h
  rw[qV,if_pos h.1,aEw h.2];rfl
theorem xK (r:K25×β):∀ {X:List (K25×β)},X.all (ltA k)=false->oQ (X ++ [r]) k y=oQ X k y++if r.1=k then [] else [r]
 | [],h=>by simp at h
 | a :: X,h=>by
  rw[List.cons_append,qV,qV]
  cases ha:ltA k a with
  | true =>
   rw[List.all_cons,ha,Bool.true_and] at h
   rw[if_pos rfl,if_pos rfl,xK r h];rfl
  | false =>
   rw[if_neg (by simp),if_neg (by simp),<-List.cons_append,List.filter_append,List.cons_append]
   congr 2
   by_cases e:r.1=k <;> simp[e]
theorem uZ (r:K25×β):∀ {X:List (K25×β)},X.all (ltA k)=true->ltA k r=false->oQ (X ++ [r]) k y=X++(k,y) :: if r.1=k then [] else [r]
 | [],_,hr=>by
  rw[List.nil_append,qV,if_neg (by simp[hr])]
  by_cases e:r.1=k <;> simp[e]
 | a :: X,h,hr=>by
  rw[List.all_cons,Bool.and_eq_true] at h
  rw[List.cons_append,qV,if_pos h.1,uZ r h.2 hr];rfl
theorem aLy {r:K25×β} (h:ltA k r=true):r.1≠k:=by
 intro e
 unfold ltA at h
 rw[e,qL] at h
 cases h
def rW (R:List (K25×β)) (k:K25) (y:β) (i:Nat):List (K25×β):=if (R.take i).all (ltA k)=true then R.take i else oQ (R.take i) k y
def aBT (R:List (K25×β)) (k:K25) (i:Nat):Bool := !(R.take i).all (ltA k)
theorem aCD (R:List (K25×β)) (i:Nat):(rW R k y i).length<=R.length+1:=by
 unfold rW
 split
 ·rw[List.length_take];omega
 have:=aEc (R.take i) k y
 rw[List.length_take] at this;omega
theorem aJC {R:List (K25×β)} {i:Nat} (hi:i<R.length) (h:aBT R k i=false) (hl:ltA k R[i]=false):aBT R k (i+1)=true/\rW R k y (i+1)=rW R k y i++(k,y) :: if R[i].1=k then [] else [R[i]]:=by
 unfold aBT at h |-
 have h2:(R.take i).all (ltA k)=true:=by simpa using h
 unfold rW
 rw[List.take_succ_eq_append_getElem hi,List.all_append,h2,if_pos rfl,if_neg (by simp[hl]),uZ _ h2 hl]
 simp[hl]
theorem aJD {R:List (K25×β)} {i:Nat} (hi:i<R.length) (h:aBT R k i=false) (hl:ltA k R[i]=true):aBT R k (i+1)=false/\R[i].1≠k/\rW R k y (i+1)=rW R k y i ++ [R[i]]:=by
 unfold aBT at h |-
 have h2:(R.take i).all (ltA k)=true:=by simpa using h
 unfold rW
 rw[List.take_succ_eq_append_getElem hi,List.all_append,h2,if_pos rfl,if_pos (by simp[hl])]
 exact ⟨by simp[hl],aLy hl,rfl⟩
theorem aH3 {R:List (K25×β)} {i:Nat} (hi:i<R.length) (h:aBT R k i=true):aBT R k (i+1)=true/\rW R k y (i+1)=rW R k y i++if R[i].1=k then [] else [R[i]]:=by
 unfold aBT at h |-
 have h2:(R.take i).all (ltA k)=false:=by simpa using h
 unfold rW
 rw[List.take_succ_eq_append_getElem hi,List.all_append,h2,if_neg (by simp),if_neg (by simp),xK _ h2]
 exact ⟨by simp,rfl⟩
theorem aJB (R:List (K25×β)):oQ R k y=rW R k y R.length++if aBT R k R.length=true then [] else [(k,y)]:=by
 unfold rW aBT
 rw[List.take_length]
 cases h:R.all (ltA k) with
 | true=>rw[if_pos rfl,if_neg (by simp),aEw h]
 | false=>rw[if_neg (by simp),if_pos (by simp),List.append_nil]
end
theorem aIb {R:RD} (hs:SA R) (k:K25) (v:Value) (l:List Ver):qA (oQ R k (v,l))+(if qM (vsR R k)=true then 1 else 0)=qA R+if qM l=true then 1 else 0:=by
 unfold qA
 rw[(aH2 hs).countP_eq,List.countP_cons]
 unfold vsR
 cases h:lk R k with
 | none =>
  rw[aIW h]
  simp[qM]
 | some y =>
  rw[(aBm hs.uniq h).countP_eq,List.countP_cons]
  simp only[Option.map_some,Option.getD_some]
  omega
theorem aMp {R:RD} (hs:SA R) (k:K25) (v:Value) (l:List Ver) (j:K25):vsR (oQ R k (v,l)) j=if j=k then l else vsR R j:=by
 unfold vsR
 rw[aKK hs]
 split <;> rfl
structure DS (R:RD) (f:K25->List Ver) (live:Int):Prop where
 sa:SA R
 vs:∀ k,vsR R k=f k
 ne:∀ p∈R,p.2.2 ≠ []
 live:(qA R:Int)=live
theorem DS.nil:DS [] f0 0:=⟨List.Pairwise.nil,fun _=>rfl,fun p h=>by simp at h,rfl⟩
theorem aHD (l:List Ver) (v:Ver):qM (l ++ [v]) = !v.dead:=by unfold qM;rw[List.getLast?_append];rfl
theorem DS.step {R:RD} {f:K25->List Ver} {n:Int} (h:DS R f n) (x:Wr) (a:UInt64) (v:Value):DS (oQ R x.k (v,f x.k ++ [nV a x])) (oC a f x) (stepM f n x):=by
 refine ⟨h.sa.set _ _,fun k => ?_,fun p hp => ?_,?_⟩
 ·rw[aMp h.sa]
  unfold oC
  by_cases e:k=x.k
  ·rw[if_pos e,if_pos e,e]
  rw[if_neg e,if_neg e,h.vs]
 ·rcases (yJ p h.sa).1 hp with rfl | ⟨hp,_⟩
  ·simp
  exact h.ne p hp
 have h1:=aIb h.sa x.k v (f x.k ++ [nV a x])
 have h2:=h.live
 rw[h.vs,aHD] at h1
 have h3:(nV a x).dead=x.dead:=rfl
 rw[h3] at h1
 unfold stepM
 cases hl:qM (f x.k) <;> cases hd:x.dead <;> simp[hl,hd] at h1 |- <;> omega
theorem aHa (f:K25->List Ver) (n m:Int) (x:Wr):stepM f (n+m) x=n+stepM f m x:=by unfold stepM;split <;> split <;> omega
theorem aEL {f g:K25->List Ver} (n:Int) (x:Wr) (h:f x.k=g x.k):stepM f n x=stepM g n x:=by unfold stepM;rw[h]
theorem DS.next {R:RD} {f:K25->List Ver} {n:Int} {a:UInt64} {l:List Wr} (hn:(l.map (·.k)).Nodup) {i:Nat} (hi:i<l.length) (h:DS R (dP a f (l.take i)) (n+dL f (l.take i))) (v:Value) :
  dP a f (l.take i) l[i].k=f l[i].k/\DS (oQ R l[i].k (v,f l[i].k ++ [nV a l[i]])) (dP a f (l.take (i+1))) (n+dL f (l.take (i+1))):=by
 have e:=iU a (l.take i) f l[i].k (aDM hn hi)
 refine ⟨e,?_⟩
 have:=h.step l[i] a v
 rw[e,aEL (g:=f) _ _ e,aHa] at this
 rw[yY a f l i hi,wE f l i hi]
 exact this
end Go.Proofs.YtcedmfnlkelhkaaGreatDoor
namespace Go.Proofs.YtcedmfnlkelhkaaGreatDoor
set_option maxRecDepth 100000
open Go.RowKit

def aMf (v:Ver):List Value := .int .u64 v.at_.toNat :: .bool v.dead :: tH v.r
def nU (v:Ver):Array Value:=(aMf v).toArray
@[go_sem,simp] theorem aAX (v:Ver):(nU v).size=11:=id rfl
@[go_sem] theorem aEi (v:Ver):bZ (nU v)=true:=dH (by intro x hx;rcases List.mem_cons.1 hx with rfl | hx;rfl;rcases List.mem_cons.1 hx with rfl | hx;rfl;exact qP _ x hx)
@[go_sem] theorem aHo (v:Ver):(nU v)[0]? = some (.int .u64 v.at_.toNat):=id rfl
@[go_sem] theorem aFD (v:Ver):(nU v)[1]? = some (.bool v.dead):=id rfl
@[go_sem,simp] theorem aPj (v:Ver) (h:0<(nU v).size):(nU v)[0]'h = .int .u64 v.at_.toNat:=id rfl
@[go_sem,simp] theorem aPk (v:Ver) (h:1<(nU v).size):(nU v)[1]'h = .bool v.dead:=id rfl
@[go_sem] theorem aFE (v:Ver):(nU v).extract 2 11=dS v.r:=ext_list (tH v.r) [.int .u64 v.at_.toNat,.bool v.dead] 2 rfl
@[go_sem] theorem aOD (v:Ver):(nU v).extract 0 11=nU v:=by apply Array.extract_eq_self_of_le;simp
@[go_sem] theorem aND:Tryz.prog.bJ 283=some 11:=by kernel_rfl
@[go_sem ↓ high] theorem aOx (a:Addr):loadVar 283 a=eX 283 a:=rfl
@[go_sem ↓ high] theorem aPe (a:Addr) (v:Value):storeVar 283 a v=bH 283 a v:=rfl
theorem aEu:kE Tryz.prog 278 283 11 96:=⟨Tryz.underlying278,by kernel_rfl,by decide,by decide⟩
theorem aGD (v:Ver) : #[.int .u64 v.at_.toNat] ++ #[.bool v.dead]++dS v.r=nU v:=by apply Array.ext';simp[dS,nU,aMf]
@[go_sem ↓ high] theorem aNT (f:Nat×Operand->Nat×Value) (p q r':Nat×Operand):Instr.build 283 (Array.map f #[p,q,r'])=aCT 283 (f p) (f q) (f r'):=by simp[aCT]
@[go_sem] theorem aLZ (a:UInt64) (b:Bool) (r:Rec) (w:World):(aCT 283 (0,.int .u64 a.toNat) (1,.bool b) (2,.agg (dS r))).run Tryz.prog w = .ok (.agg (nU ⟨a,b,r⟩)) w:=by
 unfold aCT
 have:=sS (P:=Tryz.prog) (w:=w) (n:=1) (m:=1) (k:=9) (a := .int .u64 a.toNat) (b := .bool b) (c := .agg (dS r)) Tryz.zeroValue283 Tryz.underlying283 (by intro w;kernel_rfl) (by simp[Value.cells]) (by simp[Value.cells]) (by simp[Value.cells]) (by rfl)
 rw[this]
 exact congrArg (fun c=>Result.ok (Value.agg c) w) (aGD ⟨a,b,r⟩)
def aIv (k:K25) (v:Value):List Value:=xQ k ++ [v]
def lU (k:K25) (v:Value):Array Value:=(aIv k v).toArray
def xI (p:K25×VR):Array Value:=lU p.1 p.2.1
@[go_sem,simp] theorem aFd (k:K25) (v:Value):(lU k v).size=26:=by simp[lU,aIv,fB]
@[simp] theorem aM4 (p:K25×VR):(xI p).size=26:=aFd _ _
@[go_sem] theorem aM3 (k:K25) (v:Value):(lU k v).extract 0 26=lU k v:=by apply Array.extract_eq_self_of_le;simp
@[go_sem] theorem aDD (k:K25) (v:Value):(lU k v).extract 0 25=iR k.val:=by rw[kX];exact uK _ _ 25 (fB _)
@[go_sem] theorem aBy (k:K25) (v:Value):(lU k v)[25]? = some v:=by
 unfold lU aIv
 rw[List.getElem?_toArray,List.getElem?_append_right (by simp[fB])];simp[fB]
@[go_sem,simp] theorem aM2 (k:K25) (v:Value) (h:25<(lU k v).size):(lU k v)[25]'h=v:=by
 have:=aBy k v
 rw[Array.getElem?_eq_getElem h] at this
 exact Option.some.inj this
@[go_sem] theorem zZ (k:K25) (a:Option Addr) (n c:Nat):bZ (lU k (.slice a n c))=true:=dH (by
 intro v hv
 rcases List.mem_append.1 hv with hv | hv
 ·exact uP _ v hv
 ·simp at hv;subst hv;rfl)
@[go_sem] theorem aNC:Tryz.prog.bJ 307=some 26:=by kernel_rfl
@[go_sem ↓ high] theorem aOu (a:Addr):loadVar 307 a=eX 307 a:=rfl
@[go_sem ↓ high] theorem aPb (a:Addr) (v:Value):storeVar 307 a v=bH 307 a v:=rfl
theorem aBz:kE Tryz.prog 37 307 26 72:=⟨Tryz.underlying37,by kernel_rfl,by decide,by decide⟩
theorem aFe (k:K25) (v:Value):iR k.val ++ #[v]=lU k v:=by rw[kX];apply Array.ext';simp[lU,aIv]
def aNZ (t:TypeId) (p q:Nat×Value):Sem Value:=Instr.build t #[p,q]
@[go_sem ↓ high] theorem aNS (f:Nat×Operand->Nat×Value) (p q:Nat×Operand):Instr.build 307 (Array.map f #[p,q])=aNZ 307 (f p) (f q):=by simp[aNZ]
@[go_sem] theorem aLY (k:K25) (a:Option Addr) (n c:Nat) (w:World):(aNZ 307 (0,.agg (iR k.val)) (1,.slice a n c)).run Tryz.prog w = .ok (.agg (lU k (.slice a n c))) w:=by
 unfold aNZ
 have:=aG8 (P:=Tryz.prog) (w:=w) (n:=25) (m:=1) (a := .agg (iR k.val)) (b := .slice a n c) Tryz.zeroValue307 Tryz.underlying307 (by intro w;kernel_rfl) (by simp[Value.cells]) (by simp[Value.cells]) rfl
 rw[this]
 exact congrArg (fun c=>Result.ok (Value.agg c) w) (aFe k _)
def Off (S:List Nat) (v:Value):Prop := ∀ b o n c,v = .slice (some ⟨b,o,none⟩) n c->0<n->b∉S
def nX (N:Nat) (v:Value):Prop := ∀ b o n c,v = .slice (some ⟨b,o,none⟩) n c->0<n->N<=b
theorem nX.off {N:Nat} {v:Value} (h:nX N v) {S:List Nat} (hS:∀ b∈S,b<N):Off S v:=fun b o n c e hn hb=>absurd (hS b hb) (Nat.not_lt.2 (h b o n c e hn))
theorem nX.mono {N M:Nat} {v:Value} (h:nX N v) (hM:M<=N):nX M v:=fun b o n c e hn=>Nat.le_trans hM (h b o n c e hn)
theorem gU.aFR {w:World} {B sz:Nat} {e:TypeId} {v:Value} {xs:List (Array Value)} (h:gU w B sz e v xs):nX B v:=fun b _ _ _ e _=>(h.lt b (by rw[e];rfl)).1
def aGL (N:Nat) (v:Value) (R:RD) (v':Value) (R':RD):Prop := ∀ S:List Nat,(∀ b∈S,b<N)->Off S v->(∀ p∈R,Off S p.2.1)->Off S v' /\ ∀ p∈R',Off S p.2.1
theorem aGL.refl (N:Nat) (v:Value) (R:RD):aGL N v R v R:=fun _ _ h1 h2=>⟨h1,h2⟩
theorem aGL.mono {N M:Nat} {v v':Value} {R R':RD} (h:aGL N v R v' R') (hM:M<=N):aGL M v R v' R':=fun S hS=>h S (fun b hb=>Nat.lt_of_lt_of_le (hS b hb) hM)
structure eP (w:World) (B:Nat) (v:Value) (R:RD):Prop where
 sl:SlA w B 26 v (R.map xI)
 vs:∀ p∈R,SlA w B 11 p.2.1 (p.2.2.map nU)
section
variable {w w':World} {B B':Nat} {v:Value} {R:RD}
theorem eP.below (h:eP w B v R) (hb:Below B w w'):eP w' B v R:=⟨h.sl.below hb,fun p hp=>(h.vs p hp).below hb⟩
theorem eP.more (h:eP w B v R) (hB:B<=B'):eP w B' v R:=⟨h.sl.more hB,fun p hp=>(h.vs p hp).more hB⟩
theorem eP.up (h:eP w w.heap.size v R) (hb:Below w.heap.size w w'):eP w' w'.heap.size v R:=(h.below hb).more hb.size
theorem eP.nil (w:World) (B:Nat):eP w B (.slice none 0 0) []:=⟨SlA.nil _ _ _,fun p hp=>by simp at hp⟩
theorem eP.lk (h:eP w B v R) (k:K25):SlA w B 11 (slR R k) ((vsR R k).map nU):=by
 unfold slR vsR
 cases hl:Go.Proofs.YtcedmfnlkelhkaaGreatDoor.lk R k with
 | none=>exact SlA.nil _ _ _
 | some y =>
  have hm:(k,y)∈R:=by
   unfold Go.Proofs.YtcedmfnlkelhkaaGreatDoor.lk at hl
   simp only[Option.map_eq_some_iff] at hl
   obtain ⟨q,hq,rfl⟩:=hl
   have h3:q.1=k:=by simpa using List.find?_some hq
   rw[<-h3];exact List.mem_of_find?_eq_some hq
  exact h.vs _ hm
theorem eP.one (h:eP w B v R):∀ x∈R.map xI,bZ x=true:=by
 intro x hx
 obtain ⟨p,hp,rfl⟩:=List.mem_map.1 hx
 obtain ⟨a,c,e,_⟩:=(h.vs p hp).form
 unfold xI
 rw[e]
 exact zZ _ _ _ _
end
end Go.Proofs.YtcedmfnlkelhkaaGreatDoor

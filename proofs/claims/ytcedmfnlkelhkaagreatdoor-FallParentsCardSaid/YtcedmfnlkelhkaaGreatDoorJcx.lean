/- Layer 19, the document's: a branch's view (Of). -/
import Derived.Test.YtcedmfnlkelhkaaGreatDoorJcw
import Derived.Deep.RegionLaw
namespace Go.Proofs.YtcedmfnlkelhkaaGreatDoor
set_option maxHeartbeats 40000000
set_option maxRecDepth 100000
open Go.RowKit

theorem SlA.aD6 {w w':World} {sz n m:Nat} {v:Value} {xs:List (Array Value)} (h:SlA w w.heap.size sz v xs) (hf:nX m v) (hn:n<m) (hk:∀ b,b≠n->w'.heap[b]? = w.heap[b]?) (hs:w.heap.size<=w'.heap.size):SlA w' w'.heap.size sz v xs:=by
 obtain ⟨h0,a,cap,e,h2,h3,h4⟩:=h
 refine ⟨h0,a,cap,e,h2,h3,fun hp => ?_⟩
 obtain ⟨b,o,e2,hlt,hcut⟩:=h4 hp
 subst e2
 have hb:=hf b o _ _ e hp
 exact ⟨b,o,rfl,by omega,fun i x hx=>(aK (hk b (by omega)) _ _).trans (hcut i x hx)⟩
theorem aEt:kE Tryz.prog 47 197 2 16:=⟨Tryz.underlying47,by kernel_rfl,by decide,by decide⟩
theorem aKO {w Y w2:World} {N:Nat} {t:UInt64} {v:Value} {lt:UInt64} {p:Int} {lv v2:Value} {rt:Rec} {xs:List (Array Value)} (hb:Below w.heap.size w Y) (hwN:w.heap.size<=N) (bw2:Below Y.heap.size Y w2) (hv:Y.heap[N+1+1+1]? = some (.cells (iM t v lt p lv rt) 51)) (ho2:gU w2 Y.heap.size 2 197 v2 xs) (hl:N+1+1+1+1<Y.heap.size) :
  (w2.setCell ⟨N+1+1+1,143,none⟩ v2).heap[N+1+1+1]? = some (.cells (iM t v lt p v2 rt) 51)/\SlA (w2.setCell ⟨N+1+1+1,143,none⟩ v2) (w2.setCell ⟨N+1+1+1,143,none⟩ v2).heap.size 2 v2 xs/\nX (N+1+1+1+1+1) v2 /\
   (∀ c,c<Y.heap.size->c≠N+1+1+1->(w2.setCell ⟨N+1+1+1,143,none⟩ v2).heap[c]? = Y.heap[c]?)/\Below w.heap.size w (w2.setCell ⟨N+1+1+1,143,none⟩ v2):=by
 have h1:=bC ((bw2.block _ (by omega)).trans hv) 143 v2
 rw[aGE] at h1
 have hk:∀ c,c≠N+1+1+1->(w2.setCell ⟨N+1+1+1,143,none⟩ v2).heap[c]? = w2.heap[c]? := fun c hc=>Below.heap_setCell w2 ⟨N+1+1+1,143,none⟩ v2 c hc
 have hbs:=hb.size
 have hs2:=bw2.size
 exact ⟨h1,ho2.sl.aD6 ho2.aFR (by omega) hk (by simp),ho2.aFR.mono (by omega),fun c hc hne=>(hk c hne).trans (bw2.block c hc),(hb.trans (bw2.mono hbs)).setCell (by show w.heap.size<=N+1+1+1;omega) _⟩
theorem aBs (R:RD) (v:Value) (lt t:UInt64) (p b:UInt8) (hp:p.toNat<4) (hb4:b.toNat<4) (w:World) (h:eP w w.heap.size v R) :
  Calls Tryz.prog 35 #[.agg (dU v lt),.agg (jO t),.int .i64 (p.toNat:Int),.int .i64 (b.toNat:Int)] w fun e w'=>Below w.heap.size w w' /\
   (((atV (vsR R (jH 4 p b)) t).2=false /\ ∃ am nm cm own,e = .returned (.tuple #[.agg (iM t v lt (p.toNat:Int) (.slice am nm cm) own),.int .i64 7])) \/
    ((atV (vsR R (jH 4 p b)) t).2=true /\ ∃ lv,e = .returned (.tuple #[.agg (iM t v lt (p.toNat:Int) lv (atV (vsR R (jH 4 p b)) t).1),.int .i64 0])/\SlA w' w'.heap.size 2 lv ((dG (vsR R) t p b 257 [] (b,qO)).map lM)/\nX w.heap.size lv)):=by
 have p0:((p.toNat:Int)<0)=False:=eq_false (by omega)
 have p4:¬ (3<(p.toNat:Int)):=by omega
 have b0:((b.toNat:Int)<0)=False:=eq_false (by omega)
 have b4:¬ (3<(b.toNat:Int)):=by omega
 have HD:=Lib.hid h
 obtain ⟨a0,cap0,rfl, -, -⟩:=h.sl.form
 rw[List.length_map] at *
 have k1:=mF a0 R.length cap0 lt
 have kz:=jZ t a0 R.length cap0 lt (p.toNat:Int) none 0 0 Rec.zero
 clear h hp hb4
 go_enter Tryz.func35,Tryz.ntmps35
 go_upto_block 0 with fail
 refine aP ?_
 intro W hW
 obtain ⟨N,hN⟩:∃ N,N=w.heap.size:=⟨_,rfl⟩
 have hbW:Below w.heap.size w W:=by rw[hW];exact blw
 have g2:W.heap[N+1+1]? = some (.cells Tryz.zeroCells51 51):=by rw[hW,hN,aC,if_neg (by simp),aC,if_neg (by simp),aC,if_pos (by simp)]
 have g3:W.heap[N+1+1+1]? = some (.cells (iM t (.slice a0 R.length cap0) lt (p.toNat:Int) (.slice none 0 0) Rec.zero) 51):=by rw[hW,hN,aC,if_neg (by simp),aC,if_pos (by simp)]
 have g4:W.heap[N+1+1+1+1]? = some (.cells (lM (b,qO)) 197):=by rw[hW,hN,aC,if_pos (by simp)];rfl
 simp only[<-hN]
 obtain ⟨v,hv⟩:∃ v,v=Value.slice a0 R.length cap0:=⟨_,rfl⟩
 rw[<-hv] at g3
 have HI:=Lib.hid (show OfD w N (vsR R) v lt t p b [] (b,qO) (.slice none 0 0) Rec.zero W from
  ⟨hbW,g3,SlA.nil _ _ _,fun b o n c e=>(by cases e),g4,g2,rfl,List.nodup_nil,.inl ⟨rfl,rfl⟩,fun h=>absurd rfl h⟩)
 have HN:=Lib.hid (And.intro hN hv)
 clear hW hbW g2 g3 g4 hN p0 p4 b0 b4 kz k1
 go_wp2_with fail
 go_loopw [12] (fun _ wr => ∃ (P:List Lnk) (l:Lnk) (lv:Value) (own:Rec),Hid (OfD w N (vsR R) v lt t p b P l lv own wr)) (fun _ wr=>300 - Dn.aNh (wr.cell? ⟨N+1+1+1,143,none⟩))
 case atStart=>exact ⟨[],_,_,_,HI⟩
 clear HI
 obtain ⟨P,l,lv,own,HL⟩:=hrel
 have hP:P.length<=256:=by have:=aEZ _ HL.out.nodup;simpa using this
 obtain ⟨n,hn⟩:∃ n,257 - P.length=n+1:=⟨256 - P.length,by omega⟩
 obtain ⟨al,cl,hlv,hcl,hcm⟩:=HL.out.sl.form
 rw[List.length_map] at hlv hcl
 subst hlv
 have hvl:N+1+1+1<wr.heap.size:=lt_of_heap HL.out.cells
 have hll:N+1+1+1+1<wr.heap.size:=lt_of_heap HL.out.box
 have cl0:wr.cell? ⟨N+1+1+1+1,0,none⟩=some (.int .i64 (l.1.toNat:Int)):=(aF HL.out.box 0).1.trans rfl
 have cl1:wr.cell? ⟨N+1+1+1+1,1,none⟩=some (.int .u64 (l.2.toNat:Int)):=(aF HL.out.box 1).1.trans rfl
 have cL:wr.cell? ⟨N+1+1+1,143,none⟩=some (.slice al P.length cl):=(aF HL.out.cells 143).1.trans (wU _ _ _ _ _ _)
 unfold maxLen at hcm
 go_upto_block 2 with fail
 go_cut [] (fun wx=>Hid (Below wr.heap.size wr wx/\l.1∉P.map (·.1)))
 case first =>
  go_wp2_with fail
  go_loopw [12] (fun s12 wq => ∃ (i:Nat) (xs:Array Obj) (d:Nat),i<=P.length/\s12 = .int .i64 i/\wq=wr.grow xs d/\Hid (∀ j,∀ h:j<P.length,j<i->P[j].1≠l.1)) (fun s12 _=>P.length - (intOf s12).toNat)
  case atStart=>exact ⟨0, #[],_,Nat.zero_le _,rfl,World.jE.symm,Lib.hid fun j _ h=>by omega⟩
  obtain ⟨i,xs,d,hi,rfl,rfl,HNE⟩:=hrel
  by_cases hli:i<P.length
  ·have hliI:(i:Int)<P.length:=by omega
   obtain ⟨-,_,_,he, -, -,hcc⟩:=HL.out.sl
   simp only[Value.slice.injEq,List.length_map,true_and] at he
   obtain ⟨rfl,rfl⟩:=he
   obtain ⟨g,o,rfl,hlb,hcut⟩:=hcc (by simp;omega)
   have hx:=hcut i (lM P[i]) (by simp[hli])
   have x0:wr.cell? ⟨g,o+i * 2,none⟩=some (.int .i64 (P[i].1.toNat:Int)):=(dF hx).2 0 (by decide)
   clear hcc hcut hx
   by_cases he:P[i].1=l.1
   ·have hee:((P[i].1.toNat:Int) == (l.1.toNat:Int))=true:=by rw[he];simp
    have hne:P ≠ []:=fun e=>by rw[e] at hli;exact absurd hli (by simp)
    have hce:dG (vsR R) t p b 257 [] (b,qO)=P:=by
     rw[HL.out.chain,hn]
     unfold dG
     rw[if_pos (List.mem_reverse.2 (List.mem_map.2 ⟨P[i],List.getElem_mem hli,he⟩)),List.append_nil]
    obtain ⟨va,hva⟩:∃ va,va=iM t v lt (p.toNat:Int) (.slice (some ⟨g,o,none⟩) P.length cl) own:=⟨_,rfl⟩
    have kva:bZ va=true:=by rw[hva,HN.out.2];exact jZ _ _ _ _ _ _ _ _ _ _
    have hvs:va.size=153:=by rw[hva];exact jU _ _ _ _ _ _
    have cV:wr.aW (N+1+1+1) 0 153=some va:=aI (by rw[hva];exact HL.out.cells) hvs
    have tz:wr.aN (N+1+1) 0 153=true:=by simp[World.aN,HL.out.res,fH]
    have l2:N+1+1<wr.heap.size:=by omega
    have HW:=Lib.hid (And.intro hce (And.intro hne (And.intro hva hvs)))
    generalize P[i].1=xb at *
    clear he HNE hn hne hce hva
    go_wp2_with fail
    apply aG (by rfl) [.val _,.val _,.val _,.val _,.val _,.val _,.val _,.val _,.val _] 9 (by rfl) [44,45,46,47,48,49,50,51,52] [] [] (by rfl) (by rfl) (by decide) (by decide +kernel) (fun _ _ _ _ _ h=>h)
    case hF=>intro x;simp only[over,List.foldl_cons,List.foldl_nil,List.setIfInBounds_toArray,List.set_cons_succ,List.set_cons_zero];exact rfl
    case hops =>
     refine ⟨?o0,?o1,?o2,?o3,?o4,?o5,?o6,?o7,?o8,trivial⟩
     case o0 =>
      intro x w1 hH K hK
      obtain ⟨xs,d,rfl⟩:=aA hH.below
      clear hH
      try simp only[World.aB] at hK |-
      try simp only[World.grow_grow] at hK |-
      exact zv
     case o1 =>
      intro x w1 hH K hK
      have e44:x 44=_:=hH.g 0 44
      obtain ⟨xs,d,rfl⟩:=aA hH.below
      clear hH
      try simp only[World.aB] at hK |-
      try simp only[World.grow_grow] at hK |-
      simp only[e44] at hK |-
      clear e44
      exact zv
     case o2 =>
      intro x w1 hH K hK
      obtain ⟨xs,d,rfl⟩:=aA hH.below
      clear hH
      try simp only[World.aB] at hK |-
      try simp only[World.grow_grow] at hK |-
      exact zv
     case o3 =>
      intro x w1 hH K hK
      have e45:x 45=_:=hH.g 1 45
      have e46:x 46=_:=hH.g 2 46
      obtain ⟨xs,d,rfl⟩:=aA hH.below
      clear hH
      try simp only[World.aB] at hK |-
      try simp only[World.grow_grow] at hK |-
      simp only[e45,e46] at hK |-
      clear e45 e46
      exact zv
     case o4 =>
      intro x w1 hH K hK
      have e47:x 47=_:=hH.g 3 47
      obtain ⟨xs,d,rfl⟩:=aA hH.below
      clear hH
      try simp only[World.aB] at hK |-
      try simp only[World.grow_grow] at hK |-
      simp only[e47] at hK |-
      clear e47
      exact zv
     case o5 =>
      intro x w1 hH K hK
      have e48:x 48=_:=hH.g 4 48
      obtain ⟨xs,d,rfl⟩:=aA hH.below
      clear hH
      try simp only[World.aB] at hK |-
      try simp only[World.grow_grow] at hK |-
      simp only[e48] at hK |-
      clear e48
      exact zv
     case o6 =>
      intro x w1 hH K hK
      obtain ⟨xs,d,rfl⟩:=aA hH.below
      clear hH
      try simp only[World.aB] at hK |-
      try simp only[World.grow_grow] at hK |-
      exact zv
     case o7 =>
      intro x w1 hH K hK
      have e50:x 50=_:=hH.g 6 50
      obtain ⟨xs,d,rfl⟩:=aA hH.below
      clear hH
      try simp only[World.aB] at hK |-
      try simp only[World.grow_grow] at hK |-
      simp only[e50] at hK |-
      clear e50
      exact zv
     case o8 =>
      intro x w1 hH K hK
      have e49:x 49=_:=hH.g 5 49
      have e51:x 51=_:=hH.g 7 51
      obtain ⟨xs,d,rfl⟩:=aA hH.below
      clear hH
      try simp only[World.aB] at hK |-
      try simp only[World.grow_grow] at hK |-
      simp only[e49,e51] at hK |-
      clear e49 e51
      exact zv
    intro x w1 hH
    have e44:x 44=_:=hH.t 0 44
    have e45:x 45=_:=hH.t 1 45
    have e46:x 46=_:=hH.t 2 46
    have e47:x 47=_:=hH.t 3 47
    have e48:x 48=_:=hH.t 4 48
    have e49:x 49=_:=hH.t 5 49
    have e50:x 50=_:=hH.t 6 50
    have e51:x 51=_:=hH.t 7 51
    have e52:x 52=_:=hH.t 8 52
    obtain ⟨xs,d,rfl⟩:=aA hH.below
    clear hH
    simp only[e44,e45,e46,e47,e48,e49,e50,e51,e52];clear e44 e45 e46 e47 e48 e49 e50 e51 e52
    simp only[List.drop_succ_cons,List.drop_nil]
    go_wp2_with fail
    obtain ⟨hce,hne,hva,hvs2⟩:=HW.out
    obtain ⟨hwN,hvv⟩:=HN.out
    have hls:(wr.lay (N+1+1) 0 va).heap.size=wr.heap.size:=lay_size _ _ _
    refine bodyPost_ret (v := .tuple #[.agg (iM t v lt (p.toNat:Int) (.slice (some ⟨g,o,none⟩) P.length cl) own),.int .i64 0]) (aH Tryz.results35 (by
     rw[<-hva]
     refine aO.row rfl fZ ?_
     rw[lI _ _ _ _ _ (by omega)]
     exact aI (gG HL.out.res fH hvs) hvs) (by simp[aO])) rfl ?_
    refine ⟨(HL.out.low.lay (by omega)).grow (by have:=HL.out.low.size;omega) _ _,.inr ⟨(HL.out.own1 hne).2,_,?_,?_,HL.out.far.mono (by omega)⟩⟩
    ·rw[(HL.out.own1 hne).1,hvv]
    rw[hce]
    exact ((HL.out.sl.aD6 HL.out.far (by omega) (fun b hb=>aY hb) (by omega)).below (aS _ _)).more (aS _ _).size
   have hee:((P[i].1.toNat:Int) == (l.1.toNat:Int))=false:=by
    rw[beq_eq_false_iff_ne]
    exact fun h=>he (UInt8.toNat_inj.1 (by omega))
   have HNE2:=Lib.hid (fun j (h:j<P.length) (hj:j<i+1)=>show P[j].1≠l.1 from by
    by_cases hji:j=i
    ·subst hji;exact he
    exact HNE.out j h (by omega))
   generalize P[i].1=xb at *
   clear he HNE HL HD HN hn
   go_wp2_with fail
   apply aG (by rfl) [.val _,.val _,.val _,.val _,.val _,.val _,.val _,.val _,.val _] 9 (by rfl) [44,45,46,47,48,49,50,51,52] [] [] (by rfl) (by rfl) (by decide) (by decide +kernel) (fun _ _ _ _ _ h=>h)
   case hF=>intro x;simp only[over,List.foldl_cons,List.foldl_nil,List.setIfInBounds_toArray,List.set_cons_succ,List.set_cons_zero];exact rfl
   case hops =>
    refine ⟨?o0,?o1,?o2,?o3,?o4,?o5,?o6,?o7,?o8,trivial⟩
    case o0 =>
     intro x w1 hH K hK
     obtain ⟨xs,d,rfl⟩:=aA hH.below
     clear hH
     try simp only[World.aB] at hK |-
     try simp only[World.grow_grow] at hK |-
     exact zv
    case o1 =>
     intro x w1 hH K hK
     have e44:x 44=_:=hH.g 0 44
     obtain ⟨xs,d,rfl⟩:=aA hH.below
     clear hH
     try simp only[World.aB] at hK |-
     try simp only[World.grow_grow] at hK |-
     simp only[e44] at hK |-
     clear e44
     exact zv
    case o2 =>
     intro x w1 hH K hK
     obtain ⟨xs,d,rfl⟩:=aA hH.below
     clear hH
     try simp only[World.aB] at hK |-
     try simp only[World.grow_grow] at hK |-
     exact zv
    case o3 =>
     intro x w1 hH K hK
     have e45:x 45=_:=hH.g 1 45
     have e46:x 46=_:=hH.g 2 46
     obtain ⟨xs,d,rfl⟩:=aA hH.below
     clear hH
     try simp only[World.aB] at hK |-
     try simp only[World.grow_grow] at hK |-
     simp only[e45,e46] at hK |-
     clear e45 e46
     exact zv
    case o4 =>
     intro x w1 hH K hK
     have e47:x 47=_:=hH.g 3 47
     obtain ⟨xs,d,rfl⟩:=aA hH.below
     clear hH
     try simp only[World.aB] at hK |-
     try simp only[World.grow_grow] at hK |-
     simp only[e47] at hK |-
     clear e47
     exact zv
    case o5 =>
     intro x w1 hH K hK
     have e48:x 48=_:=hH.g 4 48
     obtain ⟨xs,d,rfl⟩:=aA hH.below
     clear hH
     try simp only[World.aB] at hK |-
     try simp only[World.grow_grow] at hK |-
     simp only[e48] at hK |-
     clear e48
     exact zv
    case o6 =>
     intro x w1 hH K hK
     obtain ⟨xs,d,rfl⟩:=aA hH.below
     clear hH
     try simp only[World.aB] at hK |-
     try simp only[World.grow_grow] at hK |-
     exact zv
    case o7 =>
     intro x w1 hH K hK
     have e50:x 50=_:=hH.g 6 50
     obtain ⟨xs,d,rfl⟩:=aA hH.below
     clear hH
     try simp only[World.aB] at hK |-
     try simp only[World.grow_grow] at hK |-
     simp only[e50] at hK |-
     clear e50
     exact zv
    case o8 =>
     intro x w1 hH K hK
     have e49:x 49=_:=hH.g 5 49
     have e51:x 51=_:=hH.g 7 51
     obtain ⟨xs,d,rfl⟩:=aA hH.below
     clear hH
     try simp only[World.aB] at hK |-
     try simp only[World.grow_grow] at hK |-
     simp only[e49,e51] at hK |-
     clear e49 e51
     exact zv
   intro x w1 hH
   have e44:x 44=_:=hH.t 0 44
   have e45:x 45=_:=hH.t 1 45
   have e46:x 46=_:=hH.t 2 46
   have e47:x 47=_:=hH.t 3 47
   have e48:x 48=_:=hH.t 4 48
   have e49:x 49=_:=hH.t 5 49
   have e50:x 50=_:=hH.t 6 50
   have e51:x 51=_:=hH.t 7 51
   have e52:x 52=_:=hH.t 8 52
   obtain ⟨xs,d,rfl⟩:=aA hH.below
   clear hH
   simp only[e44,e45,e46,e47,e48,e49,e50,e51,e52];clear e44 e45 e46 e47 e48 e49 e50 e51 e52
   simp only[List.drop_succ_cons,List.drop_nil]
   go_wp2_with fail
   go_roundw
   case rel=>exact ⟨i+1,_,_,by omega,by go_num,by first | rfl | (simp only[World.aB,World.grow_grow];rfl) | (simp only[World.grow_grow];rfl),HNE2⟩
   simp[intOf];omega
  have hgn:¬ (i:Int)<P.length:=by omega
  have HX:=Lib.hid (show l.1∉P.map (·.1) from fun hm=>by
   obtain ⟨y,hy,e⟩:=List.mem_map.1 hm
   obtain ⟨j,hj,rfl⟩:=List.getElem_of_mem hy
   exact HNE.out j hj (by omega) e)
  clear HNE HL HD HN hn
  go_wp2_with fail
  go_meet
  exact Lib.hid ⟨blw,HX.out⟩
 obtain ⟨hbX,hnm⟩:=hcut.out
 generalize wc=X at *
 obtain ⟨va,hva⟩:∃ va,va=iM t v lt (p.toNat:Int) (.slice al P.length cl) own:=⟨_,rfl⟩
 have kva:bZ va=true:=by rw[hva,HN.out.2];exact jZ _ _ _ _ _ _ _ _ _ _
 have hvs:va.size=153:=by rw[hva];exact jU _ _ _ _ _ _
 have h3:=(hbX.block _ hvl).trans HL.out.cells
 rw[<-hva] at h3
 have h4:=(hbX.block _ hll).trans HL.out.box
 have h2:=(hbX.block (N+1+1) (by omega)).trans HL.out.res
 have hXs:=hbX.size
 have cV:X.aW (N+1+1+1) 0 153=some va:=aI h3 hvs
 have cX0:X.cell? ⟨N+1+1+1+1,0,none⟩=some (.int .i64 (l.1.toNat:Int)):=(aF h4 0).1.trans rfl
 have cX1:X.cell? ⟨N+1+1+1+1,1,none⟩=some (.int .u64 (l.2.toNat:Int)):=(aF h4 1).1.trans rfl
 have lX3:N+1+1+1<X.heap.size:=by omega
 have lX4:N+1+1+1+1<X.heap.size:=by omega
 have hch:=HL.out.chain
 rw[hn] at hch
 have hrd:atV (vsR R (jH 4 p l.1)) (if fbD P l=true then t else min l.2 t)=iD (vsR R) t b l (jH 4 p l.1):=by
  unfold iD
  rcases HL.out.first with ⟨rfl,rfl⟩ | ⟨u,r,rfl⟩
  ·simp[fbD]
  have hlb:l.1≠b:=fun e=>hnm (by rw[e];simp)
  have hfd:fbD ((b,u) :: r) l=false:=decide_eq_false (fun e=>hlb (by rw[e]))
  rw[hfd,if_neg (by decide),if_neg hlb]
 have hread:∀ V,Below X.heap.size X V->Gives Tryz.prog 65 #[.agg va,.agg #[.int .i64 (l.1.toNat:Int),.int .u64 (l.2.toNat:Int)],.agg (iR (jH 4 p l.1).val)] V (.tuple #[.agg va,.agg (dS (iD (vsR R) t b l (jH 4 p l.1)).1),.bool (iD (vsR R) t b l (jH 4 p l.1)).2]):=fun V hb=>by
  have hbw:Below w.heap.size w V:=(HL.out.low.trans (hbX.mono HL.out.low.size)).trans (hb.mono (by have:=HL.out.low.size;omega))
  have:=aAI R v lt (jH 4 p l.1) t (p.toNat:Int) (.slice al P.length cl) P own l V (by rw[HN.out.2];exact HD.out.up hbw) (((((HL.out.sl.below hbX).more hbX.size).below hb).more hb.size))
  rw[hrd] at this
  rw[hva]
  exact this
 have hch2:=hch
 unfold dG at hch2
 rw[if_neg (fun hm=>hnm (List.mem_reverse.1 hm))] at hch2
 have hfst:P = []->(iD (vsR R) t b l (jH 4 p l.1))=atV (vsR R (jH 4 p b)) t:=fun e=>by
  rcases HL.out.first with ⟨-,rfl⟩ | ⟨u,r,e2⟩
  ·unfold iD;rw[if_pos rfl]
  rw[e] at e2;cases e2
 obtain ⟨rd,hrdd⟩:∃ rd,rd=iD (vsR R) t b l (jH 4 p l.1):=⟨_,rfl⟩
 rw[<-hrdd] at hread hch2 hfst
 have HRD:=Lib.hid hread
 have HCH:=Lib.hid hch2
 have HFS:=Lib.hid hfst
 have HNM:=Lib.hid hnm
 have HVA:=Lib.hid hva
 have HX:=Lib.hid (And.intro hbX (And.intro h2 (And.intro h3 h4)))
 obtain ⟨rr,is_⟩:=rd
 obtain ⟨l0,l1⟩:=l
 simp only at *
 have hkl:=(jH 4 p l0).len
 clear hcut hbX hnm h2 h3 h4 hXs hch hrd hread hch2 hfst hrdd hva cl0 cl1 cL hvl hll
 go_wp2_with fail
 refine Gives.use (HRD.out _ (Below.refl _ _)) ?_
 intro xs1 d1
 go_upto_region 11 with fail
 refine aP ?_
 intro Y hY
 obtain ⟨y,hy⟩:∃ y,y=X.heap.size+xs1.size:=⟨_,rfl⟩
 have hbY:Below X.heap.size X Y:=by rw[hY];exact blw
 have y13:Y.heap[y]? = some (.cells va 51):=by rw[hY,hy,aC,if_neg (by simp),aC,if_pos (by simp)]
 have y14:Y.heap[y+1]? = some (.cells (dS rr) 49):=by rw[hY,hy,aC,if_pos (by simp)]
 simp only[<-hy]
 have c13:Y.aW y 0 153=some va:=aI y13 hvs
 have l13:y<Y.heap.size:=lt_of_heap y13
 have h3:=(hbY.block _ lX3).trans HX.out.2.2.1
 have tz:Y.aN (N+1+1+1) 0 153=true:=by simp[World.aN,h3,hvs]
 have l3:N+1+1+1<Y.heap.size:=lt_of_heap h3
 have HY:=Lib.hid (And.intro hbY (And.intro y14 (And.intro h3 (show N+1+1+1+1<y by omega))))
 clear hY hy hbY y13 y14 h3
 go_upto_region 12 with fail
 refine aP ?_
 intro Z hZ
 obtain ⟨hbY,y14,h3,hNy⟩:=HY.out
 obtain ⟨hbX,h2, -,h4⟩:=HX.out
 have hlow:=HL.out.low.size
 have hwN:=Nat.le_of_eq HN.out.1.symm
 have hXs:=hbX.size
 have hYs:=hbY.size
 have hk:∀ c,c≠N+1+1+1->Z.heap[c]? = Y.heap[c]? := fun c hc=>by rw[hZ];exact aY hc
 have hZs:Z.heap.size=Y.heap.size:=by rw[hZ];exact lay_size _ _ _
 have z3:Z.heap[N+1+1+1]? = some (.cells va 51):=by rw[hZ];exact gG h3 hvs hvs
 have z4:Z.heap[N+1+1+1+1]? = some (.cells (lM (l0,l1)) 197):=(hk _ (by omega)).trans ((hbY.block _ lX4).trans h4)
 have z2:Z.heap[N+1+1]? = some (.cells Tryz.zeroCells51 51):=(hk _ (by omega)).trans ((hbY.block _ (by omega)).trans h2)
 have z14:Z.heap[y+1]? = some (.cells (dS rr) 49):=(hk _ (by omega)).trans y14
 have hbZ:Below w.heap.size w Z:=by rw[hZ];exact ((HL.out.low.trans (hbX.mono hlow)).trans (hbY.mono (by omega))).lay (by omega)
 have hsZ:SlA Z Z.heap.size 2 (.slice al P.length cl) (P.map lM):=((((HL.out.sl.below hbX).more hXs).below hbY).more hYs).aD6 HL.out.far (by omega) hk (by omega)
 have eL:Z.cell? ⟨N+1+1+1,143,none⟩=some (.slice al P.length cl):=(aF z3 143).1.trans (by rw[HVA.out];exact wU _ _ _ _ _ _)
 have eV:Z.aW (N+1+1+1) 0 153=some va:=aI z3 hvs
 have eR:Z.aW (y+1) 0 9=some (dS rr):=aI z14 (by simp)
 have tO:Z.aN (N+1+1+1) 144 9=true:=by simp[World.aN,z3,hvs]
 have tR:Z.aN (N+1+1) 0 153=true:=by simp[World.aN,z2,fH]
 have m2:N+1+1<Z.heap.size:=lt_of_heap z2
 have m3:N+1+1+1<Z.heap.size:=lt_of_heap z3
 have m4:N+1+1+1+1<Z.heap.size:=lt_of_heap z4
 have m14:y+1<Z.heap.size:=lt_of_heap z14
 obtain ⟨rt,hrt⟩:∃ rt,rt=(atV (vsR R (jH 4 p b)) t).1:=⟨_,rfl⟩
 have HRT:=Lib.hid hrt
 have HZ:=Lib.hid (And.intro z2 (And.intro z3 (And.intro z4 (And.intro z14 (And.intro hbZ (And.intro hsZ (And.intro hNy hwN)))))))
 clear hZ hbY y14 h3 hNy hbX h2 h4 hlow hwN hXs hYs hk hZs z2 z3 z4 z14 hbZ hsZ hrt HY HX HRD c13 l13 tz l3 cV cX0 cX1 lX3 lX4
 go_upto_if 69 with fail
 go_cut [] (fun wx=>Hid ((atV (vsR R (jH 4 p b)) t).2=true/\wx.heap[N+1+1+1]? = some (.cells (iM t v lt (p.toNat:Int) (.slice al P.length cl) rt) 51)/\(∀ c,c≠N+1+1+1->wx.heap[c]? = Z.heap[c]?)/\wx.heap.size=Z.heap.size/\Below w.heap.size w wx))
 case first =>
  by_cases hP0:P = []
  ·have hfs:=HFS.out hP0
   have hn0:((P.length:Int) == 0)=true:=by rw[hP0];rfl
   cases is_ with
   | false =>
    have HF:=Lib.hid (show (atV (vsR R (jH 4 p b)) t).2=false from by rw[<-hfs])
    clear hfs HFS HCH HNM HRT hP0
    go_wp2_with fail
    exact bodyPost_ret (v := .tuple #[.agg (iM t v lt (p.toNat:Int) (.slice al P.length cl) own),.int .i64 7]) (aH Tryz.results35 (by rw[<-HVA.out];exact aO.row rfl fZ (aI (gG HZ.out.1 fH hvs) hvs)) (by simp[aO])) rfl ⟨HZ.out.2.2.2.2.1.lay (by have:=HZ.out.2.2.2.2.2.2.2;omega),.inl ⟨HF.out,_,_,_,_,by rw[HN.out.2]⟩⟩
   | true =>
    have HF:=Lib.hid (show (atV (vsR R (jH 4 p b)) t).2=true/\rt=rr from by rw[HRT.out,<-hfs];exact ⟨rfl,rfl⟩)
    clear hfs HFS HCH HNM HRT hP0
    go_wp2_with fail
    go_meet
    have hh:(Z.lay (N+1+1+1) 144 (dS rr)).heap[N+1+1+1]? = some (.cells (iM t v lt (p.toNat:Int) (.slice al P.length cl) rt) 51):=by
     simp only[World.lay,Array.getElem?_modify,HZ.out.2.1,if_true,Option.map_some]
     rw[HVA.out,aGF,HF.out.2]
    exact Lib.hid ⟨HF.out.1,hh,fun c hc=>aY hc,lay_size _ _ _,HZ.out.2.2.2.2.1.lay (by have:=HZ.out.2.2.2.2.2.2.2;omega)⟩
  have hn0:((P.length:Int) == 0)=false:=by rw[beq_eq_false_iff_ne];have:=List.length_pos_iff.2 hP0;omega
  have HF:=Lib.hid (show (atV (vsR R (jH 4 p b)) t).2=true/\rt=own from ⟨(HL.out.own1 hP0).2,HRT.out.trans (HL.out.own1 hP0).1.symm⟩)
  clear HFS HCH HNM HRT hP0
  go_wp2_with fail
  go_meet
  exact Lib.hid ⟨HF.out.1,by rw[HF.out.2,<-HVA.out];exact HZ.out.2.1,fun _ _=>rfl,rfl,HZ.out.2.2.2.2.1⟩
 generalize wc=Y at *
 obtain ⟨hth,hvY,hkY,hsY,hbY⟩:=hcut.out
 obtain ⟨z2,z3,z4,z14,hbZ,hsZ,hNy,hwN⟩:=HZ.out
 have y2:=(hkY (N+1+1) (by omega)).trans z2
 have y4:=(hkY (N+1+1+1+1) (by omega)).trans z4
 have y14:=(hkY (y+1) (by omega)).trans z14
 have hslY:=hsZ.aD6 HL.out.far (by omega) hkY (by omega)
 have l4:N+1+1+1+1<Y.heap.size:=by omega
 have l3:N+1+1+1<Y.heap.size:=by omega
 have e0:Y.cell? ⟨N+1+1+1+1,0,none⟩=some (.int .i64 (l0.toNat:Int)):=(aF y4 0).1.trans rfl
 have e1:Y.cell? ⟨N+1+1+1+1,1,none⟩=some (.int .u64 (l1.toNat:Int)):=(aF y4 1).1.trans rfl
 have eL2:Y.cell? ⟨N+1+1+1,143,none⟩=some (.slice al P.length cl):=(aF hvY 143).1.trans (wU _ _ _ _ _ _)
 have HY:=Lib.hid (And.intro hth (And.intro hvY (And.intro y2 (And.intro y4 (And.intro y14 (And.intro hbY (And.intro hslY (And.intro hNy hwN))))))))
 have HFR:=Lib.hid HL.out.far
 have H1:=Lib.hid (aBi P)
 clear hcut hth hvY hkY hsY hbY z2 z3 z4 z14 hbZ hsZ y2 y4 y14 hslY eL eV eR tO tR m2 m3 m4 m14 HZ hNy hwN
 go_upto_region 16 with fail
 go_cut [] (fun wx=>Hid (∃ lv',wx.heap[N+1+1+1]? = some (.cells (iM t v lt (p.toNat:Int) lv' rt) 51)/\SlA wx wx.heap.size 2 lv' ((P ++ [(l0,l1)]).map lM)/\nX (N+1+1+1+1+1) lv'/\(∀ c,c<Y.heap.size->c≠N+1+1+1->wx.heap[c]? = Y.heap[c]?)/\Below w.heap.size w wx))
 case first =>
  clear HCH HFS HNM HRT HL HD HVA
  have hPl:P.length<=256:=hP
  have al1:∀ (o:Obj) (c i:Nat),c<Y.heap.size->(Y.alloc o).cell? ⟨c,i,none⟩=Y.cell? ⟨c,i,none⟩:=fun o c i hc=>(show Below Y.heap.size Y (Y.alloc o) from blw).cell (p:=⟨c,i,none⟩) hc
  have al2:∀ (o o':Obj) (c i:Nat),c<Y.heap.size->((Y.alloc o).alloc o').cell? ⟨c,i,none⟩=Y.cell? ⟨c,i,none⟩:=fun o o' c i hc=>(show Below Y.heap.size Y ((Y.alloc o).alloc o') from blw).cell (p:=⟨c,i,none⟩) hc
  have eL3:∀ o:Obj,(Y.alloc o).cell? ⟨N+1+1+1,143,none⟩=some (.slice al P.length cl):=fun o=>(al1 o _ _ l3).trans eL2
  have eL4:∀ o o':Obj,((Y.alloc o).alloc o').cell? ⟨N+1+1+1,143,none⟩=some (.slice al P.length cl):=fun o o'=>(al2 o o' _ _ l3).trans eL2
  have e03:∀ o:Obj,(Y.alloc o).cell? ⟨N+1+1+1+1,0,none⟩=some (.int .i64 (l0.toNat:Int)):=fun o=>(al1 o _ _ l4).trans e0
  have e13:∀ o:Obj,(Y.alloc o).cell? ⟨N+1+1+1+1,1,none⟩=some (.int .u64 (l1.toNat:Int)):=fun o=>(al1 o _ _ l4).trans e1
  clear al1 al2
  go_wp2_with fail
  go_region_law (first
   | (refine step_append (o:=⟨some 81,_,_,_,_,_⟩) (B:=Y.heap.size) (xs:=P.map lM) (ys := [lM (l0,l1)]) aEt rfl (.tmp 78) (.tmp 80) rfl (v:=_) rfl ?_ (y:=_) rfl ?_ ?_ ?_ ?_ ?_
      ·repeat (first | exact ho1 | refine gU.alloc ?_ _)
      ·refine ⟨_,pW (Nat.le_refl _) (by decide) ?_⟩
       first
        | exact aI ((aC _ _ _).trans (if_pos (by simp;done))) rfl
        | exact aI ((hg1.block _ (by first | (simp;done) | (simp;omega)) (by simp[Value.ownBlock,Act.eval])).trans (by repeat (first | exact (aC _ _ _).trans (if_pos (by simp;done)) | refine (aC _ _ _).trans ((if_neg (by simp;done)).trans ?_)))) rfl
      ·intro x hx;simp at hx;subst hx;exact aEh _
      ·first | omega | (simp;done) | (simp;omega)
      ·first | omega | (simp;done) | (simp;omega)
      intro v2 w2 ho2 hg2 hl2
      have bw2:Below Y.heap.size Y w2:=Below.grown (by first | exact bw1 | exact bw1.alloc z1 _) hg2 (by first | omega | (simp;omega)) (fun q hq=>(ho1.lt q hq).1)
      have gz:=aF ((bw2.block _ l3).trans HY.out.2.1) 143
      obtain ⟨gz1,gz2⟩:=gz
      have lz:N+1+1+1<w2.heap.size:=Nat.lt_of_lt_of_le l3 bw2.size
      have HE:=Lib.hid (aKO (v2:=v2) HY.out.2.2.2.2.2.1 HY.out.2.2.2.2.2.2.2.2 bw2 HY.out.2.1 (by simpa using ho2) l4)
      obtain ⟨a5,c5,hv5,_,_⟩:=ho2.form
      obtain ⟨n5,hn5⟩:∃ n5,n5=(P.map lM ++ [lM (l0,l1)]).length:=⟨_,rfl⟩
      rw[<-hn5] at hv5
      subst hv5
      clear bw1 bw2 hg1 hg2 ho1 ho2 hl1 hl2 z1 hn5)
   | (refine step_append (o:=⟨some 78,_,_,_,_,_⟩) (B:=Y.heap.size) (xs := []) (ys:=P.map lM) aEt rfl (.tmp 75) (.tmp 77) rfl (v:=_) rfl ?_ (y:=_) rfl ?_ H1.out ?_ ?_ ?_
      ·exact aCo (by repeat (first | exact (aC _ _ _).trans (if_pos (by simp;done)) | refine (aC _ _ _).trans ((if_neg (by simp;done)).trans ?_))) (by first | omega | (simp;omega) | simp)
      ·exact ⟨_,HY.out.2.2.2.2.2.2.1.below (show Below Y.heap.size Y _ from blw)⟩
      ·first | omega | (simp;done) | (simp;omega)
      ·first | omega | (simp;done) | (simp;omega)
      intro v1 w1 ho1 hg1 hl1
      have bw1:Below Y.heap.size Y w1:=Below.grown (show Below Y.heap.size Y _ from blw) hg1 (by first | omega | (simp;omega) | simp) (fun q hq=>by
       have hq2:(Value.slice (some ⟨_,0,none⟩) 0 0).ownBlock=some q:=hq
       obtain rfl:=Option.some.inj hq2
       first | omega | (simp;omega) | simp)
      have c1b:w1.cell? ⟨N+1+1+1+1,0,none⟩=some (.int .i64 (l0.toNat:Int)):=(bw1.cell (p:=⟨N+1+1+1+1,0,none⟩) l4).trans e0
      have c1c:w1.cell? ⟨N+1+1+1+1,1,none⟩=some (.int .u64 (l1.toNat:Int)):=(bw1.cell (p:=⟨N+1+1+1+1,1,none⟩) l4).trans e1
      have l1b:N+1+1+1+1<w1.heap.size:=Nat.lt_of_lt_of_le l4 bw1.size
      have z1:=bw1.size))
  all_goals
   go_wp2_with fail
   go_meet
   exact Lib.hid ⟨_,by simpa using HE.out⟩
 generalize wc=Z at *
 obtain ⟨lv',hv3,hsl,hfr,hkZ,hbZ⟩:=hcut.out
 obtain ⟨hth, -,y2,y4,y14,hbY, -,hNy,hwN⟩:=HY.out
 have z2:=(hkZ _ (lt_of_heap y2) (by omega)).trans y2
 have z4:=(hkZ _ (lt_of_heap y4) (by omega)).trans y4
 have z14:=(hkZ _ (lt_of_heap y14) (by omega)).trans y14
 obtain ⟨a9,c9,hl9,_,_⟩:=hsl.form
 rw[List.length_map] at hl9
 obtain ⟨n9,hn9⟩:∃ n9,n9=(P ++ [(l0,l1)]).length:=⟨_,rfl⟩
 rw[<-hn9] at hl9
 obtain ⟨vb,hvb⟩:∃ vb,vb=iM t v lt (p.toNat:Int) lv' rt:=⟨_,rfl⟩
 have kvb:bZ vb=true:=by rw[hvb,HN.out.2,hl9];exact jZ _ _ _ _ _ _ _ _ _ _
 have hvbs:vb.size=153:=by rw[hvb];exact jU _ _ _ _ _ _
 rw[<-hvb] at hv3
 have cV3:Z.aW (N+1+1+1) 0 153=some vb:=aI hv3 hvbs
 have cZ0:Z.cell? ⟨N+1+1+1+1,0,none⟩=some (.int .i64 (l0.toNat:Int)):=(aF z4 0).1.trans rfl
 have t2:Z.aN (N+1+1) 0 153=true:=by simp[World.aN,z2,fH]
 have m2:N+1+1<Z.heap.size:=lt_of_heap z2
 have m3:N+1+1+1<Z.heap.size:=lt_of_heap hv3
 have m4:N+1+1+1+1<Z.heap.size:=lt_of_heap z4
 have m14:y+1<Z.heap.size:=lt_of_heap z14
 have HZ:=Lib.hid (And.intro hth (And.intro hv3 (And.intro z2 (And.intro z4 (And.intro z14 (And.intro hbZ (And.intro hsl (And.intro hfr (And.intro hvb (And.intro hNy hwN))))))))))
 have HL9:=Lib.hid (And.intro hl9 hn9)
 clear hcut hth hv3 hsl hfr hkZ hbZ y2 y4 y14 hbY z2 z4 z14 hvb hl9 hn9 HY e0 e1 eL2 l3 l4 H1 hNy hwN
 by_cases hend:is_=false\/l0=0
 ·have hce:dG (vsR R) t p b 257 [] (b,qO)=P ++ [(l0,l1)]:=by
   have:=HCH.out
   rw[if_pos hend] at this
   exact this
  have HCE:=Lib.hid hce
  have HFIN:=Lib.hid (show Below w.heap.size w (Z.lay (N+1+1) 0 vb)/\SlA (Z.lay (N+1+1) 0 vb) (Z.lay (N+1+1) 0 vb).heap.size 2 lv' ((dG (vsR R) t p b 257 [] (b,qO)).map lM)/\(Z.lay (N+1+1) 0 vb).aW (N+1+1) 0 153=some vb from
   ⟨HZ.out.2.2.2.2.2.1.lay (by have:=HZ.out.2.2.2.2.2.2.2.2.2.2;omega),by
    rw[hce]
    exact HZ.out.2.2.2.2.2.2.1.aD6 HZ.out.2.2.2.2.2.2.2.1 (by omega) (fun c hc=>aY hc) (by rw[lay_size];exact Nat.le_refl _),aI (gG HZ.out.2.2.1 fH hvbs) hvbs⟩)
  clear hce HCH HFS HNM HL HD
  cases is_ with
  | false =>
   go_wp2_with fail
   exact bodyPost_ret (v := .tuple #[.agg (iM t v lt (p.toNat:Int) lv' rt),.int .i64 0]) (aH Tryz.results35 (by rw[<-HZ.out.2.2.2.2.2.2.2.2.1];exact aO.row rfl fZ HFIN.out.2.2) (by simp[aO])) rfl ⟨HFIN.out.1,.inr ⟨HZ.out.1,_,by rw[HN.out.2,HRT.out],HFIN.out.2.1,HZ.out.2.2.2.2.2.2.2.1.mono (by have:=HZ.out.2.2.2.2.2.2.2.2.2.2;omega)⟩⟩
  | true =>
   have hl00:l0=0:=hend.resolve_left (by decide)
   have hee:((l0.toNat:Int) == 0)=true:=by rw[hl00];rfl
   clear hend hl00
   go_wp2_with fail
   exact bodyPost_ret (v := .tuple #[.agg (iM t v lt (p.toNat:Int) lv' rt),.int .i64 0]) (aH Tryz.results35 (by rw[<-HZ.out.2.2.2.2.2.2.2.2.1];exact aO.row rfl fZ HFIN.out.2.2) (by simp[aO])) rfl ⟨HFIN.out.1,.inr ⟨HZ.out.1,_,by rw[HN.out.2,HRT.out],HFIN.out.2.1,HZ.out.2.2.2.2.2.2.2.1.mono (by have:=HZ.out.2.2.2.2.2.2.2.2.2.2;omega)⟩⟩
 have hce:dG (vsR R) t p b 257 [] (b,qO)=P++(l0,l1) :: dG (vsR R) t p b n (l0 :: (P.map (·.1)).reverse) (rr.parent,rr.at_):=by
  have:=HCH.out
  rw[if_neg hend] at this
  exact this
 have his:is_=true:=by
  cases is_ with
  | false=>exact absurd (.inl rfl) hend
  | true=>rfl
 have hl0:l0≠0:=fun e=>hend (.inr e)
 have hee:((l0.toNat:Int) == 0)=false:=by
  rw[beq_eq_false_iff_ne]
  exact fun e=>hl0 (UInt8.toNat_inj.1 (by show l0.toNat=0;omega))
 subst his
 have r3:Z.cell? ⟨y+1,3,none⟩=some (.int .i64 (rr.parent.toNat:Int)):=(aF HZ.out.2.2.2.2.1 3).1.trans rfl
 have r7:Z.cell? ⟨y+1,7,none⟩=some (.int .u64 (rr.at_.toNat:Int)):=(aF HZ.out.2.2.2.2.1 7).1.trans rfl
 have q0:Z.cell? ⟨N+1+1+1+1,0,none⟩=some (.int .i64 (l0.toNat:Int)):=cZ0
 have q1:Z.cell? ⟨N+1+1+1+1,1,none⟩=some (.int .u64 (l1.toNat:Int)):=(aF HZ.out.2.2.2.1 1).1.trans rfl
 have q0f:=(aF HZ.out.2.2.2.1 0).2
 have q1f:=(aF HZ.out.2.2.2.1 1).2
 have HCE:=Lib.hid hce
 clear hce HCH hend hl0
 go_wp2_with fail
 obtain ⟨hth,hv3,z2,z4,z14,hbZ,hsl,hfr,hvb,hNy,hwN⟩:=HZ.out
 obtain ⟨hl9,hn9⟩:=HL9.out
 obtain ⟨U,hU⟩:∃ U,U=(Z.setCell ⟨N+1+1+1+1,0,none⟩ (.int .i64 (rr.parent.toNat:Int))).setCell ⟨N+1+1+1+1,1,none⟩ (.int .u64 (rr.at_.toNat:Int)):=⟨_,rfl⟩
 rw[<-hU]
 have hk:∀ c,c≠N+1+1+1+1->U.heap[c]? = Z.heap[c]? := fun c hc=>by
  rw[hU]
  exact (Below.heap_setCell _ ⟨N+1+1+1+1,1,none⟩ _ c hc).trans (Below.heap_setCell _ ⟨N+1+1+1+1,0,none⟩ _ c hc)
 have hUs:U.heap.size=Z.heap.size:=by rw[hU];simp
 have hbox:U.heap[N+1+1+1+1]? = some (.cells (lM (rr.parent,rr.at_)) 197):=by
  rw[hU]
  exact bC (bC z4 0 (.int .i64 (rr.parent.toNat:Int))) 1 (.int .u64 (rr.at_.toNat:Int))
 have hbU:Below w.heap.size w U:=by rw[hU];exact (hbZ.setCell (by show w.heap.size<=N+1+1+1+1;omega) _).setCell (by show w.heap.size<=N+1+1+1+1;omega) _
 have hvU:=(hk (N+1+1+1) (by omega)).trans hv3
 rw[hvb] at hvU
 refine ⟨⟨P ++ [(l0,l1)],(rr.parent,rr.at_),lv',rt,Lib.hid ⟨hbU,hvU,hsl.aD6 hfr (by omega) hk (by omega),hfr,hbox,(hk _ (by omega)).trans z2,?_,?_,?_,fun _=>⟨HRT.out,hth⟩⟩⟩,?_⟩
 ·rw[HCE.out,List.append_assoc]
  have e1:257 - (P ++ [(l0,l1)]).length=n:=by simp;omega
  rw[e1]
  simp
 ·rw[List.map_append,List.nodup_append]
  refine ⟨HL.out.nodup,by simp,fun x hx z hz e => ?_⟩
  simp at hz
  subst hz e
  exact HNM.out hx
 ·rcases HL.out.first with ⟨h1,h2⟩ | ⟨u,q,h1⟩
  ·obtain ⟨rfl,rfl⟩:=Prod.mk.inj h2
   rw[h1]
   exact .inr ⟨_, [],rfl⟩
  rw[h1]
  exact .inr ⟨u,q ++ [(l0,l1)],rfl⟩
 have e1:wr.cell? ⟨N+1+1+1,143,none⟩=some (.slice al P.length cl):=(aF HL.out.cells 143).1.trans (wU _ _ _ _ _ _)
 have e2:U.cell? ⟨N+1+1+1,143,none⟩=some lv':=(aF hvU 143).1.trans (wU _ _ _ _ _ _)
 rw[e1,e2,hl9,hn9]
 simp[Dn.aNh]
 omega
theorem aDy (v:Value) (hv:∃ a n c,v = .slice a n c) (lt t:UInt64) (pj br:Int) (hr:(pj<0)=True\/((pj<0)=False/\(3<pj)=True)\/((pj<0)=False/\(3<pj)=False/\(br<0)=True)\/((pj<0)=False/\(3<pj)=False/\(br<0)=False/\(3<br)=True)) (w:World) :
  Gives Tryz.prog 35 #[.agg (dU v lt),.agg (jO t),.int .i64 pj,.int .i64 br] w (.tuple #[.agg (iM t v lt pj (.slice none 0 0) Rec.zero),.int .i64 5]):=by
 obtain ⟨a,n,c,rfl⟩:=hv
 have k1:=mF a n c lt
 have kz:=jZ t a n c lt pj none 0 0 Rec.zero
 unfold Gives
 rcases hr with q1 | ⟨q1,q2⟩ | ⟨q1,q2,q3⟩ | ⟨q1,q2,q3,q4⟩
 all_goals
  go_enter Tryz.func35,Tryz.ntmps35
  go_upto_region 3 with fail
  refine aP ?_
  intro W hW
  obtain ⟨N,hN⟩:∃ N,N=w.heap.size:=⟨_,rfl⟩
  have hbW:Below w.heap.size w W:=by rw[hW];exact blw
  have g2:W.heap[N+1+1]? = some (.cells Tryz.zeroCells51 51):=by rw[hW,hN,aC,if_neg (by simp),aC,if_pos (by simp)]
  have g3:W.heap[N+1+1+1]? = some (.cells (iM t (.slice a n c) lt pj (.slice none 0 0) Rec.zero) 51):=by rw[hW,hN,aC,if_pos (by simp)]
  simp only[<-hN]
  obtain ⟨va,hva⟩:∃ va,va=iM t (.slice a n c) lt pj (.slice none 0 0) Rec.zero:=⟨_,rfl⟩
  rw[<-hva] at kz g3 |-
  have hvs:va.size=153:=by rw[hva];exact jU _ _ _ _ _ _
  have cV:W.aW (N+1+1+1) 0 153=some va:=aI g3 hvs
  have tz:W.aN (N+1+1) 0 153=true:=by simp[World.aN,g2,fH]
  have l2:N+1+1<W.heap.size:=lt_of_heap g2
  have HR:=Lib.hid (show (W.lay (N+1+1) 0 va).aW (N+1+1) 0 153=some va/\Below w.heap.size w (W.lay (N+1+1) 0 va) from
   ⟨aI (gG g2 fH hvs) hvs,hbW.lay (by omega)⟩)
  have HVA:=Lib.hid hva
  clear hW hbW g2 g3 hva k1 hN
  go_wp2_with fail
  exact bodyPost_ret (v := .tuple #[.agg va,.int .i64 5]) (aH Tryz.results35 (aO.row rfl fZ HR.out.1) (by simp[aO])) rfl ⟨by rw[HVA.out],HR.out.2⟩

theorem aDx (R:RD) (v:Value) (lt t:UInt64) (pj br:Int) (w:World) (h:eP w w.heap.size v R) :
  Calls Tryz.prog 35 #[.agg (dU v lt),.agg (jO t),.int .i64 pj,.int .i64 br] w fun e w'=>Below w.heap.size w w' /\ ∃ vv er,e = .returned (.tuple #[.agg vv,.int .i64 er])/\vv.size=153/\bZ vv=true:=by
 obtain ⟨a0,c0,rfl, -, -⟩:=h.sl.form
 rw[List.length_map] at *
 by_cases hr:(pj<0)=True\/((pj<0)=False/\(3<pj)=True)\/((pj<0)=False/\(3<pj)=False/\(br<0)=True)\/((pj<0)=False/\(3<pj)=False/\(br<0)=False/\(3<br)=True)
 ·refine (aDy _ ⟨_,_,_,rfl⟩ lt t pj br hr w).mono ?_
  rintro e w' ⟨rfl,hb⟩
  exact ⟨hb,_,_,rfl,jU _ _ _ _ _ _,jZ _ _ _ _ _ _ _ _ _ _⟩
 simp only[eq_iff_iff,iff_true,iff_false] at hr
 have hp0:0<=pj:=by omega
 have hp4:pj<4:=by omega
 have hb0:0<=br:=by omega
 have hb4:br<4:=by omega
 obtain ⟨p,rfl⟩:∃ p:UInt8,pj=(p.toNat:Int):=⟨UInt8.ofNat pj.toNat,by rw[UInt8.toNat_ofNat'];omega⟩
 obtain ⟨b,rfl⟩:∃ b:UInt8,br=(b.toNat:Int):=⟨UInt8.ofNat br.toNat,by rw[UInt8.toNat_ofNat'];omega⟩
 refine (aBs R _ lt t p b (by omega) (by omega) w h).mono ?_
 rintro e w' ⟨hb,h1 | h1⟩
 ·obtain ⟨-,am,nm,cm,own,rfl⟩:=h1
  exact ⟨hb,_,_,rfl,jU _ _ _ _ _ _,jZ _ _ _ _ _ _ _ _ _ _⟩
 obtain ⟨-,lv,rfl,hs, -⟩:=h1
 obtain ⟨a1,c1,rfl, -, -⟩:=hs.form
 exact ⟨hb,_,_,rfl,jU _ _ _ _ _ _,jZ _ _ _ _ _ _ _ _ _ _⟩
end Go.Proofs.YtcedmfnlkelhkaaGreatDoor

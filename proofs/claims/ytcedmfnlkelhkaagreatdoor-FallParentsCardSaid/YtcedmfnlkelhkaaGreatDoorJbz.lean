/- Lists of things by keys, in the order of keys, in plain Lean. -/
import Derived.Test.YtcedmfnlkelhkaaGreatDoorJak
import Derived.Test.YtcedmfnlkelhkaaGreatDoorJbl
namespace Go.Proofs.YtcedmfnlkelhkaaGreatDoor

def SA {β:Type} (D:List (K25×β)):Prop:=D.Pairwise fun x y=>kLt x.1 y.1
def ltA {β:Type} (k:K25) (x:K25×β):Bool:=oL x.1.val k.val
def oQ {β:Type} (D:List (K25×β)) (k:K25) (v:β):List (K25×β):=D.takeWhile (ltA k)++(k,v) :: (D.dropWhile (ltA k)).filter fun p=>decide (p.1≠k)
section
variable {β:Type} {D L:List (K25×β)} {k:K25} {v:β}
theorem SA.uniq (h:SA D):Uniq D:=by
 unfold Uniq
 exact List.pairwise_map.2 (h.imp fun h=>aJT h)
theorem oP (h:Uniq L):L.Nodup:=by
 unfold Uniq at h
 exact (List.pairwise_map.1 h).imp fun h e=>h (congrArg _ e)
theorem aHk (h:D.Perm L) (hu:Uniq L):Uniq D:=(h.map _).nodup_iff.2 hu
theorem aKJ (h:D.Perm L) (hu:Uniq L) (k:K25):lk D k=lk L k:=by
 apply Option.ext
 intro v
 rw[aBM (aHk h hu),aBM hu]
 exact h.mem_iff
theorem aKL (p:K25×β):p∈put L k v ↔ p=(k,v)\/(p∈L/\p.1≠k):=by
 unfold put
 split
 ·rename_i hk
  rw[List.mem_map]
  constructor
  ·rintro ⟨q,hq,rfl⟩
   split
   ·exact .inl rfl
   rename_i h;exact .inr ⟨hq,h⟩
  rintro (rfl | ⟨h1,h2⟩)
  ·obtain ⟨q,hq,e⟩:=List.mem_map.1 hk
   exact ⟨q,hq,by rw[if_pos e]⟩
  exact ⟨p,h1,if_neg h2⟩
 rename_i hk
 rw[List.mem_append,List.mem_singleton]
 constructor
 ·rintro (h | h)
  ·exact .inr ⟨h,fun e=>hk (List.mem_map.2 ⟨p,h,e⟩)⟩
  exact .inl h
 rintro (h | h)
 ·exact .inr h
 exact .inl h.1
theorem aJJ:∀ {D:List (K25×β)},∀ x∈D.takeWhile (ltA k),kLt x.1 k
 | [],x,h=>by simp at h
 | a :: D,x,h=>by
  rw[List.takeWhile_cons] at h
  split at h
  ·rename_i ha
   rcases List.mem_cons.1 h with rfl | h
   ·exact ha
   ·exact aJJ x h
  ·simp at h
theorem aLg:∀ {D:List (K25×β)},SA D -> ∀ x∈D.dropWhile (ltA k),¬ kLt x.1 k
 | [],_,x,h=>by simp at h
 | a :: D,hs,x,h=>by
  rw[List.dropWhile_cons] at h
  have hs2:=List.pairwise_cons.1 hs
  split at h
  ·exact aLg hs2.2 x h
  ·rename_i ha
   have ha2:¬ kLt a.1 k:=ha
   rcases List.mem_cons.1 h with rfl | h
   ·exact ha2
   ·intro hx
    exact ha2 (aCd (hs2.1 x h) hx)
theorem yJ (p:K25×β) (_:SA D):p∈oQ D k v ↔ p=(k,v)\/(p∈D/\p.1≠k):=by
 have hD:p∈D ↔ p∈D.takeWhile (ltA k)\/p∈D.dropWhile (ltA k):=by
  rw[<-List.mem_append,List.takeWhile_append_dropWhile]
 unfold oQ
 rw[List.mem_append,List.mem_cons,List.mem_filter,hD]
 simp only[decide_eq_true_eq]
 constructor
 ·rintro (h | rfl | ⟨h1,h2⟩)
  ·exact .inr ⟨.inl h,aJT (aJJ p h)⟩
  ·exact .inl rfl
  exact .inr ⟨.inr h1,h2⟩
 rintro (rfl | ⟨h1 | h1,h2⟩)
 ·exact .inr (.inl rfl)
 ·exact .inl h1
 exact .inr (.inr ⟨h1,h2⟩)
theorem SA.set (hs:SA D) (k:K25) (v:β):SA (oQ D k v):=by
 have hD:(D.takeWhile (ltA k)++D.dropWhile (ltA k)).Pairwise fun x y:K25×β=>kLt x.1 y.1:=by
  rw[List.takeWhile_append_dropWhile];exact hs
 obtain ⟨h1,h2,h3⟩:=List.pairwise_append.1 hD
 have hk:∀ x∈(D.dropWhile (ltA k)).filter (fun p=>decide (p.1≠k)),kLt k x.1:=by
  intro x hx
  obtain ⟨hx1,hx2⟩:=List.mem_filter.1 hx
  by_cases h:kLt k x.1
  ·exact h
  exact absurd (aJz (aLg hs x hx1) h) (by simpa using hx2)
 unfold SA oQ
 refine List.pairwise_append.2 ⟨h1,List.pairwise_cons.2 ⟨hk,h2.sublist List.filter_sublist⟩,?_⟩
 intro x hx y hy
 rcases List.mem_cons.1 hy with rfl | hy
 ·exact aJJ x hx
 exact aCd (aJJ x hx) (hk y hy)
theorem set_perm (hs:SA D) (hp:D.Perm L) (hu:Uniq L) (k:K25) (v:β):(oQ D k v).Perm (put L k v):=by
 refine (List.perm_ext_iff_of_nodup (oP (hs.set k v).uniq) (oP (aEl hu k v))).2 fun p => ?_
 rw[yJ p hs,aKL,hp.mem_iff]
end
end Go.Proofs.YtcedmfnlkelhkaaGreatDoor

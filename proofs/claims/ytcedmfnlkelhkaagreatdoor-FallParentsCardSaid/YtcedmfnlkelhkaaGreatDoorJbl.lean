/- The order of keys. -/
import Derived.Test.YtcedmfnlkelhkaaGreatDoorJab
import Derived.Lib.Bytealg
import Derived.Laws.Externs
import Derived.Lib.BytesEntry
namespace Go.Proofs.YtcedmfnlkelhkaaGreatDoor
set_option maxRecDepth 100000
open Go.RowKit

end Go.Proofs.YtcedmfnlkelhkaaGreatDoor
namespace Go.Proofs.YtcedmfnlkelhkaaGreatDoor

def kLt (a b:K25):Prop:=oL a.val b.val=true
theorem qL:∀ a:List UInt8,oL a a=false
 | []=>rfl
 | x :: a=>by unfold oL;rw[if_pos rfl];exact qL a
theorem zU:∀ a b c:List UInt8,oL a b=true->oL b c=true->oL a c=true
 | [], [],_,h,_=>by cases h
 | [],_ :: _, [],_,h=>by cases h
 | [],_ :: _,_ :: _,_,_=>rfl
 | _ :: _, [],_,h,_=>by cases h
 | _ :: _,_ :: _, [],_,h=>by cases h
 | a :: x,b :: y,c :: z,h1,h2=>by
  unfold oL at h1 h2 |-
  by_cases hab:a=b
  ·subst hab
   rw[if_pos rfl] at h1
   by_cases hbc:a=c
   ·subst hbc;rw[if_pos rfl] at h2 |-;exact zU x y z h1 h2
   ·rw[if_neg hbc] at h2 |-;exact h2
  ·rw[if_neg hab] at h1
   by_cases hbc:b=c
   ·subst hbc;rw[if_neg hab];exact h1
   ·rw[if_neg hbc] at h2
    simp only[decide_eq_true_eq] at h1 h2
    have h3:=UInt8.lt_trans h1 h2
    rw[if_neg (fun e=>by subst e;exact UInt8.lt_irrefl _ h3)]
    simpa using h3
theorem zT:∀ a b:List UInt8,a.length=b.length->oL a b=false->oL b a=false->a=b
 | [], [],_,_,_=>rfl
 | [],_ :: _,h,_,_=>by simp at h
 | _ :: _, [],h,_,_=>by simp at h
 | a :: x,b :: y,h,h1,h2=>by
  unfold oL at h1 h2
  by_cases hab:a=b
  ·subst hab;rw[if_pos rfl] at h1 h2;rw[zT x y (by simpa using h) h1 h2]
  ·rw[if_neg hab] at h1;rw[if_neg (fun e=>hab e.symm)] at h2
   simp only[decide_eq_false_iff_not] at h1 h2
   exact (hab (UInt8.le_antisymm (UInt8.not_lt.1 h2) (UInt8.not_lt.1 h1))).elim
theorem aFT (a:K25):¬ kLt a a:=by unfold kLt;rw[qL];decide
theorem aCd {a b c:K25} (h:kLt a b) (h2:kLt b c):kLt a c:=zU _ _ _ h h2
theorem aJT {a b:K25} (h:kLt a b):a≠b:=fun e=>by subst e;exact aFT _ h
theorem aJz {a b:K25} (h:¬ kLt a b) (h2:¬ kLt b a):a=b :=
 Subtype.ext (zT _ _ (by rw[a.property,b.property]) (by simpa [kLt] using h) (by simpa [kLt] using h2))
end Go.Proofs.YtcedmfnlkelhkaaGreatDoor

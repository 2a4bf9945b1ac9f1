/- Layer 6 in plain Lean: the key of right parts is right; texts of keys. -/
import Derived.Test.YtcedmfnlkelhkaaGreatDoorJay
import Derived.Test.YtcedmfnlkelhkaaGreatDoorJaj
import Derived.Handy
namespace Go.Proofs.YtcedmfnlkelhkaaGreatDoor
set_option maxRecDepth 100000
open Go.RowKit

/-! what is read of a text -/
structure aLF where
 kind:Int
 proj:Int
 at_:Int
 name:List UInt8
 tag:List UInt8
def aLF.key (x:aLF):List UInt8:=keyOf x.kind x.proj x.at_ x.name x.tag
theorem sG {w:World} {b:Nat} {c:Array Value} {t:TypeId} (h:w.heap[b]? = some (.cells c t)) (i:Nat):w.cell? ⟨b,i,none⟩=c[i]? /\ w.frozen? ⟨b,i,none⟩=false:=by
 simp[World.cell?,World.frozen?,h]
end Go.Proofs.YtcedmfnlkelhkaaGreatDoor

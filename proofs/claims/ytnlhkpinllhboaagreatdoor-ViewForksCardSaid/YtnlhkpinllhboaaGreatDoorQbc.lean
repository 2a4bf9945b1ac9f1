/- Layer 6 in plain Lean: the key of right parts is right; texts of keys. -/
import Derived.Test.YtnlhkpinllhboaaGreatDoorQab
import Derived.Test.YtnlhkpinllhboaaGreatDoorQay
import Derived.Test.YtnlhkpinllhboaaGreatDoorQai
import Derived.Test.YtnlhkpinllhboaaGreatDoorQaj
import Derived.Handy
namespace Go.Proofs.YtnlhkpinllhboaaGreatDoor
set_option maxRecDepth 100000
open Go.RowKit

end Go.Proofs.YtnlhkpinllhboaaGreatDoor
namespace Go.Proofs.YtnlhkpinllhboaaGreatDoor
set_option maxRecDepth 100000
open Go.RowKit

/-! what is read of a text -/
structure KRead where
 kind : Int
 proj : Int
 at_ : Int
 name : List UInt8
 tag : List UInt8
def KRead.key (x : KRead) : List UInt8 := keyOf x.kind x.proj x.at_ x.name x.tag
end Go.Proofs.YtnlhkpinllhboaaGreatDoor
namespace Go.Proofs.YtnlhkpinllhboaaGreatDoor
set_option maxRecDepth 100000
open Go.RowKit

theorem cellsK {w : World} {b : Nat} {c : Array Value} {t : TypeId} (h : w.heap[b]? = some (.cells c t)) (i : Nat) : w.cell? ⟨b, i, none⟩ = c[i]? ∧ w.frozen? ⟨b, i, none⟩ = false := by
 simp [World.cell?, World.frozen?, h]
end Go.Proofs.YtnlhkpinllhboaaGreatDoor

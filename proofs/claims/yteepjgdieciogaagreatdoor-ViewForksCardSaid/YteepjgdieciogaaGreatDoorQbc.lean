/- Layer 6 in plain Lean: the key of right parts is right; texts of keys. -/
import Derived.Test.YteepjgdieciogaaGreatDoorQab
import Derived.Test.YteepjgdieciogaaGreatDoorQay
import Derived.Test.YteepjgdieciogaaGreatDoorQai
import Derived.Test.YteepjgdieciogaaGreatDoorQaj
import Derived.Handy
namespace Go.Proofs.YteepjgdieciogaaGreatDoor
set_option maxRecDepth 100000
open Go.RowKit

end Go.Proofs.YteepjgdieciogaaGreatDoor
namespace Go.Proofs.YteepjgdieciogaaGreatDoor
set_option maxRecDepth 100000
open Go.RowKit

/-! what is read of a text -/
structure KRead where
 kind : Int
 proj : Int
 at_ : Int
 name : List UInt8
 tag : List UInt8
def KRead.key (x : KRead) : List UInt8 := keyOf x.kind x.proj x.at_ x.name x.tag
end Go.Proofs.YteepjgdieciogaaGreatDoor
namespace Go.Proofs.YteepjgdieciogaaGreatDoor
set_option maxRecDepth 100000
open Go.RowKit

theorem cellsK {w : World} {b : Nat} {c : Array Value} {t : TypeId} (h : w.heap[b]? = some (.cells c t)) (i : Nat) : w.cell? ⟨b, i, none⟩ = c[i]? ∧ w.frozen? ⟨b, i, none⟩ = false := by
 simp [World.cell?, World.frozen?, h]
end Go.Proofs.YteepjgdieciogaaGreatDoor

/- Layer 19's law: the chapter's example, in plain Lean. -/
import Derived.Test.YtcedmfnlkelhkaaGreatDoorJce
namespace Go.Proofs.YtcedmfnlkelhkaaGreatDoor
open Go.RowKit

def n19:List UInt8:=97 :: zeros 11
theorem aKN:n19.length=12/\(zeros 10).length=10:=⟨rfl,rfl⟩
def keyS (b:UInt8):List UInt8:=5 :: 0 :: b :: (n19++zeros 10)
def kS (b:UInt8):K25:=⟨keyS b,rfl⟩
def tx1:Txt:=⟨[111,110,101],by simp[maxLen]⟩
def tx2:Txt:=⟨[116,119,111],by simp[maxLen]⟩
def tx3:Txt:=⟨[116,104,114,101,101],by simp[maxLen]⟩
def aM9 (v:UInt32) (l:Txt):Rec := { Rec.zero with kind:=5,rev:=v,text:=l }
def y1:Wr:=⟨jH 4 0 0,false,aNq 0⟩
def y2:Wr:=⟨kS 0,false,aM9 1 tx1⟩
def y3:Wr:=⟨jH 4 0 1,false,aNq 0⟩
def y4:Wr:=⟨kS 0,false,aM9 2 tx2⟩
def y5:Wr:=⟨kS 1,false,aM9 3 tx3⟩
def g1:K25->List Ver:=dP 1 f0 [y1]
def g2:K25->List Ver:=dP 2 g1 [y2]
def g3:K25->List Ver:=dP 3 g2 [y3]
def g4:K25->List Ver:=dP 4 g3 [y4]
def g5:K25->List Ver:=dP 5 g4 [y5]
theorem aPD:sZ f0 0 [y1]=0:=by decide +kernel
theorem aPE:sZ g1 1 [y2]=0:=by decide +kernel
theorem aMA:dL f0 [y1]=1:=by decide +kernel
theorem aMB:dL g1 [y2]=1:=by decide +kernel
end Go.Proofs.YtcedmfnlkelhkaaGreatDoor

/- Keys, names and tags as lists of bytes: what the functions of layers 4, 5 and 6 compute, in plain Lean. -/
import Derived.Test.YtjdccgmoldmlmaaDoorStr
import Derived.Lib.Split
import Derived.Lib.Join
import Derived.Lib.TrimByte
import Derived.Lib.ItoaNum
namespace Go.Proofs.YtjdccgmoldmlmaaDoor

/-! bytes -/
def lowB (c : UInt8) : Bool := decide (97 ≤ c.toNat) && decide (c.toNat ≤ 122)
def uppB (c : UInt8) : Bool := decide (65 ≤ c.toNat) && decide (c.toNat ≤ 90)
def letB (c : UInt8) : Bool := lowB c || uppB c
def digB (c : UInt8) : Bool := decide (48 ≤ c.toNat) && decide (c.toNat ≤ 57)
def signB (c : UInt8) : Bool := lowB c || digB c || c == 45 || c == 95 || c == 46
def toLow (c : UInt8) : UInt8 := if uppB c = true then c + 32 else c
def toUpp (c : UInt8) : UInt8 := if lowB c = true then c - 32 else c
def zeros (n : Nat) : List UInt8 := List.replicate n 0
def padTo (n : Nat) (s : List UInt8) : List UInt8 := s ++ zeros (n - s.length)

/-! layer 4: names -/
def nameOk (s : List UInt8) : Bool := decide (1 ≤ s.length) && decide (s.length ≤ 12) && lowB (byt s 0) && s.all signB
def nameParse1 (s : List UInt8) : List UInt8 := if nameOk s = true then padTo 12 s else zeros 12
def nameParse2 (s : List UInt8) : Int := if nameOk s = true then 0 else 15
def frontN (n : List UInt8) : List UInt8 := n.takeWhile (· != 0)
def nameRight (n : List UInt8) : Bool := nameOk (frontN n) && padTo 12 (frontN n) == n
def nameText (n : List UInt8) : List UInt8 := if nameRight n = true then frontN n else []

/-! layer 5: tags: three bytes, four, three -/
def rootL : List UInt8 := [114, 111, 111, 116]
def langB (p : List UInt8) : Bool := decide (2 ≤ p.length) && decide (p.length ≤ 3) && p.all letB
def scriptB (p : List UInt8) : Bool := decide (p.length = 4) && p.all letB
def regionB (p : List UInt8) : Bool := (decide (p.length = 2) && p.all letB) || (decide (p.length = 3) && p.all digB)
def title : List UInt8 → List UInt8
  | [] => []
  | c :: r => toUpp (toLow c) :: r.map toLow
def scOf : List (List UInt8) → List UInt8
  | [] => zeros 4
  | p :: _ => if scriptB p = true then title p else zeros 4
def scRest : List (List UInt8) → List (List UInt8)
  | [] => []
  | p :: r => if scriptB p = true then r else p :: r
def rgOf : List (List UInt8) → List UInt8
  | [] => zeros 3
  | p :: _ => if regionB p = true then padTo 3 (p.map toUpp) else zeros 3
def rgRest : List (List UInt8) → List (List UInt8)
  | [] => []
  | p :: r => if regionB p = true then r else p :: r
def tagParts : List (List UInt8) → Option (List UInt8)
  | [] => none
  | p :: r => if langB p = true ∧ rgRest (scRest r) = [] then some (padTo 3 (p.map toLow) ++ scOf r ++ rgOf (scRest r)) else none
/-- the pieces between the bytes c -/
def splitOn (c : UInt8) : List UInt8 → List (List UInt8)
  | [] => [[]]
  | b :: l => if b = c then [] :: splitOn c l else
    match splitOn c l with
    | p :: r => (b :: p) :: r
    | [] => [[b]]
def tagOpt (s : List UInt8) : Option (List UInt8) := if s = rootL then some (zeros 10) else tagParts (splitOn 45 s)
def tagParse1 (s : List UInt8) : List UInt8 := (tagOpt s).getD (zeros 10)
def tagParse2 (s : List UInt8) : Int := if (tagOpt s).isSome = true then 0 else 14
def partT (b : List UInt8) : List UInt8 := Lib.trimRightB b 0
def langT (t : List UInt8) : List UInt8 := t.take 3
def scriptT (t : List UInt8) : List UInt8 := (t.drop 3).take 4
def regionT (t : List UInt8) : List UInt8 := t.drop 7
def dashed (p : List UInt8) : List UInt8 := if p = [] then [] else 45 :: p
def tagPlain (t : List UInt8) : List UInt8 := if t = zeros 10 then rootL else partT (langT t) ++ dashed (partT (scriptT t)) ++ dashed (partT (regionT t))
def tagRight (t : List UInt8) : Bool := tagOpt (tagPlain t) == some t
def tagText (t : List UInt8) : List UInt8 := if tagRight t = true then tagPlain t else []

/-! layer 6: keys: kind, project, at, a name, a tag -/
def usedAt (kind : Int) : Int := if kind = 2 then 16 else if kind = 4 ∨ kind = 5 ∨ kind = 6 then 4 else 0
def usedName (kind : Int) : Bool := decide (kind = 5) || decide (kind = 6)
def usedTag (kind : Int) : Bool := decide (kind = 3) || decide (kind = 6)
def keyErr (kind project at_ : Int) (n t : List UInt8) : Int :=
  if kind < 1 ∨ 6 < kind then 16
  else if project < 0 ∨ 4 ≤ project ∨ (0 < usedAt kind ∧ (at_ < 0 ∨ usedAt kind ≤ at_)) then 5
  else if usedName kind = true ∧ nameRight n = false then 15
  else if usedTag kind = true ∧ (tagRight t = false ∨ t = zeros 10) then 14
  else 0
def byteOf (x : Int) : UInt8 := UInt8.ofNat (x % 256).toNat
def keyMade (kind project at_ : Int) (n t : List UInt8) : List UInt8 :=
  [byteOf kind, byteOf project, if 0 < usedAt kind then byteOf at_ else 0] ++ (if usedName kind = true then n else zeros 12) ++ (if usedTag kind = true then t else zeros 10)
def keyOf (kind project at_ : Int) (n t : List UInt8) : List UInt8 := if keyErr kind project at_ n t = 0 then keyMade kind project at_ n t else zeros 25
def kKind (k : List UInt8) : UInt8 := byt k 0
def kProj (k : List UInt8) : UInt8 := byt k 1
def kAt (k : List UInt8) : UInt8 := byt k 2
def kName (k : List UInt8) : List UInt8 := (k.drop 3).take 12
def kTag (k : List UInt8) : List UInt8 := k.drop 15
def keyRight (k : List UInt8) : Bool :=
  decide (keyErr (kKind k).toNat (kProj k).toNat (kAt k).toNat (kName k) (kTag k) = 0) && keyOf (kKind k).toNat (kProj k).toNat (kAt k).toNat (kName k) (kTag k) == k
def lessL : List UInt8 → List UInt8 → Bool
  | [], [] => false
  | [], _ :: _ => true
  | _ :: _, [] => false
  | a :: x, b :: y => if a = b then lessL x y else decide (a < b)
end Go.Proofs.YtjdccgmoldmlmaaDoor

/- ref04.Own: a contract, no statement of the seat. -/
import Derived.Test.YtoeklgbajggndaaGreatChk03G
import Derived.Test.YtoeklgbajggndaaGreatMg08
import Derived.Test.YtoeklgbajggndaaGreatRefOrderG
namespace Go.Proofs.YtoeklgbajggndaaGreat
open Go.RowKit Go.Sort

/-- No part of any of them is great. -/
def TameL (l : List St) : Prop := ∀ s ∈ l, Tame s
theorem TameL.light {l : List St} (h : TameL l) : LightL 1000000 l := fun s hs => ⟨by have := (h s hs).list; omega, by have := (h s hs).pins; omega⟩
theorem TameL.get {l : List St} (h : TameL l) {i : Nat} {s : St} (hi : l[i]? = some s) : Tame s := h s (List.mem_of_getElem? hi)
/-- A statement of the author's that is right. -/
def ownOK (a : Int) (s : St) : Bool := decide (s.author = a) && decide (checkI s = 0) && sealedB s
/-- By number and digest. -/
def ltND (t s : St) : Bool := decide (t.number < s.number) || (decide (t.number = s.number) && Op.bytesLess t.dig.toList s.dig.toList)
def upPos (acc : List St) (s : St) : Nat := (acc.takeWhile fun t => ltND t s).length
def ownPut (acc : List St) (s : St) : List St := if (acc[upPos acc s]?).any (sameS · s) then acc else acc.take (upPos acc s) ++ [s] ++ acc.drop (upPos acc s)
def ownI (a : Int) (l : List St) : List St := (l.filter (ownOK a)).foldl ownPut []
end Go.Proofs.YtoeklgbajggndaaGreat

/- ref04.Counted: a contract, no statement of the seat. -/
import Derived.Test.YtoeklgbajggndaaGreatOwn04G
namespace Go.Proofs.YtoeklgbajggndaaGreat
open Go.RowKit Go.Sort

/-- What stands at i counts, if all ahead of it do. -/
def goodAt (own : List St) (i : Nat) : Bool :=
  match own[i]? with
  | none => false
  | some s => decide (s.number = (i : Int)) && !(own[i + 1]?).any (fun t => decide (t.number = (i : Int))) && (decide (i = 0) || (own[i - 1]?).any (fun q => followsB q s && !decide (q.kind = 3)))
/-- What counts of a list that is ordered. -/
def countTo (own : List St) (i : Nat) : Nat := if h : i < own.length then (if goodAt own i then countTo own (i + 1) else i) else i
termination_by own.length - i
def countedI (a : Int) (l : List St) : List St := (ownI a l).take (countTo (ownI a l) 0)
end Go.Proofs.YtoeklgbajggndaaGreat

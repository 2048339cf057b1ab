/- ref04.Next: a contract, no statement of the seat. -/
import Derived.Test.YtoeklgbajggndaaGreatCounted04G
namespace Go.Proofs.YtoeklgbajggndaaGreat
open Go.RowKit Go.Sort

instance : DecidableEq St := fun s t => if h : sameS s t = true then isTrue (sameS_iff.1 h) else isFalse (fun e => h (sameS_iff.2 e))
def zeroSt : St := ⟨0, 0, ⟨#[]⟩, 0, 0, 0, 0, 0, [], [], ⟨#[]⟩, 0, ⟨#[]⟩⟩
theorem Lies.zero (P : Nat → Prop) (w : World) : Lies P w (zeroSt, ⟨none, 0, 0⟩, ⟨none, 0, 0⟩) := ⟨Sl.nil P w, Sl.nil P w⟩
/-- What follows a chain, sealed. -/
def nextU (a : Int) (chain : List St) (s : St) : St := { s with author := a, number := chain.length, prev := match chain.getLast? with | none => ⟨#[]⟩ | some q => sha (stB q) }
def nextS (a : Int) (chain : List St) (s : St) : St := sealS (nextU a chain s)
/-- Its error. -/
def nextE (a : Int) (chain : List St) (s : St) : Int :=
  match chain.getLast? with
  | none => checkI (nextS a chain s)
  | some q => if countedI a chain = chain then (if s.time < q.time then 9 else if q.kind = 3 then 5 else checkI (nextS a chain s)) else 1
end Go.Proofs.YtoeklgbajggndaaGreat

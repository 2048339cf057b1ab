/- ref09.Order: a contract, no statement of the seat. -/
import Derived.Test.YtflhidfclfkjlaaGreatMg05
import Derived.Test.YtflhidfclfkjlaaGreatOnlyG
import Derived.Deep.RegionHeld3
import Derived.IntWalk
namespace Go.Proofs.YtflhidfclfkjlaaGreat
open Go.RowKit Go.Sort
theorem OwnS.at' {w:World} {base:Nat} {ao:Option Addr} {cap:Nat} {l:List St} (h:OwnS w base ao cap l):SlAt stRep (fun b=>base≤b) w ao l:=by
 obtain⟨ao',cap',e,h'⟩:=h.sl
 cases e
 exact h'
end Go.Proofs.YtflhidfclfkjlaaGreat

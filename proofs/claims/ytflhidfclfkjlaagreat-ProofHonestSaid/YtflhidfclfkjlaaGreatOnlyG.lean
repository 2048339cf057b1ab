/- The program's epoch.only: a contract, no statement of the seat. -/
import Derived.Test.YtflhidfclfkjlaaGreatMg04
import Derived.Deep.RegionLaw
import Derived.Outline
import Derived.OwnWalk
namespace Go.Proofs.YtflhidfclfkjlaaGreat
open Go.RowKit Go.Sort
theorem st_block {w:World} {g:Nat} {s:St} {lo po:Option Addr} {ln lc pn pc:Nat} {t:TypeId} (h:w.heap[g]? =some (.cells #[.int .i64 s.author,.int .i64 s.number,.string s.prev,.int .i64 s.time,.int .i64 s.kind,.int .i64 s.a,.int .i64 s.b,.int .i64 s.c,.slice lo ln lc,.slice po pn pc,.string s.body,.int .i64 s.key,.string s.dig] t (0,0))) :
 (w.cell? ⟨g,0,none⟩=some (.int .i64 s.author)∧w.cell? ⟨g,1,none⟩=some (.int .i64 s.number)∧w.cell? ⟨g,2,none⟩=some (.string s.prev)∧w.cell? ⟨g,3,none⟩=some (.int .i64 s.time)∧
 w.cell? ⟨g,4,none⟩=some (.int .i64 s.kind)∧w.cell? ⟨g,5,none⟩=some (.int .i64 s.a)∧w.cell? ⟨g,6,none⟩=some (.int .i64 s.b)∧w.cell? ⟨g,7,none⟩=some (.int .i64 s.c)∧
 w.cell? ⟨g,8,none⟩=some (.slice lo ln lc)∧w.cell? ⟨g,9,none⟩=some (.slice po pn pc)∧w.cell? ⟨g,10,none⟩=some (.string s.body)∧w.cell? ⟨g,11,none⟩=some (.int .i64 s.key)∧w.cell? ⟨g,12,none⟩=some (.string s.dig))∧∀o,w.frozen? ⟨g,o,none⟩=false:=by
 refine⟨⟨?_,?_,?_,?_,?_,?_,?_,?_,?_,?_,?_,?_,?_⟩,fun o=>by simp [World.frozen?,h]⟩ <;> (rw [cell_of_row _ _ _ _ _ _ h];rfl)
def TestAt (f:Nat) (cb:Array Value) (w0:World) (p:St→Bool):Prop :=
 ∀(w:World) (s:St) (lo po:Option Addr) (ln lc pn pc:Nat),Ex w0.heap.size none w0 w→Calls Tryz.prog f (#[.agg #[.int .i64 s.author,.int .i64 s.number,.string s.prev,.int .i64 s.time,.int .i64 s.kind,.int .i64 s.a,.int .i64 s.b,.int .i64 s.c,.slice lo ln lc,.slice po pn pc,.string s.body,.int .i64 s.key,.string s.dig]] ++ cb) w fun e w'=>e=.returned (.bool (p s))∧Ex w.heap.size none w w'
end Go.Proofs.YtflhidfclfkjlaaGreat

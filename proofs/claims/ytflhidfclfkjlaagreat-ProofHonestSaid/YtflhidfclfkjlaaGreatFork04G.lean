/- ref04.Fork where a number is there twice. No statement of the seat. -/
import Derived.Test.YtflhidfclfkjlaaGreatCounted04G
import Derived.Test.YtflhidfclfkjlaaGreatMg11
import Derived.Test.YtflhidfclfkjlaaGreatMg12
import Derived.Test.YtflhidfclfkjlaaGreatMg00
import Derived.Test.YtflhidfclfkjlaaGreatMg02
import Derived.Laws.ResultCell
import Derived.Deep.RegionHeld3
namespace Go.Proofs.YtflhidfclfkjlaaGreat
open Go.RowKit Go.Sort
def forkV (x y:St×Sv×Sv):Value:=.agg (stE x ++ stE y).toArray
theorem forkV_cells (x y:St×Sv×Sv): (forkV x y).cells= (stE x ++ stE y).toArray:=rfl
theorem forkV_one (x y:St×Sv×Sv): (forkV x y).cells.all (·.oneCell')=true:=by
 rw [Array.all_eq_true_iff_forall_mem]
 intro v hv
 rw [forkV_cells] at hv
 simp only [List.mem_toArray,List.mem_append] at hv
 rcases hv with hv | hv
 · exact one_stE x v hv
 · exact one_stE y v hv
def rowMake (t:TypeId) (ps:Array (Nat×Value)):Sem Value:=Instr.build t ps
theorem build_word (ps:Array (Nat×Value)):Instr.build 116 ps=rowMake 116 ps:=rfl
set_option maxRecDepth 100000 in
theorem build_fork (w:World) (x y:St×Sv×Sv): (rowMake 116 #[(0,stV x),(1,stV y)]).run Tryz.prog w=.ok (forkV x y) w:=run_build w _ _ _ (by kernel_rfl)
attribute [local go_sem ↓] rowLoad_stv rowStore_stv rowStore_fork
attribute [local go_sem ↓ high] build_word
set_option maxRecDepth 100000 in
theorem results_row2 {fn:Func} {p u:Tmp} {t:TypeId} (h:fn.results=#[.cell p t,.tmp u]) (tmps:Array Value) (w:World) {a:Addr} {v u' :Value} (ha:tmps.getD p undef=.pointer (some a)) (hu:tmps.getD u undef=u') (hr: (loadVar t a).run Tryz.prog w=.ok v w): (results fn tmps).run Tryz.prog w=.ok (.tuple #[v,u']) w:=by
 rw [results_cell_tmp h,ha,hu]
 have e: (asAddr (.pointer (some a))).run Tryz.prog w=.ok a w:=rfl
 rw [e]
 show((loadVar t a).run Tryz.prog w).andThen _=_
 rw [hr]
 simp only [Result.andThen]
def ForkE (x y:St) (e:Ending):Prop:=∃X Y:St×Sv×Sv,e=.returned (.tuple #[forkV X Y,.bool true])∧X.1=x∧Y.1=y
end Go.Proofs.YtflhidfclfkjlaaGreat

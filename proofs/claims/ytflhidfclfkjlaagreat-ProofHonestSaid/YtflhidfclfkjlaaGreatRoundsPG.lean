/- digest.rounds: the constants. No statement of the seat. -/
import Derived.Test.YtflhidfclfkjlaaGreatBlock01G
import Derived.Great.BuildSlice
import Derived.Deep.Cut
namespace Go.Proofs.YtflhidfclfkjlaaGreat
open Go.RowKit Go.Sort
theorem Tryz.sizeK: (Tryz.prog.info? 165).map (·.size)=some 64:=by kernel_rfl
def kCells:Array Value:=(flatL wdE constU).toArray
theorem kCells_size:kCells.size=64:=by kernel_rfl
theorem kCells_one:kCells.all (·.oneCell')=true:=by kernel_rfl
theorem Tryz.sizeK' : (Tryz.prog.info? 165).map (·.size)=some kCells.size:=by rw [kCells_size];exact Tryz.sizeK
theorem Ex.row {B:Nat} {p:Option Nat} {a w:World} (h:Ex B p a w) (g:Nat) (cs:Array Value) (hp:p=some g∨B≤g):Ex B p a (w.setRow g cs) :=
 ⟨h.os,h.tape,h.output,by simpa using h.size,fun k hk hne=>(setRow_other _ _ _ _ (by
   rcases hp with hp | hp
   · intro e;exact hne (by rw [hp,e])
   · omega)).trans (h.block k hk hne)⟩
set_option maxHeartbeats 4000000 in
set_option maxRecDepth 100000 in
theorem roundsP_any (w:World):Calls Tryz.prog 129 #[] w fun e w'=>e=.returned (.agg kCells)∧Ex w.heap.size none w w':=by
 go_enter Tryz.func129,Tryz.ntmps129
 go_upto_region 1 with(fail)
 obtain⟨zs,hzs⟩:∃zs:Array Value,zs=Array.replicate 64 (.int .u32 0):=⟨_,rfl⟩
 have hzl:zs.size=64:=by rw [hzs];simp
 obtain⟨w0,hw0⟩:∃w0:World,w0=w.alloc (.cells zs 165):=⟨_,rfl⟩
 have HE:Hid (Ex w.heap.size none w w0):=Lib.hid (by rw [hw0];exact Ex.new w _)
 have HB:Hid (w0.heap[w.heap.size]? =some (.cells zs 165 (0,0))):=Lib.hid (by rw [hw0];exact heap_alloc_new w _)
 rw [hzs] at hw0
 change w0=w.alloc (.cells #[.int .u32 0,.int .u32 0,.int .u32 0,.int .u32 0,.int .u32 0,.int .u32 0,.int .u32 0,.int .u32 0,.int .u32 0,.int .u32 0,.int .u32 0,.int .u32 0,.int .u32 0,.int .u32 0,.int .u32 0,.int .u32 0,.int .u32 0,.int .u32 0,.int .u32 0,.int .u32 0,.int .u32 0,.int .u32 0,.int .u32 0,.int .u32 0,.int .u32 0,.int .u32 0,.int .u32 0,.int .u32 0,.int .u32 0,.int .u32 0,.int .u32 0,.int .u32 0,.int .u32 0,.int .u32 0,.int .u32 0,.int .u32 0,.int .u32 0,.int .u32 0,.int .u32 0,.int .u32 0,.int .u32 0,.int .u32 0,.int .u32 0,.int .u32 0,.int .u32 0,.int .u32 0,.int .u32 0,.int .u32 0,.int .u32 0,.int .u32 0,.int .u32 0,.int .u32 0,.int .u32 0,.int .u32 0,.int .u32 0,.int .u32 0,.int .u32 0,.int .u32 0,.int .u32 0,.int .u32 0,.int .u32 0,.int .u32 0,.int .u32 0,.int .u32 0] 165) at hw0
 rw [←hw0]
 clear hw0 hzs
 go_wp2_with (refine wpList_store_rowTo rfl 165 (.tmp 0) (.tmp 1) rfl rfl w.heap.size kCells (by rfl) (by rfl) 165 zs HB.out Tryz.sizeK' (by rw [hzl,kCells_size]) kCells_one ?_)
 refine bodyPost_ret (v:=.agg kCells) (results_cell_row rfl _ _ w.heap.size 165 kCells _ _ (by rfl) (setRow_heap _ _ _ _ _ _ HB.out) Tryz.underlying165 rfl Tryz.sizeK') rfl ?_
 exact⟨rfl,HE.out.row _ _ (.inr (Nat.le_refl _))⟩
end Go.Proofs.YtflhidfclfkjlaaGreat

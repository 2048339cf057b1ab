/- cases.Of: a contract. No statement of the seat. | ballot.vote: a contract. No statement of the seat. | ballot.Votes' closures, SortFunc and CompactFunc at them: contracts. No statement of the seat. | ballot.Votes: a contract. No statement of the seat. | proof.first's test: a contract. No statement of the seat. | proof.first: a contract. No statement of the seat. | Proofs of misdeeds as data, in memory. No statement of the seat. | What proof.Find answers, in plain words, and what it tells of each proof. No program in sight; no statement of the seat. -/
import Derived.Test.YtflhidfclfkjlaaGreatMg11
import Derived.Test.YtflhidfclfkjlaaGreatChk03G
import Derived.Laws.ResultCell
import Derived.Test.YtflhidfclfkjlaaGreatMg01
import Derived.Test.YtflhidfclfkjlaaGreatMg12
import Derived.Laws.EntriesVeiled
namespace Go.Proofs.YtflhidfclfkjlaaGreat
open Go.RowKit Go.Sort
section
attribute [local go_sem ↓] rowLoad_stv rowStore_stv
theorem at_oldX (w:World) (o:Obj) (g:Nat) (h:g < w.heap.size): (w.alloc o).heap[g]? =w.heap[g]? :=(Ex.new w o).block g h (by simp)
theorem Ex.thenBX {a b c:World} {B:Nat} (h:Ex B none a b) (k:Ex B none b c):Ex B none a c:=h.trans k (Nat.le_refl _) (by simp)
theorem Ex.atX {B b:Nat} {w w' :World} {x:Obj} (h:Ex B none w w') (hB:w.heap.size≤B) (k:w.heap[b]? =some x):w'.heap[b]? =some x:=(h.block b (Nat.lt_of_lt_of_le (Array.getElem?_eq_some_iff.1 k).1 hB) (by simp)).trans k
theorem heapDX {w:World} {g:Nat} {x:Option Obj} (k:w.heap[g]? =x):w.drew.heap[g]? =x:=k
theorem heap1dX (w:World) (cs:Array Value) (t:TypeId): (w.drew.alloc (.cells cs t)).heap[w.heap.size]? =some (.cells cs t (0,0)):=heap_alloc_new w.drew _
theorem rowStore_vo (a:Addr) (v:Value):storeVar 106 a v=rowStore 106 a v:=rfl
theorem rowLoad_vo (a:Addr):loadVar 106 a=rowLoad 106 a:=rfl
theorem Tryz.sizeVo: (Tryz.prog.info? 106).map (·.size)=some 7:=by kernel_rfl
theorem vo_box {w:World} {g:Nat} {t:TypeId} {fr:Nat×Nat} {cs:Array Value} (h:w.heap[g]? =some (.cells cs t fr)) (cs' :Array Value) (he:cs=cs') (h7:cs.size=7:=by rfl): (rowLoad 106 ⟨g,0,none⟩).run Tryz.prog w=.ok (.agg cs') w:=by
 subst he
 exact run_rowLoad (P:=Tryz.prog) w g t 106 cs fr _ h Tryz.underlying106 rfl (by rw [h7];exact Tryz.sizeVo)
theorem vo_store {w:World} {g:Nat} {old:Array Value} (h:w.heap[g]? =some (.cells old 106 (0,0))) (ho:old.size=7) (cs:Array Value) (h7:cs.size=7) (h1:cs.all (·.oneCell')=true): (rowStore 106 ⟨g,0,none⟩ (.agg cs)).run Tryz.prog w=.ok () (w.setRow g cs) :=
 run_rowStore (P:=Tryz.prog) w g 106 106 old cs h (by rw [h7];exact Tryz.sizeVo) (by rw [ho,h7]) h1
theorem vo_new (w:World) (old:Array Value) (ho:old.size=7) (cs:Array Value) (h7:cs.size=7) (h1:cs.all (·.oneCell')=true): (rowStore 106 ⟨w.heap.size,0,none⟩ (.agg cs)).run Tryz.prog (w.alloc (.cells old 106))=.ok () (w.alloc (.cells cs 106)):=by
 have h:=vo_store (w:=w.alloc (.cells old 106)) (g:=w.heap.size) (old:=old) (heap_alloc_new w _) ho cs h7 h1
 rw [alloc_setRow] at h
 exact h
attribute [local go_sem ↓] rowLoad_vo rowStore_vo
def voteB (s:St):Bool:=decide (checkI s=0) && decide (s.kind=10) && decide (s.body= ⟨#[]⟩) && rightC s.a (s.b % 16) s.c (s.b / 16) s.list s.pins
def zeroVo:St×Sv×Sv:=(⟨0,0,⟨#[]⟩,0,0,0,0,0,[],[],⟨#[]⟩,0,⟨#[]⟩⟩,⟨none,0,0⟩,⟨none,0,0⟩)
theorem zeroVo_lies (P:Nat→Prop) (w:World):Lies P w zeroVo:=⟨Sl.nil _ _,Sl.nil _ _⟩
def OfR (s:St) (b:Nat) (e:Ending) (w' :World):Prop:=∃(y:St×Sv×Sv) (q:Int),e=.returned (.tuple #[voV y,.int .i64 q])∧((voteB s=true∧q=0∧y.1=s)∨(voteB s=false∧q≠0∧y=zeroVo))∧Lies (fun k=>b≤k) w' y
theorem OfR.no {s:St} {b:Nat} {w' :World} {q:Int} (h:voteB s=false) (hq:q≠0):OfR s b (.returned (.tuple #[.agg #[.int .i64 0,.int .i64 0,.int .i64 0,.int .i64 0,.int .i64 0,.slice none 0 0,.slice none 0 0],.int .i64 q])) w':=⟨zeroVo,q,rfl,.inr ⟨h,hq,rfl⟩,zeroVo_lies _ _⟩
theorem OfR.yes {s:St} {b:Nat} {w' :World} {la pa:Option Addr} {n1 n2 ca cp:Nat} (h:voteB s=true) (hl:Lies (fun k=>b≤k) w' (s,⟨la,n1,ca⟩,⟨pa,n2,cp⟩)):OfR s b (.returned (.tuple #[.agg #[.int .i64 s.author,.int .i64 s.a,.int .i64 (s.b % 16),.int .i64 s.c,.int .i64 (s.b / 16),.slice la n1 ca,.slice pa n2 cp],.int .i64 0])) w':=⟨_,0,rfl,.inl ⟨h,rfl,rfl⟩,hl⟩
def OfVCut (ws:World) (s:St) (n1 n2:Nat) (v:Value) (wx:World):Prop:=∃(g:Nat) (la pa:Option Addr) (ca cp:Nat),v=.pointer (some ⟨g,0,none⟩)∧Hid (wx.heap[g]? =some (.cells #[.int .i64 s.author,.int .i64 s.a,.int .i64 (s.b % 16),.int .i64 s.c,.int .i64 (s.b / 16),.slice la n1 ca,.slice pa n2 cp] 106 (0,0)))∧Hid (Lies (fun k=>ws.heap.size≤k) wx (s,⟨la,n1,ca⟩,⟨pa,n2,cp⟩))∧Hid (Ex ws.heap.size none ws wx)
section
variable {ws w1 w3:World} {s:St} {n1 n2 g:Nat} {la pa:Option Addr} {ca cp:Nat} {P:Nat→Prop}
theorem ofv_k1 (h1:Ex ws.heap.size none ws w1) (h3:Ex w1.heap.size none w1 w3) (hl:Lies P w3 (s,⟨la,n1,ca⟩,⟨pa,n2,cp⟩)) (hP:∀b,P b→w1.heap.size≤b):OfVCut ws s n1 n2 (.pointer (some ⟨w3.heap.size,0,none⟩)) (w3.alloc (.cells #[.int .i64 s.author,.int .i64 s.a,.int .i64 (s.b % 16),.int .i64 s.c,.int .i64 (s.b / 16),.slice la n1 ca,.slice pa n2 cp] 106)):=by
 have hz:=h1.size
 exact⟨_,la,pa,ca,cp,rfl,Lib.hid (heap_alloc_new _ _),Lib.hid ((hl.keep fun b _ hb=>at_oldX _ _ _ hb).mono fun b h _=>Nat.le_trans hz (hP b h)),Lib.hid ((h1.thenW h3).allocX _)⟩
theorem ofv_k2 (h1:Ex ws.heap.size none ws w1) (h3:Ex w1.heap.size none w1 w3) (hb:w3.heap[w1.heap.size]? =some (.cells #[.int .i64 0,.int .i64 0,.int .i64 0,.int .i64 0,.int .i64 0,.slice none 0 0,.slice none 0 0] 106 (0,0))) (hl:Lies P w3 (s,⟨la,n1,ca⟩,⟨pa,n2,cp⟩)) (hP:∀b,P b→w1.heap.size < b):OfVCut ws s n1 n2 (.pointer (some ⟨w1.heap.size,0,none⟩)) (w3.setRow w1.heap.size #[.int .i64 s.author,.int .i64 s.a,.int .i64 (s.b % 16),.int .i64 s.c,.int .i64 (s.b / 16),.slice la n1 ca,.slice pa n2 cp]):=by
 have hz:=h1.size
 exact⟨_,la,pa,ca,cp,rfl,Lib.hid (setRow_heap _ _ _ _ _ _ hb),Lib.hid ((hl.keep fun b hp _=>setRow_other _ _ _ _ (by have:=hP b hp;omega)).mono fun b h _=>by have:=hP b h;omega),Lib.hid ((h1.thenW h3).setRow _ _ (.inr hz))⟩
end
theorem voteB_chk {s:St} {q:Int} (h:checkI s=q) (hq:q≠0):voteB s=false:=by
 unfold voteB;rw [decide_eq_false (by rw [h];exact hq)];rfl
theorem voteB_kind {s:St} (h:s.kind≠10):voteB s=false:=by
 unfold voteB;rw [decide_eq_false h];simp
theorem voteB_body {s:St} (h:s.body≠⟨#[]⟩):voteB s=false:=by
 unfold voteB;rw [decide_eq_false h];simp
theorem voteB_right {s:St} {r:Bool} (h0:checkI s=0) (h1:s.kind=10) (h2:s.body= ⟨#[]⟩) (h3:r=rightC s.a (s.b % 16) s.c (s.b / 16) s.list s.pins):voteB s=r:=by
 unfold voteB;rw [decide_eq_true h0,decide_eq_true h1,decide_eq_true h2,←h3];rfl
set_option maxHeartbeats 16000000 in
set_option maxRecDepth 100000 in
theorem ofV_any {P:Nat→Prop} (x:St×Sv×Sv) (w:World) (hx:Lies P w x) (hm:x.1.list.length≤100000∧x.1.pins.length≤100000) :
 Calls Tryz.prog 73 #[stV x] w fun e w'=>OfR x.1 w.heap.size e w'∧Ex w.heap.size none w w':=by
 obtain⟨hln1,hln2⟩:=lies_len hx
 obtain⟨s,⟨lo,n1,lc⟩,⟨po,n2,pc⟩⟩:=x
 have e1:n1=s.list.length:=hln1
 have e2:n2=s.pins.length:=hln2
 have HN:Hid (s.list.length=n1∧s.pins.length=n2):=Lib.hid ⟨e1.symm,e2.symm⟩
 have HM:Hid (s.list.length≤100000∧s.pins.length≤100000):=Lib.hid hm
 have HLM:Hid (s.list.length≤9223372036854775807∧s.pins.length≤9223372036854775807):=Lib.hid (by have:=HM.out;omega)
 clear hln1 hln2 e1 e2 hm
 obtain⟨q,hq⟩:∃q,q=checkI s:=⟨_,rfl⟩
 have HQC:Hid (checkI s=q):=Lib.hid hq.symm
 clear hq
 obtain⟨ws,hws⟩:∃ws:World,ws= (w.alloc (.cells #[.int .i64 s.author,.int .i64 s.number,.string s.prev,.int .i64 s.time,.int .i64 s.kind,.int .i64 s.a,.int .i64 s.b,.int .i64 s.c,.slice lo n1 lc,.slice po n2 pc,.string s.body,.int .i64 s.key,.string s.dig] 51)).alloc (.cells #[.int .i64 0,.int .i64 0,.int .i64 0,.int .i64 0,.int .i64 0,.slice none 0 0,.slice none 0 0] 106):=⟨_,rfl⟩
 have HEs:Hid (Ex w.heap.size none w ws):=Lib.hid (by rw [hws];exact(Ex.new w _).alloc (by simp) _)
 have hzs:ws.heap.size=w.heap.size+2:=by rw [hws];simp
 have HB:Hid (∀w',Ex ws.heap.size none ws w'→w'.heap[w.heap.size]? =some (.cells #[.int .i64 s.author,.int .i64 s.number,.string s.prev,.int .i64 s.time,.int .i64 s.kind,.int .i64 s.a,.int .i64 s.b,.int .i64 s.c,.slice lo n1 lc,.slice po n2 pc,.string s.body,.int .i64 s.key,.string s.dig] 51 (0,0))∧w'.heap[w.heap.size+1]? =some (.cells #[.int .i64 0,.int .i64 0,.int .i64 0,.int .i64 0,.int .i64 0,.slice none 0 0,.slice none 0 0] 106 (0,0))):=Lib.hid (fun w' h=>by
  rw [hws] at h hzs
  exact⟨(h.block _ (by omega) (by simp)).trans (heap_alloc2_old _ _ _),(h.block _ (by omega) (by simp)).trans (heap_alloc2_new _ _ _)⟩)
 have HQ:Hid (∀w',Ex ws.heap.size none ws w'→(rowLoad 51 ⟨w.heap.size,0,none⟩).run Tryz.prog w' =.ok (.agg #[.int .i64 s.author,.int .i64 s.number,.string s.prev,.int .i64 s.time,.int .i64 s.kind,.int .i64 s.a,.int .i64 s.b,.int .i64 s.c,.slice lo n1 lc,.slice po n2 pc,.string s.body,.int .i64 s.key,.string s.dig]) w'∧w'.cell? ⟨w.heap.size,0,none⟩=some (.int .i64 s.author)∧w'.cell? ⟨w.heap.size,4,none⟩=some (.int .i64 s.kind)∧w'.cell? ⟨w.heap.size,5,none⟩=some (.int .i64 s.a)∧w'.cell? ⟨w.heap.size,6,none⟩=some (.int .i64 s.b)∧w'.cell? ⟨w.heap.size,7,none⟩=some (.int .i64 s.c)∧w'.cell? ⟨w.heap.size,8,none⟩=some (.slice lo n1 lc)∧w'.cell? ⟨w.heap.size,9,none⟩=some (.slice po n2 pc)∧w'.cell? ⟨w.heap.size,10,none⟩=some (.string s.body)):=Lib.hid (fun w' h=>by
  have k:=(HB.out w' h).1
  refine⟨stV_box (x:=(s,⟨lo,n1,lc⟩,⟨po,n2,pc⟩)) k,?_,?_,?_,?_,?_,?_,?_,?_⟩ <;> (rw [cell_of_row _ _ _ _ _ _ k];rfl))
 have HLX:Hid (∀w',Ex ws.heap.size none ws w'→Lies P w' (s,⟨lo,n1,lc⟩,⟨po,n2,pc⟩)):=Lib.hid (fun w' h=>hx.keep fun b _ hb=>(h.block b (by omega) (by simp)).trans (HEs.out.block b hb (by simp)))
 clear hx
 simp only [stV,stE,Sv.v]
 go_enter Tryz.func73,Tryz.ntmps73
 go_upto_region 1 with(fail)
 refine wp_world (fun W=>W=ws) (by rw [hws]) (fun W hW=>?_)
 rw [hW]
 clear hW W hws
 obtain⟨r0,c0,c4,c5,c6,c7,c8,c9,c10⟩:=HQ.out _ (Ex.refl _ _ ws)
 by_cases t0:q=0
 case neg=>
  have k0: (q != 0)=true:=by simp [t0]
  have HNO:Hid (voteB s=false∧q≠0):=Lib.hid ⟨voteB_chk HQC.out t0,t0⟩
  clear t0
  go_upto_region 3 with(first
  | (go_at_call 40
     refine(check_v (P:=P) (s,⟨lo,n1,lc⟩,⟨po,n2,pc⟩) _ (HLX.out _ (Ex.refl _ _ ws)) HLM.out).mono ?_
     rintro e w1 ⟨he,hex⟩
     rw [HQC.out] at he
     subst he
     have HE1:Hid (Ex ws.heap.size none ws w1):=Lib.hid hex
     clear hex r0 c0 c4 c5 c6 c7 c8 c9 c10
     obtain⟨r0,c0,c4,c5,c6,c7,c8,c9,c10⟩:=HQ.out _ HE1.out)
  | fail)
  have hst:=vo_store (g:=w.heap.size+1) (old:=#[.int .i64 0,.int .i64 0,.int .i64 0,.int .i64 0,.int .i64 0,.slice none 0 0,.slice none 0 0]) (HB.out _ HE1.out).2 rfl #[.int .i64 0,.int .i64 0,.int .i64 0,.int .i64 0,.int .i64 0,.slice none 0 0,.slice none 0 0] rfl (by simp [Value.oneCell'])
  go_wp2
  have hr:=vo_box (setRow_heap _ _ _ _ _ _ (HB.out _ HE1.out).2) #[.int .i64 0,.int .i64 0,.int .i64 0,.int .i64 0,.int .i64 0,.slice none 0 0,.slice none 0 0] rfl
  refine bodyPost_ret (v:=.tuple #[.agg #[.int .i64 0,.int .i64 0,.int .i64 0,.int .i64 0,.int .i64 0,.slice none 0 0,.slice none 0 0],.int .i64 q]) ?_ rfl ?_
  · rw [results_cell_tmp Tryz.results73]
    show((loadVar 106 ⟨w.heap.size+1,0,none⟩).run Tryz.prog _).andThen _=_
    rw [rowLoad_vo,hr]
    rfl
  exact⟨OfR.no HNO.out.1 HNO.out.2,(HEs.out.thenW HE1.out).setRow _ _ (.inr (by omega))⟩
 subst t0
 have hbb:0≤s.b∧s.b≤1099511627776:=by
  have h:=(checkI_right HQC.out).num
  simp only [numB,inB,M40,Bool.and_eq_true,decide_eq_true_eq] at h
  have h2:=h.1.1.1.2
  exact⟨h2.1,of_decide_eq_true h2.2⟩
 have hmd:Int.tmod s.b 16=s.b % 16:=Int.tmod_eq_emod_of_nonneg hbb.1
 have hdv:Int.tdiv s.b 16=s.b / 16:=Int.tdiv_eq_ediv_of_nonneg hbb.1
 have hwr:IntKind.i64.wrap (s.b / 16)=s.b / 16:=IntWalk.i64_in _ (by omega)
 go_upto_region 4 with(first
  | (go_at_call 40
     refine(check_v (P:=P) (s,⟨lo,n1,lc⟩,⟨po,n2,pc⟩) _ (HLX.out _ (Ex.refl _ _ ws)) HLM.out).mono ?_
     rintro e w1 ⟨he,hex⟩
     rw [HQC.out] at he
     subst he
     have HE1:Hid (Ex ws.heap.size none ws w1):=Lib.hid hex
     clear hex r0 c0 c4 c5 c6 c7 c8 c9 c10
     obtain⟨r0,c0,c4,c5,c6,c7,c8,c9,c10⟩:=HQ.out _ HE1.out)
  | fail)
 go_cut [5] from 12 to 31 (fun v wx=>OfVCut ws s n1 n2 v wx)
 case first=>
  have HQ6:Hid (∀w',Ex w1.heap.size none w1 w'→w'.cell? ⟨w.heap.size,0,none⟩=some (.int .i64 s.author)∧w'.cell? ⟨w.heap.size,5,none⟩=some (.int .i64 s.a)∧w'.cell? ⟨w.heap.size,6,none⟩=some (.int .i64 s.b)∧w'.cell? ⟨w.heap.size,7,none⟩=some (.int .i64 s.c)∧w'.cell? ⟨w.heap.size,8,none⟩=some (.slice lo n1 lc)∧w'.cell? ⟨w.heap.size,9,none⟩=some (.slice po n2 pc)):=Lib.hid (fun w' h=>by
   obtain⟨r0,c0,c4,c5,c6,c7,c8,c9,c10⟩:=HQ.out w' (Ex.thenW HE1.out h)
   exact⟨c0,c5,c6,c7,c8,c9⟩)
  clear r0 c4 c10
  go_region_held3 (fun w'=>w'.cell? ⟨w.heap.size,0,none⟩=some (.int .i64 s.author)∧w'.cell? ⟨w.heap.size,5,none⟩=some (.int .i64 s.a)∧w'.cell? ⟨w.heap.size,6,none⟩=some (.int .i64 s.b)∧w'.cell? ⟨w.heap.size,7,none⟩=some (.int .i64 s.c)∧w'.cell? ⟨w.heap.size,8,none⟩=some (.slice lo n1 lc)∧w'.cell? ⟨w.heap.size,9,none⟩=some (.slice po n2 pc)) (exact HQ6.out _ (by repeat(first | with_reducible exact HE3.out | with_reducible exact Ex.refl _ _ _ | with_reducible refine Ex.allocX ?_ _ | with_reducible refine Ex.drew ?_ | with_reducible refine Ex.setRow ?_ _ _ (.inr (Nat.le_refl _)))))
   (first
     | (go_at_call 104
        refine(copyV_any (P:=P) (s,⟨lo,n1,lc⟩,⟨po,n2,pc⟩) _ (HLX.out _ (Ex.thenW HE1.out (by repeat(first | with_reducible exact HE3.out | with_reducible exact Ex.refl _ _ _ | with_reducible refine Ex.allocX ?_ _ | with_reducible refine Ex.drew ?_ | with_reducible refine Ex.setRow ?_ _ _ (.inr (Nat.le_refl _)))))) HM.out).mono ?_
        rintro e w3 ⟨⟨la,na,ca⟩,⟨pa,np,cp⟩,he,hlie,hex⟩
        obtain⟨e1,e2⟩:na=n1∧np=n2:=⟨(lies_len hlie).1.trans HN.out.1,(lies_len hlie).2.trans HN.out.2⟩
        subst e1 e2
        have he2:e=.returned (.agg #[.slice la na ca,.slice pa np cp]):=he
        subst he2
        have HLC:=Lib.hid hlie
        have hst:=vo_new w3 #[.int .i64 0,.int .i64 0,.int .i64 0,.int .i64 0,.int .i64 0,.slice none 0 0,.slice none 0 0] rfl #[.int .i64 s.author,.int .i64 s.a,.int .i64 (s.b % 16),.int .i64 s.c,.int .i64 (s.b / 16),.slice la na ca,.slice pa np cp] rfl (by simp [Value.oneCell'])
        try(have HB3:Hid (w3.heap[w1.heap.size]? =some (.cells #[.int .i64 0,.int .i64 0,.int .i64 0,.int .i64 0,.int .i64 0,.slice none 0 0,.slice none 0 0] 106 (0,0))):=Lib.hid (Ex.atX hex (Nat.le_refl _) (by (repeat(first | with_reducible exact heap_alloc_new _ _ | with_reducible exact heap1dX _ _ _ | with_reducible refine heapDX ?_));first | done | fail)))
        try(have hst2:=vo_store HB3.out rfl #[.int .i64 s.author,.int .i64 s.a,.int .i64 (s.b % 16),.int .i64 s.c,.int .i64 (s.b / 16),.slice la na ca,.slice pa np cp] rfl (by simp [Value.oneCell']))
        have HE3:Hid (Ex w1.heap.size none w1 w3):=Lib.hid (Ex.thenBX (by repeat(first | with_reducible exact Ex.refl _ _ _ | with_reducible exact Ex.refl _ _ _ | with_reducible refine Ex.allocX ?_ _ | with_reducible refine Ex.drew ?_ | with_reducible refine Ex.setRow ?_ _ _ (.inr (Nat.le_refl _)))) (hex.mono (show Ex w1.heap.size none w1 _ from(by repeat(first | with_reducible exact Ex.refl _ _ _ | with_reducible exact Ex.refl _ _ _ | with_reducible refine Ex.allocX ?_ _ | with_reducible refine Ex.drew ?_ | with_reducible refine Ex.setRow ?_ _ _ (.inr (Nat.le_refl _))))).size))
        clear he hlie hex)
     | fail)
  all_goals go_wp2_with (fail)
  all_goals go_meet
  all_goals first
   | exact ofv_k1 HE1.out HE3.out HLC.out (fun b h=>by first | exact h | exact Nat.le_trans (by simp) h)
   | exact ofv_k2 HE1.out HE3.out HB3.out HLC.out (fun b h=>by simp at h;omega)
 case rest=>
  rename World=>w4
  obtain⟨g,la,pa,ca,cp,rfl,HG0,HL0,HE4⟩:=hcut
  have hgl:g < w4.heap.size:=(Array.getElem?_eq_some_iff.1 HG0.out).1
  have HGC:Hid (∀w',Ex w4.heap.size none w4 w'→(w'.cell? ⟨g,0,none⟩=some (.int .i64 s.author)∧w'.cell? ⟨g,1,none⟩=some (.int .i64 s.a)∧w'.cell? ⟨g,2,none⟩=some (.int .i64 (s.b % 16))∧w'.cell? ⟨g,3,none⟩=some (.int .i64 s.c)∧w'.cell? ⟨g,4,none⟩=some (.int .i64 (s.b / 16))∧w'.cell? ⟨g,5,none⟩=some (.slice la n1 ca)∧w'.cell? ⟨g,6,none⟩=some (.slice pa n2 cp))∧(rowLoad 106 ⟨g,0,none⟩).run Tryz.prog w' =.ok (.agg #[.int .i64 s.author,.int .i64 s.a,.int .i64 (s.b % 16),.int .i64 s.c,.int .i64 (s.b / 16),.slice la n1 ca,.slice pa n2 cp]) w'):=Lib.hid (fun w' h=>by
   have k:=h.at2 (Nat.le_refl _) HG0.out
   refine⟨⟨?_,?_,?_,?_,?_,?_,?_⟩,vo_box k _ rfl⟩ <;> (rw [cell_of_row _ _ _ _ _ _ k];rfl))
  clear r0 c0 c4 c5 c6 c7 c8 c9 c10
  obtain⟨r0,c0,c4,c5,c6,c7,c8,c9,c10⟩:=HQ.out _ HE4.out
  obtain⟨⟨g0,g1,g2,g3,g4,g5,g6⟩,rg⟩:=HGC.out _ (Ex.refl _ _ w4)
  by_cases t1:s.kind=10
  case neg=>
   have k1: (s.kind != 10)=true:=by simp [t1]
   have HNO:Hid (voteB s=false):=Lib.hid (voteB_kind t1)
   clear t1
   go_upto_region 6 with(fail)
   have hst:=vo_store (g:=w.heap.size+1) (old:=#[.int .i64 0,.int .i64 0,.int .i64 0,.int .i64 0,.int .i64 0,.slice none 0 0,.slice none 0 0]) (HB.out _ HE4.out).2 rfl #[.int .i64 0,.int .i64 0,.int .i64 0,.int .i64 0,.int .i64 0,.slice none 0 0,.slice none 0 0] rfl (by simp [Value.oneCell'])
   go_wp2
   have hr:=vo_box (setRow_heap _ _ _ _ _ _ (HB.out _ HE4.out).2) #[.int .i64 0,.int .i64 0,.int .i64 0,.int .i64 0,.int .i64 0,.slice none 0 0,.slice none 0 0] rfl
   refine bodyPost_ret (v:=.tuple #[.agg #[.int .i64 0,.int .i64 0,.int .i64 0,.int .i64 0,.int .i64 0,.slice none 0 0,.slice none 0 0],.int .i64 42]) ?_ rfl ?_
   · rw [results_cell_tmp Tryz.results73]
     show((loadVar 106 ⟨w.heap.size+1,0,none⟩).run Tryz.prog _).andThen _=_
     rw [rowLoad_vo,hr]
     rfl
   exact⟨OfR.no HNO.out (by decide),(HEs.out.thenW HE4.out).setRow _ _ (.inr (by omega))⟩
  have k1: (s.kind != 10)=false:=by simp [t1]
  have HT1:=Lib.hid t1
  clear t1
  by_cases t2:s.body= ⟨#[]⟩
  case neg=>
   obtain⟨k6a,k6b,k6c⟩:=nonempty_facts t2
   have HNO:Hid (voteB s=false):=Lib.hid (voteB_body t2)
   clear t2
   go_upto_region 6 with(fail)
   have hst:=vo_store (g:=w.heap.size+1) (old:=#[.int .i64 0,.int .i64 0,.int .i64 0,.int .i64 0,.int .i64 0,.slice none 0 0,.slice none 0 0]) (HB.out _ HE4.out).2 rfl #[.int .i64 0,.int .i64 0,.int .i64 0,.int .i64 0,.int .i64 0,.slice none 0 0,.slice none 0 0] rfl (by simp [Value.oneCell'])
   go_wp2
   have hr:=vo_box (setRow_heap _ _ _ _ _ _ (HB.out _ HE4.out).2) #[.int .i64 0,.int .i64 0,.int .i64 0,.int .i64 0,.int .i64 0,.slice none 0 0,.slice none 0 0] rfl
   refine bodyPost_ret (v:=.tuple #[.agg #[.int .i64 0,.int .i64 0,.int .i64 0,.int .i64 0,.int .i64 0,.slice none 0 0,.slice none 0 0],.int .i64 42]) ?_ rfl ?_
   · rw [results_cell_tmp Tryz.results73]
     show((loadVar 106 ⟨w.heap.size+1,0,none⟩).run Tryz.prog _).andThen _=_
     rw [rowLoad_vo,hr]
     rfl
   exact⟨OfR.no HNO.out (by decide),(HEs.out.thenW HE4.out).setRow _ _ (.inr (by omega))⟩
  obtain⟨k6a,k6b,k6c⟩:=empty_facts t2
  have k6:s.body.toList=[]:=by rw [t2];exact ByteArray.toList_eq _
  have HT2:=Lib.hid t2
  clear t2
  obtain⟨r,hr⟩:∃r,r=rightC s.a (s.b % 16) s.c (s.b / 16) s.list s.pins:=⟨_,rfl⟩
  have HR:=Lib.hid hr
  have HVR:Hid (voteB s=r):=Lib.hid (voteB_right HQC.out HT1.out HT2.out hr)
  clear hr
  have HRT:Hid (Calls Tryz.prog 105 #[.agg #[.int .i64 s.a,.int .i64 (s.b % 16),.int .i64 s.c,.int .i64 (s.b / 16)],.agg #[.slice la n1 ca,.slice pa n2 cp]] w4 fun e w'=>e=.returned (.bool r)∧Ex w4.heap.size none w4 w'):=Lib.hid (by
   rw [HR.out]
   exact rightV_any s.a (s.b % 16) s.c (s.b / 16) (s,⟨la,n1,ca⟩,⟨pa,n2,cp⟩) w4 HL0.out HM.out)
  cases r with
  | false=>
    go_upto_region 6 with(first
     | (go_at_call 105
        refine HRT.out.mono ?_
        rintro e w5 ⟨rfl,hex⟩
        have HE5:Hid (Ex ws.heap.size none ws w5):=Lib.hid (HE4.out.thenW hex)
        clear hex)
     | fail)
    have hst:=vo_store (g:=w.heap.size+1) (old:=#[.int .i64 0,.int .i64 0,.int .i64 0,.int .i64 0,.int .i64 0,.slice none 0 0,.slice none 0 0]) (HB.out _ HE5.out).2 rfl #[.int .i64 0,.int .i64 0,.int .i64 0,.int .i64 0,.int .i64 0,.slice none 0 0,.slice none 0 0] rfl (by simp [Value.oneCell'])
    go_wp2
    have hr:=vo_box (setRow_heap _ _ _ _ _ _ (HB.out _ HE5.out).2) #[.int .i64 0,.int .i64 0,.int .i64 0,.int .i64 0,.int .i64 0,.slice none 0 0,.slice none 0 0] rfl
    refine bodyPost_ret (v:=.tuple #[.agg #[.int .i64 0,.int .i64 0,.int .i64 0,.int .i64 0,.int .i64 0,.slice none 0 0,.slice none 0 0],.int .i64 42]) ?_ rfl ?_
    · rw [results_cell_tmp Tryz.results73]
      show((loadVar 106 ⟨w.heap.size+1,0,none⟩).run Tryz.prog _).andThen _=_
      rw [rowLoad_vo,hr]
      rfl
    exact⟨OfR.no HVR.out (by decide),(HEs.out.thenW HE5.out).setRow _ _ (.inr (by omega))⟩
  | true=>
    go_upto_region 7 with(first
     | (go_at_call 105
        refine HRT.out.mono ?_
        rintro e w5 ⟨rfl,hex⟩
        have HE5:Hid (Ex ws.heap.size none ws w5):=Lib.hid (HE4.out.thenW hex)
        have HE45:Hid (Ex w4.heap.size none w4 w5):=Lib.hid hex
        clear hex)
     | fail)
    clear g0 g1 g2 g3 g4 g5 g6 rg
    obtain⟨⟨g0,g1,g2,g3,g4,g5,g6⟩,rg⟩:=HGC.out _ HE45.out
    have hst:=vo_store (g:=w.heap.size+1) (old:=#[.int .i64 0,.int .i64 0,.int .i64 0,.int .i64 0,.int .i64 0,.slice none 0 0,.slice none 0 0]) (HB.out _ HE5.out).2 rfl #[.int .i64 s.author,.int .i64 s.a,.int .i64 (s.b % 16),.int .i64 s.c,.int .i64 (s.b / 16),.slice la n1 ca,.slice pa n2 cp] rfl (by simp [Value.oneCell'])
    go_wp2
    have hr:=vo_box (setRow_heap _ _ _ _ _ _ (HB.out _ HE5.out).2) #[.int .i64 s.author,.int .i64 s.a,.int .i64 (s.b % 16),.int .i64 s.c,.int .i64 (s.b / 16),.slice la n1 ca,.slice pa n2 cp] rfl
    refine bodyPost_ret (v:=.tuple #[.agg #[.int .i64 s.author,.int .i64 s.a,.int .i64 (s.b % 16),.int .i64 s.c,.int .i64 (s.b / 16),.slice la n1 ca,.slice pa n2 cp],.int .i64 0]) ?_ rfl ?_
    · rw [results_cell_tmp Tryz.results73]
      show((loadVar 106 ⟨w.heap.size+1,0,none⟩).run Tryz.prog _).andThen _=_
      rw [rowLoad_vo,hr]
      rfl
    exact⟨OfR.yes HVR.out ((HL0.out.keep fun b h hb=>(setRow_other _ _ _ _ (by omega)).trans (HE45.out.block b hb (by simp))).mono fun b h _=>by omega),(HEs.out.thenW HE5.out).setRow _ _ (.inr (by omega))⟩
end
section
attribute [local go_sem ↓] rowLoad_stv rowStore_stv rowLoad_vo rowStore_vo
theorem voV_one (y:St×Sv×Sv): (voE y).toArray.all (·.oneCell')=true:=by
 rw [Array.all_eq_true_iff_forall_mem]
 intro v hv
 exact one_voE y v (by simpa using hv)
def voteSB (s:St):Bool:=voteB s && sealedB s
def VtR (s:St) (b:Nat) (e:Ending) (w' :World):Prop:=∃y:St×Sv×Sv,e=.returned (.tuple #[voV y,.bool (voteSB s)])∧(voteB s=true→y.1=s)∧(voteB s=false→y=zeroVo)∧Lies (fun k=>b≤k) w' y
theorem voteB_check {s:St} (h:voteB s=true):checkI s=0:=by
 unfold voteB at h
 simp only [Bool.and_eq_true,decide_eq_true_eq] at h
 exact h.1.1.1
theorem OfR.parts {s:St} {b:Nat} {e:Ending} {w' :World} (h:OfR s b e w'):∃(y:St×Sv×Sv) (q:Int),e=.returned (.tuple #[voV y,.int .i64 q])∧((voteB s=true∧q=0∧y.1=s)∨(voteB s=false∧q≠0∧y=zeroVo))∧Lies (fun k=>b≤k) w' y:=h
def Vt (g:Nat) (y:St×Sv×Sv) (a w' :World):Prop:=Ex a.heap.size (some g) a w'∧(w'.heap[g]? =some (.cells #[.int .i64 0,.int .i64 0,.int .i64 0,.int .i64 0,.int .i64 0,.slice none 0 0,.slice none 0 0] 106 (0,0))∨w'.heap[g]? =some (.cells (voE y).toArray 106 (0,0)))
def Vs (g:Nat) (y:St×Sv×Sv) (w' :World):Prop:=w'.heap[g]? =some (.cells (voE y).toArray 106 (0,0))
section
variable {g:Nat} {y:St×Sv×Sv} {a w' w3:World}
theorem Vt.drew (h:Vt g y a w'):Vt g y a w'.drew:=⟨h.1.drew,h.2⟩
theorem Vt.store (h:Vt g y a w'): (rowStore 106 ⟨g,0,none⟩ (voV y)).run Tryz.prog w' =.ok () (w'.setRow g (voE y).toArray):=by
 rcases h.2 with h2 | h2
 · exact vo_store h2 rfl (voE y).toArray rfl (voV_one y)
 · exact vo_store h2 rfl (voE y).toArray rfl (voV_one y)
theorem Vt.set (h:Vt g y a w'):Vt g y a (w'.setRow g (voE y).toArray):=by
 refine⟨h.1.setRow _ _ (.inl rfl),.inr ?_⟩
 rcases h.2 with h2 | h2
 · exact setRow_heap _ _ _ _ _ _ h2
 · exact setRow_heap _ _ _ _ _ _ h2
theorem Vt.then (h:Vt g y a w') (k:Ex w'.heap.size none w' w3):Vt g y a w3:=by
 refine⟨h.1.trans (k.weaken (some g)) h.1.size (fun q hq _=>hq),?_⟩
 rcases h.2 with h2 | h2
 · exact .inl ((k.block g (Array.getElem?_eq_some_iff.1 h2).1 (by simp)).trans h2)
 · exact .inr ((k.block g (Array.getElem?_eq_some_iff.1 h2).1 (by simp)).trans h2)
theorem Vs.of (h:Vt g y a w'):Vs g y (w'.setRow g (voE y).toArray):=by
 rcases h.2 with h2 | h2
 · exact setRow_heap _ _ _ _ _ _ h2
 · exact setRow_heap _ _ _ _ _ _ h2
theorem Vs.then (h:Vs g y w') (k:Ex w'.heap.size none w' w3):Vs g y w3:=(k.block g (Array.getElem?_eq_some_iff.1 h).1 (by simp)).trans h
theorem Vs.load (h:Vs g y w'): (rowLoad 106 ⟨g,0,none⟩).run Tryz.prog w' =.ok (voV y) w':=vo_box h _ rfl
end
set_option maxHeartbeats 16000000 in
set_option maxRecDepth 100000 in
theorem vote_any {P:Nat→Prop} (x:St×Sv×Sv) (w:World) (hx:Lies P w x) (hm:x.1.list.length≤100000∧x.1.pins.length≤100000) :
 Calls Tryz.prog 91 #[stV x] w fun e w'=>VtR x.1 w.heap.size e w'∧Ex w.heap.size none w w':=by
 have HM:=Lib.hid hm
 clear hm
 obtain⟨ws,hws⟩:∃ws:World,ws= (w.alloc (.cells (stV x).cells 51)).alloc (.cells #[.int .i64 0,.int .i64 0,.int .i64 0,.int .i64 0,.int .i64 0,.slice none 0 0,.slice none 0 0] 106):=⟨_,rfl⟩
 have HEs:Hid (Ex w.heap.size none w ws):=Lib.hid (by rw [hws];exact(Ex.new w _).alloc (by simp) _)
 have hzs:ws.heap.size=w.heap.size+2:=by rw [hws];simp
 have HB:Hid (∀w',Ex ws.heap.size none ws w'→w'.heap[w.heap.size]? =some (.cells (stV x).cells 51 (0,0))∧w'.heap[w.heap.size+1]? =some (.cells #[.int .i64 0,.int .i64 0,.int .i64 0,.int .i64 0,.int .i64 0,.slice none 0 0,.slice none 0 0] 106 (0,0))):=Lib.hid (fun w' h=>by
  rw [hws] at h hzs
  exact⟨(h.block _ (by omega) (by simp)).trans (heap_alloc2_old _ _ _),(h.block _ (by omega) (by simp)).trans (heap_alloc2_new _ _ _)⟩)
 have HQ:Hid (∀w',Ex ws.heap.size none ws w'→(rowLoad 51 ⟨w.heap.size,0,none⟩).run Tryz.prog w' =.ok (stV x) w'):=Lib.hid (fun w' h=>stV_box (HB.out w' h).1)
 have HLX:Hid (∀w',Ex ws.heap.size none ws w'→Lies P w' x):=Lib.hid (fun w' h=>hx.keep fun b _ hb=>(h.block b (by omega) (by simp)).trans (HEs.out.block b hb (by simp)))
 have HX:=Lib.hid hx
 clear hx
 have hnx:=stV_new w #[.int .i64 0,.int .i64 0,.string ⟨#[]⟩,.int .i64 0,.int .i64 0,.int .i64 0,.int .i64 0,.int .i64 0,.slice none 0 0,.slice none 0 0,.string ⟨#[]⟩,.int .i64 0,.string ⟨#[]⟩] x rfl
 go_enter Tryz.func91,Tryz.ntmps91
 go_upto_region 1 with(fail)
 refine wp_world (fun W=>W=ws) (by rw [hws];rfl) (fun W hW=>?_)
 rw [hW]
 clear hW W hws hnx
 have r0:=HQ.out _ (Ex.refl _ _ ws)
 go_upto_region 2 with(first
  | (go_at_call 73
     refine(ofV_any (P:=P) x ws (HLX.out ws (Ex.refl _ _ ws)) HM.out).mono ?_
     rintro e w1 ⟨hof,hex⟩
     obtain⟨y,q,rfl,hor,hly⟩:=hof.parts
     have HOR:=Lib.hid hor
     have HLY:=Lib.hid hly
     have HE1:Hid (Ex ws.heap.size none ws w1):=Lib.hid hex
     clear hof hor hly hex r0
     have hn1: (rowStore 106 ⟨w1.heap.size,0,none⟩ (voV y)).run Tryz.prog (w1.alloc (.cells #[.int .i64 0,.int .i64 0,.int .i64 0,.int .i64 0,.int .i64 0,.slice none 0 0,.slice none 0 0] 106))=.ok () (w1.alloc (.cells (voE y).toArray 106)):=vo_new w1 _ rfl (voE y).toArray rfl (voV_one y)
     have r0:=HQ.out _ HE1.out)
  | fail)
 refine wp_world (fun W=>W=w1.alloc (.cells (voE y).toArray 106)) rfl (fun W hW=>?_)
 obtain⟨w2,hw2⟩:∃w2:World,w2=W:=⟨_,rfl⟩
 rw [←hw2] at hW ⊢
 clear hw2 W hn1
 have hz1:ws.heap.size≤w1.heap.size:=HE1.out.size
 have HE2:Hid (Ex ws.heap.size none ws w2):=Lib.hid (by rw [hW];exact HE1.out.alloc HE1.out.size _)
 have HG2:Hid (w2.heap[w1.heap.size]? =some (.cells (voE y).toArray 106 (0,0))):=Lib.hid (by rw [hW];exact heap_alloc_new _ _)
 have hz2:w2.heap.size=w1.heap.size+1:=by rw [hW];simp
 have HL2:Hid (∀w',Ex w2.heap.size (some (w.heap.size+1)) w2 w'→Lies (fun k=>ws.heap.size≤k) w' y):=Lib.hid (fun w' h=>HLY.out.keep fun b hb hlt=>(h.block b (by omega) (by simp;omega)).trans (by rw [hW];exact at_oldX _ _ _ hlt))
 have HV2:Hid (Vt (w.heap.size+1) y w2 w2):=Lib.hid ⟨Ex.refl _ _ _,.inl (HB.out _ HE2.out).2⟩
 clear hW r0
 have HS:Hid (∀w',Vt (w.heap.size+1) y w2 w'→(rowLoad 51 ⟨w.heap.size,0,none⟩).run Tryz.prog w' =.ok (stV x) w'∧(rowLoad 106 ⟨w1.heap.size,0,none⟩).run Tryz.prog w' =.ok (voV y) w'∧(rowStore 106 ⟨w.heap.size+1,0,none⟩ (voV y)).run Tryz.prog w' =.ok () (w'.setRow (w.heap.size+1) (voE y).toArray)):=Lib.hid (fun w' h=>by
  refine⟨stV_box ((h.1.block w.heap.size (by omega) (by simp)).trans (HB.out _ HE2.out).1),vo_box ((h.1.block w1.heap.size (by omega) (by simp;omega)).trans HG2.out) _ rfl,h.store⟩)
 have HLS:Hid (∀w',Vt (w.heap.size+1) y w2 w'→Lies P w' x):=Lib.hid (fun w' h=>HX.out.keep fun b _ hb=>(h.1.block b (by omega) (by simp;omega)).trans ((HE2.out.block b (by omega) (by simp)).trans (HEs.out.block b hb (by simp))))
 have HEE:Hid (∀w',Vt (w.heap.size+1) y w2 w'→Ex w.heap.size none w w'∧Lies (fun k=>w.heap.size≤k) w' y):=Lib.hid (fun w' h=>⟨(HEs.out.trans HE2.out (by omega) (by simp)).trans h.1 (by omega) (fun q hq hlt=>by simp at hq;omega),(HL2.out w' h.1).mono fun b hb _=>by omega⟩)
 obtain⟨r0,r1,s1⟩:=HS.out _ HV2.out
 rcases HOR.out with⟨hv,hq,hy⟩ | ⟨hv,hq,hy⟩
 · subst hq
   obtain⟨b,hb⟩:∃b,b=sealedB x.1:=⟨_,rfl⟩
   have HSB:Hid (sealedB x.1=b):=Lib.hid hb.symm
   have HVS:Hid (voteSB x.1=b):=Lib.hid (by unfold voteSB;rw [hv,←hb];rfl)
   have HY:Hid (y.1=x.1∧voteB x.1=true):=Lib.hid ⟨hy,hv⟩
   have HT:Hid (Tame x.1):=Lib.hid (checkI_tame (voteB_check hv))
   clear hv hy hb
   go_region_held3 (fun w'=>(rowLoad 51 ⟨w.heap.size,0,none⟩).run Tryz.prog w' =.ok (stV x) w'∧(rowLoad 106 ⟨w1.heap.size,0,none⟩).run Tryz.prog w' =.ok (voV y) w'∧(rowStore 106 ⟨w.heap.size+1,0,none⟩ (voV y)).run Tryz.prog w' =.ok () (w'.setRow (w.heap.size+1) (voE y).toArray)) (exact HS.out _ (by repeat(first | with_reducible exact HV3.out | with_reducible exact HV2.out | with_reducible refine Vt.drew ?_ | with_reducible refine Vt.set ?_)))
    (first
      | (go_at_call 41
         refine(sealed_v (P:=P) x _ (HLS.out _ (by repeat(first | with_reducible exact HV3.out | with_reducible exact HV2.out | with_reducible refine Vt.drew ?_ | with_reducible refine Vt.set ?_))) HT.out).mono ?_
         rw [HSB.out]
         rintro e w3 ⟨rfl,hex⟩
         have HV3:Hid (Vt (w.heap.size+1) y w2 w3):=Lib.hid (Vt.then (by repeat(first | with_reducible exact HV3.out | with_reducible exact HV2.out | with_reducible refine Vt.drew ?_ | with_reducible refine Vt.set ?_)) hex)
         try(have HS3:Hid (Vs (w.heap.size+1) y w3):=Lib.hid (Vs.then (by (first | with_reducible exact Vs.of HV2.out | with_reducible exact Vs.of (HV2.out).drew);first | done | fail) hex))
         clear hex)
      | fail)
   all_goals go_wp2_with (fail)
   all_goals refine bodyPost_ret (v:=.tuple #[voV y,.bool b]) ?_ rfl ?_
   all_goals first
    | (rw [results_cell_tmp Tryz.results91]
       show((loadVar 106 ⟨w.heap.size+1,0,none⟩).run Tryz.prog _).andThen _=_
       first
       | (rw [rowLoad_vo,Vs.load HS3.out];rfl)
       | (rw [rowLoad_vo,Vs.load (Vs.of HV3.out)];rfl))
    | exact⟨⟨y,by rw [HVS.out],fun _=>HY.out.1,fun h=>absurd (HY.out.2.symm.trans h) (by decide),(HEE.out _ HV3.out).2⟩,(HEE.out _ HV3.out).1⟩
    | exact⟨⟨y,by rw [HVS.out],fun _=>HY.out.1,fun h=>absurd (HY.out.2.symm.trans h) (by decide),(HEE.out _ HV3.out.set).2⟩,(HEE.out _ HV3.out.set).1⟩
 · have kq: (q == 0)=false:=by simpa using hq
   have HVS:Hid (voteSB x.1=false):=Lib.hid (by unfold voteSB;rw [hv];rfl)
   have HY:Hid (y=zeroVo∧voteB x.1=false):=Lib.hid ⟨hy,hv⟩
   clear hv hy hq
   clear r0 r1 s1
   obtain⟨r0,r1,s1⟩:=HS.out _ HV2.out.drew
   go_region_with (fail)
   all_goals go_wp2_with (fail)
   all_goals refine bodyPost_ret (v:=.tuple #[voV y,.bool false]) ?_ rfl ?_
   all_goals first
    | (rw [results_cell_tmp Tryz.results91]
       show((loadVar 106 ⟨w.heap.size+1,0,none⟩).run Tryz.prog _).andThen _=_
       first
       | (rw [rowLoad_vo,Vs.load (Vs.of HV2.out)];rfl)
       | (rw [rowLoad_vo,Vs.load (Vs.of HV2.out.drew)];rfl))
    | exact⟨⟨y,by rw [HVS.out],fun h=>absurd (HY.out.2.symm.trans h) (by decide),fun _=>HY.out.1,(HEE.out _ HV2.out.set).2⟩,(HEE.out _ HV2.out.set).1⟩
    | exact⟨⟨y,by rw [HVS.out],fun h=>absurd (HY.out.2.symm.trans h) (by decide),fun _=>HY.out.1,(HEE.out _ HV2.out.drew.set).2⟩,(HEE.out _ HV2.out.drew.set).1⟩
end
section
def ordV (s t:St):Int:=lexC (fun a b:St=>cmpI a.author b.author) ordC s t
theorem good_ordV:GoodC ordV:=GoodC.lex (GoodC.on (fun s:St=>s.author) good_cmpI) good_ordC
theorem ordV_find (s t:St): ([cmpI s.author t.author,ordC s t].find? (· != 0)).getD 0=ordV s t:=by rw [find2];rfl
def LightS (s:St):Prop:=s.list.length≤100000∧s.pins.length≤100000
set_option maxHeartbeats 4000000 in
set_option maxRecDepth 100000 in
theorem votes1_any {P Q:Nat→Prop} (x y:St×Sv×Sv) (w:World) (hx:Lies P w x) (hy:Lies Q w y) (hm:LightS x.1) (hk:LightS y.1) :
 Calls Tryz.prog 95 #[.agg (voE x).toArray,.agg (voE y).toArray] w fun e w'=>e=.returned (.int .i64 (ordV x.1 y.1))∧Gr w w':=by
 have HLI:Hid (∀w',Gr w w'→Lies P w' x∧Lies Q w' y):=Lib.hid (fun w' h=>⟨hx.keep fun b _ hb=>h.ex.block b hb (by simp),hy.keep fun b _ hb=>h.ex.block b hb (by simp)⟩)
 have HM:=Lib.hid (And.intro hm hk)
 obtain⟨z,hz⟩:∃z,z=ordC x.1 y.1:=⟨_,rfl⟩
 have HO:Hid (∀w',Gr w w'→Calls Tryz.prog 74 #[coV x,coV y] w' fun e w''=>e=.returned (.int .i64 z)∧Gr w' w''):=Lib.hid (fun w' h=>by rw [hz];exact orderV_any x y w' (HLI.out w' h).1 (HLI.out w' h).2 HM.out.1 HM.out.2)
 obtain⟨s,⟨lo,n1,lc⟩,⟨po,n2,pc⟩⟩:=x
 obtain⟨t,⟨lo',n3,lc'⟩,⟨po',n4,pc'⟩⟩:=y
 rw [←ordV_find,←hz]
 simp only [voE,Sv.v,coV] at HO ⊢
 clear hx hy hm hk hz
 obtain⟨w2,hw2⟩:∃w2:World,w2= (w.alloc (.cells #[.int .i64 s.author,.int .i64 s.a,.int .i64 (s.b % 16),.int .i64 s.c,.int .i64 (s.b / 16),.slice lo n1 lc,.slice po n2 pc] 106)).alloc (.cells #[.int .i64 t.author,.int .i64 t.a,.int .i64 (t.b % 16),.int .i64 t.c,.int .i64 (t.b / 16),.slice lo' n3 lc',.slice po' n4 pc'] 106):=⟨_,rfl⟩
 have HG2:Hid (Gr w w2):=Lib.hid (by rw [hw2];exact((Gr.refl w).alloc _).alloc _)
 have HB1:Hid (w2.heap[w.heap.size]? =some (.cells #[.int .i64 s.author,.int .i64 s.a,.int .i64 (s.b % 16),.int .i64 s.c,.int .i64 (s.b / 16),.slice lo n1 lc,.slice po n2 pc] 106 (0,0))):=Lib.hid (by rw [hw2];exact heap_alloc2_old _ _ _)
 have HB2:Hid (w2.heap[w.heap.size+1]? =some (.cells #[.int .i64 t.author,.int .i64 t.a,.int .i64 (t.b % 16),.int .i64 t.c,.int .i64 (t.b / 16),.slice lo' n3 lc',.slice po' n4 pc'] 106 (0,0))):=Lib.hid (by rw [hw2];exact heap_alloc2_new _ _ _)
 have HQ:Hid (∀w',Gr w2 w'→w'.cell? ⟨w.heap.size,0,none⟩=some (.int .i64 s.author)∧w'.cell? ⟨w.heap.size,5,none⟩=some (.slice lo n1 lc)∧w'.cell? ⟨w.heap.size,6,none⟩=some (.slice po n2 pc)∧w'.cell? ⟨w.heap.size+1,0,none⟩=some (.int .i64 t.author)∧w'.cell? ⟨w.heap.size+1,5,none⟩=some (.slice lo' n3 lc')∧w'.cell? ⟨w.heap.size+1,6,none⟩=some (.slice po' n4 pc')):=Lib.hid (fun w' h=>by
  have k1:=h.ex.at2 (Nat.le_refl _) HB1.out
  have k2:=h.ex.at2 (Nat.le_refl _) HB2.out
  refine⟨?_,?_,?_,?_,?_,?_⟩
  · rw [cell_of_row _ _ _ _ _ _ k1];rfl
  · rw [cell_of_row _ _ _ _ _ _ k1];rfl
  · rw [cell_of_row _ _ _ _ _ _ k1];rfl
  · rw [cell_of_row _ _ _ _ _ _ k2];rfl
  · rw [cell_of_row _ _ _ _ _ _ k2];rfl
  · rw [cell_of_row _ _ _ _ _ _ k2];rfl)
 go_enter Tryz.func95,Tryz.ntmps95
 go_upto_region 1 with(fail)
 refine wp_world (fun W=>W=w2) (by rw [hw2]) (fun W hW=>?_)
 rw [hW]
 clear hW W hw2
 obtain⟨c0,c1,c2,c3,c4,c5⟩:=HQ.out w2 (Gr.refl _)
 go_region_held3 (fun w'=>w'.cell? ⟨w.heap.size,0,none⟩=some (.int .i64 s.author)∧w'.cell? ⟨w.heap.size,5,none⟩=some (.slice lo n1 lc)∧w'.cell? ⟨w.heap.size,6,none⟩=some (.slice po n2 pc)∧w'.cell? ⟨w.heap.size+1,0,none⟩=some (.int .i64 t.author)∧w'.cell? ⟨w.heap.size+1,5,none⟩=some (.slice lo' n3 lc')∧w'.cell? ⟨w.heap.size+1,6,none⟩=some (.slice po' n4 pc')) (exact HQ.out _ (by repeat(first | with_reducible exact HG6.out | with_reducible exact HG5.out | with_reducible exact HG4.out | with_reducible exact Gr.refl _ | with_reducible refine Gr.alloc ?_ _ | with_reducible refine Gr.drew ?_)))
  (first
    | (go_at_call 58;refine(compare_any _ _ _).mono ?_;rintro e w' ⟨rfl,rfl⟩)
    | (go_at_call 74
       refine(HO.out _ (HG2.out.trans (by repeat(first | with_reducible exact HG6.out | with_reducible exact HG5.out | with_reducible exact HG4.out | with_reducible exact Gr.refl _ | with_reducible refine Gr.alloc ?_ _ | with_reducible refine Gr.drew ?_)))).mono ?_
       rintro e w4 ⟨rfl,hg⟩
       have HG4:Hid (Gr w2 w4):=Lib.hid (Gr.trans (by repeat(first | with_reducible exact HG6.out | with_reducible exact HG5.out | with_reducible exact HG4.out | with_reducible exact Gr.refl _ | with_reducible refine Gr.alloc ?_ _ | with_reducible refine Gr.drew ?_)) hg)
       clear hg)
    | (go_at_call 57
       refine(cmpOr_any _ [cmpI s.author t.author,z] _ (by first | exact Ints.keep (Ints.lit [cmpI s.author t.author,z] (by simp) rfl) (Ex.refl _ none _).drew (Nat.le_refl _) | exact Ints.lit [cmpI s.author t.author,z] (by simp) rfl) (by simp)).mono ?_
       rintro e w6 ⟨rfl,hw⟩
       have HG6:Hid (Gr w2 w6):=Lib.hid (by rw [←hw];exact(by repeat(first | with_reducible exact HG6.out | with_reducible exact HG5.out | with_reducible exact HG4.out | with_reducible exact Gr.refl _ | with_reducible refine Gr.alloc ?_ _ | with_reducible refine Gr.drew ?_)))
       clear hw)
    | fail)
 go_wp2
 go_ret
 exact⟨rfl,HG2.out.trans HG6.out⟩
attribute [local go_sem ↓] rowLoad_vo rowStore_vo
set_option maxHeartbeats 4000000 in
set_option maxRecDepth 100000 in
theorem votes2_any {P Q:Nat→Prop} (c:Nat) (x y:St×Sv×Sv) (w:World) (hx:Lies P w x) (hy:Lies Q w y) (hm:LightS x.1) (hk:LightS y.1) (hc:w.heap[c]? =some (.cells #[.func (.func 95) #[] #[]] 132 (0,0))) :
 Calls Tryz.prog 98 #[.agg (voE x).toArray,.agg (voE y).toArray,.pointer (some ⟨c,0,none⟩)] w fun e w'=>e=.returned (.bool (decide (ordV x.1 y.1=0)))∧Gr w w':=by
 obtain⟨z,hz⟩:∃z,z=ordV x.1 y.1:=⟨_,rfl⟩
 have HO:Hid (∀W,Gr w W→Calls Tryz.prog 95 #[voV x,voV y] W fun e w'=>e=.returned (.int .i64 z)∧Gr W w'):=Lib.hid (fun W h=>by rw [hz];exact votes1_any x y W (hx.keep fun b _ hb=>h.ex.block b hb (by simp)) (hy.keep fun b _ hb=>h.ex.block b hb (by simp)) hm hk)
 rw [←hz,show decide (z=0)= (z == 0) from rfl]
 clear hz hx hy hm hk
 show Calls Tryz.prog _ #[voV x,voV y,.pointer (some ⟨c,0,none⟩)] w _
 obtain⟨ws,hws⟩:∃ws:World,ws= (w.alloc (.cells (voE x).toArray 106)).alloc (.cells (voE y).toArray 106):=⟨_,rfl⟩
 have HGs:Hid (Gr w ws):=Lib.hid (by rw [hws];exact((Gr.refl w).alloc _).alloc _)
 have c0:ws.cell? ⟨c,0,none⟩=some (.func (.func 95) #[] #[]):=by
  rw [cell_of_row _ _ _ _ _ _ (HGs.out.ex.at2 (Nat.le_refl _) hc)];rfl
 have r0: (rowLoad 106 ⟨w.heap.size,0,none⟩).run Tryz.prog ws=.ok (voV x) ws:=vo_box (by rw [hws];exact heap_alloc2_old _ _ _) _ rfl
 have r1: (rowLoad 106 ⟨w.heap.size+1,0,none⟩).run Tryz.prog ws=.ok (voV y) ws:=vo_box (by rw [hws];exact heap_alloc2_new _ _ _) _ rfl
 clear hc
 go_enter Tryz.func98,Tryz.ntmps98
 go_upto_region 1 with(fail)
 refine wp_world (fun W=>W=ws) (by rw [hws];rfl) (fun W hW=>?_)
 rw [hW]
 clear hW W hws
 go_wp2_with (first
  | (go_at_call 95
     refine(HO.out ws HGs.out).mono ?_
     rintro e w1 ⟨rfl,hg⟩
     have HG1:=Lib.hid hg
     clear hg)
  | fail)
 go_ret
 exact⟨by rfl,HGs.out.trans HG1.out⟩
abbrev VoIn (P:Nat→Prop) (w:World):Type:={x:St×Sv×Sv // Lies P w x∧LightS x.1}
instance (P:Nat→Prop) (w:World):Inhabited (VoIn P w):=⟨⟨zeroVo,zeroVo_lies P w,Nat.zero_le _,Nat.zero_le _⟩⟩
theorem sortVotes_none (p:Option Addr) (cap:Nat) (fv:Value) (w:World):Calls Tryz.prog 96 #[.slice p 0 cap,fv] w fun e w'=>e=.returned (.tuple #[])∧w' =w :=
 AnyF.slices_SortFunc_none Tryz.pdqVo p cap fv w
set_option maxHeartbeats 1000000 in
theorem compactVotes_none (p:Option Addr) (cap:Nat) (fv:Value) (w:World):Calls Tryz.prog 97 #[.slice p 0 cap,fv] w fun e w'=>e=.returned (.slice p 0 cap)∧w' =w:=by
 go_enter Tryz.func97,Tryz.ntmps97
 go_wp2
 go_ret
 exact⟨rfl,rfl⟩
theorem sortVotes_any {P:Nat→Prop} (w0:World) (g off cap n:Nat) (d:Array (VoIn P w0)) (w:World) (hP : ¬P g) (h0:∀b,P b→b < w0.heap.size→w.heap[b]? =w0.heap[b]?) (hz:w0.heap.size≤w.heap.size) (hH:HoldsK (fun x:VoIn P w0=>voE x.1) 7 w g off d) (hg:g < w.heap.size) (hn:d.size=n) (hsz:n < 4611686018427387904) :
 Calls Tryz.prog 96 #[.slice (some ⟨g,off,none⟩) n cap,.func (.func 95) #[] #[]] w fun e w'=>
  e=.returned (.tuple #[])∧∃d' :Array (VoIn P w0),HoldsK (fun x:VoIn P w0=>voE x.1) 7 w' g off d'∧d'.size=n∧d'.toList.Perm d.toList∧SortedIn (ltOf fun x y:VoIn P w0=>ordV x.1.1 y.1.1) 0 d'.size d'∧Ex w.heap.size (some g) w w':=by
 subst hn
 have hne:∀b,P b→b≠g:=fun b h e=>hP (e ▸ h)
 refine(AnyQ.slices_SortFunc Tryz.pdqVo 7 Tryz.isAgg106 Tryz.sizeOf106 (fun x:VoIn P w0=>voE x.1) (fun _=>rfl) (fun x=>one_voE x.1) (fun x y:VoIn P w0=>ordV x.1.1 y.1.1) (GoodC.on (fun x:VoIn P w0=>x.1.1) good_ordV).swo 95 #[] g off cap d w
  (enters_of Tryz.func95 (by kernel_rfl) rfl) (fun m os dk _ x y=>votes1_any x.1 y.1 _ (x.2.1.keep fun b hb hlt=>((ex_sortWorldK _ 7 w g off m dk os).block b (by omega) (by simp;exact hne b hb)).trans (h0 b hb hlt)) (y.2.1.keep fun b hb hlt=>((ex_sortWorldK _ 7 w g off m dk os).block b (by omega) (by simp;exact hne b hb)).trans (h0 b hb hlt)) x.2.2 y.2.2) hH hg hsz).mono ?_
 rintro e w' ⟨rfl,d',n,os,hp,hs,rfl⟩
 exact⟨rfl,d',holdsK_sortWorldK_c (fun x:VoIn P w0=>voE x.1) 7 w g off d _ n os hH hg hp.1,hp.1,permIn_list hp,by rw [hp.1];exact hs,ex_sortWorldK _ 7 w g off n _ os⟩
theorem compactVotes_any {P:Nat→Prop} (w0:World) (g cap n c:Nat) (d:Array (VoIn P w0)) (w:World) (hP : ¬P g) (h0:∀b,P b→b < w0.heap.size→w.heap[b]? =w0.heap[b]?) (hz:w0.heap.size≤w.heap.size) (hH:HoldsK (fun x:VoIn P w0=>voE x.1) 7 w g 0 d) (hg:g < w.heap.size) (hs:d.size=n) (hsz:n < 1000000000000) (hcap:n≤cap)
 (hc:w.heap[c]? =some (.cells #[.func (.func 95) #[] #[]] 132 (0,0))) (hne:c≠g) :
 Calls Tryz.prog 97 #[.slice (some ⟨g,0,none⟩) n cap,.func (.func 98) #[] #[.pointer (some ⟨c,0,none⟩)]] w fun e w'=>
  e=.returned (.slice (some ⟨g,0,none⟩) (cpt (fun x y:VoIn P w0=>decide (ordV x.1.1 y.1.1=0)) d n).length cap)∧HoldsK (fun x:VoIn P w0=>voE x.1) 7 w' g 0 (cpt (fun x y:VoIn P w0=>decide (ordV x.1.1 y.1.1=0)) d n).toArray∧Ex w.heap.size (some g) w w' :=
 have hnb:∀b,P b→b≠g:=fun b h e=>hP (e ▸ h)
 compactWVo_any clayVo (fun x:VoIn P w0=>voE x.1) (fun _=>rfl) (fun x=>one_voE x.1) (fun x y:VoIn P w0=>decide (ordV x.1.1 y.1.1=0)) 98 #[.pointer (some ⟨c,0,none⟩)] (enters_of Tryz.func98 (by kernel_rfl) rfl)
  Tryz.func97 _ Tryz.zeroValue106 rfl (by decide) Tryz.underlying135 Tryz.isAgg135 Tryz.sizeOf135
  g 0 cap n d w hH hg (by omega) (by omega) hs (fun w' h x y=>votes2_any c x.1 y.1 w' (x.2.1.keep fun b hb hlt=>(h.block b (by omega) (by simp;exact hnb b hb)).trans (h0 b hb hlt)) (y.2.1.keep fun b hb hlt=>(h.block b (by omega) (by simp;exact hnb b hb)).trans (h0 b hb hlt)) x.2.2 y.2.2 ((h.block c (Array.getElem?_eq_some_iff.1 hc).1 (by simp;omega)).trans hc))
end
section
attribute [local go_sem ↓] rowLoad_stv rowStore_stv
def caseB (e kd sl rd:Int) (s:St):Bool:=decide (s.a=e) && decide (s.b % 16=kd) && decide (s.c=sl) && decide (s.b / 16=rd)
def inCase (e kd sl rd:Int) (s:St):Bool:=voteSB s && caseB e kd sl rd s
def VotesR (l:List St) (e kd sl rd:Int) (vs:List St):Prop:=(∀x∈vs,x∈l∧inCase e kd sl rd x=true)∧vs.Pairwise (fun x y=>ordV x y < 0)
def voRep:Rep St where
 k:=7
 R:=fun P w cs s=>∃l p,cs=voE (s,l,p)∧Lies P w (s,l,p)
 len:=fun⟨l,p,h,_⟩=>by subst h;exact voE_len _
 one:=fun⟨l,p,h,_⟩=>by subst h;exact one_voE _
 keep:=fun⟨l,p,h,hs⟩ hx=>⟨l,p,h,hs.keep hx⟩
 mono:=fun⟨l,p,h,hs⟩ hx=>⟨l,p,h,hs.mono hx⟩
theorem vo_sl {P:Nat→Prop} {w:World} {g:Nat} {xs:List (St×Sv×Sv)} (hP:P g) (h:HoldsK voE 7 w g 0 xs.toArray) (hl:∀x∈xs,Lies P w x):SlAt voRep P w (some ⟨g,0,none⟩) (xs.map (·.1)):=fun i hi=>by
 have hi' :i < xs.length:=by simpa using hi
 refine⟨g,0,voE xs[i],rfl,hP,?_,xs[i].2.1,xs[i].2.2,by simp,by simpa using hl _ (List.getElem_mem hi')⟩
 have:=holdsK_range voE_len h i (by simpa using hi')
 rwa [getElem!_pos xs.toArray i hi',List.getElem_toArray] at this
theorem holds_to {α β:Type} [Inhabited α] [Inhabited β] {f:β→α} {enc:α→List Value} {k g off:Nat} {w:World} {d:Array β} (h:HoldsK enc k w g off (d.map f)):HoldsK (fun x=>enc (f x)) k w g off d:=holdsK_of fun i c hi hc=>by
 have:=h.cell (i:=i) (c:=c) (by simpa using hi) hc
 rw [getElem!_pos (d.map f) i (by simpa using hi),Array.getElem_map] at this
 rw [getElem!_pos d i hi];exact this
theorem holds_from {α β:Type} [Inhabited α] [Inhabited β] {f:β→α} {enc:α→List Value} {k g off:Nat} {w:World} {d:Array β} (h:HoldsK (fun x=>enc (f x)) k w g off d):HoldsK enc k w g off (d.map f):=holdsK_of fun i c hi hc=>by
 have hi' :i < d.size:=by simpa using hi
 have:=h.cell (i:=i) (c:=c) hi' hc
 rw [getElem!_pos d i hi'] at this
 rw [getElem!_pos (d.map f) i hi,Array.getElem_map];exact this
theorem toSub {α:Type} {Q:α→Prop} (l:List α) (h:∀x∈l,Q x):∃l' :List {x // Q x},l'.map (·.1)=l:=⟨l.attach.map fun x=>⟨x.1,h x.1 x.2⟩,by simp⟩
theorem accKeep {base:Nat} {w w' :World} {ao ao' :Option Addr} {x:St×Sv×Sv} (h:Lies (fun b=>base≤b∧rowOf ao≠some b) w x) (hk:∀b,b < w.heap.size→rowOf ao≠some b→w'.heap[b]? =w.heap[b]?) (hr:rowOf ao' =rowOf ao∨rowOf ao' =some w.heap.size):Lies (fun b=>base≤b∧rowOf ao'≠some b) w' x:=by
 have h1:Lies (fun b=>(base≤b∧rowOf ao'≠some b)∧rowOf ao≠some b) w x:=h.mono fun b hb hlt=>⟨⟨hb.1,by
  rcases hr with e | e
  · rw [e];exact hb.2
  · rw [e];intro e2;have:=Option.some.inj e2;omega⟩,hb.2⟩
 have h2:=h1.keep (w':=w') fun b hb hlt=>hk b hlt hb.2
 exact h2.mono fun b hb _=>hb.1
theorem Tryz.infoVo: (Tryz.prog.info? 106).map (fun i=>(i.zero,i.size,i.bytes))=some (some (.agg #[.int .i64 0,.int .i64 0,.int .i64 0,.int .i64 0,.int .i64 0,.slice none 0 0,.slice none 0 0]),7,88):=by kernel_rfl
set_option maxHeartbeats 16000000 in
set_option maxRecDepth 100000 in
theorem votes_any {P:Nat→Prop} (v:Value) (l:List St) (e kd sl rd:Int) (w:World) (hv:Sl stRep P w v l) (hm:l.length≤100000) (hL:∀s∈l,LightS s) :
 Calls Tryz.prog 64 #[v,.agg #[.int .i64 e,.int .i64 kd,.int .i64 sl,.int .i64 rd]] w fun q w'=>∃u vs,q=.returned u∧VotesR l e kd sl rd vs∧Sl voRep (fun b=>w.heap.size≤b) w' u vs∧vs.length≤l.length∧Ex w.heap.size none w w':=by
 obtain⟨ao,cap,rfl,hx⟩:=hv
 have HLL:=Lib.hid hL
 obtain⟨wz,hwz⟩:∃wz:World,wz=w.alloc (.cells #[.int .i64 e,.int .i64 kd,.int .i64 sl,.int .i64 rd] 38):=⟨_,rfl⟩
 have HEZ:Hid (Ex w.heap.size none w wz):=Lib.hid (by rw [hwz];exact Ex.new w _)
 have hzz:wz.heap.size=w.heap.size+1:=by rw [hwz];simp
 have HBZ:Hid (wz.heap[w.heap.size]? =some (.cells #[.int .i64 e,.int .i64 kd,.int .i64 sl,.int .i64 rd] 38 (0,0))):=Lib.hid (by rw [hwz];exact heap_alloc_new w _)
 have HCZ:Hid (∀w',Ex wz.heap.size none wz w'→w'.cell? ⟨w.heap.size,0,none⟩=some (.int .i64 e)∧w'.cell? ⟨w.heap.size,1,none⟩=some (.int .i64 kd)∧w'.cell? ⟨w.heap.size,2,none⟩=some (.int .i64 sl)∧w'.cell? ⟨w.heap.size,3,none⟩=some (.int .i64 rd)):=Lib.hid (fun w' h=>by
  have k:=h.at2 (Nat.le_refl _) HBZ.out
  refine⟨?_,?_,?_,?_⟩ <;> (rw [cell_of_row _ _ _ _ _ _ k];rfl))
 have HX:Hid (SlAt stRep P wz ao l):=Lib.hid (hx.keep (by decide) fun b _ hb=>HEZ.out.block b hb (by simp))
 have HXB:Hid (∀w',Ex wz.heap.size none wz w'→SlAt stRep P w' ao l):=Lib.hid (fun w' h=>hx.keep (by decide) fun b _ hb=>(h.block b (by omega) (by simp)).trans (HEZ.out.block b hb (by simp)))
 clear hx hL
 go_enter Tryz.func64,Tryz.ntmps64
 go_upto_region 1 with(fail)
 refine wp_world (fun W=>W=wz) (by rw [hwz]) (fun W hW=>?_)
 rw [hW]
 clear hW W hwz
 go_wp2
 go_loopw [5,13] (fun v i wr=>∃(k n:Nat) (ro:Option Addr) (rc:Nat) (acc:List (St×Sv×Sv)),k≤l.length∧i=.int .i64 k∧v=.slice ro n rc∧Hid (acc.map (·.1)= (l.take k).filter (inCase e kd sl rd)∧acc.length=n∧n≤k∧∀x∈acc,Lies (fun b=>wz.heap.size≤b∧rowOf ro≠some b) wr x)∧OwnE voE 7 106 wr wz.heap.size ro rc acc∧Ex wz.heap.size none wz wr) (fun _ i _=>l.length - (intOf i).toNat)
 case atStart=>exact⟨0,0,none,0,[],by omega,rfl,rfl,Lib.hid ⟨by simp,rfl,by omega,fun x hx=>by cases hx⟩,OwnE.nil _ _ _ _ _,Ex.refl _ _ _⟩
 case round=>
  obtain⟨k,n,ro,rc,acc,hk,rfl,rfl,HA,hown,hex⟩:=hrel
  have hsz:=hex.size
  have HEX:=Lib.hid hex
  have HO:=Lib.hid hown
  clear hown
  by_cases hlt:k < l.length
  · have hltI: (k:Int) < (l.length:Int):=by omega
    have hnk:n≤k:=HA.out.2.2.1
    obtain⟨b,off,x,rfl,_,hbl,HXs,hlx,HR⟩:=stv_get (HXB.out wr HEX.out) k hlt
    have HLG:Hid (x.1.list.length≤100000∧x.1.pins.length≤100000):=Lib.hid (HLL.out x.1 (List.mem_of_getElem? HXs.out))
    have r0:=HR.out wr rfl
    have hn1:=stV_new wr #[.int .i64 0,.int .i64 0,.string ⟨#[]⟩,.int .i64 0,.int .i64 0,.int .i64 0,.int .i64 0,.int .i64 0,.slice none 0 0,.slice none 0 0,.string ⟨#[]⟩,.int .i64 0,.string ⟨#[]⟩] x rfl
    go_upto_region 5 with(fail)
    obtain⟨ws,hws⟩:∃ws:World,ws=wr.alloc (.cells (stV x).cells 51):=⟨_,rfl⟩
    have HEs:Hid (Ex wr.heap.size none wr ws):=Lib.hid (by rw [hws];exact Ex.new wr _)
    have hzs:ws.heap.size=wr.heap.size+1:=by rw [hws];simp
    have r1: (rowLoad 51 ⟨wr.heap.size,0,none⟩).run Tryz.prog ws=.ok (stV x) ws:=stV_box (by rw [hws];exact heap_alloc_new wr _)
    have HLS:Hid (∀w',Ex ws.heap.size none ws w'→Lies P w' x):=Lib.hid (fun w' h=>hlx.keep fun b _ hb=>(h.block b (by omega) (by simp)).trans (HEs.out.block b hb (by simp)))
    clear r0 hn1 hlx HR hex
    refine wp_world (fun W=>W=ws) (by rw [hws];rfl) (fun W hW=>?_)
    rw [hW]
    clear hW W hws
    obtain⟨sb,hsb⟩:∃sb,sb=voteSB x.1:=⟨_,rfl⟩
    have HB:Hid (voteSB x.1=sb):=Lib.hid hsb.symm
    clear hsb
    cases sb with
    | false=>
      have HNO:Hid (inCase e kd sl rd x.1=false):=Lib.hid (by unfold inCase;rw [HB.out];rfl)
      go_wp2_with (first
       | (go_at_call 91
          refine(vote_any (P:=P) x ws (HLS.out ws (Ex.refl _ _ ws)) HLG.out).mono ?_
          rintro e4 w4 ⟨⟨⟨t,⟨la,n1,ca⟩,⟨pa,n2,cp⟩⟩,he4,hy1,hy2,hly⟩,hex4⟩
          rw [HB.out] at he4
          have he5:e4=.returned (.tuple #[.agg #[.int .i64 t.author,.int .i64 t.a,.int .i64 (t.b % 16),.int .i64 t.c,.int .i64 (t.b / 16),.slice la n1 ca,.slice pa n2 cp],.bool false]):=he4
          subst he5
          have HE4:Hid (Ex ws.heap.size none ws w4):=Lib.hid hex4
          have HY:Hid ((voteB x.1=true→t=x.1)∧Lies (fun b=>ws.heap.size≤b) w4 (t,⟨la,n1,ca⟩,⟨pa,n2,cp⟩)):=Lib.hid ⟨hy1,hly⟩
          clear he4 hy1 hy2 hly hex4 r1)
       | fail)
      have HEY:Hid (Ex wr.heap.size none wr (w4.alloc (.cells #[.int .i64 t.author,.int .i64 t.a,.int .i64 (t.b % 16),.int .i64 t.c,.int .i64 (t.b / 16),.slice la n1 ca,.slice pa n2 cp] 106))):=Lib.hid ((HEs.out.trans HE4.out (by omega) (by simp)).trans (Ex.new w4 _) (by have:=HE4.out.size;omega) (by simp))
      go_roundw
      case rel=>exact⟨k+1,n,ro,rc,acc,by omega,by go_num,rfl,Lib.hid ⟨by rw [filter_no HXs.out HNO.out];exact HA.out.1,HA.out.2.1,by have:=HA.out.2.2.1;omega,fun x hx=>accKeep (HA.out.2.2.2 x hx) (fun b hb _=>HEY.out.block b hb (by simp)) (.inl rfl)⟩,HO.out.keep HEY.out (Nat.le_refl _) (by simp),HEX.out.trans HEY.out hsz (by simp)⟩
      case measure=>simp [intOf] <;> omega
    | true=>
      have HVB:Hid (voteB x.1=true):=Lib.hid (by have h:=HB.out;unfold voteSB at h;cases hv:voteB x.1 with | true=>rfl | false=>rw [hv] at h;cases h)
      have HAL:Hid (acc.length=n):=Lib.hid HA.out.2.1
      go_upto_region 7 with(first
       | (go_at_call 91
          refine(vote_any (P:=P) x ws (HLS.out ws (Ex.refl _ _ ws)) HLG.out).mono ?_
          rintro e4 w4 ⟨⟨⟨t,⟨la,n1,ca⟩,⟨pa,n2,cp⟩⟩,he4,hy1,hy2,hly⟩,hex4⟩
          rw [HB.out] at he4
          have he5:e4=.returned (.tuple #[.agg #[.int .i64 t.author,.int .i64 t.a,.int .i64 (t.b % 16),.int .i64 t.c,.int .i64 (t.b / 16),.slice la n1 ca,.slice pa n2 cp],.bool true]):=he4
          subst he5
          obtain rfl:t=x.1:=hy1 HVB.out
          obtain⟨z0,z1,z2,z3⟩:=HCZ.out (w4.alloc (.cells #[.int .i64 x.1.author,.int .i64 x.1.a,.int .i64 (x.1.b % 16),.int .i64 x.1.c,.int .i64 (x.1.b / 16),.slice la n1 ca,.slice pa n2 cp] 106)) ((HEX.out.trans (HEs.out.trans hex4 (by omega) (by simp)) hsz (by simp)).allocX _)
          have HE4:Hid (Ex ws.heap.size none ws w4):=Lib.hid hex4
          have HY:Hid (Lies (fun b=>ws.heap.size≤b) w4 (x.1,⟨la,n1,ca⟩,⟨pa,n2,cp⟩)):=Lib.hid hly
          clear he4 hy1 hy2 hly hex4 r1)
       | fail)
      · rename_i h1 h2 h3 h4
        subst h1 h2 h3 h4
        have HYES:Hid (inCase x.1.a (x.1.b % 16) x.1.c (x.1.b / 16) x.1=true):=Lib.hid (by unfold inCase caseB;rw [HB.out];simp)
        clear z0 z1 z2 z3
        obtain⟨w5,hw5⟩:∃w5:World,w5=w4.alloc (.cells #[.int .i64 x.1.author,.int .i64 x.1.a,.int .i64 (x.1.b % 16),.int .i64 x.1.c,.int .i64 (x.1.b / 16),.slice la n1 ca,.slice pa n2 cp] 106):=⟨_,rfl⟩
        have HEY:Hid (Ex wr.heap.size none wr w5):=Lib.hid (by rw [hw5];exact(HEs.out.trans HE4.out (by omega) (by simp)).trans (Ex.new w4 _) (by have:=HE4.out.size;omega) (by simp))
        have hz5:wr.heap.size < w5.heap.size:=by rw [hw5];have:=HE4.out.size;simp;omega
        have HY5:Hid (Lies (fun b=>ws.heap.size≤b) w5 (x.1,⟨la,n1,ca⟩,⟨pa,n2,cp⟩)):=Lib.hid (HY.out.keep fun b _ hb=>by rw [hw5];exact at_oldX _ _ _ hb)
        have hb5:w5.heap[w4.heap.size]? =some (.cells #[.int .i64 x.1.author,.int .i64 x.1.a,.int .i64 (x.1.b % 16),.int .i64 x.1.c,.int .i64 (x.1.b / 16),.slice la n1 ca,.slice pa n2 cp] 106 (0,0)):=by rw [hw5];exact heap_alloc_new _ _
        have m0:w5.cell? ⟨w4.heap.size,0,none⟩=some (.int .i64 x.1.author):=by rw [cell_of_row _ _ _ _ _ _ hb5];rfl
        have m1:w5.cell? ⟨w4.heap.size,1,none⟩=some (.int .i64 x.1.a):=by rw [cell_of_row _ _ _ _ _ _ hb5];rfl
        have m2:w5.cell? ⟨w4.heap.size,2,none⟩=some (.int .i64 (x.1.b % 16)):=by rw [cell_of_row _ _ _ _ _ _ hb5];rfl
        have m3:w5.cell? ⟨w4.heap.size,3,none⟩=some (.int .i64 x.1.c):=by rw [cell_of_row _ _ _ _ _ _ hb5];rfl
        have m4:w5.cell? ⟨w4.heap.size,4,none⟩=some (.int .i64 (x.1.b / 16)):=by rw [cell_of_row _ _ _ _ _ _ hb5];rfl
        have m5:w5.cell? ⟨w4.heap.size,5,none⟩=some (.slice la n1 ca):=by rw [cell_of_row _ _ _ _ _ _ hb5];rfl
        have m6:w5.cell? ⟨w4.heap.size,6,none⟩=some (.slice pa n2 cp):=by rw [cell_of_row _ _ _ _ _ _ hb5];rfl
        refine wp_world (fun W=>W=w5) (by rw [hw5]) (fun W hW=>?_)
        rw [hW]
        clear hW W hw5 hb5
        go_wp2_with (first
         | (at_builtin;refine wpList_appE2 rfl (.tmp 29) (.tmp 31) _ 106 (by rfl) Tryz.underlying102 _ 7 88 Tryz.infoVo rfl (by decide) (by decide) voE voE_len one_voE wz.heap.size ro rc n acc HAL.out (by rfl) (some ⟨w5.heap.size,0,none⟩) 1 1 (by rfl) [(x.1,⟨la,n1,ca⟩,⟨pa,n2,cp⟩)] rfl ((HO.out.keep HEY.out (Nat.le_refl _) (by simp)).keep (Ex.new w5 _) (Nat.le_refl _) (by simp)) (lit_cells (by rfl)) (by omega) (by simp;omega) (n+1) rfl ?_;intro ro2 rc2 w6 hown6 hex6 hk6 hr6)
         | fail)
        have HO6:=Lib.hid hown6
        have HE6:Hid (Ex wz.heap.size none wz w6):=Lib.hid (((HEX.out.trans HEY.out hsz (by simp)).trans (Ex.new w5 _) (by omega) (by simp)).trans hex6 (Nat.le_refl _) (by simp))
        have HK6:=Lib.hid hk6
        have HR6:=Lib.hid hr6
        have HROW:Hid (∀b,wr.heap.size≤b→rowOf ro≠some b):=Lib.hid (fun b hb e=>by
         cases ro with
         | none=>cases e
         | some q=>have:=HO.out.lt q rfl;have e2:=Option.some.inj e;simp only at e2;omega)
        clear hown6 hex6 hk6 hr6
        go_roundw
        case rel=>exact⟨k+1,n+1,ro2,rc2,acc ++ [(x.1,⟨la,n1,ca⟩,⟨pa,n2,cp⟩)],by omega,by go_num,rfl,Lib.hid ⟨by rw [filter_yes HXs.out HYES.out,List.map_append,HA.out.1];rfl,by rw [List.length_append,HAL.out];rfl,by omega,fun y hy=>by
         refine accKeep (ao:=ro) (w:=w5.alloc _) ?_ HK6.out HR6.out
         rcases List.mem_append.1 hy with h | h
         · exact(accKeep (HA.out.2.2.2 y h) (fun b hb _=>HEY.out.block b hb (by simp)) (.inl rfl)).keep fun b _ hb=>at_oldX _ _ _ hb
         · rw [List.mem_singleton.1 h]
           exact(HY5.out.keep fun b _ hb=>at_oldX _ _ _ hb).mono fun b hb _=>⟨by omega,HROW.out b (by omega)⟩⟩,HO6.out,HE6.out⟩
        case measure=>simp [intOf] <;> omega
      all_goals (
       have HNO:Hid (inCase e kd sl rd x.1=false):=Lib.hid (by unfold inCase caseB;simp [*])
       have HEY:Hid (∀cs,Ex wr.heap.size none wr (w4.alloc (.cells cs 106))):=Lib.hid (fun cs=>(HEs.out.trans HE4.out (by omega) (by simp)).trans (Ex.new w4 _) (by have:=HE4.out.size;omega) (by simp))
       go_roundw
       case rel=>exact⟨k+1,n,ro,rc,acc,by omega,by go_num,rfl,Lib.hid ⟨by rw [filter_no HXs.out HNO.out];exact HA.out.1,HA.out.2.1,by have:=HA.out.2.2.1;omega,fun x hx=>accKeep (HA.out.2.2.2 x hx) (fun b hb _=>(HEY.out _).block b hb (by simp)) (.inl rfl)⟩,HO.out.keep (HEY.out _) (Nat.le_refl _) (by simp),HEX.out.trans (HEY.out _) hsz (by simp)⟩
       case measure=>simp [intOf] <;> omega)
  · obtain rfl:k=l.length:=by omega
    have hnk:n≤l.length:=HA.out.2.2.1
    have HF:Hid (acc.map (·.1)=l.filter (inCase e kd sl rd)):=Lib.hid (by have:=HA.out.1;rwa [List.take_length] at this)
    have HAL:Hid (acc.length=n):=Lib.hid HA.out.2.1
    clear hex
    go_upto_region 10 with(fail)
    obtain⟨wf,hwf⟩:∃wf:World,wf=wr.alloc (.cells #[.func (.func 95) #[] #[]] 132):=⟨_,rfl⟩
    rw [←hwf]
    have HEF:Hid (Ex wr.heap.size none wr wf):=Lib.hid (by rw [hwf];exact Ex.new wr _)
    have hbf:wf.heap[wr.heap.size]? =some (.cells #[.func (.func 95) #[] #[]] 132 (0,0)):=by rw [hwf];exact heap_alloc_new _ _
    have hzf:wf.heap.size=wr.heap.size+1:=by rw [hwf];simp
    have HBF:=Lib.hid hbf
    have HEW:Hid (Ex w.heap.size none w wf):=Lib.hid (HEZ.out.trans (HEX.out.trans HEF.out hsz (by simp)) (by omega) (by simp))
    have c0:wf.cell? ⟨wr.heap.size,0,none⟩=some (.func (.func 95) #[] #[]):=by rw [cell_of_row _ _ _ _ _ _ hbf];rfl
    clear hwf hbf
    rcases HO.out.cases with⟨e1,e2,e3⟩ | ⟨g,e1,hg1,hg2,hg3⟩
    · subst e1 e2
      have hn0:n=0:=by rw [←HAL.out,e3];rfl
      clear e3
      subst hn0
      go_wp2_with (first
       | (go_at_call 96;refine(sortVotes_none _ _ _ _).mono ?_;rintro e w' ⟨rfl,rfl⟩)
       | (go_at_call 97;refine(compactVotes_none _ _ _ _).mono ?_;rintro e w' ⟨rfl,rfl⟩)
       | fail)
      go_ret
      exact⟨_,[],rfl,⟨by simp,List.Pairwise.nil⟩,Sl.nil _ _,by simp,HEW.out⟩
    · subst e1
      obtain⟨acc',hac⟩:=toSub (Q:=fun x:St×Sv×Sv=>Lies (fun b=>w.heap.size≤b∧b≠g) wf x∧LightS x.1) acc (fun x hx=>⟨((HA.out.2.2.2 x hx).mono (P':=fun b=>w.heap.size≤b∧b≠g) fun b hb _=>⟨by omega,fun e=>hb.2 (by rw [e];rfl)⟩).keep fun b _ hlt=>HEF.out.block b hlt (by simp),HLL.out x.1 (by
       have:x.1∈acc.map (·.1):=List.mem_map.2 ⟨x,hx,rfl⟩
       rw [HF.out] at this
       exact(List.mem_filter.1 this).1)⟩)
      have HAC:Hid (acc'.map (·.1)=acc):=Lib.hid hac
      have HH:Hid (HoldsK (fun x:VoIn (fun b=>w.heap.size≤b∧b≠g) wf=>voE x.1) 7 wf g 0 (acc'.toArray:Array (VoIn (fun b=>w.heap.size≤b∧b≠g) wf))):=Lib.hid (holds_to (α:=St×Sv×Sv) (f:=fun x:VoIn (fun b=>w.heap.size≤b∧b≠g) wf=>x.1) (enc:=voE) (by
       have h:=(HO.out.keep HEF.out (Nat.le_refl _) (by simp)).holds voE_len
       rw [←hac] at h
       rw [List.map_toArray]
       exact h))
      have hcap:n≤rc:=by rw [←HAL.out];exact hg3
      have HSZ:Hid ((acc'.toArray:Array (VoIn (fun b=>w.heap.size≤b∧b≠g) wf)).size=n):=Lib.hid (by rw [←HAL.out,←hac];simp)
      clear hac
      go_wp2_with (first
       | (go_at_call 96
          refine(sortVotes_any (P:=fun b=>w.heap.size≤b∧b≠g) wf g 0 rc n acc'.toArray wf (fun h=>h.2 rfl) (fun _ _ _=>rfl) (Nat.le_refl _) HH.out (by omega) HSZ.out (by omega)).mono ?_
          rintro e w1 ⟨rfl,d',hH1,hd1,hp1,hs1,hex1⟩
          have HD:Hid (HoldsK (fun x:VoIn (fun b=>w.heap.size≤b∧b≠g) wf=>voE x.1) 7 w1 g 0 d'∧d'.size=n∧d'.toList.Perm acc'∧SortedIn (ltOf fun x y:VoIn (fun b=>w.heap.size≤b∧b≠g) wf=>ordV x.1.1 y.1.1) 0 d'.size d'∧Ex wf.heap.size (some g) wf w1):=Lib.hid ⟨hH1,hd1,by simpa using hp1,hs1,hex1⟩
          have hz1:wf.heap.size≤w1.heap.size:=hex1.size
          clear hH1 hd1 hp1 hs1 hex1 c0)
       | (go_at_call 97
          refine(compactVotes_any (P:=fun b=>w.heap.size≤b∧b≠g) wf g rc n wr.heap.size d' w1 (fun h=>h.2 rfl) (fun b hb hlt=>HD.out.2.2.2.2.block b hlt (by simp;exact hb.2)) hz1 HD.out.1 (by omega) HD.out.2.1 (by omega) hcap ((HD.out.2.2.2.2.block wr.heap.size (by omega) (by simp;omega)).trans HBF.out) (by omega)).mono ?_
          rintro e w2 ⟨rfl,hH2,hex2⟩
          have HC:Hid (HoldsK (fun x:VoIn (fun b=>w.heap.size≤b∧b≠g) wf=>voE x.1) 7 w2 g 0 (cpt (fun x y:VoIn (fun b=>w.heap.size≤b∧b≠g) wf=>decide (ordV x.1.1 y.1.1=0)) d' n).toArray∧Ex w1.heap.size (some g) w1 w2):=Lib.hid ⟨hH2,hex2⟩
          clear hH2 hex2)
       | fail)
      go_ret
      have hE1:Ex wf.heap.size (some g) wf w2:=HD.out.2.2.2.2.trans HC.out.2 hz1 (fun q h _=>h)
      have hE:Ex w.heap.size none w w2:=HEW.out.trans hE1 (by omega) (fun q h hq=>by cases h;omega)
      obtain⟨cl,hcl⟩:∃cl,cl=cpt (fun x y:VoIn (fun b=>w.heap.size≤b∧b≠g) wf=>decide (ordV x.1.1 y.1.1=0)) d' n:=⟨_,rfl⟩
      have hC1:=HC.out.1
      rw [←hcl] at hC1 ⊢
      have hH2:HoldsK voE 7 w2 g 0 (cl.map (·.1)).toArray:=by
       have h:=holds_from (α:=St×Sv×Sv) (f:=fun x:VoIn (fun b=>w.heap.size≤b∧b≠g) wf=>x.1) (enc:=voE) hC1
       rw [List.map_toArray] at h
       exact h
      have hmem:∀x∈cl,x.1∈acc:=fun x hx=>by
       have h1:x∈acc':=HD.out.2.2.1.mem_iff.1 (cpt_mem n (by rw [HD.out.2.1];exact Nat.le_refl _) (by rw [hcl] at hx;exact hx))
       rw [←HAC.out]
       exact List.mem_map.2 ⟨x,h1,rfl⟩
      have hlen:cl.length≤n:=by rw [hcl];exact cpt_le _ d' n
      refine⟨.slice (some ⟨g,0,none⟩) cl.length rc,(cl.map (·.1)).map (·.1),by rfl,⟨fun y hy=>?_,?_⟩,⟨some ⟨g,0,none⟩,rc,by simp,vo_sl (by omega) hH2 fun x hx=>?_⟩,by simp;omega,hE⟩
      · obtain⟨z,hz,rfl⟩:=List.mem_map.1 hy
        obtain⟨u,hu,rfl⟩:=List.mem_map.1 hz
        have:u.1.1∈acc.map (·.1):=List.mem_map.2 ⟨u.1,hmem u hu,rfl⟩
        rw [HF.out] at this
        exact List.mem_filter.1 this
      · rw [List.map_map,List.pairwise_map,hcl]
        exact cpt_rise (c:=fun x y:VoIn (fun b=>w.heap.size≤b∧b≠g) wf=>ordV x.1.1 y.1.1) (GoodC.on (fun x:VoIn (fun b=>w.heap.size≤b∧b≠g) wf=>x.1.1) good_ordV) (fun _ _=>rfl) d' HD.out.2.2.2.1 n (by rw [HD.out.2.1];exact Nat.le_refl _)
      · obtain⟨u,hu,rfl⟩:=List.mem_map.1 hx
        exact(u.2.1.keep fun b hb hlt=>hE1.block b hlt (by simp;exact hb.2)).mono fun b hb _=>hb.1
end
section
attribute [local go_sem ↓] rowLoad_stv rowStore_stv rowLoad_vo rowStore_vo
def firstB (t s:St):Bool:=voteB s && caseB t.a (t.b % 16) t.c (t.b / 16) s && decide (ordC s t=0)
theorem vo_cells {w:World} {g:Nat} {y:St×Sv×Sv} (k:w.heap[g]? =some (.cells (voE y).toArray 106 (0,0))):w.cell? ⟨g,1,none⟩=some (.int .i64 y.1.a)∧w.cell? ⟨g,2,none⟩=some (.int .i64 (y.1.b % 16))∧w.cell? ⟨g,3,none⟩=some (.int .i64 y.1.c)∧w.cell? ⟨g,4,none⟩=some (.int .i64 (y.1.b / 16))∧w.cell? ⟨g,5,none⟩=some y.2.1.v∧w.cell? ⟨g,6,none⟩=some y.2.2.v:=by
 refine⟨?_,?_,?_,?_,?_,?_⟩ <;> (rw [cell_of_row _ _ _ _ _ _ k];rfl)
set_option maxHeartbeats 8000000 in
set_option maxRecDepth 100000 in
theorem first1_any {P Q:Nat→Prop} (c:Nat) (x y:St×Sv×Sv) (w:World) (hx:Lies P w x) (hy:Lies Q w y) (hm:LightS x.1) (hk:LightS y.1) (hc:w.heap[c]? =some (.cells (voE y).toArray 106 (0,0))) :
 Calls Tryz.prog 100 #[stV x,.pointer (some ⟨c,0,none⟩)] w fun e w'=>e=.returned (.bool (firstB y.1 x.1))∧Ex w.heap.size none w w':=by
 have HM:=Lib.hid (And.intro hm hk)
 obtain⟨ws,hws⟩:∃ws:World,ws=w.alloc (.cells (stV x).cells 51):=⟨_,rfl⟩
 have HEs:Hid (Ex w.heap.size none w ws):=Lib.hid (by rw [hws];exact Ex.new w _)
 have hzs:ws.heap.size=w.heap.size+1:=by rw [hws];simp
 have r0: (rowLoad 51 ⟨w.heap.size,0,none⟩).run Tryz.prog ws=.ok (stV x) ws:=stV_box (by rw [hws];exact heap_alloc_new w _)
 have HLX:Hid (∀w',Ex ws.heap.size none ws w'→Lies P w' x∧Lies Q w' y∧w'.heap[c]? =some (.cells (voE y).toArray 106 (0,0))):=Lib.hid (fun w' h=>by
  have h2:Ex w.heap.size none w w':=HEs.out.trans h (by omega) (by simp)
  exact⟨hx.keep fun b _ hb=>h2.block b hb (by simp),hy.keep fun b _ hb=>h2.block b hb (by simp),h2.at2 (Nat.le_refl _) hc⟩)
 clear hx hy hm hk hc
 have hnx:=stV_new w #[.int .i64 0,.int .i64 0,.string ⟨#[]⟩,.int .i64 0,.int .i64 0,.int .i64 0,.int .i64 0,.int .i64 0,.slice none 0 0,.slice none 0 0,.string ⟨#[]⟩,.int .i64 0,.string ⟨#[]⟩] x rfl
 obtain⟨vb,hvb⟩:∃vb,vb=voteB x.1:=⟨_,rfl⟩
 have HV:Hid (voteB x.1=vb):=Lib.hid hvb.symm
 clear hvb
 go_enter Tryz.func100,Tryz.ntmps100
 go_upto_region 1 with(fail)
 refine wp_world (fun W=>W=ws) (by rw [hws];rfl) (fun W hW=>?_)
 rw [hW]
 clear hW W hws hnx
 cases vb with
 | false=>
   go_upto_region 2 with(first
    | (go_at_call 73
       refine(ofV_any (P:=P) x ws (HLX.out ws (Ex.refl _ _ _)).1 HM.out.1).mono ?_
       rintro e w1 ⟨hof,hex⟩
       obtain⟨y',q,rfl,hor,hly⟩:=hof.parts
       obtain⟨hv,hq,hy'⟩:=hor.resolve_left (fun h=>by rw [HV.out] at h;cases h.1)
       have kq: (q == 0)=false:=by simpa using hq
       have HE1:Hid (Ex ws.heap.size none ws w1):=Lib.hid hex
       clear hof hor hly hex r0 hv hq hy'
       have hn1: (rowStore 106 ⟨w1.heap.size,0,none⟩ (voV y')).run Tryz.prog (w1.alloc (.cells #[.int .i64 0,.int .i64 0,.int .i64 0,.int .i64 0,.int .i64 0,.slice none 0 0,.slice none 0 0] 106))=.ok () (w1.alloc (.cells (voE y').toArray 106)):=vo_new w1 _ rfl (voE y').toArray rfl (voV_one y'))
    | fail)
   go_wp2
   go_ret
   exact⟨by unfold firstB;rw [HV.out];rfl,(HEs.out.trans HE1.out (by omega) (by simp)).allocX _⟩
 | true=>
   go_upto_region 2 with(first
    | (go_at_call 73
       refine(ofV_any (P:=P) x ws (HLX.out ws (Ex.refl _ _ _)).1 HM.out.1).mono ?_
       rintro e w1 ⟨hof,hex⟩
       obtain⟨y',q,rfl,hor,hly⟩:=hof.parts
       obtain⟨hv,hq,hy'⟩:=hor.resolve_right (fun h=>by rw [HV.out] at h;cases h.1)
       subst hq
       have HY:Hid (y'.1=x.1∧Lies (fun k=>ws.heap.size≤k) w1 y'):=Lib.hid ⟨hy',hly⟩
       have HE1:Hid (Ex ws.heap.size none ws w1):=Lib.hid hex
       clear hof hor hly hex r0 hv hy'
       have hn1: (rowStore 106 ⟨w1.heap.size,0,none⟩ (voV y')).run Tryz.prog (w1.alloc (.cells #[.int .i64 0,.int .i64 0,.int .i64 0,.int .i64 0,.int .i64 0,.slice none 0 0,.slice none 0 0] 106))=.ok () (w1.alloc (.cells (voE y').toArray 106)):=vo_new w1 _ rfl (voE y').toArray rfl (voV_one y'))
    | fail)
   refine wp_world (fun W=>W=w1.alloc (.cells (voE y').toArray 106)) rfl (fun W hW=>?_)
   obtain⟨w2,hw2⟩:∃w2:World,w2=W:=⟨_,rfl⟩
   rw [←hw2] at hW ⊢
   clear hw2 W hn1
   have HE2:Hid (Ex ws.heap.size none ws w2):=Lib.hid (by rw [hW];exact HE1.out.allocX _)
   have HL2:Hid (Lies (fun k=>ws.heap.size≤k) w2 y'):=Lib.hid (HY.out.2.keep fun b _ hb=>by rw [hW];exact at_oldX _ _ _ hb)
   have hb2:w2.heap[w1.heap.size]? =some (.cells (voE y').toArray 106 (0,0)):=by rw [hW];exact heap_alloc_new _ _
   obtain⟨m1,m2,m3,m4,m5,m6⟩:=vo_cells hb2
   rw [HY.out.1] at m1 m2 m3 m4
   obtain⟨d1,d2,d3,d4,d5,d6⟩:=vo_cells (HLX.out w2 HE2.out).2.2
   clear hW hb2
   obtain⟨z,hz⟩:∃z,z=ordC x.1 y.1:=⟨_,rfl⟩
   have HZ:=Lib.hid hz
   have HO:Hid (Calls Tryz.prog 74 #[.agg #[y'.2.1.v,y'.2.2.v],.agg #[y.2.1.v,y.2.2.v]] w2 fun e w''=>e=.returned (.int .i64 z)∧Gr w2 w''):=Lib.hid (by
    rw [hz,←HY.out.1]
    exact orderV_any y' y w2 HL2.out (HLX.out w2 HE2.out).2.1 (by rw [HY.out.1];exact HM.out.1) HM.out.2)
   have HF:Hid (firstB y.1 x.1= (caseB y.1.a (y.1.b % 16) y.1.c (y.1.b / 16) x.1 && decide (z=0))):=Lib.hid (by unfold firstB;rw [HV.out,hz];rfl)
   clear hz
   go_wp2_with (first
    | (go_at_call 74
       refine HO.out.mono ?_
       rintro e w3 ⟨rfl,hg⟩
       have HG3:=Lib.hid hg
       clear hg)
    | fail)
   all_goals go_ret
   all_goals first
    | exact⟨by rw [HF.out,show caseB y.1.a (y.1.b % 16) y.1.c (y.1.b / 16) x.1=true from by unfold caseB;simp [*]];rfl,HEs.out.trans (HE2.out.trans HG3.out.ex HE2.out.size (by simp)) (by omega) (by simp)⟩
    | exact⟨by rw [HF.out,show caseB y.1.a (y.1.b % 16) y.1.c (y.1.b / 16) x.1=false from by unfold caseB;simp [*]];rfl,HEs.out.trans HE2.out (by omega) (by simp)⟩
end
section
attribute [local go_sem ↓] rowLoad_stv rowStore_stv rowLoad_vo rowStore_vo
def FirstR (P:Nat→Prop) (l:List St) (t:St) (e:Ending) (w' :World):Prop:=∃x:St×Sv×Sv,e=.returned (stV x)∧x.1∈l∧firstB t x.1=true∧Lies P w' x
set_option maxHeartbeats 8000000 in
set_option maxRecDepth 100000 in
theorem first_any {P Q:Nat→Prop} (ao:Option Addr) (n cap:Nat) (l:List St) (y:St×Sv×Sv) (w:World) (hn:l.length=n) (hv:SlAt stRep P w ao l) (hm:n≤100000) (hL:∀s∈l,LightS s) (hy:Lies Q w y) (hk:LightS y.1) (hex:∃s∈l,firstB y.1 s=true) :
 Calls Tryz.prog 65 #[.slice ao n cap,voV y] w fun e w'=>FirstR P l y.1 e w'∧Ex w.heap.size none w w':=by
 obtain⟨ws,hws⟩:∃ws:World,ws= (w.alloc (.cells (voE y).toArray 106)).alloc (.cells #[.int .i64 0,.int .i64 0,.string ⟨#[]⟩,.int .i64 0,.int .i64 0,.int .i64 0,.int .i64 0,.int .i64 0,.slice none 0 0,.slice none 0 0,.string ⟨#[]⟩,.int .i64 0,.string ⟨#[]⟩] 51):=⟨_,rfl⟩
 have HEs:Hid (Ex w.heap.size none w ws):=Lib.hid (by rw [hws];exact(Ex.new w _).alloc (by simp) _)
 have hzs:ws.heap.size=w.heap.size+2:=by rw [hws];simp
 have HB1:Hid (ws.heap[w.heap.size]? =some (.cells (voE y).toArray 106 (0,0))):=Lib.hid (by rw [hws];exact heap_alloc2_old _ _ _)
 have HB2:Hid (ws.heap[w.heap.size+1]? =some (.cells #[.int .i64 0,.int .i64 0,.string ⟨#[]⟩,.int .i64 0,.int .i64 0,.int .i64 0,.int .i64 0,.int .i64 0,.slice none 0 0,.slice none 0 0,.string ⟨#[]⟩,.int .i64 0,.string ⟨#[]⟩] 51 (0,0))):=Lib.hid (by rw [hws];exact heap_alloc2_new _ _ _)
 have HS:Hid (∀w',Ex ws.heap.size none ws w'→SlAt stRep P w' ao l):=Lib.hid (fun w' h=>hv.keep (by decide) fun b _ hb=>(h.block b (by omega) (by simp)).trans (HEs.out.block b hb (by simp)))
 have HT:Hid (TestL P l 100 #[.pointer (some ⟨w.heap.size,0,none⟩)] ws (firstB y.1)):=Lib.hid (fun w' x h hlx hmem=>first1_any (P:=P) (Q:=Q) w.heap.size x y w' hlx (hy.keep fun b _ hb=>(h.block b (by omega) (by simp)).trans (HEs.out.block b hb (by simp))) (hL x.1 hmem) hk (h.at2 (Nat.le_refl _) HB1.out))
 have HVW:Hid (SlAt stRep P w ao l):=Lib.hid hv
 have HX:=Lib.hid hex
 have HN:=Lib.hid hn
 clear hv hL hy hk hex hn
 go_enter Tryz.func65,Tryz.ntmps65
 go_upto_region 1 with(fail)
 refine wp_world (fun W=>W=ws) (by rw [hws];rfl) (fun W hW=>?_)
 rw [hW]
 clear hW W hws
 go_upto_region 2 with(first
  | (go_at_call 99
     refine(indexL_any (P:=P) (.slice ao n cap) l 100 #[.pointer (some ⟨w.heap.size,0,none⟩)] (firstB y.1) ws ⟨ao,cap,by rw [HN.out],HS.out ws (Ex.refl _ _ _)⟩ (by rw [HN.out];exact hm) (enters_of Tryz.func100 (by kernel_rfl) rfl) HT.out).mono ?_
     rintro e w1 ⟨i,rfl,hi,hex1⟩
     have hi2:∃(k:Nat) (s:St),i=k∧l[k]? =some s∧firstB y.1 s=true:=by
      rcases hi with h | ⟨_,h⟩
      · exact h
      · obtain⟨s,hs,hf⟩:=HX.out
        rw [h s hs] at hf;cases hf
     obtain⟨k,s,rfl,hks,hf⟩:=hi2
     have HE1:Hid (Ex ws.heap.size none ws w1):=Lib.hid hex1
     have HKS:Hid (l[k]? =some s∧firstB y.1 s=true):=Lib.hid ⟨hks,hf⟩
     clear hi hex1 hks hf)
  | fail)
 have hkn:k < n:=by rw [←HN.out];exact(List.getElem?_eq_some_iff.1 HKS.out.1).1
 have hkI: (k:Int) < (n:Int):=by omega
 obtain⟨b,off,x,rfl,_,hbl,HXs,hlx,HR⟩:=stv_get HVW.out k (by rw [HN.out];exact hkn)
 have HXQ:Hid (x.1=s):=Lib.hid (by have h:=HXs.out;rw [HKS.out.1] at h;exact(Option.some.inj h).symm)
 have HLX:=Lib.hid hlx
 have r0:=HR.out w1 ((HE1.out.block b (by omega) (by simp)).trans (HEs.out.block b hbl (by simp)))
 have hb2:=HE1.out.at2 (Nat.le_refl _) HB2.out
 have hst: (rowStore 51 ⟨w.heap.size+1,0,none⟩ (stV x)).run Tryz.prog w1=.ok () (w1.setRow (w.heap.size+1) (stE x).toArray):=run_rowStore (P:=Tryz.prog) w1 (w.heap.size+1) 51 51 _ (stE x).toArray hb2 Tryz.sizeStv rfl (stV_one x)
 have HBR:=Lib.hid hb2
 clear hlx HR hb2
 go_wp2
 refine bodyPost_ret (v:=stV x) (results_cell_row rfl _ _ (w.heap.size+1) 51 (stE x).toArray (0,0) _ (by rfl) (setRow_heap _ _ _ _ _ _ HBR.out) Tryz.underlying51 rfl Tryz.sizeStv) rfl ?_
 exact⟨⟨x,rfl,List.mem_of_getElem? HXs.out,by rw [HXQ.out];exact HKS.out.2,HLX.out.keep fun b _ hb=>(setRow_other _ _ _ _ (by omega)).trans ((HE1.out.block b (by omega) (by simp)).trans (HEs.out.block b hb (by simp)))⟩,(HEs.out.trans HE1.out (by omega) (by simp)).setRow _ _ (.inr (by omega))⟩
end
abbrev PrD:Type:=Int×St×St
abbrev PrX:Type:=Int×(St×Sv×Sv)×(St×Sv×Sv)
def PrX.d (x:PrX):PrD:=(x.1,x.2.1.1,x.2.2.1)
def prE (x:PrX):List Value:=.int .i64 x.1 :: (stE x.2.1 ++ stE x.2.2)
theorem prE_len (x:PrX): (prE x).length=27:=rfl
theorem one_prE:∀x,∀v∈prE x,v.oneCell' =true:=fun x v hv=>by
 rcases List.mem_cons.1 hv with rfl | hv
 · rfl
 · rcases List.mem_append.1 hv with hv | hv
   · exact one_stE _ v hv
   · exact one_stE _ v hv
def LiesP (P:Nat→Prop) (w:World) (x:PrX):Prop:=Lies P w x.2.1∧Lies P w x.2.2
theorem LiesP.keep {P:Nat→Prop} {w w' :World} {x:PrX} (h:LiesP P w x) (hx:∀b,P b→b < w.heap.size→w'.heap[b]? =w.heap[b]?):LiesP P w' x:=⟨h.1.keep hx,h.2.keep hx⟩
theorem LiesP.mono {P P' :Nat→Prop} {w:World} {x:PrX} (h:LiesP P w x) (hx:∀b,P b→b < w.heap.size→P' b):LiesP P' w x:=⟨h.1.mono hx,h.2.mono hx⟩
def prRep:Rep PrD where
 k:=27
 R:=fun P w cs p=>∃x:PrX,x.d=p∧cs=prE x∧LiesP P w x
 len:=fun⟨x,_,h,_⟩=>by subst h;exact prE_len _
 one:=fun⟨x,_,h,_⟩=>by subst h;exact one_prE _
 keep:=fun⟨x,e,h,hs⟩ hx=>⟨x,e,h,hs.keep hx⟩
 mono:=fun⟨x,e,h,hs⟩ hx=>⟨x,e,h,hs.mono hx⟩
def ForkOf (l:List St) (p:PrD):Prop:=p.1=1∧p.2.1.number=p.2.2.number∧∃k,l[k]? =some p.2.1∧l[k+1]? =some p.2.2
def DoubleOf (l:List St) (p:PrD):Prop:=p.1=2∧p.2.1∈l∧p.2.2∈l∧voteB p.2.1=true∧voteB p.2.2=true∧caseB p.2.1.a (p.2.1.b % 16) p.2.1.c (p.2.1.b / 16) p.2.2=true∧ordC p.2.1 p.2.2 < 0
def ForksR (ls:List St) (ps:List PrD):Prop:=(forkF ls=none∧ps=[])∨∃s t,forkF ls=some (s,t)∧ps=[(1,s,t)]
def DoublesR (ls:List St) (ps:List PrD):Prop:=ps.length≤ls.length∧∀p∈ps,DoubleOf ls p
inductive FindR (l:List St):Nat→List PrD→Prop
 | zero:FindR l 0 []
 | few {k:Nat} {ps:List PrD} {ls:List St} (h:FindR l k ps) (hl:OwnR ((k:Nat):Int) l ls) (hn:ls.length≤1):FindR l (k+1) ps
 | more {k:Nat} {ps fs ds:List PrD} {ls:List St} (h:FindR l k ps) (hl:OwnR ((k:Nat):Int) l ls) (hf:ForksR ls fs) (hd:DoublesR ls ds):FindR l (k+1) (ps ++ fs ++ ds)
theorem OwnR.rise {a:Int} {l ls:List St} (h:OwnR a l ls):ls.Pairwise fun x y=>ordN x y < 0:=by
 obtain⟨d,_,hs,rfl⟩:=h
 unfold cptO
 refine cpt_rise good_ordN (fun _ _=>rfl) d.toArray ?_ d.length (by simp)
 intro i j _ hij hj
 have hj' :j < d.length:=by simpa using hj
 have hi' :i < d.length:=by omega
 have k:=hs i j d[i] d[j] hij (by simp [hi']) (by simp [hj'])
 unfold ltOf
 rw [getElem!_pos d.toArray i (by simpa using hi'),getElem!_pos d.toArray j hj]
 simp only [List.getElem_toArray]
 exact decide_eq_false (by have:=good_ordN.anti d[j] d[i];have:=good_ordN.anti d[i] d[j];omega)
theorem OwnR.len {a:Int} {l ls:List St} (h:OwnR a l ls):ls.length≤l.length:=by
 obtain⟨d,hp,_,rfl⟩:=h
 have h1:=cpt_le sameNDs d.toArray d.length
 have h2:=hp.length_eq
 have h3:=List.length_filter_le (okB a) l
 unfold cptO
 omega
theorem forkF_at {ls:List St}:∀{s t:St},forkF ls=some (s,t)→s.number=t.number∧∃k:Nat,ls[k]? =some s∧ls[k+1]? =some t:=by
 induction ls with
 | nil=>intro s t h;simp [forkF] at h
 | cons a r ih=>
   intro s t h
   match r with
   | []=>simp [forkF] at h
   | b :: r=>
     unfold forkF at h
     split at h
     · rename_i e
       simp only [Option.some.injEq,Prod.mk.injEq] at h
       obtain⟨rfl,rfl⟩:=h
       exact⟨e,0,rfl,rfl⟩
     · obtain⟨h1,k,h2,h3⟩:=ih h
       exact⟨h1,k+1,h2,h3⟩
theorem ForksR.len {ls:List St} {ps:List PrD} (h:ForksR ls ps):ps.length≤1:=by
 rcases h with⟨_,rfl⟩ | ⟨s,t,_,rfl⟩ <;> simp
theorem FindR.len {l:List St} {k:Nat} {ps:List PrD} (h:FindR l k ps):ps.length≤k * (l.length+1):=by
 induction h with
 | zero=>simp
 | few _ _ _ ih=>rw [Nat.add_mul];omega
 | more _ hl hf hd ih=>
   have h1:=hf.len
   have h2:=hd.1
   have h3:=hl.len
   rw [List.length_append,List.length_append,Nat.add_mul]
   omega
def PairOK (p:PrD):Prop:=checkI p.2.1=0∧checkI p.2.2=0∧sealedB p.2.1=true∧sealedB p.2.2=true∧p.2.1.author=p.2.2.author∧((p.1=1∧p.2.1.number=p.2.2.number∧strC p.2.1.dig p.2.2.dig < 0)∨(p.1=2∧voteB p.2.1=true∧voteB p.2.2=true∧caseB p.2.1.a (p.2.1.b % 16) p.2.1.c (p.2.1.b / 16) p.2.2=true∧ordC p.2.1 p.2.2 < 0))
theorem okB_parts {a:Int} {s:St} (h:okB a s=true):s.author=a∧checkI s=0∧sealedB s=true:=by
 unfold okB at h
 simp only [Bool.and_eq_true,decide_eq_true_eq] at h
 exact⟨h.1.1,h.1.2,h.2⟩
theorem fork_ok {a:Int} {l ls:List St} {s t:St} (h:OwnR a l ls) (hf:forkF ls=some (s,t)):PairOK (1,s,t)∧s∈l∧t∈l:=by
 obtain⟨hn,k,hs,ht⟩:=forkF_at hf
 obtain⟨s1,s2,s3⟩:=okB_parts (h.ok s (List.mem_of_getElem? hs))
 obtain⟨t1,t2,t3⟩:=okB_parts (h.ok t (List.mem_of_getElem? ht))
 refine⟨⟨s2,t2,s3,t3,s1.trans t1.symm,.inl ⟨rfl,hn,?_⟩⟩,h.mem s (List.mem_of_getElem? hs),h.mem t (List.mem_of_getElem? ht)⟩
 obtain⟨hk,rfl⟩:=List.getElem?_eq_some_iff.1 hs
 obtain⟨hk2,rfl⟩:=List.getElem?_eq_some_iff.1 ht
 have h1:=List.pairwise_iff_getElem.1 h.rise k (k+1) hk hk2 (by omega)
 have h2:cmpI ls[k].number ls[k+1].number=0:=by rw [hn];exact good_cmpI.refl _
 unfold ordN lexC at h1
 rw [if_neg (by simp only [ne_eq,Decidable.not_not];exact h2)] at h1
 exact h1
theorem double_ok {a:Int} {l ls:List St} {p:PrD} (h:OwnR a l ls) (hd:DoubleOf ls p):PairOK p∧p.2.1∈l∧p.2.2∈l:=by
 obtain⟨h1,h2,h3,h4,h5,h6,h7⟩:=hd
 obtain⟨s1,s2,s3⟩:=okB_parts (h.ok _ h2)
 obtain⟨t1,t2,t3⟩:=okB_parts (h.ok _ h3)
 exact⟨⟨s2,t2,s3,t3,s1.trans t1.symm,.inr ⟨h1,h4,h5,h6,h7⟩⟩,h.mem _ h2,h.mem _ h3⟩
theorem FindR.ok {l:List St} {n:Nat} {ps:List PrD} (h:FindR l n ps):∀p∈ps,PairOK p∧p.2.1∈l∧p.2.2∈l:=by
 induction h with
 | zero=>intro p hp;cases hp
 | few _ _ _ ih=>exact ih
 | more _ hl hf hd ih=>
   intro p hp
   rcases List.mem_append.1 hp with hp | hp
   · rcases List.mem_append.1 hp with hp | hp
     · exact ih p hp
     · rcases hf with⟨_,rfl⟩ | ⟨s,t,hf,rfl⟩
       · cases hp
       · obtain rfl:=List.mem_singleton.1 hp
         exact fork_ok hl hf
   · exact double_ok hl (hd.2 p hp)
end Go.Proofs.YtflhidfclfkjlaaGreat

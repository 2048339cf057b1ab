/- ref04.Fork, ref06.From, ref08.Say, law36.say: contracts; ProofHonest in plain words. -/
import Derived.Test.YtflhidfclfkjlaaGreatFork04G
import Derived.Test.YtflhidfclfkjlaaGreatNext04G
import Derived.Test.YtflhidfclfkjlaaGreatMg06
import Derived.Test.YtflhidfclfkjlaaGreatMg15
import Derived.Test.YtflhidfclfkjlaaGreatAdd05G
import Derived.Deep.MidRow
import Derived.Test.YtflhidfclfkjlaaGreatMg02
import Derived.Test.YtflhidfclfkjlaaGreatMg12
import Derived.Test.YtflhidfclfkjlaaGreatMg13
import Derived.Test.YtflhidfclfkjlaaGreatMg14
namespace Go.Proofs.YtflhidfclfkjlaaGreat
open Go.RowKit Go.Sort
section
def ForkW (e:Ending):Prop:=∃(X Y:St×Sv×Sv) (b:Bool),e=.returned (.tuple #[forkV X Y,.bool b])
set_option maxRecDepth 100000 in
theorem build_fork0 (w:World): (rowMake 116 #[]).run Tryz.prog w=.ok (forkV ((zeroSt,⟨none,0,0⟩,⟨none,0,0⟩):St×Sv×Sv) ((zeroSt,⟨none,0,0⟩,⟨none,0,0⟩):St×Sv×Sv)) w:=run_build w _ _ _ (by kernel_rfl)
attribute [local go_sem ↓] rowLoad_stv rowStore_stv rowStore_fork
attribute [local go_sem ↓ high] build_word
set_option maxHeartbeats 8000000 in
set_option maxRecDepth 100000 in
theorem fork04_w {P:Nat→Prop} (v:Value) (l:List St) (a:Int) (w:World) (hv:Sl stRep P w v l) (hm:l.length≤100000) (ht:TameL l) :
 Calls Tryz.prog 82 #[.int .i64 a,v] w fun e w'=>ForkW e∧Ex w.heap.size none w w':=by
 obtain⟨w0,hw0⟩:∃w0:World,w0=w.alloc (.cells #[.int .i64 0,.int .i64 0,.string ⟨#[]⟩,.int .i64 0,.int .i64 0,.int .i64 0,.int .i64 0,.int .i64 0,.slice none 0 0,.slice none 0 0,.string ⟨#[]⟩,.int .i64 0,.string ⟨#[]⟩,.int .i64 0,.int .i64 0,.string ⟨#[]⟩,.int .i64 0,.int .i64 0,.int .i64 0,.int .i64 0,.int .i64 0,.slice none 0 0,.slice none 0 0,.string ⟨#[]⟩,.int .i64 0,.string ⟨#[]⟩] 116):=⟨_,rfl⟩
 have hz0:w.heap.size < w0.heap.size:=by rw [hw0];simp
 have HE0:Hid (Ex w.heap.size none w w0):=Lib.hid (by rw [hw0];exact Ex.new w _)
 have HB0:Hid (w0.heap[w.heap.size]? =some (.cells #[.int .i64 0,.int .i64 0,.string ⟨#[]⟩,.int .i64 0,.int .i64 0,.int .i64 0,.int .i64 0,.int .i64 0,.slice none 0 0,.slice none 0 0,.string ⟨#[]⟩,.int .i64 0,.string ⟨#[]⟩,.int .i64 0,.int .i64 0,.string ⟨#[]⟩,.int .i64 0,.int .i64 0,.int .i64 0,.int .i64 0,.int .i64 0,.slice none 0 0,.slice none 0 0,.string ⟨#[]⟩,.int .i64 0,.string ⟨#[]⟩] 116 (0,0))):=Lib.hid (by rw [hw0];exact heap_alloc_new w _)
 have HV:=Lib.hid (hv.mono (P':=fun b=>b < w.heap.size) (by decide) fun b _ hb=>hb)
 obtain⟨own,how⟩:∃own,own=ownI a l:=⟨_,rfl⟩
 have HOW:=Lib.hid how
 have hol:own.length≤100000:=by have:=ownI_len a l;rw [←how] at this;omega
 clear hv how
 go_enter Tryz.func82,Tryz.ntmps82
 go_upto_region 1 with(fail)
 refine wp_world (fun W=>W=w0) (by rw [hw0]) (fun W hW=>?_)
 rw [hW]
 clear hW W hw0
 go_upto_region 3 with(first
  | (go_at_call 80
     refine(own04_any v l a w0 (HV.out.keep (by decide) fun b _ hb=>HE0.out.block b hb (by simp)) hm ht).mono ?_
     rintro e w1 ⟨ro,rc,rfl,ho,hex⟩
     rw [←HOW.out] at ho ⊢
     obtain⟨n,hn⟩:∃n,n=own.length:=⟨_,rfl⟩
     rw [←hn]
     have HN:=Lib.hid hn
     have HO1:Hid (OwnS w1 w0.heap.size ro rc own):=Lib.hid ho
     have HE1:Hid (Ex w0.heap.size none w0 w1):=Lib.hid hex
     clear hn ho hex)
  | fail)
 have hz1:w0.heap.size≤w1.heap.size:=HE1.out.size
 have hn1:n≤100000:=by rw [HN.out];exact hol
 clear hol
 go_loopw [7] (fun v wr=>∃k:Nat,k≤n∧v=.int .i64 k∧Ex w1.heap.size none w1 wr) (fun v _=>n+1 - (intOf v).toNat)
 case atStart=>exact⟨0,by omega,rfl,Ex.refl _ _ _⟩
 case round=>
  obtain⟨k,hk,rfl,hex⟩:=hrel
  have hsz:=hex.size
  have HEX:=Lib.hid hex
  clear hex
  have hwk:IntKind.i64.wrap ((k:Int)+1)= (k:Int)+1:=by rw [IntKind.wrap_i64];omega
  by_cases hlt:k+1 < n
  · have hltI: (k:Int)+1 < (n:Int):=by omega
    have hk0: (0:Int)≤(k:Int):=by omega
    have hk1: (k:Int) < (n:Int):=by omega
    have hk2: (0:Int)≤(k:Int)+1:=by omega
    have hk3: ((k:Int)+1).toNat=k+1:=by omega
    obtain⟨b,off,xs,xl,xp,hao,hPb,_,hrx,HXs⟩:=st_get (HO1.out.sl.at'.keep (w':=wr) (by decide) fun q _ hq=>HEX.out.block q hq (by simp)) k (by rw [←HN.out];omega)
    obtain⟨b',off',ys,yl,yp,hao',_,_,hry,HYs⟩:=st_get (HO1.out.sl.at'.keep (w':=wr) (by decide) fun q _ hq=>HEX.out.block q hq (by simp)) (k+1) (by rw [←HN.out];omega)
    have HAO:=Lib.hid hao
    subst hao
    cases hao'
    have hbl:b < wr.heap.size:=rangeAt_lt hrx (by rw [stE_len];decide)
    have hbw:b≠w.heap.size:=by omega
    have HQ:Hid (∀w',w'.heap[b]? =wr.heap[b]?→w'.cell? ⟨b,off+k * 13+1,none⟩=some (.int .i64 xs.number)∧w'.cell? ⟨b,off+ (k+1) * 13+1,none⟩=some (.int .i64 ys.number)∧(rowLoad 51 ⟨b,off+k * 13,none⟩).run Tryz.prog w' =.ok (stV (xs,xl,xp)) w'∧(rowLoad 51 ⟨b,off+ (k+1) * 13,none⟩).run Tryz.prog w' =.ok (stV (ys,yl,yp)) w'):=Lib.hid (fun w' h=>
     ⟨(st_at (rangeAt_keep hrx h)).2.1,(st_at (rangeAt_keep hry h)).2.1,stV_load (rangeAt_keep hrx h),stV_load (rangeAt_keep hry h)⟩)
    clear hrx hry
    by_cases te:xs.number=ys.number
    · have k1: (xs.number == ys.number)=true:=by simp [te]
      clear te
      have hq:=fun p:ExW wr=>HQ.out p.w' (p.ex.block b hbl (by simp))
      go_upto_region 5 with(fail)
      refine wp_region_quiet_ex (by kernel_rfl) (by kernel_rfl) ?_
      repeat(go_big_quiet_step (fail))
      refine wpQuiet_nil ?_
      intro _ hw'
      obtain⟨p9,hw''⟩:=hw'
      subst hw''
      clear hq
      obtain⟨w4,hw4⟩:∃w4,w4=p9.w':=⟨_,rfl⟩
      have HE4:Hid (Ex wr.heap.size none wr w4):=Lib.hid (by rw [hw4];exact p9.ex)
      rw [←hw4]
      clear hw4
      have HB4:Hid (w4.heap[w.heap.size]? =some (.cells #[.int .i64 0,.int .i64 0,.string ⟨#[]⟩,.int .i64 0,.int .i64 0,.int .i64 0,.int .i64 0,.int .i64 0,.slice none 0 0,.slice none 0 0,.string ⟨#[]⟩,.int .i64 0,.string ⟨#[]⟩,.int .i64 0,.int .i64 0,.string ⟨#[]⟩,.int .i64 0,.int .i64 0,.int .i64 0,.int .i64 0,.int .i64 0,.slice none 0 0,.slice none 0 0,.string ⟨#[]⟩,.int .i64 0,.string ⟨#[]⟩] 116 (0,0))):=Lib.hid ((HE4.out.block _ (by omega) (by simp)).trans ((HEX.out.block _ (by omega) (by simp)).trans ((HE1.out.block _ hz0 (by simp)).trans HB0.out)))
      have hb4:w4.heap[b]? =wr.heap[b]? :=HE4.out.block b hbl (by simp)
      have HB4':=Lib.hid hb4
      have hbd:=fun W=>build_fork W (xs,xl,xp) (ys,yl,yp)
      have hq:=fun p:ExW w4=>(HQ.out p.w' ((p.ex.block b (by have:=HE4.out.size;omega) (by simp)).trans HB4'.out)).2.2
      clear hb4
      go_upto_region 6 with(fail)
      refine wp_region_quiet_ex_tail 9 (by kernel_rfl) (by kernel_rfl) ?_
      simp only [List.take_succ_cons,List.take_zero,List.drop_succ_cons,List.drop_zero]
      repeat(go_big_quiet_step (fail))
      refine wpQuiet_nil ?_
      intro _ hw'
      obtain⟨p9,hw''⟩:=hw'
      subst hw''
      clear hq
      obtain⟨w5,hw5⟩:∃w5,w5=p9.w':=⟨_,rfl⟩
      have HE5:Hid (Ex w4.heap.size none w4 w5):=Lib.hid (by rw [hw5];exact p9.ex)
      rw [←hw5]
      clear hw5
      have HB5:Hid (w5.heap[w.heap.size]? =some (.cells #[.int .i64 0,.int .i64 0,.string ⟨#[]⟩,.int .i64 0,.int .i64 0,.int .i64 0,.int .i64 0,.int .i64 0,.slice none 0 0,.slice none 0 0,.string ⟨#[]⟩,.int .i64 0,.string ⟨#[]⟩,.int .i64 0,.int .i64 0,.string ⟨#[]⟩,.int .i64 0,.int .i64 0,.int .i64 0,.int .i64 0,.int .i64 0,.slice none 0 0,.slice none 0 0,.string ⟨#[]⟩,.int .i64 0,.string ⟨#[]⟩] 116 (0,0))):=Lib.hid ((HE5.out.block _ (by have:=HE4.out.size;omega) (by simp)).trans HB4.out)
      have hst: (rowStore 116 ⟨w.heap.size,0,none⟩ (forkV (xs,xl,xp) (ys,yl,yp))).run Tryz.prog w5=.ok () (w5.setRow w.heap.size (forkV (xs,xl,xp) (ys,yl,yp)).cells):=run_rowStore (P:=Tryz.prog) w5 w.heap.size 116 116 #[.int .i64 0,.int .i64 0,.string ⟨#[]⟩,.int .i64 0,.int .i64 0,.int .i64 0,.int .i64 0,.int .i64 0,.slice none 0 0,.slice none 0 0,.string ⟨#[]⟩,.int .i64 0,.string ⟨#[]⟩,.int .i64 0,.int .i64 0,.string ⟨#[]⟩,.int .i64 0,.int .i64 0,.int .i64 0,.int .i64 0,.int .i64 0,.slice none 0 0,.slice none 0 0,.string ⟨#[]⟩,.int .i64 0,.string ⟨#[]⟩] (forkV (xs,xl,xp) (ys,yl,yp)).cells HB5.out (by kernel_rfl) rfl (forkV_one _ _)
      go_wp2
      rename_i cs heq
      obtain rfl:cs= (forkV (xs,xl,xp) (ys,yl,yp)).cells:=by rw [heq];rfl
      have hr: (loadVar 116 ⟨w.heap.size,0,none⟩).run Tryz.prog (w5.setRow w.heap.size (forkV (xs,xl,xp) (ys,yl,yp)).cells)=.ok (forkV (xs,xl,xp) (ys,yl,yp)) (w5.setRow w.heap.size (forkV (xs,xl,xp) (ys,yl,yp)).cells):=run_loadVar_row (P:=Tryz.prog) _ w.heap.size 116 116 (forkV (xs,xl,xp) (ys,yl,yp)).cells (0,0) _ (setRow_heap _ _ _ _ _ _ HB5.out) Tryz.underlying116 rfl (by kernel_rfl)
      refine bodyPost_ret (v:=.tuple #[forkV (xs,xl,xp) (ys,yl,yp),.bool true]) (results_row2 rfl _ _ (by rfl) (by rfl) hr) rfl ?_
      exact⟨⟨(xs,xl,xp),(ys,yl,yp),true,rfl⟩,((HE0.out.trans HE1.out (by omega) (by simp)).trans (HEX.out.trans (HE4.out.trans HE5.out HE4.out.size (by simp)) hsz (by simp)) (by omega) (by simp)).setRow _ _ (.inr (Nat.le_refl _))⟩
    · have k1: (xs.number == ys.number)=false:=by simpa using te
      clear te
      have hq:=fun p:ExW wr=>HQ.out p.w' (p.ex.block b hbl (by simp))
      go_upto_region 5 with(fail)
      refine wp_region_quiet_ex (by kernel_rfl) (by kernel_rfl) ?_
      repeat(go_big_quiet_step (fail))
      refine wpQuiet_nil ?_
      intro _ hw'
      obtain⟨p9,hw''⟩:=hw'
      subst hw''
      clear hq
      have HE9:Hid (Ex wr.heap.size none wr p9.w'):=Lib.hid p9.ex
      go_wp2
      go_roundw
      case rel=>exact⟨k+1,by omega,by go_num,HEX.out.trans HE9.out hsz (by simp)⟩
      case measure=>simp [intOf] <;> omega
  · have hltI : ¬(k:Int)+1 < (n:Int):=by omega
    have HBw:Hid (wr.heap[w.heap.size]? =some (.cells #[.int .i64 0,.int .i64 0,.string ⟨#[]⟩,.int .i64 0,.int .i64 0,.int .i64 0,.int .i64 0,.int .i64 0,.slice none 0 0,.slice none 0 0,.string ⟨#[]⟩,.int .i64 0,.string ⟨#[]⟩,.int .i64 0,.int .i64 0,.string ⟨#[]⟩,.int .i64 0,.int .i64 0,.int .i64 0,.int .i64 0,.int .i64 0,.slice none 0 0,.slice none 0 0,.string ⟨#[]⟩,.int .i64 0,.string ⟨#[]⟩] 116 (0,0))):=Lib.hid ((HEX.out.block _ (by omega) (by simp)).trans ((HE1.out.block _ hz0 (by simp)).trans HB0.out))
    have hst: (rowStore 116 ⟨w.heap.size,0,none⟩ (forkV ((zeroSt,⟨none,0,0⟩,⟨none,0,0⟩):St×Sv×Sv) ((zeroSt,⟨none,0,0⟩,⟨none,0,0⟩):St×Sv×Sv))).run Tryz.prog wr=.ok () (wr.setRow w.heap.size (forkV ((zeroSt,⟨none,0,0⟩,⟨none,0,0⟩):St×Sv×Sv) ((zeroSt,⟨none,0,0⟩,⟨none,0,0⟩):St×Sv×Sv)).cells):=run_rowStore (P:=Tryz.prog) wr w.heap.size 116 116 #[.int .i64 0,.int .i64 0,.string ⟨#[]⟩,.int .i64 0,.int .i64 0,.int .i64 0,.int .i64 0,.int .i64 0,.slice none 0 0,.slice none 0 0,.string ⟨#[]⟩,.int .i64 0,.string ⟨#[]⟩,.int .i64 0,.int .i64 0,.string ⟨#[]⟩,.int .i64 0,.int .i64 0,.int .i64 0,.int .i64 0,.int .i64 0,.slice none 0 0,.slice none 0 0,.string ⟨#[]⟩,.int .i64 0,.string ⟨#[]⟩] (forkV ((zeroSt,⟨none,0,0⟩,⟨none,0,0⟩):St×Sv×Sv) ((zeroSt,⟨none,0,0⟩,⟨none,0,0⟩):St×Sv×Sv)).cells HBw.out (by kernel_rfl) rfl (forkV_one _ _)
    have hbd:=build_fork0 wr
    go_wp2
    rename_i cs heq
    obtain rfl:cs= (forkV ((zeroSt,⟨none,0,0⟩,⟨none,0,0⟩):St×Sv×Sv) ((zeroSt,⟨none,0,0⟩,⟨none,0,0⟩):St×Sv×Sv)).cells:=by rw [heq];rfl
    have hr: (loadVar 116 ⟨w.heap.size,0,none⟩).run Tryz.prog (wr.setRow w.heap.size (forkV ((zeroSt,⟨none,0,0⟩,⟨none,0,0⟩):St×Sv×Sv) ((zeroSt,⟨none,0,0⟩,⟨none,0,0⟩):St×Sv×Sv)).cells)=.ok (forkV ((zeroSt,⟨none,0,0⟩,⟨none,0,0⟩):St×Sv×Sv) ((zeroSt,⟨none,0,0⟩,⟨none,0,0⟩):St×Sv×Sv)) (wr.setRow w.heap.size (forkV ((zeroSt,⟨none,0,0⟩,⟨none,0,0⟩):St×Sv×Sv) ((zeroSt,⟨none,0,0⟩,⟨none,0,0⟩):St×Sv×Sv)).cells):=run_loadVar_row (P:=Tryz.prog) _ w.heap.size 116 116 (forkV ((zeroSt,⟨none,0,0⟩,⟨none,0,0⟩):St×Sv×Sv) ((zeroSt,⟨none,0,0⟩,⟨none,0,0⟩):St×Sv×Sv)).cells (0,0) _ (setRow_heap _ _ _ _ _ _ HBw.out) Tryz.underlying116 rfl (by kernel_rfl)
    refine bodyPost_ret (v:=.tuple #[forkV ((zeroSt,⟨none,0,0⟩,⟨none,0,0⟩):St×Sv×Sv) ((zeroSt,⟨none,0,0⟩,⟨none,0,0⟩):St×Sv×Sv),.bool false]) (results_row2 rfl _ _ (by rfl) (by rfl) hr) rfl ?_
    exact⟨⟨((zeroSt,⟨none,0,0⟩,⟨none,0,0⟩):St×Sv×Sv),((zeroSt,⟨none,0,0⟩,⟨none,0,0⟩):St×Sv×Sv),false,rfl⟩,((HE0.out.trans HE1.out (by omega) (by simp)).trans HEX.out (by omega) (by simp)).setRow _ _ (.inr (Nat.le_refl _))⟩
end
section
theorem fork_new (w:World) (X Y:St×Sv×Sv): (rowStore 116 ⟨w.heap.size,0,none⟩ (forkV X Y)).run Tryz.prog (w.alloc (.cells #[.int .i64 0,.int .i64 0,.string ⟨#[]⟩,.int .i64 0,.int .i64 0,.int .i64 0,.int .i64 0,.int .i64 0,.slice none 0 0,.slice none 0 0,.string ⟨#[]⟩,.int .i64 0,.string ⟨#[]⟩,.int .i64 0,.int .i64 0,.string ⟨#[]⟩,.int .i64 0,.int .i64 0,.int .i64 0,.int .i64 0,.int .i64 0,.slice none 0 0,.slice none 0 0,.string ⟨#[]⟩,.int .i64 0,.string ⟨#[]⟩] 116))=.ok () (w.alloc (.cells (forkV X Y).cells 116)):=by
 have h:=run_rowStore (P:=Tryz.prog) (w.alloc (.cells #[.int .i64 0,.int .i64 0,.string ⟨#[]⟩,.int .i64 0,.int .i64 0,.int .i64 0,.int .i64 0,.int .i64 0,.slice none 0 0,.slice none 0 0,.string ⟨#[]⟩,.int .i64 0,.string ⟨#[]⟩,.int .i64 0,.int .i64 0,.string ⟨#[]⟩,.int .i64 0,.int .i64 0,.int .i64 0,.int .i64 0,.int .i64 0,.slice none 0 0,.slice none 0 0,.string ⟨#[]⟩,.int .i64 0,.string ⟨#[]⟩] 116)) w.heap.size 116 116 #[.int .i64 0,.int .i64 0,.string ⟨#[]⟩,.int .i64 0,.int .i64 0,.int .i64 0,.int .i64 0,.int .i64 0,.slice none 0 0,.slice none 0 0,.string ⟨#[]⟩,.int .i64 0,.string ⟨#[]⟩,.int .i64 0,.int .i64 0,.string ⟨#[]⟩,.int .i64 0,.int .i64 0,.int .i64 0,.int .i64 0,.int .i64 0,.slice none 0 0,.slice none 0 0,.string ⟨#[]⟩,.int .i64 0,.string ⟨#[]⟩] (forkV X Y).cells (heap_alloc_new _ _) (by kernel_rfl) rfl (forkV_one _ _)
 rw [alloc_setRow] at h
 exact h
attribute [local go_sem ↓] rowLoad_stv rowStore_stv rowStore_fork rowLoad_sto
set_option maxHeartbeats 8000000 in
set_option maxRecDepth 100000 in
theorem from06_w {P:Nat→Prop} (ao:Option Addr) (n cap:Nat) (l:List St) (a:Int) (w:World) (hn:l.length=n) (hx:SlAt stRep P w ao l) (hm:l.length≤100000) (ht:TameL l) :
 Calls Tryz.prog 49 #[.agg #[.slice ao n cap],.int .i64 a] w fun e w'=>(∃q:Int,e=.returned (.int .i64 q))∧Ex w.heap.size none w w':=by
 have HN:=Lib.hid hn
 have HX:=Lib.hid hx
 have HT:=Lib.hid ht
 clear hn hx ht
 obtain⟨ws,hws⟩:∃ws:World,ws=w.alloc (.cells #[.slice ao n cap] 29):=⟨_,rfl⟩
 have HEs:Hid (Ex w.heap.size none w ws):=Lib.hid (by rw [hws];exact Ex.new w _)
 have l0: (rowLoad 29 ⟨w.heap.size,0,none⟩).run Tryz.prog ws=.ok (.agg #[.slice ao n cap]) ws:=sto_load (box_cell (by rw [hws];exact heap_alloc_new _ _))
 go_enter Tryz.func49,Tryz.ntmps49
 go_upto_region 1 with(fail)
 rw [←hws]
 clear hws
 go_upto_region 2 with(first
  | (go_at_call 47
     rw [←HN.out]
     refine(of05_any (P:=P) ao cap l a ws (HX.out.keep (by decide) fun b _ hb=>HEs.out.block b hb (by simp)) hm HT.out.light).mono ?_
     rintro e w1 ⟨ro,rc,rfl,hown,hex⟩
     have HO:Hid (OwnS w1 ws.heap.size ro rc (l.filter (fun s=>decide (s.author=a)))):=Lib.hid hown
     have HE1:Hid (Ex w.heap.size none w w1):=Lib.hid (HEs.out.thenW hex)
     clear hown hex l0)
  | (go_at_call 82
     refine(fork04_w (P:=fun b=>ws.heap.size≤b) (.slice ro _ rc) (l.filter (fun s=>decide (s.author=a))) a w1 (HO.out.sl.mono (by decide) fun b hb _=>hb) (by have:=List.length_filter_le (fun s:St=>decide (s.author=a)) l;omega) (fun s hs=>HT.out s (List.mem_filter.1 hs).1)).mono ?_
     rintro e w2 ⟨⟨X,Y,b,rfl⟩,hex⟩
     have HE2:Hid (Ex w.heap.size none w w2):=Lib.hid (HE1.out.thenW hex)
     have hst:=fork_new w2 X Y
     clear hex)
  | fail)
 obtain⟨w3,hw3⟩:∃w3:World,w3=w2.alloc (.cells (forkV X Y).cells 116):=⟨_,rfl⟩
 have HE3:Hid (Ex w.heap.size none w w3):=Lib.hid (by rw [hw3];exact HE2.out.allocX _)
 have c1:w3.cell? ⟨w2.heap.size,1,none⟩=some (.int .i64 X.1.number):=by rw [cell_of_row _ _ _ _ _ _ (by rw [hw3];exact heap_alloc_new _ _)];rfl
 refine wp_world (fun W=>W=w3) (by rw [hw3];rfl) (fun W hW=>?_)
 rw [hW]
 clear hW W hw3 hst
 cases b with
 | true=>
   go_wp2
   go_ret
   exact⟨⟨_,rfl⟩,HE3.out⟩
 | false=>
   go_wp2
   go_ret
   exact⟨⟨_,rfl⟩,HE3.out⟩
end
def ownS (a:Int) (l:List St):List St:=l.filter (fun s=>decide (s.author=a))
def chS (a:Int) (l:List St):List St:=countedI a (ownS a l)
theorem ownS_len (a:Int) (l:List St): (ownS a l).length≤l.length:=List.length_filter_le _ _
theorem ownS_tame {a:Int} {l:List St} (h:TameL l):TameL (ownS a l):=fun s hs=>h s (List.mem_filter.1 hs).1
theorem chS_len (a:Int) (l:List St): (chS a l).length≤l.length:=Nat.le_trans (countedI_len _ _) (ownS_len _ _)
theorem chS_tame {a:Int} {l:List St} (h:TameL l):TameL (chS a l):=countedI_tame (ownS_tame h)
theorem nextS_tame {a:Int} {ch:List St} {s:St} (h:Tame s):Tame (nextS a ch s):=by
 have t:=nextU_tame (a:=a) (chain:=ch) h
 exact⟨t.list,t.pins,t.prev,t.body,t.digs⟩
theorem of05_s {P:Nat→Prop} (ao:Option Addr) (n m cap:Nat) (l:List St) (a:Int) (w:World) (hn:l.length=n) (hx:SlAt stRep P w ao l) (hm:n≤100000) (hl:LightL 1000000 l) (hc: (ownS a l).length=m) :
 Calls Tryz.prog 47 #[.agg #[.slice ao n cap],.int .i64 a] w fun e w'=>∃ro rc,e=.returned (.slice ro m rc)∧Sl stRep (fun b=>w.heap.size≤b) w' (.slice ro m rc) (ownS a l)∧Ex w.heap.size none w w':=by
 subst hn
 refine(of05_any ao cap l a w hx hm hl).mono ?_
 rintro e w' ⟨ro,rc,he,ho,hex⟩
 have h:=ho.sl
 subst hc
 exact⟨ro,rc,he,h.mono (by decide) fun b hb _=>hb,hex⟩
theorem counted04_s {P:Nat→Prop} (v:Value) (l:List St) (a:Int) (q:Nat) (w:World) (hv:Sl stRep P w v (ownS a l)) (hm:l.length≤100000) (ht:TameL l) (hc: (chS a l).length=q) :
 Calls Tryz.prog 48 #[.int .i64 a,v] w fun e w'=>∃ro rc,e=.returned (.slice ro q rc)∧Sl stRep (fun b=>w.heap.size≤b) w' (.slice ro q rc) (chS a l)∧Ex w.heap.size none w w':=by
 refine(counted04_any v (ownS a l) a w hv (by have:=ownS_len a l;omega) (ownS_tame ht)).mono ?_
 rintro e w' ⟨ro,rc,he,ho,hex⟩
 have h:=ho.sl
 subst hc
 exact⟨ro,rc,he,h.mono (by decide) fun b hb _=>hb,hex⟩
theorem next04_s {P P' :Nat→Prop} (v:Value) (l:List St) (a:Int) (y:St×Sv×Sv) (c:Int) (w:World) (hv:Sl stRep P w v (chS a l)) (hm:l.length≤100000) (ht:TameL l) (hs:Lies P' w y) (hts:Tame y.1) (hc:nextE a (chS a l) y.1=c) :
 Calls Tryz.prog 50 #[.int .i64 a,v,stV y] w fun e w'=>∃r:St×Sv×Sv,e=.returned (.tuple #[stV r,.int .i64 c])∧Lies (fun b=>w.heap.size≤b) w' r∧(c=0→r.1=nextS a (chS a l) y.1)∧Ex w.heap.size none w w':=by
 obtain⟨s,⟨lo,ln,lc⟩,⟨po,pn,pc⟩⟩:=y
 subst hc
 refine(next04_any v (chS a l) a s lo po ln lc pn pc w hv (by have:=chS_len a l;omega) (chS_tame ht) hs hts).mono ?_
 rintro e w' ⟨r,la,na,ca,pa,np,cp,he,hl,hr,hex⟩
 exact⟨(r,⟨la,na,ca⟩,⟨pa,np,cp⟩),he,hl,hr,hex⟩
theorem peer_mid {w:World} {g:Nat} {me:Int} {u v:Value} (h:w.heap[g]? =some (.cells #[.int .i64 me,u] 31 (0,0))) (hv:v.oneCell' =true): (rowStore 29 ⟨g,1,none⟩ (.agg #[v])).run Tryz.prog w=.ok () (w.setCell ⟨g,1,none⟩ v)∧(w.setCell ⟨g,1,none⟩ v).heap[g]? =some (.cells #[.int .i64 me,v] 31 (0,0)):=by
 refine⟨run_storeVar_mid (P:=Tryz.prog) w g 1 29 #[v] (fun j hj=>?_) Tryz.sizeSto (by simp [hv]),heap_setCell h v⟩
 have hj0:j=0:=by simpa using hj
 subst hj0
 exact⟨by rw [cell_of_row _ _ _ _ _ _ h];rfl,by simp [World.frozen?,h]⟩
theorem results_rr {fn:Func} {p u q:Tmp} {t s:TypeId} (h:fn.results=#[.cell p t,.cell u s,.tmp q]) (tmps:Array Value) (w:World) {a b:Addr} {v u' q' :Value} (ha:tmps.getD p undef=.pointer (some a)) (hu:tmps.getD u undef=.pointer (some b)) (hq:tmps.getD q undef=q') (hr: (loadVar t a).run Tryz.prog w=.ok v w) (hs: (loadVar s b).run Tryz.prog w=.ok u' w): (results fn tmps).run Tryz.prog w=.ok (.tuple #[v,u',q']) w:=by
 have e: (asAddr (.pointer (some a))).run Tryz.prog w=.ok a w:=rfl
 have e2: (asAddr (.pointer (some b))).run Tryz.prog w=.ok b w:=rfl
 rw [Array.getD_eq_getD_getElem?] at ha hu hq
 simp only [results,h]
 simp [Sem.run_bind]
 rw [ha,hu,hq,e]
 simp only [Result.andThen_ok,hr,e2,hs]
theorem make_st (ps:Array (Nat×Value)):Instr.build 51 ps=rowMake 51 ps:=rfl
def zerX:St×Sv×Sv:=(zeroSt,⟨none,0,0⟩,⟨none,0,0⟩)
set_option maxRecDepth 100000 in
theorem make_st0 (w:World): (rowMake 51 #[]).run Tryz.prog w=.ok (stV zerX) w:=run_build w _ _ _ (by kernel_rfl)
section
def SayV (me:Int) (l:List St) (s:St) (base:Nat) (v:Value) (w' :World):Prop:=∃(ro:Option Addr) (k rc:Nat) (z:St×Sv×Sv) (c:Int),v=.tuple #[.agg #[.int .i64 me,.slice ro k rc],stV z,.int .i64 c]∧(c=0→∃l',l' =put05 l (nextS me (chS me l) s)∧(chS me l).length= (ownS me l).length∧checkI (nextS me (chS me l) s)=0∧sealedB (nextS me (chS me l) s)=true∧l'.length=k∧k≤1000∧OwnS w' base ro rc l')
def SayE (me:Int) (l:List St) (s:St) (base:Nat) (e:Ending) (w' :World):Prop:=∃v,e=.returned v∧SayV me l s base v w'
def SayB (g:Nat) (me:Int) (u:Value) (y:St×Sv×Sv) (w:World):Prop:=w.heap[g]? =some (.cells #[.int .i64 me,u] 31 (0,0))∧w.heap[g+1]? =some (.cells (stV y).cells 51 (0,0))∧w.heap[g+1+1]? =some (.cells #[.int .i64 0,.slice none 0 0] 31 (0,0))∧w.heap[g+1+1+1]? =some (.cells #[.int .i64 0,.int .i64 0,.string ⟨#[]⟩,.int .i64 0,.int .i64 0,.int .i64 0,.int .i64 0,.int .i64 0,.slice none 0 0,.slice none 0 0,.string ⟨#[]⟩,.int .i64 0,.string ⟨#[]⟩] 51 (0,0))
theorem SayB.keep {g:Nat} {me:Int} {u:Value} {y:St×Sv×Sv} {w w' :World} (h:SayB g me u y w) (hg:g+4≤w.heap.size) (hx:Ex w.heap.size none w w'):SayB g me u y w' :=
 ⟨(hx.block _ (by omega) (by simp)).trans h.1,(hx.block _ (by omega) (by simp)).trans h.2.1,(hx.block _ (by omega) (by simp)).trans h.2.2.1,(hx.block _ (by omega) (by simp)).trans h.2.2.2⟩
theorem SayB.set {g:Nat} {me:Int} {ao:Option Addr} {n cap:Nat} {y:St×Sv×Sv} {w:World} (h:SayB g me (.slice ao n cap) y w) (ro:Option Addr) (k rc:Nat): (rowStore 31 ⟨g,0,none⟩ (.agg #[.int .i64 me,.slice ro k rc])).run Tryz.prog w=.ok () (w.setRow g #[.int .i64 me,.slice ro k rc])∧SayB g me (.slice ro k rc) y (w.setRow g #[.int .i64 me,.slice ro k rc]) :=
 ⟨peer_store2 h.1 rfl me ro k rc,setRow_heap _ _ _ _ _ _ h.1,(setRow_other _ _ _ _ (by omega)).trans h.2.1,(setRow_other _ _ _ _ (by omega)).trans h.2.2.1,(setRow_other _ _ _ _ (by omega)).trans h.2.2.2⟩
theorem SayB.mid {g:Nat} {me:Int} {u:Value} {y:St×Sv×Sv} {w:World} (h:SayB g me u y w) (v:Value) (hv:v.oneCell' =true): (rowStore 29 ⟨g,1,none⟩ (.agg #[v])).run Tryz.prog w=.ok () (w.setCell ⟨g,1,none⟩ v)∧SayB g me v y (w.setCell ⟨g,1,none⟩ v) :=
 ⟨(peer_mid h.1 hv).1,(peer_mid h.1 hv).2,set_far (by omega) h.2.1,set_far (by omega) h.2.2.1,set_far (by omega) h.2.2.2⟩
theorem SayB.reads {g:Nat} {me:Int} {u:Value} {y:St×Sv×Sv} {w:World} (h:SayB g me u y w):w.cell? ⟨g,0,none⟩=some (.int .i64 me)∧(rowLoad 29 ⟨g,1,none⟩).run Tryz.prog w=.ok (.agg #[u]) w∧(rowLoad 31 ⟨g,0,none⟩).run Tryz.prog w=.ok (.agg #[.int .i64 me,u]) w∧(rowLoad 51 ⟨g+1,0,none⟩).run Tryz.prog w=.ok (stV y) w :=
 ⟨by rw [cell_of_row _ _ _ _ _ _ h.1];rfl,sto_load (by rw [cell_of_row _ _ _ _ _ _ h.1];rfl),peer_load2 h.1 rfl,stV_box h.2.1⟩
theorem SayB.out {g:Nat} {me:Int} {u:Value} {y:St×Sv×Sv} {w:World} (h:SayB g me u y w) (ro:Option Addr) (k rc:Nat) (z:St×Sv×Sv): (rowStore 31 ⟨g+1+1,0,none⟩ (.agg #[.int .i64 me,.slice ro k rc])).run Tryz.prog w=.ok () (w.setRow (g+1+1) #[.int .i64 me,.slice ro k rc])∧(rowStore 51 ⟨g+1+1+1,0,none⟩ (stV z)).run Tryz.prog (w.setRow (g+1+1) #[.int .i64 me,.slice ro k rc])=.ok () ((w.setRow (g+1+1) #[.int .i64 me,.slice ro k rc]).setRow (g+1+1+1) (stE z).toArray)∧(∀W,W= (w.setRow (g+1+1) #[.int .i64 me,.slice ro k rc]).setRow (g+1+1+1) (stE z).toArray→(rowLoad 31 ⟨g+1+1,0,none⟩).run Tryz.prog W=.ok (.agg #[.int .i64 me,.slice ro k rc]) W∧(rowLoad 51 ⟨g+1+1+1,0,none⟩).run Tryz.prog W=.ok (stV z) W):=by
 have k2:=(setRow_other w (g+1+1) (g+1+1+1) #[.int .i64 me,.slice ro k rc] (by omega)).trans h.2.2.2
 refine⟨peer_store2 h.2.2.1 rfl me ro k rc,run_rowStore (P:=Tryz.prog) _ (g+1+1+1) 51 51 _ (stV z).cells k2 Tryz.sizeStv rfl (stV_one z),fun W hW=>?_⟩
 subst hW
 exact⟨peer_load2 ((setRow_other _ _ _ _ (by omega)).trans (setRow_heap _ _ _ _ _ _ h.2.2.1)) rfl,stV_box (setRow_heap _ _ _ _ _ _ k2)⟩
theorem Ex.out2 {w w5:World} (h:Ex w.heap.size none w w5) (c1 c2:Array Value):Ex w.heap.size none w ((w5.setRow (w.heap.size+1+1) c1).setRow (w.heap.size+1+1+1) c2):=(h.setRow _ _ (.inr (by omega))).setRow _ _ (.inr (by omega))
attribute [local go_sem ↓] rowLoad_stv rowStore_stv rowLoad_sto rowStore_sto rowLoad_peer2 rowStore_peer2
attribute [local go_sem ↓ high] make_st
set_option maxHeartbeats 32000000 in
set_option maxRecDepth 100000 in
theorem say08_w {P P' :Nat→Prop} (me:Int) (ao:Option Addr) (n cap:Nat) (l:List St) (y:St×Sv×Sv) (w:World) (hme:0≤me∧me < 64) (hn:l.length=n) (hx:SlAt stRep P w ao l) (hvl:validB l=true) (hl:LightL 1000000 l) (htl:TameL l) (hy:Lies P' w y) (hty:Tame y.1) :
 Calls Tryz.prog 33 #[.agg #[.int .i64 me,.slice ao n cap],stV y] w fun e w'=>SayE me l y.1 w.heap.size e w'∧Ex w.heap.size none w w':=by
 have HN:=Lib.hid hn
 have HX:=Lib.hid hx
 have HVL:=Lib.hid hvl
 have HL:=Lib.hid hl
 have HTL:=Lib.hid htl
 have HY:=Lib.hid hy
 have HT:=Lib.hid hty
 have hn1:n≤1000:=by rw [←hn];exact validB_len hvl
 obtain⟨ws,hws⟩:∃ws:World,ws= (((w.alloc (.cells #[.int .i64 me,.slice ao n cap] 31)).alloc (.cells (stV y).cells 51)).alloc (.cells #[.int .i64 0,.slice none 0 0] 31)).alloc (.cells #[.int .i64 0,.int .i64 0,.string ⟨#[]⟩,.int .i64 0,.int .i64 0,.int .i64 0,.int .i64 0,.int .i64 0,.slice none 0 0,.slice none 0 0,.string ⟨#[]⟩,.int .i64 0,.string ⟨#[]⟩] 51):=⟨_,rfl⟩
 have n0:=stV_new (w.alloc (.cells #[.int .i64 me,.slice ao n cap] 31)) #[.int .i64 0,.int .i64 0,.string ⟨#[]⟩,.int .i64 0,.int .i64 0,.int .i64 0,.int .i64 0,.int .i64 0,.slice none 0 0,.slice none 0 0,.string ⟨#[]⟩,.int .i64 0,.string ⟨#[]⟩] y rfl
 simp only [World.size_alloc] at n0
 have HEs:Hid (Ex w.heap.size none w ws):=Lib.hid (by rw [hws];exact(((Ex.new w _).alloc (by simp) _).alloc (by simp;omega) _).alloc (by simp;omega) _)
 have hzs:ws.heap.size=w.heap.size+4:=by rw [hws];simp
 have HBs:Hid (SayB w.heap.size me (.slice ao n cap) y ws):=Lib.hid (by
  rw [hws]
  refine⟨?_,?_,?_,?_⟩
  · exact(at_oldX _ _ _ (by simp;omega)).trans ((at_oldX _ _ _ (by simp;omega)).trans (heap_alloc2_old _ _ _))
  · exact(at_oldX _ _ _ (by simp)).trans ((at_oldX _ _ _ (by simp)).trans (heap_alloc2_new _ _ _))
  · have e:=heap_alloc_new ((w.alloc (.cells #[.int .i64 me,.slice ao n cap] 31)).alloc (.cells (stV y).cells 51)) (.cells #[.int .i64 0,.slice none 0 0] 31)
    simp only [World.size_alloc] at e
    exact(at_oldX _ _ _ (by simp)).trans e
  · have e:=heap_alloc_new (((w.alloc (.cells #[.int .i64 me,.slice ao n cap] 31)).alloc (.cells (stV y).cells 51)).alloc (.cells #[.int .i64 0,.slice none 0 0] 31)) (.cells #[.int .i64 0,.int .i64 0,.string ⟨#[]⟩,.int .i64 0,.int .i64 0,.int .i64 0,.int .i64 0,.int .i64 0,.slice none 0 0,.slice none 0 0,.string ⟨#[]⟩,.int .i64 0,.string ⟨#[]⟩] 51)
    simp only [World.size_alloc] at e
    exact e)
 obtain⟨m,hm⟩:∃m,(ownS me l).length=m:=⟨_,rfl⟩
 obtain⟨q,hq⟩:∃q,(chS me l).length=q:=⟨_,rfl⟩
 obtain⟨cn,hcn⟩:∃cn,nextE me (chS me l) y.1=cn:=⟨_,rfl⟩
 have hmn:m≤1000:=by have:=ownS_len me l;omega
 have hqn:q≤1000:=by have:=chS_len me l;omega
 have HM:=Lib.hid hm
 have HQ:=Lib.hid hq
 have HCN:=Lib.hid hcn
 have HME:=Lib.hid hme
 clear hn hx hvl hl htl hy hty hm hq hcn hme
 go_enter Tryz.func33,Tryz.ntmps33
 go_upto_region 1 with(fail)
 refine wp_world (fun W=>W=ws) (by rw [hws];rfl) (fun W hW=>?_)
 rw [hW]
 clear hW W hws n0
 obtain⟨-,-,l0,-⟩:=HBs.out.reads
 go_upto_region 2 with(first
  | (go_at_call 46
     refine(copy08_any (P:=P) me ao n cap l ws HN.out (HX.out.keep (by decide) fun b _ hb=>HEs.out.block b hb (by simp)) (by rw [HN.out];omega) HL.out).mono ?_
     rintro e w1 ⟨ro,rc,rfl,hown,hex⟩
     have hb1:=HBs.out.keep (by omega) hex
     obtain⟨hst1,hb2⟩:=hb1.set ro n rc
     obtain⟨w2,hw2⟩:∃w2:World,w2=w1.setRow w.heap.size #[.int .i64 me,.slice ro n rc]:=⟨_,rfl⟩
     rw [←hw2] at hst1 hb2
     have hz1:=hex.size
     have hz2:w2.heap.size=w1.heap.size:=by rw [hw2];simp [World.setRow]
     have HO:Hid (OwnS w2 ws.heap.size ro rc l):=Lib.hid (by rw [hw2];exact hown.keepP (p:=some w.heap.size) ((Ex.refl w1.heap.size (some w.heap.size) w1).setRow _ _ (.inl rfl)) (Nat.le_refl _) (fun q h=>by cases h;omega))
     have HE2:Hid (Ex w.heap.size none w w2):=Lib.hid (by rw [hw2];exact(HEs.out.trans hex (by omega) (by simp)).setRow _ _ (.inr (Nat.le_refl _)))
     have hzw:w.heap.size+4≤w2.heap.size:=by omega
     have HB2:Hid (∀w',Ex w2.heap.size none w2 w'→SayB w.heap.size me (.slice ro n rc) y w'):=Lib.hid (fun w' h=>hb2.keep hzw h)
     have HLY:Hid (∀w',Ex w2.heap.size none w2 w'→Lies P' w' y):=Lib.hid (fun w' h=>HY.out.keep fun b _ hb=>(h.block b (by omega) (by simp)).trans (HE2.out.block b hb (by simp)))
     have HSL:Hid (∀w',Ex w2.heap.size none w2 w'→SlAt stRep (fun b=>ws.heap.size≤b) w' ro l):=Lib.hid (fun w' h=>(HO.out.keep h (Nat.le_refl _)).sl.at'.mono (by decide) fun b hb _=>hb)
     clear hown hex hw2 l0 hb1 hb2)
  | fail)
 clear hst1
 obtain⟨-,-,l1,-⟩:=(HB2.out w2 (Ex.refl _ _ _)).reads
 go_upto_region 4 with(first
  | (go_at_call 17
     refine(valid08_yes (P:=fun b=>ws.heap.size≤b) me (.slice ro n rc) l w2 HME.out ⟨ro,rc,by rw [HN.out],HSL.out w2 (Ex.refl _ _ _)⟩ HVL.out).mono ?_
     rintro e w3 ⟨rfl,hex⟩
     have HE3:Hid (Ex w2.heap.size none w2 w3):=Lib.hid hex
     clear hex l1)
  | fail)
 obtain⟨c3,l3,-,-⟩:=(HB2.out w3 HE3.out).reads
 go_upto_region 5 with(first
  | (go_at_call 47
     refine(of05_s (P:=fun b=>ws.heap.size≤b) ro n m rc l me w3 HN.out (HSL.out w3 HE3.out) (by omega) HL.out HM.out).mono ?_
     rintro e w4 ⟨r4,rc4,rfl,hs4,hex⟩
     have HE4:Hid (Ex w2.heap.size none w2 w4):=Lib.hid (HE3.out.thenW hex)
     have HS4:Hid (Sl stRep (fun b=>w3.heap.size≤b) w4 (.slice r4 m rc4) (ownS me l)):=Lib.hid hs4
     clear hex hs4 c3 l3)
  | fail)
 obtain⟨c4,-,-,-⟩:=(HB2.out w4 HE4.out).reads
 go_upto_region 6 with(first
  | (go_at_call 48
     refine(counted04_s (P:=fun b=>w3.heap.size≤b) (.slice r4 m rc4) l me q w4 HS4.out (by rw [HN.out];omega) HTL.out HQ.out).mono ?_
     rintro e w5 ⟨r5,rc5,rfl,hs5,hex⟩
     have HE5:Hid (Ex w2.heap.size none w2 w5):=Lib.hid (HE4.out.thenW hex)
     have HS5:Hid (Sl stRep (fun b=>w4.heap.size≤b) w5 (.slice r5 q rc5) (chS me l)):=Lib.hid hs5
     clear hex hs5 c4)
  | fail)
 obtain⟨c5,l5,-,-⟩:=(HB2.out w5 HE5.out).reads
 go_wp2_with (fail)
 go_at_call 49
 refine(from06_w (P:=fun b=>ws.heap.size≤b) ro n rc l me w5 HN.out (HSL.out w5 HE5.out) (by rw [HN.out];omega) HTL.out).mono ?_
 rintro e w6 ⟨⟨qf,rfl⟩,hex⟩
 have HE6:Hid (Ex w2.heap.size none w2 w6):=Lib.hid (HE5.out.thenW hex)
 have HS6:Hid (Sl stRep (fun b=>w4.heap.size≤b) w6 (.slice r5 q rc5) (chS me l)):=Lib.hid (HS5.out.keep (by decide) fun b _ hb=>hex.block b hb (by simp))
 clear hex c5 l5
 by_cases hq0:0≤qf
 · have hq0d:decide (0≤qf)=true:=decide_eq_true hq0
   obtain⟨-,-,lz,-⟩:=(HB2.out w6 HE6.out).reads
   obtain⟨s4,s5,hr⟩:=(HB2.out w6 HE6.out).out ro n rc zerX
   have mz:=make_st0 w6
   have HR:=Lib.hid hr
   clear hr
   go_wp2
   refine bodyPost_ret (v:=.tuple #[.agg #[.int .i64 me,.slice ro n rc],stV zerX,.int .i64 10]) (results_rr rfl _ _ (by rfl) (by rfl) (by rfl) (HR.out _ rfl).1 (HR.out _ rfl).2) rfl ?_
   exact⟨⟨_,rfl,ro,n,rc,zerX,10,rfl,fun h=>absurd h (by decide)⟩,Ex.out2 (HE2.out.thenW HE6.out) _ _⟩
 · have hq0d:decide (0≤qf)=false:=decide_eq_false hq0
   by_cases hqm:q=m
   · subst hqm
     have hqmd: ((q:Int) != (q:Int))=false:=by simp
     obtain⟨c6,-,-,ls6⟩:=(HB2.out w6 HE6.out).reads
     go_upto_region 9 with(first
      | (go_at_call 50
         refine(next04_s (P:=fun b=>w4.heap.size≤b) (P':=P') (.slice r5 q rc5) l me y cn w6 HS6.out (by rw [HN.out];omega) HTL.out (HLY.out w6 HE6.out) HT.out HCN.out).mono ?_
         rintro e w7 ⟨r,rfl,hlr,hr7,hex⟩
         have HE7:Hid (Ex w2.heap.size none w2 w7):=Lib.hid (HE6.out.thenW hex)
         have HR7:Hid (Lies (fun b=>w6.heap.size≤b) w7 r∧(cn=0→r.1=nextS me (chS me l) y.1)):=Lib.hid ⟨hlr,hr7⟩
         have ns:=stV_new w7 #[.int .i64 0,.int .i64 0,.string ⟨#[]⟩,.int .i64 0,.int .i64 0,.int .i64 0,.int .i64 0,.int .i64 0,.slice none 0 0,.slice none 0 0,.string ⟨#[]⟩,.int .i64 0,.string ⟨#[]⟩] r rfl
         clear hlr hr7 hex c6 ls6)
      | fail)
     obtain⟨g9,hg9⟩:∃g9,g9=w7.heap.size:=⟨_,rfl⟩
     obtain⟨w8,hw8⟩:∃w8:World,w8=w7.alloc (.cells (stE r).toArray 51):=⟨_,rfl⟩
     have hx8:Ex w7.heap.size none w7 w8:=by rw [hw8];exact Ex.new _ _
     have HE8:Hid (Ex w2.heap.size none w2 w8):=Lib.hid (HE7.out.thenW hx8)
     have HB8:Hid (w8.heap[g9]? =some (.cells (stE r).toArray 51 (0,0))∧g9 < w8.heap.size):=Lib.hid (by rw [hw8,hg9];exact⟨heap_alloc_new _ _,by simp⟩)
     have HL8:Hid (Lies (fun b=>w6.heap.size≤b) w8 r):=Lib.hid (HR7.out.1.keep fun b _ hb=>hx8.block b hb (by simp))
     have hg9z:w.heap.size+4≤g9:=by have:=HE7.out.size;omega
     refine wp_world (fun W=>W=w8) (by rw [hw8];rfl) (fun W hW=>?_)
     rw [hW]
     clear hW W hw8 ns hx8
     rw [←hg9]
     clear hg9
     by_cases hcn0:cn=0
     · have hcnd: (cn != 0)=false:=by simp [hcn0]
       have HRS:Hid (r.1=nextS me (chS me l) y.1):=Lib.hid (HR7.out.2 hcn0)
       clear hcn0
       obtain⟨-,ls8,-,-⟩:=(HB2.out w8 HE8.out).reads
       have lr8:=stV_box HB8.out.1
       go_upto_region 12 with(first
        | (go_at_call 51
           refine(add05_any (P:=fun b=>ws.heap.size≤b) (P':=fun b=>w6.heap.size≤b) ro n rc l r w8 HN.out (HSL.out w8 HE8.out) HVL.out HL.out HL8.out (by rw [HRS.out];exact nextS_tame HT.out)).mono ?_
           rintro e w9 ⟨⟨ra,ka,rca,ab,ca,l',rfl,hca⟩,hex⟩
           have HE9:Hid (Ex w2.heap.size none w2 w9):=Lib.hid (HE8.out.thenW hex)
           have HA9:=Lib.hid hca
           have HB9:Hid (w9.heap[g9]? =some (.cells (stE r).toArray 51 (0,0))∧w8.heap.size≤w9.heap.size):=Lib.hid ⟨(hex.block g9 HB8.out.2 (by simp)).trans HB8.out.1,hex.size⟩
           have hs9:=sto_store (heap_alloc_new w9 (.cells #[.slice none 0 0] 29)) rfl (.slice ra ka rca) rfl
           obtain⟨w10,hw10⟩:∃w10:World,w10= (w9.alloc (.cells #[.slice none 0 0] 29)).setRow w9.heap.size #[.slice ra ka rca]:=⟨_,rfl⟩
           have hx10:Ex w9.heap.size none w9 w10:=by rw [hw10];exact(Ex.new _ _).setRow _ _ (.inr (Nat.le_refl _))
           have HE10:Hid (Ex w2.heap.size none w2 w10):=Lib.hid (HE9.out.thenW hx10)
           have HB10:Hid (w10.heap[g9]? =some (.cells (stE r).toArray 51 (0,0))∧w10.heap[w9.heap.size]? =some (.cells #[.slice ra ka rca] 29 (0,0))∧w9.heap.size≤w10.heap.size):=Lib.hid ⟨(hx10.block g9 (by have:=HB9.out.2;have:=HB8.out.2;omega) (by simp)).trans HB9.out.1,by rw [hw10];exact setRow_heap _ _ _ _ _ _ (heap_alloc_new _ _),hx10.size⟩
           have HX10:=Lib.hid hx10
           rw [←hw10] at hs9
           clear hca hex ls8 lr8 hw10 hx10)
        | fail)
       obtain⟨gt,hgt⟩:∃gt,gt=w9.heap.size:=⟨_,rfl⟩
       have hzg9:=HB10.out.2.2
       rw [←hgt]
       rw [←hgt] at HB10
       clear hs9
       have hgtz:w.heap.size+4≤gt:=by have:=HE9.out.size;omega
       have hgtw:gt < w10.heap.size:=(Array.getElem?_eq_some_iff.1 HB10.out.2.1).1
       clear hgt
       by_cases hca0:ca=0
       · subst hca0
         obtain⟨q1,q2,q3,q4,q5,q6⟩:=HA9.out rfl
         have HQ6:Hid (OwnS w10 w8.heap.size ra rca l'):=Lib.hid (q6.keep HX10.out (Nat.le_refl _))
         have HQ1:Hid (l' =put05 l (nextS me (chS me l) y.1)∧checkI (nextS me (chS me l) y.1)=0∧sealedB (nextS me (chS me l) y.1)=true∧l'.length=ka∧ka≤1000):=Lib.hid (by rw [←HRS.out];exact⟨q1,q2,q3,q4,q5⟩)
         clear q1 q2 q3 q4 q5 q6
         have lt10:=sto_load (box_cell HB10.out.2.1)
         obtain⟨hs11,hb11⟩:=(HB2.out w10 HE10.out).mid (.slice ra ka rca) rfl
         obtain⟨w11,hw11⟩:∃w11:World,w11=w10.setCell ⟨w.heap.size,1,none⟩ (.slice ra ka rca):=⟨_,rfl⟩
         rw [←hw11] at hs11 hb11
         have hz11:w11.heap.size=w10.heap.size:=by rw [hw11];simp
         have HX11:Hid (Ex w10.heap.size (some w.heap.size) w10 w11):=Lib.hid (by rw [hw11];exact(Ex.refl _ _ _).setCell _ _ _ (.inl rfl))
         have HEW11:Hid (Ex w.heap.size none w w11):=Lib.hid (by rw [hw11];exact(HE2.out.thenW HE10.out).setCell _ _ _ (.inr (Nat.le_refl _)))
         have HB11:=Lib.hid hb11
         have hg9b:g9 < w11.heap.size:=by have:=HB10.out.2.2;have:=HB8.out.2;have:=HB9.out.2;omega
         have HR11:Hid (∀v,Ex w11.heap.size none w11 v→SayB w.heap.size me (.slice ra ka rca) y v∧v.heap[g9]? =some (.cells (stE r).toArray 51 (0,0))):=Lib.hid (fun v h=>⟨HB11.out.keep (by omega) h,(h.block g9 hg9b (by simp)).trans ((HX11.out.block g9 (by have:=HB8.out.2;have:=HB9.out.2;omega) (by simp;omega)).trans HB10.out.1)⟩)
         clear hw11 hb11
         go_upto_region 15 with(fail)
         clear hs11 lt10
         have HQ11:Hid (∀v:World,v.heap[w.heap.size]? =w11.heap[w.heap.size]?→v.heap[g9]? =w11.heap[g9]?→(rowLoad 31 ⟨w.heap.size,0,none⟩).run Tryz.prog v=.ok (.agg #[.int .i64 me,.slice ra ka rca]) v∧(rowLoad 51 ⟨g9,0,none⟩).run Tryz.prog v=.ok (stV r) v):=Lib.hid (fun v h1 h2=>⟨peer_load2 (h1.trans HB11.out.1) rfl,stV_box (h2.trans (HR11.out w11 (Ex.refl _ _ _)).2)⟩)
         have hnz1:w.heap.size≠w.heap.size+1+1∧w.heap.size≠w.heap.size+1+1+1:=by omega
         have hnz2:g9≠w.heap.size+1+1∧g9≠w.heap.size+1+1+1:=by omega
         have HNZ:=Lib.hid (And.intro hnz1 hnz2)
         clear hnz1 hnz2
         have HX12:Hid (Ex w11.heap.size none w11 w11.drew):=Lib.hid (Ex.refl _ _ _).drew
         obtain⟨s4,s5,hr⟩:=(HR11.out w11.drew HX12.out).1.out ra ka rca r
         have HR:=Lib.hid hr
         clear hr
         go_region_held3 (fun w'=>(rowLoad 31 ⟨w.heap.size,0,none⟩).run Tryz.prog w' =.ok (.agg #[.int .i64 me,.slice ra ka rca]) w'∧(rowLoad 51 ⟨g9,0,none⟩).run Tryz.prog w' =.ok (stV r) w') (exact HQ11.out _ (by repeat(first | with_reducible refine(setRow_other _ _ _ _ (Ne.symm HNZ.out.1.1)).trans ?_ | with_reducible refine(setRow_other _ _ _ _ (Ne.symm HNZ.out.1.2)).trans ?_ | with_reducible refine(setRow_other _ _ _ _ HNZ.out.1.1).trans ?_ | with_reducible refine(setRow_other _ _ _ _ HNZ.out.1.2).trans ?_ | exact rfl)) (by repeat(first | with_reducible refine(setRow_other _ _ _ _ (Ne.symm HNZ.out.2.1)).trans ?_ | with_reducible refine(setRow_other _ _ _ _ (Ne.symm HNZ.out.2.2)).trans ?_ | with_reducible refine(setRow_other _ _ _ _ HNZ.out.2.1).trans ?_ | with_reducible refine(setRow_other _ _ _ _ HNZ.out.2.2).trans ?_ | exact rfl))) (fail)
         go_wp2
         refine bodyPost_ret (v:=.tuple #[.agg #[.int .i64 me,.slice ra ka rca],stV r,.int .i64 0]) (results_rr rfl _ _ (by rfl) (by rfl) (by rfl) (HR.out _ rfl).1 (HR.out _ rfl).2) rfl ?_
         refine⟨⟨_,rfl,ra,ka,rca,r,0,rfl,fun _=>⟨l',HQ1.out.1,by rw [HQ.out,HM.out],HQ1.out.2.1,HQ1.out.2.2.1,HQ1.out.2.2.2.1,HQ1.out.2.2.2.2,?_⟩⟩,Ex.out2 (HEW11.out.thenW HX12.out) _ _⟩
         have k11:OwnS w11 w8.heap.size ra rca l':=HQ6.out.keepP HX11.out (Nat.le_refl _) (fun q e=>by cases e;have:=HE8.out.size;omega)
         have k12:OwnS w11.drew w8.heap.size ra rca l':=k11.keep HX12.out (Nat.le_refl _)
         have h8:=HE8.out.size
         exact((k12.keepP (p:=some (w.heap.size+1+1)) ((Ex.refl w11.drew.heap.size (some (w.heap.size+1+1)) w11.drew).setRow _ _ (.inl rfl)) (Nat.le_refl _) (fun q e=>by cases e;omega)).keepP (p:=some (w.heap.size+1+1+1)) ((Ex.refl _ (some (w.heap.size+1+1+1)) _).setRow _ _ (.inl rfl)) (Nat.le_refl _) (fun q e=>by cases e;omega)).lowerS (by omega)
       · have hcad: (ca != 0)=true:=by simp [hca0]
         obtain⟨-,-,lz,-⟩:=(HB2.out w10 HE10.out).reads
         obtain⟨s4,s5,hr⟩:=(HB2.out w10 HE10.out).out ro n rc zerX
         have mz:=make_st0 w10
         have HR:=Lib.hid hr
         clear hr
         go_wp2
         refine bodyPost_ret (v:=.tuple #[.agg #[.int .i64 me,.slice ro n rc],stV zerX,.int .i64 ca]) (results_rr rfl _ _ (by rfl) (by rfl) (by rfl) (HR.out _ rfl).1 (HR.out _ rfl).2) rfl ?_
         exact⟨⟨_,rfl,ro,n,rc,zerX,ca,rfl,fun h=>absurd h hca0⟩,Ex.out2 (HE2.out.thenW HE10.out) _ _⟩
     · have hcnd: (cn != 0)=true:=by simp [hcn0]
       obtain⟨-,-,lz,-⟩:=(HB2.out w8 HE8.out).reads
       obtain⟨s4,s5,hr⟩:=(HB2.out w8 HE8.out).out ro n rc zerX
       have mz:=make_st0 w8
       have HR:=Lib.hid hr
       clear hr
       go_wp2
       refine bodyPost_ret (v:=.tuple #[.agg #[.int .i64 me,.slice ro n rc],stV zerX,.int .i64 cn]) (results_rr rfl _ _ (by rfl) (by rfl) (by rfl) (HR.out _ rfl).1 (HR.out _ rfl).2) rfl ?_
       exact⟨⟨_,rfl,ro,n,rc,zerX,cn,rfl,fun h=>absurd h hcn0⟩,Ex.out2 (HE2.out.thenW HE8.out) _ _⟩
   · have hqmd: ((q:Int) != (m:Int))=true:=by simp;omega
     obtain⟨-,-,lz,-⟩:=(HB2.out w6 HE6.out).reads
     obtain⟨s4,s5,hr⟩:=(HB2.out w6 HE6.out).out ro n rc zerX
     have mz:=make_st0 w6
     have HR:=Lib.hid hr
     clear hr
     go_wp2
     refine bodyPost_ret (v:=.tuple #[.agg #[.int .i64 me,.slice ro n rc],stV zerX,.int .i64 10]) (results_rr rfl _ _ (by rfl) (by rfl) (by rfl) (HR.out _ rfl).1 (HR.out _ rfl).2) rfl ?_
     exact⟨⟨_,rfl,ro,n,rc,zerX,10,rfl,fun h=>absurd h (by decide)⟩,Ex.out2 (HE2.out.thenW HE6.out) _ _⟩
end
section
theorem SayV.lower {me:Int} {l:List St} {s:St} {b1 b0:Nat} {v:Value} {w:World} (h:SayV me l s b1 v w) (hb:b0≤b1):SayV me l s b0 v w:=by
 obtain⟨ro,k,rc,z,c,h1,h2⟩:=h
 refine⟨ro,k,rc,z,c,h1,fun h0=>?_⟩
 obtain⟨l',q1,q2,q3,q4,q5,q6,q7⟩:=h2 h0
 exact⟨l',q1,q2,q3,q4,q5,q6,q7.lowerS hb⟩
def Fact.say (me:Int) (l:List St) (s:St) (base:Nat):Fact:=⟨fun v w=>SayV me l s base v w,fun⟨ro,k,rc,z,c,h1,h2⟩ hx=>⟨ro,k,rc,z,c,h1,fun h0=>by
 obtain⟨l',q1,q2,q3,q4,q5,q6,q7⟩:=h2 h0
 exact⟨l',q1,q2,q3,q4,q5,q6,q7.keep hx (Nat.le_refl _)⟩⟩⟩
attribute [local go_sem ↓] rowLoad_stv rowStore_stv rowLoad_peer2 rowStore_peer2
set_option maxHeartbeats 16000000 in
set_option maxRecDepth 100000 in
theorem say36_w {P P' :Nat→Prop} (me:Int) (ao:Option Addr) (n cap:Nat) (l:List St) (x:St×Sv×Sv) (t:Int) (w:World) (hme:0≤me∧me < 64) (hn:l.length=n) (hs:SlAt stRep P w ao l) (hvl:validB l=true) (hl:LightL 1000000 l) (htl:TameL l) (hx:Lies P' w x) (hm:x.1.list.length≤10000∧x.1.pins.length≤1000) (hd: (pinsL x.1.pins).length≤1200000) :
 Calls Tryz.prog 13 #[.agg #[.int .i64 me,.slice ao n cap],drV x,.int .i64 t] w fun e w'=>SayE me l (millU 0 0 t x.1 ⟨#[]⟩) w.heap.size e w'∧Ex w.heap.size none w w':=by
 obtain⟨hln1,hln2⟩:=lies_len hx
 obtain⟨d,⟨lo,n1,lc⟩,⟨po,n2,pc⟩⟩:=x
 have e1:n1=d.list.length:=hln1
 have e2:n2=d.pins.length:=hln2
 have HN:Hid (d.list.length=n1∧d.pins.length=n2):=Lib.hid ⟨e1.symm,e2.symm⟩
 have hm' :n1≤10000∧n2≤1000:=by rw [e1,e2];exact hm
 have HTM:Hid (Tame (millU 0 0 t d ⟨#[]⟩)):=Lib.hid ⟨hm.1,hm.2,Nat.zero_le _,Nat.zero_le _,hd⟩
 have HST:Hid ((0≤me∧me < 64)∧l.length=n∧validB l=true∧LightL 1000000 l∧TameL l):=Lib.hid ⟨hme,hn,hvl,hl,htl⟩
 obtain⟨hm1,hm2⟩:=hm'
 clear hln1 hln2 e1 e2 hm hd hme hn hvl hl htl
 obtain⟨w0,hw0⟩:∃w0:World,w0= (((w.alloc (.cells #[.int .i64 me,.slice ao n cap] 31)).alloc (.cells (drE (d,⟨lo,n1,lc⟩,⟨po,n2,pc⟩)).toArray 35)).alloc (.cells #[.int .i64 0,.slice none 0 0] 31)).alloc (.cells #[.int .i64 0,.int .i64 0,.string ⟨#[]⟩,.int .i64 0,.int .i64 0,.int .i64 0,.int .i64 0,.int .i64 0,.slice none 0 0,.slice none 0 0,.string ⟨#[]⟩,.int .i64 0,.string ⟨#[]⟩] 51):=⟨_,rfl⟩
 have HE0:Hid (Ex w.heap.size none w w0):=Lib.hid (by rw [hw0];exact(((Ex.new w _).alloc (by simp) _).alloc (by simp;omega) _).alloc (by simp;omega) _)
 have hz0:w0.heap.size=w.heap.size+4:=by rw [hw0];simp
 have HB0:Hid (w0.heap[w.heap.size]? =some (.cells #[.int .i64 me,.slice ao n cap] 31 (0,0))∧w0.heap[w.heap.size+1]? =some (.cells (drE (d,⟨lo,n1,lc⟩,⟨po,n2,pc⟩)).toArray 35 (0,0))∧w0.heap[w.heap.size+1+1]? =some (.cells #[.int .i64 0,.slice none 0 0] 31 (0,0))∧w0.heap[w.heap.size+1+1+1]? =some (.cells #[.int .i64 0,.int .i64 0,.string ⟨#[]⟩,.int .i64 0,.int .i64 0,.int .i64 0,.int .i64 0,.int .i64 0,.slice none 0 0,.slice none 0 0,.string ⟨#[]⟩,.int .i64 0,.string ⟨#[]⟩] 51 (0,0))):=Lib.hid (by
  rw [hw0]
  refine⟨?_,?_,?_,?_⟩
  · exact(at_oldX _ _ _ (by simp;omega)).trans ((at_oldX _ _ _ (by simp;omega)).trans (heap_alloc2_old _ _ _))
  · exact(at_oldX _ _ _ (by simp)).trans ((at_oldX _ _ _ (by simp)).trans (heap_alloc2_new _ _ _))
  · have e:=heap_alloc_new ((w.alloc (.cells #[.int .i64 me,.slice ao n cap] 31)).alloc (.cells (drE (d,⟨lo,n1,lc⟩,⟨po,n2,pc⟩)).toArray 35)) (.cells #[.int .i64 0,.slice none 0 0] 31)
    simp only [World.size_alloc] at e
    exact(at_oldX _ _ _ (by simp)).trans e
  · have e:=heap_alloc_new (((w.alloc (.cells #[.int .i64 me,.slice ao n cap] 31)).alloc (.cells (drE (d,⟨lo,n1,lc⟩,⟨po,n2,pc⟩)).toArray 35)).alloc (.cells #[.int .i64 0,.slice none 0 0] 31)) (.cells #[.int .i64 0,.int .i64 0,.string ⟨#[]⟩,.int .i64 0,.int .i64 0,.int .i64 0,.int .i64 0,.int .i64 0,.slice none 0 0,.slice none 0 0,.string ⟨#[]⟩,.int .i64 0,.string ⟨#[]⟩] 51)
    simp only [World.size_alloc] at e
    exact e)
 have HP:Hid (∀w',Ex w0.heap.size none w0 w'→(rowLoad 31 ⟨w.heap.size,0,none⟩).run Tryz.prog w' =.ok (.agg #[.int .i64 me,.slice ao n cap]) w'):=Lib.hid (fun w' h=>peer_load2 ((h.block _ (by omega) (by simp)).trans HB0.out.1) rfl)
 have HR:Hid (∀w',Ex w0.heap.size none w0 w'→w'.heap[w.heap.size+1+1]? =some (.cells #[.int .i64 0,.slice none 0 0] 31 (0,0))∧w'.heap[w.heap.size+1+1+1]? =some (.cells #[.int .i64 0,.int .i64 0,.string ⟨#[]⟩,.int .i64 0,.int .i64 0,.int .i64 0,.int .i64 0,.int .i64 0,.slice none 0 0,.slice none 0 0,.string ⟨#[]⟩,.int .i64 0,.string ⟨#[]⟩] 51 (0,0))):=Lib.hid (fun w' h=>⟨(h.block _ (by omega) (by simp)).trans HB0.out.2.2.1,(h.block _ (by omega) (by simp)).trans HB0.out.2.2.2⟩)
 have HQ:Hid (∀w',Ex w0.heap.size none w0 w'→w'.cell? ⟨w.heap.size+1,0,none⟩=some (.int .i64 d.kind)∧w'.cell? ⟨w.heap.size+1,1,none⟩=some (.int .i64 d.a)∧w'.cell? ⟨w.heap.size+1,2,none⟩=some (.int .i64 d.b)∧w'.cell? ⟨w.heap.size+1,3,none⟩=some (.int .i64 d.c)∧w'.cell? ⟨w.heap.size+1,4,none⟩=some (.slice lo n1 lc)∧w'.cell? ⟨w.heap.size+1,5,none⟩=some (.slice po n2 pc)):=Lib.hid (fun w' h=>by
  have k:=(h.block _ (by omega) (by simp)).trans HB0.out.2.1
  refine⟨?_,?_,?_,?_,?_,?_⟩ <;> (rw [cell_of_row _ _ _ _ _ _ k];rfl))
 have HLX:Hid (∀w',Ex w0.heap.size none w0 w'→Lies P' w' (d,⟨lo,n1,lc⟩,⟨po,n2,pc⟩)):=Lib.hid (fun w' h=>hx.keep fun b _ hb=>(h.block b (by omega) (by simp)).trans (HE0.out.block b hb (by simp)))
 have HSL:Hid (∀w',Ex w0.heap.size none w0 w'→SlAt stRep P w' ao l):=Lib.hid (fun w' h=>hs.keep (by decide) fun b _ hb=>(h.block b (by omega) (by simp)).trans (HE0.out.block b hb (by simp)))
 clear hx hs
 go_enter Tryz.func13,Tryz.ntmps13
 go_upto_region 1 with(fail)
 refine wp_world (fun W=>W=w0) (by rw [hw0];rfl) (fun W hW=>?_)
 rw [hW]
 clear hW W hw0
 refine wp_region_steps 32 [Fact.is (.agg #[.int .i64 me,.slice ao n cap]),
  Fact.is (.int .i64 t),
  Fact.is (.pointer (some ⟨w.heap.size+1,0,none⟩)),
  Fact.is (.int .i64 d.kind),
  Fact.is (.pointer (some ⟨w.heap.size+1,1,none⟩)),
  Fact.is (.int .i64 d.a),
  Fact.is (.pointer (some ⟨w.heap.size+1,2,none⟩)),
  Fact.is (.int .i64 d.b),
  Fact.is (.pointer (some ⟨w.heap.size+1,3,none⟩)),
  Fact.is (.int .i64 d.c),
  Fact.emp w0.heap.size 3,
  Fact.is (.pointer (some ⟨w.heap.size+1,4,none⟩)),
  Fact.is (.slice lo n1 lc),
  Fact.own iE 1 3 w0.heap.size n1 d.list,
  Fact.emp w0.heap.size 77,
  Fact.is (.pointer (some ⟨w.heap.size+1,5,none⟩)),
  Fact.is (.slice po n2 pc),
  Fact.own pinE 3 77 w0.heap.size n2 d.pins,
  Fact.st2 w0.heap.size n1 n2 (millU 0 0 t d ⟨#[]⟩),
  Fact.say me l (millU 0 0 t d ⟨#[]⟩) w0.heap.size] (by kernel_rfl) (by kernel_rfl) rfl ?_ ?_
 · refine⟨?_,?_,?_,?_,?_,?_,?_,?_,?_,?_,?_,?_,?_,?_,?_,?_,?_,?_,?_,?_,trivial⟩
   · -- 0 load
     intro a' w' hR hF hK K h
     have e3:a'.eval (.tmp 3)=.pointer (some ⟨w.heap.size,0,none⟩):=hF.evalB 3 (by kernel_rfl)
     have l0:=HP.out w' hR
     refine wp_value (v:=.agg #[.int .i64 me,.slice ao n cap]) ?_ (h _ _ (Ex.refl _ _ _) rfl)
     generalize a'.eval=ev at e3 ⊢
     go_simp
   · -- 1 move
     intro a' w' hR hF hK K h
     have e2:a'.eval (.tmp 2)=.int .i64 t:=hF.evalB 2 (by kernel_rfl)
     refine wp_value (v:=.int .i64 t) ?_ (h _ _ (Ex.refl _ _ _) rfl)
     generalize a'.eval=ev at e2 ⊢
     go_simp
   · -- 2 fieldAddr
     intro a' w' hR hF hK K h
     have e4:a'.eval (.tmp 4)=.pointer (some ⟨w.heap.size+1,0,none⟩):=hF.evalB 4 (by kernel_rfl)
     refine wp_value (v:=.pointer (some ⟨w.heap.size+1,0,none⟩)) ?_ (h _ _ (Ex.refl _ _ _) rfl)
     generalize a'.eval=ev at e4 ⊢
     go_simp
   · -- 3 load
     intro a' w' hR hF hK K h
     have e11:a'.eval (.tmp 11)=.pointer (some ⟨w.heap.size+1,0,none⟩):=hK { on:=2,ground:=.data } (by simp) rfl (by show(2:Nat) < 20;omega)
     obtain⟨d0,d1,d2,d3,d4,d5⟩:=HQ.out w' hR
     refine wp_value (v:=.int .i64 d.kind) ?_ (h _ _ (Ex.refl _ _ _) rfl)
     generalize a'.eval=ev at e11 ⊢
     go_simp
   · -- 4 fieldAddr
     intro a' w' hR hF hK K h
     have e4:a'.eval (.tmp 4)=.pointer (some ⟨w.heap.size+1,0,none⟩):=hF.evalB 4 (by kernel_rfl)
     refine wp_value (v:=.pointer (some ⟨w.heap.size+1,1,none⟩)) ?_ (h _ _ (Ex.refl _ _ _) rfl)
     generalize a'.eval=ev at e4 ⊢
     go_simp
   · -- 5 load
     intro a' w' hR hF hK K h
     have e13:a'.eval (.tmp 13)=.pointer (some ⟨w.heap.size+1,1,none⟩):=hK { on:=4,ground:=.data } (by simp) rfl (by show(4:Nat) < 20;omega)
     obtain⟨d0,d1,d2,d3,d4,d5⟩:=HQ.out w' hR
     refine wp_value (v:=.int .i64 d.a) ?_ (h _ _ (Ex.refl _ _ _) rfl)
     generalize a'.eval=ev at e13 ⊢
     go_simp
   · -- 6 fieldAddr
     intro a' w' hR hF hK K h
     have e4:a'.eval (.tmp 4)=.pointer (some ⟨w.heap.size+1,0,none⟩):=hF.evalB 4 (by kernel_rfl)
     refine wp_value (v:=.pointer (some ⟨w.heap.size+1,2,none⟩)) ?_ (h _ _ (Ex.refl _ _ _) rfl)
     generalize a'.eval=ev at e4 ⊢
     go_simp
   · -- 7 load
     intro a' w' hR hF hK K h
     have e15:a'.eval (.tmp 15)=.pointer (some ⟨w.heap.size+1,2,none⟩):=hK { on:=6,ground:=.data } (by simp) rfl (by show(6:Nat) < 20;omega)
     obtain⟨d0,d1,d2,d3,d4,d5⟩:=HQ.out w' hR
     refine wp_value (v:=.int .i64 d.b) ?_ (h _ _ (Ex.refl _ _ _) rfl)
     generalize a'.eval=ev at e15 ⊢
     go_simp
   · -- 8 fieldAddr
     intro a' w' hR hF hK K h
     have e4:a'.eval (.tmp 4)=.pointer (some ⟨w.heap.size+1,0,none⟩):=hF.evalB 4 (by kernel_rfl)
     refine wp_value (v:=.pointer (some ⟨w.heap.size+1,3,none⟩)) ?_ (h _ _ (Ex.refl _ _ _) rfl)
     generalize a'.eval=ev at e4 ⊢
     go_simp
   · -- 9 load
     intro a' w' hR hF hK K h
     have e17:a'.eval (.tmp 17)=.pointer (some ⟨w.heap.size+1,3,none⟩):=hK { on:=8,ground:=.data } (by simp) rfl (by show(8:Nat) < 20;omega)
     obtain⟨d0,d1,d2,d3,d4,d5⟩:=HQ.out w' hR
     refine wp_value (v:=.int .i64 d.c) ?_ (h _ _ (Ex.refl _ _ _) rfl)
     generalize a'.eval=ev at e17 ⊢
     go_simp
   · -- 10 buildSlice
     intro a' w' hR hF hK K h
     refine wp_value (v:=.slice (some ⟨w'.heap.size,0,none⟩) 0 0) (w':=w'.alloc (.cells #[] 3)) ?_ (h _ _ (Ex.new _ _) ⟨_,rfl,hR.size,heap_alloc_new _ _⟩)
     generalize a'.eval=ev
     go_simp
   · -- 11 fieldAddr
     intro a' w' hR hF hK K h
     have e4:a'.eval (.tmp 4)=.pointer (some ⟨w.heap.size+1,0,none⟩):=hF.evalB 4 (by kernel_rfl)
     refine wp_value (v:=.pointer (some ⟨w.heap.size+1,4,none⟩)) ?_ (h _ _ (Ex.refl _ _ _) rfl)
     generalize a'.eval=ev at e4 ⊢
     go_simp
   · -- 12 load
     intro a' w' hR hF hK K h
     have e20:a'.eval (.tmp 20)=.pointer (some ⟨w.heap.size+1,4,none⟩):=hK { on:=11,ground:=.data } (by simp) rfl (by show(11:Nat) < 20;omega)
     obtain⟨d0,d1,d2,d3,d4,d5⟩:=HQ.out w' hR
     refine wp_value (v:=.slice lo n1 lc) ?_ (h _ _ (Ex.refl _ _ _) rfl)
     generalize a'.eval=ev at e20 ⊢
     go_simp
   · -- 13 call
     intro a' w' hR hF hK K h
     have F19:=hK { on:=10,ground:=.data } (by simp) rfl (by show(10:Nat) < 20;omega)
     have e21:a'.eval (.tmp 21)=.slice lo n1 lc:=hK { on:=12,ground:=.data } (by simp) rfl (by show(12:Nat) < 20;omega)
     obtain⟨b,e19,hb,hbe⟩:=F19
     exact wp_appN rfl (.tmp 19) (.tmp 21) 22 3 (by rfl) Tryz.underlying22 _ 1 8 Tryz.infoInt rfl (by decide) (by decide) iE iE_len one_iE w0.heap.size b e19 hb hbe lo n1 lc e21 d.list HN.out.1 (ints_srcE (sl_ints (HLX.out w' hR).1)) (by omega) hR.size (fun v w'' hx hf=>h v w'' hx hf)
   · -- 14 buildSlice
     intro a' w' hR hF hK K h
     refine wp_value (v:=.slice (some ⟨w'.heap.size,0,none⟩) 0 0) (w':=w'.alloc (.cells #[] 77)) ?_ (h _ _ (Ex.new _ _) ⟨_,rfl,hR.size,heap_alloc_new _ _⟩)
     generalize a'.eval=ev
     go_simp
   · -- 15 fieldAddr
     intro a' w' hR hF hK K h
     have e4:a'.eval (.tmp 4)=.pointer (some ⟨w.heap.size+1,0,none⟩):=hF.evalB 4 (by kernel_rfl)
     refine wp_value (v:=.pointer (some ⟨w.heap.size+1,5,none⟩)) ?_ (h _ _ (Ex.refl _ _ _) rfl)
     generalize a'.eval=ev at e4 ⊢
     go_simp
   · -- 16 load
     intro a' w' hR hF hK K h
     have e24:a'.eval (.tmp 24)=.pointer (some ⟨w.heap.size+1,5,none⟩):=hK { on:=15,ground:=.data } (by simp) rfl (by show(15:Nat) < 20;omega)
     obtain⟨d0,d1,d2,d3,d4,d5⟩:=HQ.out w' hR
     refine wp_value (v:=.slice po n2 pc) ?_ (h _ _ (Ex.refl _ _ _) rfl)
     generalize a'.eval=ev at e24 ⊢
     go_simp
   · -- 17 call
     intro a' w' hR hF hK K h
     have F23:=hK { on:=14,ground:=.data } (by simp) rfl (by show(14:Nat) < 20;omega)
     have e25:a'.eval (.tmp 25)=.slice po n2 pc:=hK { on:=16,ground:=.data } (by simp) rfl (by show(16:Nat) < 20;omega)
     obtain⟨b,e23,hb,hbe⟩:=F23
     exact wp_appN rfl (.tmp 23) (.tmp 25) 33 77 (by rfl) Tryz.underlying33 _ 3 32 Tryz.infoPin rfl (by decide) (by decide) pinE pinE_len one_pinE w0.heap.size b e23 hb hbe po n2 pc e25 d.pins HN.out.2 (pin_src (HLX.out w' hR).2) (by omega) hR.size (fun v w'' hx hf=>h v w'' hx hf)
   · -- 18 build
     intro a' w' hR hF hK K h
     have e10:a'.eval (.tmp 10)=.int .i64 t:=hK { on:=1,ground:=.data } (by simp) rfl (by show(1:Nat) < 20;omega)
     have e12:a'.eval (.tmp 12)=.int .i64 d.kind:=hK { on:=3,ground:=.data } (by simp) rfl (by show(3:Nat) < 20;omega)
     have e14:a'.eval (.tmp 14)=.int .i64 d.a:=hK { on:=5,ground:=.data } (by simp) rfl (by show(5:Nat) < 20;omega)
     have e16:a'.eval (.tmp 16)=.int .i64 d.b:=hK { on:=7,ground:=.data } (by simp) rfl (by show(7:Nat) < 20;omega)
     have e18:a'.eval (.tmp 18)=.int .i64 d.c:=hK { on:=9,ground:=.data } (by simp) rfl (by show(9:Nat) < 20;omega)
     have F22:=hK { on:=13,ground:=.data } (by simp) rfl (by show(13:Nat) < 20;omega)
     have F26:=hK { on:=17,ground:=.data } (by simp) rfl (by show(17:Nat) < 20;omega)
     obtain⟨la,lk,e22,ho⟩:=F22
     obtain⟨qo,qc,e26,hq⟩:=F26
     replace e22:a'.eval (.tmp 22)=.slice la n1 lk:=e22
     replace e26:a'.eval (.tmp 26)=.slice qo n2 qc:=e26
     refine wp_value (v:=stV (millU 0 0 t d ⟨#[]⟩,⟨la,n1,lk⟩,⟨qo,n2,qc⟩)) ?_ (h _ _ (Ex.refl _ _ _) ⟨la,lk,qo,qc,rfl,ho,hq⟩)
     generalize a'.eval=ev at e10 e12 e14 e16 e18 e22 e26 ⊢
     go_simp
     rfl
   · -- 19 call
     intro a' w' hR hF hK K h
     have e9:a'.eval (.tmp 9)=.agg #[.int .i64 me,.slice ao n cap]:=hK { on:=0,ground:=.data } (by simp) rfl (by show(0:Nat) < 20;omega)
     have F27:=hK { on:=18,ground:=.data } (by simp) rfl (by show(18:Nat) < 20;omega)
     obtain⟨la,lk,qo,qc,e27,ho,hq⟩:=F27
     replace e27:a'.eval (.tmp 27)=stV (millU 0 0 t d ⟨#[]⟩,⟨la,n1,lk⟩,⟨qo,n2,qc⟩):=e27
     refine wp_callG (f:=33) (args:=#[.agg #[.int .i64 me,.slice ao n cap],stV (millU 0 0 t d ⟨#[]⟩,⟨la,n1,lk⟩,⟨qo,n2,qc⟩)]) ?_ ((say08_w (P:=P) (P':=fun b=>w0.heap.size≤b) me ao n cap l (millU 0 0 t d ⟨#[]⟩,⟨la,n1,lk⟩,⟨qo,n2,qc⟩) w' HST.out.1 HST.out.2.1 (HSL.out w' hR) HST.out.2.2.1 HST.out.2.2.2.1 HST.out.2.2.2.2 (own_lies2 HN.out ho hq) HTM.out).mono ?_)
     · have ef:a'.eval (.func 33)=.func (.func 33) #[] #[]:=rfl
       have en:=enters_of Tryz.func33 (by kernel_rfl) rfl
       generalize a'.eval=ev at e9 e27 ef ⊢
       go_simp
     · rintro e w2 ⟨⟨v,rfl,hv⟩,hex⟩
       exact⟨_,rfl,h _ _ hex (hv.lower hR.size)⟩
 · intro a' w' hR hF hI
   obtain⟨ro,k,rc,z,c,e28,hc⟩:=hI 19 (by show(19:Nat) < 20;omega)
   replace e28:a'.eval (.tmp 28)=.tuple #[.agg #[.int .i64 me,.slice ro k rc],stV z,.int .i64 c]:=e28
   obtain⟨u19,e19⟩:∃u,a'.eval (.tmp 19)=u:=⟨_,rfl⟩
   obtain⟨u22,e22⟩:∃u,a'.eval (.tmp 22)=u:=⟨_,rfl⟩
   obtain⟨u23,e23⟩:∃u,a'.eval (.tmp 23)=u:=⟨_,rfl⟩
   obtain⟨u26,e26⟩:∃u,a'.eval (.tmp 26)=u:=⟨_,rfl⟩
   obtain⟨u27,e27⟩:∃u,a'.eval (.tmp 27)=u:=⟨_,rfl⟩
   have e0:a'.eval (.tmp 0)=.agg #[.int .i64 me,.slice ao n cap]:=hF.evalB 0 (by kernel_rfl)
   have e1:a'.eval (.tmp 1)=drV (d,⟨lo,n1,lc⟩,⟨po,n2,pc⟩):=hF.evalB 1 (by kernel_rfl)
   have e2:a'.eval (.tmp 2)=.int .i64 t:=hF.evalB 2 (by kernel_rfl)
   have e3:a'.eval (.tmp 3)=.pointer (some ⟨w.heap.size,0,none⟩):=hF.evalB 3 (by kernel_rfl)
   have e4:a'.eval (.tmp 4)=.pointer (some ⟨w.heap.size+1,0,none⟩):=hF.evalB 4 (by kernel_rfl)
   have e5:a'.eval (.tmp 5)=undef:=hF.evalB 5 (by kernel_rfl)
   have e6:a'.eval (.tmp 6)=.pointer (some ⟨w.heap.size+1+1,0,none⟩):=hF.evalB 6 (by kernel_rfl)
   have e7:a'.eval (.tmp 7)=.pointer (some ⟨w.heap.size+1+1+1,0,none⟩):=hF.evalB 7 (by kernel_rfl)
   have e8:a'.eval (.tmp 8)=.int .i64 0:=hF.evalB 8 (by kernel_rfl)
   have e9:a'.eval (.tmp 9)=.agg #[.int .i64 me,.slice ao n cap]:=hI 0 (by show(0:Nat) < 20;omega)
   have e10:a'.eval (.tmp 10)=.int .i64 t:=hI 1 (by show(1:Nat) < 20;omega)
   have e11:a'.eval (.tmp 11)=.pointer (some ⟨w.heap.size+1,0,none⟩):=hI 2 (by show(2:Nat) < 20;omega)
   have e12:a'.eval (.tmp 12)=.int .i64 d.kind:=hI 3 (by show(3:Nat) < 20;omega)
   have e13:a'.eval (.tmp 13)=.pointer (some ⟨w.heap.size+1,1,none⟩):=hI 4 (by show(4:Nat) < 20;omega)
   have e14:a'.eval (.tmp 14)=.int .i64 d.a:=hI 5 (by show(5:Nat) < 20;omega)
   have e15:a'.eval (.tmp 15)=.pointer (some ⟨w.heap.size+1,2,none⟩):=hI 6 (by show(6:Nat) < 20;omega)
   have e16:a'.eval (.tmp 16)=.int .i64 d.b:=hI 7 (by show(7:Nat) < 20;omega)
   have e17:a'.eval (.tmp 17)=.pointer (some ⟨w.heap.size+1,3,none⟩):=hI 8 (by show(8:Nat) < 20;omega)
   have e18:a'.eval (.tmp 18)=.int .i64 d.c:=hI 9 (by show(9:Nat) < 20;omega)
   have e20:a'.eval (.tmp 20)=.pointer (some ⟨w.heap.size+1,4,none⟩):=hI 11 (by show(11:Nat) < 20;omega)
   have e21:a'.eval (.tmp 21)=.slice lo n1 lc:=hI 12 (by show(12:Nat) < 20;omega)
   have e24:a'.eval (.tmp 24)=.pointer (some ⟨w.heap.size+1,5,none⟩):=hI 15 (by show(15:Nat) < 20;omega)
   have e25:a'.eval (.tmp 25)=.slice po n2 pc:=hI 16 (by show(16:Nat) < 20;omega)
   have e29:a'.eval (.tmp 29)=undef:=hF.evalB 29 (by kernel_rfl)
   have e30:a'.eval (.tmp 30)=undef:=hF.evalB 30 (by kernel_rfl)
   have e31:a'.eval (.tmp 31)=undef:=hF.evalB 31 (by kernel_rfl)
   have ha:=act_eta a'
   rw [show a'.tmps.size=32 from hF.2.1,show a'.defers=[] from hF.2.2,show List.range 32=[0,1,2,3,4,5,6,7,8,9,10,11,12,13,14,15,16,17,18,19,20,21,22,23,24,25,26,27,28,29,30,31] from rfl] at ha
   simp only [List.map_cons,List.map_nil,e0,e1,e2,e3,e4,e5,e6,e7,e8,e9,e10,e11,e12,e13,e14,e15,e16,e17,e18,e19,e20,e21,e22,e23,e24,e25,e26,e27,e28,e29,e30,e31] at ha
   rw [ha]
   clear ha hF hI e0 e1 e2 e3 e4 e5 e6 e7 e8 e9 e10 e11 e12 e13 e14 e15 e16 e17 e18 e19 e20 e21 e22 e23 e24 e25 e26 e27 e28 e29 e30 e31
   refine wpAny_qtail 20 23 _ (by kernel_rfl) ?_
   simp only [List.take_succ_cons,List.take_zero,List.drop_succ_cons,List.drop_zero]
   repeat(go_big_quiet_step (fail))
   refine wpQuiet_nil ?_
   intro v9 hw'
   obtain⟨_,hv9⟩:=hw'
   rw [hv9]
   clear hv9
   obtain⟨b1,b2⟩:=HR.out w' hR
   have hst1:=peer_store2 b1 rfl me ro k rc
   have hst2: (rowStore 51 ⟨w.heap.size+1+1+1,0,none⟩ (stV z)).run Tryz.prog (w'.setRow (w.heap.size+1+1) #[.int .i64 me,.slice ro k rc])=.ok () ((w'.setRow (w.heap.size+1+1) #[.int .i64 me,.slice ro k rc]).setRow (w.heap.size+1+1+1) (stE z).toArray):=run_rowStore (P:=Tryz.prog) _ (w.heap.size+1+1+1) 51 51 _ (stV z).cells ((setRow_other _ _ _ _ (by omega)).trans b2) Tryz.sizeStv rfl (stV_one z)
   obtain⟨wo,hwo⟩:∃wo:World,wo= (w'.setRow (w.heap.size+1+1) #[.int .i64 me,.slice ro k rc]).setRow (w.heap.size+1+1+1) (stE z).toArray:=⟨_,rfl⟩
   have HRO:Hid ((rowLoad 31 ⟨w.heap.size+1+1,0,none⟩).run Tryz.prog wo=.ok (.agg #[.int .i64 me,.slice ro k rc]) wo∧(rowLoad 51 ⟨w.heap.size+1+1+1,0,none⟩).run Tryz.prog wo=.ok (stV z) wo):=Lib.hid (by
    rw [hwo]
    exact⟨peer_load2 ((setRow_other _ _ _ _ (by omega)).trans (setRow_heap _ _ _ _ _ _ b1)) rfl,stV_box (setRow_heap _ _ _ _ _ _ ((setRow_other _ _ _ _ (by omega)).trans b2))⟩)
   have HEO:Hid (Ex w.heap.size none w wo):=Lib.hid (by
    rw [hwo]
    exact((HE0.out.trans hR (by omega) (by simp)).setRow _ _ (.inr (by omega))).setRow _ _ (.inr (by omega)))
   have HVO:Hid (SayV me l (millU 0 0 t d ⟨#[]⟩) w.heap.size (.tuple #[.agg #[.int .i64 me,.slice ro k rc],stV z,.int .i64 c]) wo):=Lib.hid (by
    refine⟨ro,k,rc,z,c,rfl,fun h0=>?_⟩
    obtain⟨l',h1,h2,h3,h4,h5,h6,h7⟩:=hc h0
    refine⟨l',h1,h2,h3,h4,h5,h6,?_⟩
    rw [hwo]
    exact((h7.keepP (p:=some (w.heap.size+1+1)) ((Ex.refl w'.heap.size (some (w.heap.size+1+1)) w').setRow _ _ (.inl rfl)) (Nat.le_refl _) (fun q h=>by cases h;omega)).keepP (p:=some (w.heap.size+1+1+1)) ((Ex.refl _ (some (w.heap.size+1+1+1)) _).setRow _ _ (.inl rfl)) (Nat.le_refl _) (fun q h=>by cases h;omega)).lowerS (by omega))
   rw [←hwo] at hst2
   clear hwo hc b1 b2 hR
   go_wp2
   refine bodyPost_ret (v:=.tuple #[.agg #[.int .i64 me,.slice ro k rc],stV z,.int .i64 c]) (results_rr rfl _ _ (by rfl) (by rfl) (by rfl) HRO.out.1 HRO.out.2) rfl ?_
   exact⟨⟨_,rfl,HVO.out⟩,HEO.out⟩
end
def caseS (s:St):CaD:=(s.a,s.b % 16,s.c,s.b / 16)
structure HonL (V:List CaD) (l:List St):Prop where
 mem:∀(k:Nat) (s:St),l[k]? =some s→s.author=1∧s.number= (k:Int)∧checkI s=0∧sealedB s=true
 vote:∀s∈l,s.kind=10→caseS s∈V
 one:∀(i j:Nat) (s t:St),l[i]? =some s→l[j]? =some t→s.kind=10→t.kind=10→caseS s=caseS t→i=j
theorem HonL.nil (V:List CaD):HonL V []:=⟨by simp,by simp,by simp⟩
theorem HonL.more {V:List CaD} {l:List St} (h:HonL V l) (c:CaD):HonL (V ++ [c]) l:=⟨h.mem,fun s hs hk=>List.mem_append_left _ (h.vote s hs hk),h.one⟩
theorem HonL.at {V:List CaD} {l:List St} (h:HonL V l) {s:St} (hs:s∈l):s.author=1∧checkI s=0∧sealedB s=true:=by
 obtain⟨k,hk⟩:=List.mem_iff_getElem?.1 hs
 obtain⟨h1,_,h2,h3⟩:=h.mem k s hk
 exact⟨h1,h2,h3⟩
theorem HonL.valid {V:List CaD} {l:List St} (h:HonL V l) (hl:l.length≤1000):validB l=true :=
 validB_yes hl (goods_of (fun s hs=>(h.at hs).2) fun j s t e1 e2=>by
  obtain⟨a1,n1,_⟩:=h.mem j s e1
  obtain⟨a2,n2,_⟩:=h.mem (j+1) t e2
  unfold ltA ltNDs
  rw [decide_eq_true (show s.number < t.number by omega),a1,a2]
  simp)
theorem HonL.tame {V:List CaD} {l:List St} (h:HonL V l):TameL l:=fun _s hs=>checkI_tame (h.at hs).2.1
theorem putPos_end {l:List St} {r:St} (h:∀s∈l,before05B s r=true):putPos l r=l.length:=by
 unfold putPos
 congr 1
 induction l with
 | nil=>rfl
 | cons a r ih=>rw [List.takeWhile_cons,if_pos (h a (by simp)),ih fun s hs=>h s (by simp [hs])]
theorem put05_end {l:List St} {r:St} (h:∀s∈l,before05B s r=true):put05 l r=l ++ [r]:=by
 unfold put05
 rw [putPos_end h]
 simp
theorem HonL.put {V:List CaD} {l:List St} {r:St} (h:HonL V l) (ha:r.author=1) (hn:r.number= (l.length:Int)) (hc:checkI r=0) (hs:sealedB r=true) (hv:r.kind≠10∨(caseS r∈V∧∀s∈l,s.kind=10→caseS s≠caseS r)):put05 l r=l ++ [r]∧HonL V (l ++ [r]):=by
 refine⟨put05_end fun s hs=>?_,⟨fun k s hk=>?_,fun s hs hk=>?_,fun i j s t hi hj hsk htk he=>?_⟩⟩
 · obtain⟨k,hk⟩:=List.mem_iff_getElem?.1 hs
   obtain⟨h1,h2,_⟩:=h.mem k s hk
   have hkl:=(List.getElem?_eq_some_iff.1 hk).1
   unfold before05B
   rw [if_pos (by rw [h1,ha]),if_neg (by rw [h2,hn];omega)]
   exact decide_eq_true (by rw [h2,hn];omega)
 · by_cases c:k < l.length
   · rw [List.getElem?_append_left c] at hk
     exact h.mem k s hk
   · rw [List.getElem?_append_right (by omega)] at hk
     have hk0:=(List.getElem?_eq_some_iff.1 hk).1
     simp only [List.length_singleton] at hk0
     have e:k=l.length:=by omega
     subst e
     simp only [Nat.sub_self,List.getElem?_cons_zero,Option.some.injEq] at hk
     subst hk
     exact⟨ha,hn,hc,hs⟩
 · rcases List.mem_append.1 hs with hs | hs
   · exact h.vote s hs hk
   · obtain rfl:=List.mem_singleton.1 hs
     rcases hv with hv | hv
     · exact absurd hk hv
     · exact hv.1
 · by_cases ci:i < l.length
   · rw [List.getElem?_append_left ci] at hi
     by_cases cj:j < l.length
     · rw [List.getElem?_append_left cj] at hj
       exact h.one i j s t hi hj hsk htk he
     · rw [List.getElem?_append_right (by omega)] at hj
       have hj0:=List.mem_of_getElem? hj
       obtain rfl:=List.mem_singleton.1 hj0
       rcases hv with hv | hv
       · exact absurd htk hv
       · exact absurd he (hv.2 s (List.mem_of_getElem? hi) hsk)
   · rw [List.getElem?_append_right (by omega)] at hi
     have hi0:=List.mem_of_getElem? hi
     obtain rfl:=List.mem_singleton.1 hi0
     by_cases cj:j < l.length
     · rw [List.getElem?_append_left cj] at hj
       rcases hv with hv | hv
       · exact absurd hsk hv
       · exact absurd he.symm (hv.2 t (List.mem_of_getElem? hj) htk)
     · have h1:=(List.getElem?_eq_some_iff.1 hi).1
       rw [List.getElem?_append_right (by omega)] at hj
       have h2:=(List.getElem?_eq_some_iff.1 hj).1
       simp only [List.length_singleton] at h1 h2
       omega
theorem HonL.none {V:List CaD} {l fs:List St} (h:HonL V l) (hf:∀s∈fs,sealedB s=false) {n:Nat} {ps:List PrD} (hp:FindR (l ++ fs) n ps):ps=[]:=by
 refine List.eq_nil_iff_forall_not_mem.2 fun p hpm=>?_
 obtain⟨⟨_,_,h3,h4,h5,h6⟩,hm1,hm2⟩:=hp.ok p hpm
 have hin:∀s,s∈l ++ fs→sealedB s=true→s∈l:=fun s hs hsb=>by
  rcases List.mem_append.1 hs with hs | hs
  · exact hs
  · rw [hf s hs] at hsb;cases hsb
 obtain⟨i,hi⟩:=List.mem_iff_getElem?.1 (hin _ hm1 h3)
 obtain⟨j,hj⟩:=List.mem_iff_getElem?.1 (hin _ hm2 h4)
 rcases h6 with⟨_,hn,hlt⟩ | ⟨_,hv1,hv2,hcs,hlt⟩
 · obtain⟨_,n1,_⟩:=h.mem i _ hi
   obtain⟨_,n2,_⟩:=h.mem j _ hj
   have e:i=j:=by omega
   subst e
   rw [hi] at hj
   have e2:=Option.some.inj hj
   rw [e2] at hlt
   have:=(good_strC.anti _ _).1 hlt
   omega
 · have k1:p.2.1.kind=10:=by
    unfold voteB at hv1
    simp only [Bool.and_eq_true,decide_eq_true_eq] at hv1
    exact hv1.1.1.2
   have k2:p.2.2.kind=10:=by
    unfold voteB at hv2
    simp only [Bool.and_eq_true,decide_eq_true_eq] at hv2
    exact hv2.1.1.2
   have ec:caseS p.2.1=caseS p.2.2:=by
    unfold caseB at hcs
    simp only [Bool.and_eq_true,decide_eq_true_eq] at hcs
    obtain⟨⟨⟨q1,q2⟩,q3⟩,q4⟩:=hcs
    unfold caseS
    rw [q1,q2,q3,q4]
   have e:=h.one i j _ _ hi hj k1 k2 ec
   subst e
   rw [hi] at hj
   have e2:=Option.some.inj hj
   rw [e2] at hlt
   have:=(good_ordC.anti _ _).1 hlt
   omega
theorem caseS_dr {c:CaD} (s:St) (hv:validC c.1 c.2.1 c.2.2.1 c.2.2.2=true):caseS (drS c s)=c:=by
 obtain⟨e,k,sl,r⟩:=c
 unfold validC at hv
 simp only [Bool.and_eq_true,decide_eq_true_eq] at hv
 obtain⟨⟨⟨⟨⟨⟨h1,h2⟩,h3⟩,h4⟩,h5⟩,h6⟩,h7⟩:=hv
 have hk:1≤k∧k≤3:=by
  split at h7
  · omega
  · simp only [Bool.or_eq_true,decide_eq_true_eq] at h7;omega
 unfold caseS drS
 simp only [Prod.mk.injEq,true_and]
 omega
theorem num_next (a:Int) (ch:List St) (s:St): (nextS a ch s).number= (ch.length:Int):=rfl
theorem HonL.auth {V:List CaD} {l:List St} (h:HonL V l):l.filter (fun s=>decide (s.author=1))=l:=List.filter_eq_self.2 fun s hs=>by simp [(h.at hs).1]
end Go.Proofs.YtflhidfclfkjlaaGreat

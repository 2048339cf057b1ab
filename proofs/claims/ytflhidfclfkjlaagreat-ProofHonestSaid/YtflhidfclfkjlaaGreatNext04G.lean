/- ref04.Next: a contract, no statement of the seat. -/
import Derived.Test.YtflhidfclfkjlaaGreatCounted04G
namespace Go.Proofs.YtflhidfclfkjlaaGreat
open Go.RowKit Go.Sort
instance:DecidableEq St:=fun s t=>if h:sameS s t=true then isTrue (sameS_iff.1 h) else isFalse (fun e=>h (sameS_iff.2 e))
theorem tame_with {s:St} (h:Tame s) (a m:Int) {p:ByteArray} (hp:p.size≤100000):Tame { s with author:=a,number:=m,prev:=p }:=⟨h.list,h.pins,hp,h.body,h.digs⟩
def zeroSt:St:=⟨0,0,⟨#[]⟩,0,0,0,0,0,[],[],⟨#[]⟩,0,⟨#[]⟩⟩
theorem Lies.zero (P:Nat→Prop) (w:World):Lies P w (zeroSt,⟨none,0,0⟩,⟨none,0,0⟩):=⟨Sl.nil P w,Sl.nil P w⟩
def nextU (a:Int) (chain:List St) (s:St):St:={ s with author:=a,number:=chain.length,prev:=match chain.getLast? with | none=>⟨#[]⟩ | some q=>sha (stB q) }
def nextS (a:Int) (chain:List St) (s:St):St:=sealS (nextU a chain s)
def nextE (a:Int) (chain:List St) (s:St):Int :=
 match chain.getLast? with
 | none=>checkI (nextS a chain s)
 | some q=>if countedI a chain=chain then(if s.time < q.time then 9 else if q.kind=3 then 5 else checkI (nextS a chain s)) else 1
theorem countedI_len (a:Int) (l:List St): (countedI a l).length≤l.length:=by
 have:=ownI_len a l
 unfold countedI;simp;omega
theorem countedI_tame {a:Int} {l:List St} (h:TameL l):TameL (countedI a l):=fun s hs=>ownI_tame h s (List.mem_of_mem_take hs)
theorem nextU_tame {a:Int} {chain:List St} {s:St} (h:Tame s):Tame (nextU a chain s):=⟨h.list,h.pins,by
 show(match chain.getLast? with | none=>(⟨#[]⟩:ByteArray) | some q=>sha (stB q)).size≤_
 cases chain.getLast? with
 | none=>show(0:Nat)≤_;omega
 | some q=>show(sha (stB q)).size≤_;rw [sha_size];omega,h.body,h.digs⟩
set_option maxHeartbeats 32000000 in
set_option maxRecDepth 100000 in
theorem next04_any {P P' :Nat→Prop} (v:Value) (chain:List St) (a:Int) (s:St) (lo po:Option Addr) (ln lc pn pc:Nat) (w:World) (hv:Sl stRep P w v chain) (hm:chain.length≤100000) (ht:TameL chain) (hs:Lies P' w (s,⟨lo,ln,lc⟩,⟨po,pn,pc⟩)) (hts:Tame s) :
 Calls Tryz.prog 50 #[.int .i64 a,v,.agg #[.int .i64 s.author,.int .i64 s.number,.string s.prev,.int .i64 s.time,.int .i64 s.kind,.int .i64 s.a,.int .i64 s.b,.int .i64 s.c,.slice lo ln lc,.slice po pn pc,.string s.body,.int .i64 s.key,.string s.dig]] w fun e w'=>∃(r:St) (la:Option Addr) (na ca:Nat) (pa:Option Addr) (np cp:Nat),e=.returned (.tuple #[.agg #[.int .i64 r.author,.int .i64 r.number,.string r.prev,.int .i64 r.time,.int .i64 r.kind,.int .i64 r.a,.int .i64 r.b,.int .i64 r.c,.slice la na ca,.slice pa np cp,.string r.body,.int .i64 r.key,.string r.dig],.int .i64 (nextE a chain s)])∧Lies (fun b=>w.heap.size≤b) w' (r,⟨la,na,ca⟩,⟨pa,np,cp⟩)∧(nextE a chain s=0→r=nextS a chain s)∧Ex w.heap.size none w w':=by
 obtain⟨ao,cap,rfl,hx⟩:=hv
 have HX:=Lib.hid hx
 have HTL:=Lib.hid ht
 have HT:=Lib.hid hts
 have HLS:=Lib.hid hs
 clear hx ht hts hs
 obtain⟨n,hn⟩:∃n,n=chain.length:=⟨_,rfl⟩
 have HN:=Lib.hid hn
 rw [←hn] at hm ⊢
 clear hn
 obtain⟨w0,hw0⟩:∃w0:World,w0= (w.alloc (.cells #[.int .i64 s.author,.int .i64 s.number,.string s.prev,.int .i64 s.time,.int .i64 s.kind,.int .i64 s.a,.int .i64 s.b,.int .i64 s.c,.slice lo ln lc,.slice po pn pc,.string s.body,.int .i64 s.key,.string s.dig] 51)).alloc (.cells #[.int .i64 0,.int .i64 0,.string ⟨#[]⟩,.int .i64 0,.int .i64 0,.int .i64 0,.int .i64 0,.int .i64 0,.slice none 0 0,.slice none 0 0,.string ⟨#[]⟩,.int .i64 0,.string ⟨#[]⟩] 51):=⟨_,rfl⟩
 have hz0:w0.heap.size=w.heap.size+2:=by rw [hw0];simp
 have HE0:Hid (Ex w.heap.size none w w0):=by rw [hw0];exact ex_two0 _ _
 have HB0:Hid (w0.heap[w.heap.size]? =some (.cells #[.int .i64 s.author,.int .i64 s.number,.string s.prev,.int .i64 s.time,.int .i64 s.kind,.int .i64 s.a,.int .i64 s.b,.int .i64 s.c,.slice lo ln lc,.slice po pn pc,.string s.body,.int .i64 s.key,.string s.dig] 51 (0,0))∧w0.heap[w.heap.size+1]? =some (.cells #[.int .i64 0,.int .i64 0,.string ⟨#[]⟩,.int .i64 0,.int .i64 0,.int .i64 0,.int .i64 0,.int .i64 0,.slice none 0 0,.slice none 0 0,.string ⟨#[]⟩,.int .i64 0,.string ⟨#[]⟩] 51 (0,0))):=Lib.hid (by
  rw [hw0]
  exact⟨((Ex.new _ _).block w.heap.size (by simp) (by simp)).trans (heap_alloc_new w _),by have:=heap_alloc_new (w.alloc (.cells #[.int .i64 s.author,.int .i64 s.number,.string s.prev,.int .i64 s.time,.int .i64 s.kind,.int .i64 s.a,.int .i64 s.b,.int .i64 s.c,.slice lo ln lc,.slice po pn pc,.string s.body,.int .i64 s.key,.string s.dig] 51)) (.cells #[.int .i64 0,.int .i64 0,.string ⟨#[]⟩,.int .i64 0,.int .i64 0,.int .i64 0,.int .i64 0,.int .i64 0,.slice none 0 0,.slice none 0 0,.string ⟨#[]⟩,.int .i64 0,.string ⟨#[]⟩] 51);simpa using this⟩)
 go_enter Tryz.func50,Tryz.ntmps50
 go_upto_region 1 with(fail)
 rw [←hw0]
 clear hw0
 by_cases h0:0 < n
 · have h0d:decide (0 < n)=true:=decide_eq_true h0
   have h0I: (0:Int) < (n:Int):=by omega
   have hcs: (chain.length:Int)= (n:Int):=by have:=HN.out;omega
   have HLX:Hid (∃q,chain.getLast? =some q):=Lib.hid (by
    cases hq:chain.getLast? with
    | none=>rw [List.getLast?_eq_none_iff] at hq;subst hq;simp at hcs;omega
    | some q=>exact⟨q,rfl⟩)
   by_cases hch:countedI a chain=chain
   · have HCH:=Lib.hid hch
     clear hch
     go_upto_region 3 with(first
      | (go_at_call 48
         refine(counted04_any (.slice ao n cap) chain a w0 (by rw [HN.out];exact⟨ao,cap,rfl,HX.out.keep (by decide) fun b _ hb=>HE0.out.block b hb (by simp)⟩) (by have:=HN.out;omega) HTL.out).mono ?_
         rintro e w1 ⟨co,cc,rfl,hown,hex⟩
         have HO1:Hid (OwnS w1 w0.heap.size co cc (countedI a chain)∧Ex w0.heap.size none w0 w1):=Lib.hid ⟨hown,hex⟩
         have hz1:w0.heap.size≤w1.heap.size:=hex.size
         clear hown hex)
      | (go_at_call 83
         refine(sameList_any _ (.slice ao n cap) (countedI a chain) chain w1 HO1.out.1.sl (by rw [HN.out];exact⟨ao,cap,rfl,HX.out.keep (by decide) fun b _ hb=>(HE0.out.trans HO1.out.2 (by omega) (by simp)).block b hb (by simp)⟩) (by have:=countedI_len a chain;have:=HN.out;omega) (countedI_tame HTL.out).light).mono ?_
         rintro e w2 ⟨bb,rfl,HBB,hex2⟩
         have HE2:Hid (Ex w0.heap.size none w0 w2):=Lib.hid (HO1.out.2.trans hex2 hz1 (by simp))
         have hz2:w0.heap.size≤w2.heap.size:=HE2.out.size
         have HB2:Hid (w2.heap[w.heap.size]? =some (.cells #[.int .i64 s.author,.int .i64 s.number,.string s.prev,.int .i64 s.time,.int .i64 s.kind,.int .i64 s.a,.int .i64 s.b,.int .i64 s.c,.slice lo ln lc,.slice po pn pc,.string s.body,.int .i64 s.key,.string s.dig] 51 (0,0))∧w2.heap[w.heap.size+1]? =some (.cells #[.int .i64 0,.int .i64 0,.string ⟨#[]⟩,.int .i64 0,.int .i64 0,.int .i64 0,.int .i64 0,.int .i64 0,.slice none 0 0,.slice none 0 0,.string ⟨#[]⟩,.int .i64 0,.string ⟨#[]⟩] 51 (0,0))):=Lib.hid ⟨(HE2.out.block _ (by omega) (by simp)).trans HB0.out.1,(HE2.out.block _ (by omega) (by simp)).trans HB0.out.2⟩
         clear hex2 HO1
         have hbb:bb=true:=HBB.out.2 HCH.out
         subst hbb)
      | fail)
     obtain⟨⟨d0,d1,d2,d3,d4,d5,d6,d7,d8,d9,d10,d11,d12⟩,fz⟩:=st_block HB2.out.1
     go_upto_region 4 with(first
      | (go_at_call 52
         refine(copy03_lit s lo po ln lc pn pc _ (HLS.out.keep fun b _ hb=>((HE0.out.trans HE2.out (by omega) (by simp)).block b hb (by simp))) ⟨by have:=HT.out.list;omega,by have:=HT.out.pins;omega⟩).mono ?_
         rintro e w3 ⟨la,na,ca,pa,np,cp,rfl,hl3,hex3⟩
         have H3:Hid (Lies (fun b=>w2.heap.size≤b) w3 (s,⟨la,na,ca⟩,⟨pa,np,cp⟩)∧Ex w2.heap.size none w2 w3):=Lib.hid ⟨hl3,hex3⟩
         have hz3:w2.heap.size≤w3.heap.size:=hex3.size
         have HB3:Hid (w3.heap[w.heap.size]? =some (.cells #[.int .i64 s.author,.int .i64 s.number,.string s.prev,.int .i64 s.time,.int .i64 s.kind,.int .i64 s.a,.int .i64 s.b,.int .i64 s.c,.slice lo ln lc,.slice po pn pc,.string s.body,.int .i64 s.key,.string s.dig] 51 (0,0))∧w3.heap[w.heap.size+1]? =some (.cells #[.int .i64 0,.int .i64 0,.string ⟨#[]⟩,.int .i64 0,.int .i64 0,.int .i64 0,.int .i64 0,.int .i64 0,.slice none 0 0,.slice none 0 0,.string ⟨#[]⟩,.int .i64 0,.string ⟨#[]⟩] 51 (0,0))):=Lib.hid ⟨(hex3.block _ (by omega) (by simp)).trans HB2.out.1,(hex3.block _ (by omega) (by simp)).trans HB2.out.2⟩
         clear hl3 hex3 d0 d1 d2 d3 d4 d5 d6 d7 d8 d9 d10 d11 d12 fz)
      | (refine wpList_store_rowTo rfl 51 (.tmp 5) (.tmp 24) rfl rfl w.heap.size #[.int .i64 s.author,.int .i64 s.number,.string s.prev,.int .i64 s.time,.int .i64 s.kind,.int .i64 s.a,.int .i64 s.b,.int .i64 s.c,.slice la na ca,.slice pa np cp,.string s.body,.int .i64 s.key,.string s.dig] (by rfl) (by rfl) 51 #[.int .i64 s.author,.int .i64 s.number,.string s.prev,.int .i64 s.time,.int .i64 s.kind,.int .i64 s.a,.int .i64 s.b,.int .i64 s.c,.slice lo ln lc,.slice po pn pc,.string s.body,.int .i64 s.key,.string s.dig] HB3.out.1 Tryz.sizeSt rfl (by simp [Value.oneCell']) ?_))
     obtain⟨w4,hw4⟩:∃w4:World,w4=w3.setRow w.heap.size #[.int .i64 s.author,.int .i64 s.number,.string s.prev,.int .i64 s.time,.int .i64 s.kind,.int .i64 s.a,.int .i64 s.b,.int .i64 s.c,.slice la na ca,.slice pa np cp,.string s.body,.int .i64 s.key,.string s.dig]:=⟨_,rfl⟩
     have HB4:Hid (w4.heap[w.heap.size]? =some (.cells #[.int .i64 s.author,.int .i64 s.number,.string s.prev,.int .i64 s.time,.int .i64 s.kind,.int .i64 s.a,.int .i64 s.b,.int .i64 s.c,.slice la na ca,.slice pa np cp,.string s.body,.int .i64 s.key,.string s.dig] 51 (0,0))∧w4.heap[w.heap.size+1]? =some (.cells #[.int .i64 0,.int .i64 0,.string ⟨#[]⟩,.int .i64 0,.int .i64 0,.int .i64 0,.int .i64 0,.int .i64 0,.slice none 0 0,.slice none 0 0,.string ⟨#[]⟩,.int .i64 0,.string ⟨#[]⟩] 51 (0,0))):=Lib.hid (by
      rw [hw4];exact⟨setRow_heap _ _ _ _ _ _ HB3.out.1,(setRow_other _ _ _ _ (by omega)).trans HB3.out.2⟩)
     have HE4:Hid (Ex w.heap.size none w w4):=Lib.hid (by
      rw [hw4];exact((HE0.out.trans HE2.out (by omega) (by simp)).trans H3.out.2 (by omega) (by simp)).setRow _ _ (.inr (Nat.le_refl _)))
     have HL4:Hid (Lies (fun b=>w2.heap.size≤b) w4 (s,⟨la,na,ca⟩,⟨pa,np,cp⟩)):=Lib.hid (by
      rw [hw4];exact H3.out.1.keep fun b h1 _=>setRow_other _ _ _ _ (by omega))
     have hz4:w3.heap.size≤w4.heap.size:=by rw [hw4];simp
     rw [←hw4]
     clear hw4 H3 HB3
     obtain⟨⟨d0,d1,d2,d3,d4,d5,d6,d7,d8,d9,d10,d11,d12⟩,fz⟩:=st_block HB4.out.1
     go_upto_region 5 with(fail)
     clear d0 d1 d2 d3 d4 d5 d6 d7 d8 d9 d10 d11 d12 fz
     obtain⟨w5,hw5⟩:∃w5:World,w5= ((w4.setCell ⟨w.heap.size,0,none⟩ (.int .i64 a)).setCell ⟨w.heap.size,1,none⟩ (.int .i64 0)).setCell ⟨w.heap.size,2,none⟩ (.string ⟨#[]⟩):=⟨_,rfl⟩
     have HB5:Hid (w5.heap[w.heap.size]? =some (.cells #[.int .i64 a,.int .i64 0,.string ⟨#[]⟩,.int .i64 s.time,.int .i64 s.kind,.int .i64 s.a,.int .i64 s.b,.int .i64 s.c,.slice la na ca,.slice pa np cp,.string s.body,.int .i64 s.key,.string s.dig] 51 (0,0))∧w5.heap[w.heap.size+1]? =some (.cells #[.int .i64 0,.int .i64 0,.string ⟨#[]⟩,.int .i64 0,.int .i64 0,.int .i64 0,.int .i64 0,.int .i64 0,.slice none 0 0,.slice none 0 0,.string ⟨#[]⟩,.int .i64 0,.string ⟨#[]⟩] 51 (0,0))):=Lib.hid (by
      rw [hw5]
      refine⟨?_,?_⟩
      · rw [heap_setCell_same _ _ _ _ _ _ (heap_setCell_same _ _ _ _ _ _ (heap_setCell_same _ _ _ _ _ _ HB4.out.1))];rfl
      · iterate 3 refine set_far (by omega) ?_
        exact HB4.out.2)
     have HE5:Hid (Ex w.heap.size none w w5):=Lib.hid (by
      rw [hw5]
      iterate 3 refine Ex.setCell ?_ _ none _ (Or.inr (Nat.le_refl _))
      exact HE4.out)
     have HL5:Hid (Lies (fun b=>w2.heap.size≤b) w5 (s,⟨la,na,ca⟩,⟨pa,np,cp⟩)):=Lib.hid (by
      rw [hw5]
      exact HL4.out.keep fun b h1 _=>by
       iterate 3 refine set_far (by omega) ?_
       rfl)
     have hz5:w4.heap.size≤w5.heap.size:=by rw [hw5];simp [World.setCell]
     rw [←hw5]
     clear hw5 HB4 HL4
     obtain⟨b,off,q,⟨lo',ln',lc'⟩,⟨po',pn',pc'⟩,hoo,_,hlq,hrq,HQ⟩:=st_get (HX.out.keep (by decide) fun b _ hb=>HE5.out.block b hb (by simp)) (n - 1) (by have:=HN.out;omega)
     have HLAST:Hid (chain.getLast? =some q):=Lib.hid (by
      rw [List.getLast?_eq_getElem?,←HN.out];exact HQ.out)
     have HTQ:Hid (Tame q):=Lib.hid (HTL.out q (List.mem_of_getElem? HQ.out))
     have HLQ:Hid (Lies P w5 (q,⟨lo',ln',lc'⟩,⟨po',pn',pc'⟩)):=Lib.hid hlq
     have hik: ((n - 1:Nat):Int) < (n:Int):=by omega
     have hc:=st_at hrq
     simp only [Sv.v] at hc
     obtain⟨c0,c1,c2,c3,c4,c5,c6,c7,c8,c9,c10,c11,c12⟩:=hc
     clear hlq hrq
     subst hoo
     go_upto_region 8 with(fail)
     clear c0 c1 c2 c3 c4 c5 c6 c7 c8 c9 c10 c11 c12
     obtain⟨w6,hw6⟩:∃w6:World,w6=w5.alloc (.cells #[.int .i64 q.author,.int .i64 q.number,.string q.prev,.int .i64 q.time,.int .i64 q.kind,.int .i64 q.a,.int .i64 q.b,.int .i64 q.c,.slice lo' ln' lc',.slice po' pn' pc',.string q.body,.int .i64 q.key,.string q.dig] 51):=⟨_,rfl⟩
     have hz6:w5.heap.size < w6.heap.size:=by rw [hw6];simp
     have HE6' :Hid (Ex w5.heap.size none w5 w6):=Lib.hid (by rw [hw6];exact Ex.new w5 _)
     have HB6:Hid (w6.heap[w.heap.size]? =some (.cells #[.int .i64 a,.int .i64 0,.string ⟨#[]⟩,.int .i64 s.time,.int .i64 s.kind,.int .i64 s.a,.int .i64 s.b,.int .i64 s.c,.slice la na ca,.slice pa np cp,.string s.body,.int .i64 s.key,.string s.dig] 51 (0,0))∧w6.heap[w.heap.size+1]? =some (.cells #[.int .i64 0,.int .i64 0,.string ⟨#[]⟩,.int .i64 0,.int .i64 0,.int .i64 0,.int .i64 0,.int .i64 0,.slice none 0 0,.slice none 0 0,.string ⟨#[]⟩,.int .i64 0,.string ⟨#[]⟩] 51 (0,0))∧w6.heap[w5.heap.size]? =some (.cells #[.int .i64 q.author,.int .i64 q.number,.string q.prev,.int .i64 q.time,.int .i64 q.kind,.int .i64 q.a,.int .i64 q.b,.int .i64 q.c,.slice lo' ln' lc',.slice po' pn' pc',.string q.body,.int .i64 q.key,.string q.dig] 51 (0,0))):=Lib.hid ⟨(HE6'.out.block _ (by omega) (by simp)).trans HB5.out.1,(HE6'.out.block _ (by omega) (by simp)).trans HB5.out.2,by rw [hw6];exact heap_alloc_new w5 _⟩
     have HE6:Hid (Ex w.heap.size none w w6):=Lib.hid (HE5.out.trans HE6'.out (by omega) (by simp))
     have HL6:Hid (Lies (fun b=>w2.heap.size≤b) w6 (s,⟨la,na,ca⟩,⟨pa,np,cp⟩)):=Lib.hid (HL5.out.keep fun b _ hb=>HE6'.out.block b hb (by simp))
     have HQ6:Hid (w6.heap[w.heap.size]? =some (.cells #[.int .i64 a,.int .i64 0,.string ⟨#[]⟩,.int .i64 s.time,.int .i64 s.kind,.int .i64 s.a,.int .i64 s.b,.int .i64 s.c,.slice la na ca,.slice pa np cp,.string s.body,.int .i64 s.key,.string s.dig] 51 (0,0))∧w6.heap[w.heap.size+1]? =some (.cells #[.int .i64 0,.int .i64 0,.string ⟨#[]⟩,.int .i64 0,.int .i64 0,.int .i64 0,.int .i64 0,.int .i64 0,.slice none 0 0,.slice none 0 0,.string ⟨#[]⟩,.int .i64 0,.string ⟨#[]⟩] 51 (0,0))):=Lib.hid ⟨HB6.out.1,HB6.out.2.1⟩
     rw [←hw6]
     clear hw6 HB5 HL5
     obtain⟨⟨d0,d1,d2,d3,d4,d5,d6,d7,d8,d9,d10,d11,d12⟩,fz⟩:=st_block (s:={ s with author:=a,number:=0,prev:=⟨#[]⟩ }) HB6.out.1
     simp only at d0 d1 d2 d3 d4 d5 d6 d7 d8 d9 d10 d11 d12
     obtain⟨⟨k0,k1,k2,k3,k4,k5,k6,k7,k8,k9,k10,k11,k12⟩,kz⟩:=st_block HB6.out.2.2
     by_cases t1:s.time < q.time
     · have t1d:decide (s.time < q.time)=true:=decide_eq_true t1
       have HT1:=Lib.hid t1
       clear t1
       go_wp2_with (refine wpList_store_rowTo rfl 51 (.tmp 6) (.tmp 43) rfl rfl (w.heap.size+1) #[.int .i64 0,.int .i64 0,.string ⟨#[]⟩,.int .i64 0,.int .i64 0,.int .i64 0,.int .i64 0,.int .i64 0,.slice none 0 0,.slice none 0 0,.string ⟨#[]⟩,.int .i64 0,.string ⟨#[]⟩] (by rfl) (by rfl) 51 #[.int .i64 0,.int .i64 0,.string ⟨#[]⟩,.int .i64 0,.int .i64 0,.int .i64 0,.int .i64 0,.int .i64 0,.slice none 0 0,.slice none 0 0,.string ⟨#[]⟩,.int .i64 0,.string ⟨#[]⟩] HQ6.out.2 Tryz.sizeSt rfl (by simp [Value.oneCell']) ?_)
       obtain⟨wy,hwy⟩:∃wy:World,wy=w6.setRow (w.heap.size+1) #[.int .i64 0,.int .i64 0,.string ⟨#[]⟩,.int .i64 0,.int .i64 0,.int .i64 0,.int .i64 0,.int .i64 0,.slice none 0 0,.slice none 0 0,.string ⟨#[]⟩,.int .i64 0,.string ⟨#[]⟩]:=⟨_,rfl⟩
       have HEY:Hid (Ex w.heap.size none w wy):=Lib.hid (by rw [hwy];exact(HE6.out).setRow _ _ (.inr (by omega)))
       have hby:wy.heap[w.heap.size+1]? =some (.cells #[.int .i64 0,.int .i64 0,.string ⟨#[]⟩,.int .i64 0,.int .i64 0,.int .i64 0,.int .i64 0,.int .i64 0,.slice none 0 0,.slice none 0 0,.string ⟨#[]⟩,.int .i64 0,.string ⟨#[]⟩] 51 (0,0)):=by rw [hwy];exact setRow_heap _ _ _ _ _ _ HQ6.out.2
       rw [←hwy]
       clear hwy
       obtain⟨⟨e0,e1,e2,e3,e4,e5,e6,e7,e8,e9,e10,e11,e12⟩,ez⟩:=st_block (s:=zeroSt) hby
       simp only [zeroSt] at e0 e1 e2 e3 e4 e5 e6 e7 e8 e9 e10 e11 e12
       have HNE:Hid (nextE a chain s=9):=Lib.hid (by unfold nextE;rw [HLAST.out];simp only [HCH.out,HT1.out,if_true])
       refine bodyPost_ret (v:=.tuple #[.agg #[.int .i64 0,.int .i64 0,.string ⟨#[]⟩,.int .i64 0,.int .i64 0,.int .i64 0,.int .i64 0,.int .i64 0,.slice none 0 0,.slice none 0 0,.string ⟨#[]⟩,.int .i64 0,.string ⟨#[]⟩],.int .i64 9]) (by simp [results,Tryz.results50,go_sem,e0,e1,e2,e3,e4,e5,e6,e7,e8,e9,e10,e11,e12]) rfl ?_
       exact⟨zeroSt,none,0,0,none,0,0,by rw [HNE.out];rfl,Lies.zero _ _,fun h=>by rw [HNE.out] at h;first | exact absurd h (by decide) | exact absurd h HC0.out,HEY.out⟩
     · have t1d:decide (s.time < q.time)=false:=decide_eq_false t1
       have HT1:=Lib.hid (eq_false t1)
       clear t1
       by_cases t2:q.kind=3
       · have t2d: (q.kind == 3)=true:=by simp [t2]
         have HT2:=Lib.hid t2
         clear t2
         go_wp2_with (refine wpList_store_rowTo rfl 51 (.tmp 6) (.tmp 47) rfl rfl (w.heap.size+1) #[.int .i64 0,.int .i64 0,.string ⟨#[]⟩,.int .i64 0,.int .i64 0,.int .i64 0,.int .i64 0,.int .i64 0,.slice none 0 0,.slice none 0 0,.string ⟨#[]⟩,.int .i64 0,.string ⟨#[]⟩] (by rfl) (by rfl) 51 #[.int .i64 0,.int .i64 0,.string ⟨#[]⟩,.int .i64 0,.int .i64 0,.int .i64 0,.int .i64 0,.int .i64 0,.slice none 0 0,.slice none 0 0,.string ⟨#[]⟩,.int .i64 0,.string ⟨#[]⟩] HQ6.out.2 Tryz.sizeSt rfl (by simp [Value.oneCell']) ?_)
         obtain⟨wy,hwy⟩:∃wy:World,wy=w6.setRow (w.heap.size+1) #[.int .i64 0,.int .i64 0,.string ⟨#[]⟩,.int .i64 0,.int .i64 0,.int .i64 0,.int .i64 0,.int .i64 0,.slice none 0 0,.slice none 0 0,.string ⟨#[]⟩,.int .i64 0,.string ⟨#[]⟩]:=⟨_,rfl⟩
         have HEY:Hid (Ex w.heap.size none w wy):=Lib.hid (by rw [hwy];exact(HE6.out).setRow _ _ (.inr (by omega)))
         have hby:wy.heap[w.heap.size+1]? =some (.cells #[.int .i64 0,.int .i64 0,.string ⟨#[]⟩,.int .i64 0,.int .i64 0,.int .i64 0,.int .i64 0,.int .i64 0,.slice none 0 0,.slice none 0 0,.string ⟨#[]⟩,.int .i64 0,.string ⟨#[]⟩] 51 (0,0)):=by rw [hwy];exact setRow_heap _ _ _ _ _ _ HQ6.out.2
         rw [←hwy]
         clear hwy
         obtain⟨⟨e0,e1,e2,e3,e4,e5,e6,e7,e8,e9,e10,e11,e12⟩,ez⟩:=st_block (s:=zeroSt) hby
         simp only [zeroSt] at e0 e1 e2 e3 e4 e5 e6 e7 e8 e9 e10 e11 e12
         have HNE:Hid (nextE a chain s=5):=Lib.hid (by unfold nextE;rw [HLAST.out];simp only [HCH.out,HT1.out,HT2.out,if_true,if_false])
         refine bodyPost_ret (v:=.tuple #[.agg #[.int .i64 0,.int .i64 0,.string ⟨#[]⟩,.int .i64 0,.int .i64 0,.int .i64 0,.int .i64 0,.int .i64 0,.slice none 0 0,.slice none 0 0,.string ⟨#[]⟩,.int .i64 0,.string ⟨#[]⟩],.int .i64 5]) (by simp [results,Tryz.results50,go_sem,e0,e1,e2,e3,e4,e5,e6,e7,e8,e9,e10,e11,e12]) rfl ?_
         exact⟨zeroSt,none,0,0,none,0,0,by rw [HNE.out];rfl,Lies.zero _ _,fun h=>by rw [HNE.out] at h;first | exact absurd h (by decide) | exact absurd h HC0.out,HEY.out⟩
       · have t2d: (q.kind == 3)=false:=by simp [t2]
         have HNX:Hid (nextE a chain s=checkI (nextS a chain s)):=Lib.hid (by unfold nextE;rw [HLAST.out];simp only [HCH.out,HT1.out,t2,if_true,if_false])
         clear t2
         go_upto_region 13 with(first
          | (go_at_call 53
             refine(digest03_any q lo' po' ln' lc' pn' pc' w6 (HLQ.out.keep fun b _ hb=>HE6'.out.block b hb (by simp)) HTQ.out).mono ?_
             rintro e w7 ⟨rfl,hex7⟩
             have HE7:Hid (Ex w6.heap.size none w6 w7):=Lib.hid hex7
             have hz7:w6.heap.size≤w7.heap.size:=hex7.size
             have HB7:Hid (w7.heap[w.heap.size]? =some (.cells #[.int .i64 a,.int .i64 0,.string ⟨#[]⟩,.int .i64 s.time,.int .i64 s.kind,.int .i64 s.a,.int .i64 s.b,.int .i64 s.c,.slice la na ca,.slice pa np cp,.string s.body,.int .i64 s.key,.string s.dig] 51 (0,0))∧w7.heap[w.heap.size+1]? =some (.cells #[.int .i64 0,.int .i64 0,.string ⟨#[]⟩,.int .i64 0,.int .i64 0,.int .i64 0,.int .i64 0,.int .i64 0,.slice none 0 0,.slice none 0 0,.string ⟨#[]⟩,.int .i64 0,.string ⟨#[]⟩] 51 (0,0))):=Lib.hid ⟨(hex7.block _ (by omega) (by simp)).trans HB6.out.1,(hex7.block _ (by omega) (by simp)).trans HB6.out.2.1⟩
             clear hex7 d0 d1 d2 d3 d4 d5 d6 d7 d8 d9 d10 d11 d12 fz k0 k1 k2 k3 k4 k5 k6 k7 k8 k9 k10 k11 k12 kz
             obtain⟨⟨d0,d1,d2,d3,d4,d5,d6,d7,d8,d9,d10,d11,d12⟩,fz⟩:=st_block (s:={ s with author:=a,number:=0,prev:=⟨#[]⟩ }) HB7.out.1
             simp only at d0 d1 d2 d3 d4 d5 d6 d7 d8 d9 d10 d11 d12)
          | fail)
         clear d0 d1 d2 d3 d4 d5 d6 d7 d8 d9 d10 d11 d12 fz
         obtain⟨w8,hw8⟩:∃w8:World,w8= (w7.setCell ⟨w.heap.size,1,none⟩ (.int .i64 n)).setCell ⟨w.heap.size,2,none⟩ (.string (sha (stB q))):=⟨_,rfl⟩
         have HB8:Hid (w8.heap[w.heap.size]? =some (.cells #[.int .i64 a,.int .i64 n,.string (sha (stB q)),.int .i64 s.time,.int .i64 s.kind,.int .i64 s.a,.int .i64 s.b,.int .i64 s.c,.slice la na ca,.slice pa np cp,.string s.body,.int .i64 s.key,.string s.dig] 51 (0,0))∧w8.heap[w.heap.size+1]? =some (.cells #[.int .i64 0,.int .i64 0,.string ⟨#[]⟩,.int .i64 0,.int .i64 0,.int .i64 0,.int .i64 0,.int .i64 0,.slice none 0 0,.slice none 0 0,.string ⟨#[]⟩,.int .i64 0,.string ⟨#[]⟩] 51 (0,0))):=Lib.hid (by
          rw [hw8]
          refine⟨?_,?_⟩
          · rw [heap_setCell_same _ _ _ _ _ _ (heap_setCell_same _ _ _ _ _ _ HB7.out.1)];rfl
          · iterate 2 refine set_far (by omega) ?_
            exact HB7.out.2)
         have HE8:Hid (Ex w.heap.size none w w8):=Lib.hid (by
          rw [hw8]
          iterate 2 refine Ex.setCell ?_ _ none _ (Or.inr (Nat.le_refl _))
          exact HE6.out.trans HE7.out (by omega) (by simp))
         have HL8:Hid (Lies (fun b=>w2.heap.size≤b) w8 (s,⟨la,na,ca⟩,⟨pa,np,cp⟩)):=Lib.hid (by
          rw [hw8]
          exact(HL6.out.keep fun b _ hb=>HE7.out.block b hb (by simp)).keep (w:=w7) fun b h1 _=>by
           iterate 2 refine set_far (by omega) ?_
           rfl)
         have hz8:w7.heap.size≤w8.heap.size:=by rw [hw8];simp [World.setCell]
         rw [←hw8]
         clear hw8 HB6 HB7 HL6 HQ6
         obtain⟨r,hr⟩:∃r:St,r={ s with author:=a,number:=(n:Int),prev:=sha (stB q) }:=⟨_,rfl⟩
         obtain⟨wt,hwt⟩:∃wt,wt=w8:=⟨_,rfl⟩
         have HBT:Hid (wt.heap[w.heap.size]? =some (.cells #[.int .i64 r.author,.int .i64 r.number,.string r.prev,.int .i64 r.time,.int .i64 r.kind,.int .i64 r.a,.int .i64 r.b,.int .i64 r.c,.slice la na ca,.slice pa np cp,.string r.body,.int .i64 r.key,.string r.dig] 51 (0,0))∧wt.heap[w.heap.size+1]? =some (.cells #[.int .i64 0,.int .i64 0,.string ⟨#[]⟩,.int .i64 0,.int .i64 0,.int .i64 0,.int .i64 0,.int .i64 0,.slice none 0 0,.slice none 0 0,.string ⟨#[]⟩,.int .i64 0,.string ⟨#[]⟩] 51 (0,0))):=Lib.hid (by rw [hwt,hr];exact HB8.out)
         have HET:Hid (Ex w.heap.size none w wt):=Lib.hid (by rw [hwt];exact HE8.out)
         have HLT:Hid (Lies (fun b=>w.heap.size+2≤b) wt (r,⟨la,na,ca⟩,⟨pa,np,cp⟩)):=Lib.hid (by rw [hwt,hr];exact Lies.mono HL8.out fun b h _=>by omega)
         have HTR:Hid (Tame r):=Lib.hid (by rw [hr];exact tame_with HT.out _ _ (by rw [sha_size];omega))
         have hzt:w.heap.size+2≤wt.heap.size:=by rw [hwt];omega
         have HRS:Hid (sealS r=nextS a chain s):=Lib.hid (by rw [hr];unfold nextS nextU;rw [HLAST.out,←HN.out])
         rw [←hwt]
         clear hwt hr
         obtain⟨⟨d0,d1,d2,d3,d4,d5,d6,d7,d8,d9,d10,d11,d12⟩,fz⟩:=st_block HBT.out.1
         go_wp2_with (first
          | (go_at_call 34
             refine(seal03_any r la pa na ca np cp wt HLT.out HTR.out).mono ?_
             rintro e wu ⟨lb,nb,cb,pb,mp,cq,rfl,hlu,hexu⟩
             have HU:Hid (Lies (fun b=>wt.heap.size≤b) wu (sealS r,⟨lb,nb,cb⟩,⟨pb,mp,cq⟩)∧Ex wt.heap.size none wt wu):=Lib.hid ⟨hlu,hexu⟩
             have hzu:wt.heap.size≤wu.heap.size:=hexu.size
             have HBU:Hid (wu.heap[w.heap.size]? =some (.cells #[.int .i64 r.author,.int .i64 r.number,.string r.prev,.int .i64 r.time,.int .i64 r.kind,.int .i64 r.a,.int .i64 r.b,.int .i64 r.c,.slice la na ca,.slice pa np cp,.string r.body,.int .i64 r.key,.string r.dig] 51 (0,0))∧wu.heap[w.heap.size+1]? =some (.cells #[.int .i64 0,.int .i64 0,.string ⟨#[]⟩,.int .i64 0,.int .i64 0,.int .i64 0,.int .i64 0,.int .i64 0,.slice none 0 0,.slice none 0 0,.string ⟨#[]⟩,.int .i64 0,.string ⟨#[]⟩] 51 (0,0))):=Lib.hid ⟨(hexu.block _ (by omega) (by simp)).trans HBT.out.1,(hexu.block _ (by omega) (by simp)).trans HBT.out.2⟩
             clear hlu hexu d0 d1 d2 d3 d4 d5 d6 d7 d8 d9 d10 d11 d12 fz
             obtain⟨wv,hwv⟩:∃wv:World,wv=wu.setRow w.heap.size #[.int .i64 r.author,.int .i64 r.number,.string r.prev,.int .i64 r.time,.int .i64 r.kind,.int .i64 r.a,.int .i64 r.b,.int .i64 r.c,.slice lb nb cb,.slice pb mp cq,.string r.body,.int .i64 r.author,.string (sha (stB r))]:=⟨_,rfl⟩
             have HBV:Hid (wv.heap[w.heap.size]? =some (.cells #[.int .i64 (sealS r).author,.int .i64 (sealS r).number,.string (sealS r).prev,.int .i64 (sealS r).time,.int .i64 (sealS r).kind,.int .i64 (sealS r).a,.int .i64 (sealS r).b,.int .i64 (sealS r).c,.slice lb nb cb,.slice pb mp cq,.string (sealS r).body,.int .i64 (sealS r).key,.string (sealS r).dig] 51 (0,0))∧wv.heap[w.heap.size+1]? =some (.cells #[.int .i64 0,.int .i64 0,.string ⟨#[]⟩,.int .i64 0,.int .i64 0,.int .i64 0,.int .i64 0,.int .i64 0,.slice none 0 0,.slice none 0 0,.string ⟨#[]⟩,.int .i64 0,.string ⟨#[]⟩] 51 (0,0))):=Lib.hid (by rw [hwv];exact⟨setRow_heap _ _ _ _ _ _ HBU.out.1,(setRow_other _ _ _ _ (by omega)).trans HBU.out.2⟩)
             have HEV:Hid (Ex w.heap.size none w wv):=Lib.hid (by rw [hwv];exact(HET.out.trans HU.out.2 (by omega) (by simp)).setRow _ _ (.inr (Nat.le_refl _)))
             have HLV:Hid (Lies (fun b=>wt.heap.size≤b) wv (sealS r,⟨lb,nb,cb⟩,⟨pb,mp,cq⟩)):=Lib.hid (by rw [hwv];exact HU.out.1.keep fun b h1 _=>setRow_other _ _ _ _ (by omega))
             have hzv:wu.heap.size≤wv.heap.size:=by rw [hwv];simp)
          | (refine wpList_store_rowTo rfl 51 (.tmp 5) (.tmp 54) rfl rfl w.heap.size #[.int .i64 r.author,.int .i64 r.number,.string r.prev,.int .i64 r.time,.int .i64 r.kind,.int .i64 r.a,.int .i64 r.b,.int .i64 r.c,.slice lb nb cb,.slice pb mp cq,.string r.body,.int .i64 r.author,.string (sha (stB r))] (by rfl) (by rfl) 51 #[.int .i64 r.author,.int .i64 r.number,.string r.prev,.int .i64 r.time,.int .i64 r.kind,.int .i64 r.a,.int .i64 r.b,.int .i64 r.c,.slice la na ca,.slice pa np cp,.string r.body,.int .i64 r.key,.string r.dig] HBU.out.1 Tryz.sizeSt rfl (by simp [Value.oneCell']) ?_
             rw [←hwv]
             clear hwv
             obtain⟨⟨d0,d1,d2,d3,d4,d5,d6,d7,d8,d9,d10,d11,d12⟩,fz⟩:=st_block HBV.out.1
             simp only [sealS] at d0 d1 d2 d3 d4 d5 d6 d7 d8 d9 d10 d11 d12)
          | (go_at_call 45
             refine(check03_any (sealS r) lb pb nb cb mp cq wv HLV.out ⟨by have:=HTR.out.list;show r.list.length≤_;omega,by have:=HTR.out.pins;show r.pins.length≤_;omega⟩).mono ?_
             rintro e wx ⟨rfl,hexx⟩
             have HX:Hid (Ex wv.heap.size none wv wx):=Lib.hid hexx
             have hzx:wv.heap.size≤wx.heap.size:=hexx.size
             have HBX:Hid (wx.heap[w.heap.size]? =some (.cells #[.int .i64 (sealS r).author,.int .i64 (sealS r).number,.string (sealS r).prev,.int .i64 (sealS r).time,.int .i64 (sealS r).kind,.int .i64 (sealS r).a,.int .i64 (sealS r).b,.int .i64 (sealS r).c,.slice lb nb cb,.slice pb mp cq,.string (sealS r).body,.int .i64 (sealS r).key,.string (sealS r).dig] 51 (0,0))∧wx.heap[w.heap.size+1]? =some (.cells #[.int .i64 0,.int .i64 0,.string ⟨#[]⟩,.int .i64 0,.int .i64 0,.int .i64 0,.int .i64 0,.int .i64 0,.slice none 0 0,.slice none 0 0,.string ⟨#[]⟩,.int .i64 0,.string ⟨#[]⟩] 51 (0,0))):=Lib.hid ⟨(hexx.block _ (by omega) (by simp)).trans HBV.out.1,(hexx.block _ (by omega) (by simp)).trans HBV.out.2⟩
             have HLX:Hid (Lies (fun b=>wt.heap.size≤b) wx (sealS r,⟨lb,nb,cb⟩,⟨pb,mp,cq⟩)):=Lib.hid (HLV.out.keep fun b _ hb=>hexx.block b hb (by simp))
             have HEX:Hid (Ex w.heap.size none w wx):=Lib.hid (HEV.out.trans hexx (by omega) (by simp))
             clear hexx d0 d1 d2 d3 d4 d5 d6 d7 d8 d9 d10 d11 d12 fz
             obtain⟨c,hcc⟩:∃c,c=checkI (sealS r):=⟨_,rfl⟩
             have HCC:=Lib.hid hcc
             rw [←hcc]
             clear hcc
             by_cases hc0:c=0
             · have hc0d: (c != 0)=false:=by simp [hc0]
               have HC0:=Lib.hid hc0
               clear hc0
               obtain⟨⟨d0,d1,d2,d3,d4,d5,d6,d7,d8,d9,d10,d11,d12⟩,fz⟩:=st_block HBX.out.1
               simp only [sealS] at d0 d1 d2 d3 d4 d5 d6 d7 d8 d9 d10 d11 d12
               go_wp2_with (refine wpList_store_rowTo rfl 51 (.tmp 6) (.tmp 61) rfl rfl (w.heap.size+1) #[.int .i64 r.author,.int .i64 r.number,.string r.prev,.int .i64 r.time,.int .i64 r.kind,.int .i64 r.a,.int .i64 r.b,.int .i64 r.c,.slice lb nb cb,.slice pb mp cq,.string r.body,.int .i64 r.author,.string (sha (stB r))] (by rfl) (by rfl) 51 #[.int .i64 0,.int .i64 0,.string ⟨#[]⟩,.int .i64 0,.int .i64 0,.int .i64 0,.int .i64 0,.int .i64 0,.slice none 0 0,.slice none 0 0,.string ⟨#[]⟩,.int .i64 0,.string ⟨#[]⟩] HBX.out.2 Tryz.sizeSt rfl (by simp [Value.oneCell']) ?_)
               obtain⟨wy,hwy⟩:∃wy:World,wy=wx.setRow (w.heap.size+1) #[.int .i64 r.author,.int .i64 r.number,.string r.prev,.int .i64 r.time,.int .i64 r.kind,.int .i64 r.a,.int .i64 r.b,.int .i64 r.c,.slice lb nb cb,.slice pb mp cq,.string r.body,.int .i64 r.author,.string (sha (stB r))]:=⟨_,rfl⟩
               have HEY:Hid (Ex w.heap.size none w wy):=Lib.hid (by rw [hwy];exact HEX.out.setRow _ _ (.inr (by omega)))
               have HLY:Hid (Lies (fun b=>w.heap.size≤b) wy (sealS r,⟨lb,nb,cb⟩,⟨pb,mp,cq⟩)):=Lib.hid (by rw [hwy];exact(HLX.out.keep (w':=wx.setRow _ _) fun b h1 _=>setRow_other _ _ _ _ (by omega)).mono fun b h _=>by omega)
               have hby:wy.heap[w.heap.size+1]? =some (.cells #[.int .i64 r.author,.int .i64 r.number,.string r.prev,.int .i64 r.time,.int .i64 r.kind,.int .i64 r.a,.int .i64 r.b,.int .i64 r.c,.slice lb nb cb,.slice pb mp cq,.string r.body,.int .i64 r.author,.string (sha (stB r))] 51 (0,0)):=by rw [hwy];exact setRow_heap _ _ _ _ _ _ HBX.out.2
               rw [←hwy]
               clear hwy d0 d1 d2 d3 d4 d5 d6 d7 d8 d9 d10 d11 d12 fz
               obtain⟨⟨e0,e1,e2,e3,e4,e5,e6,e7,e8,e9,e10,e11,e12⟩,ez⟩:=st_block (s:=sealS r) hby
               simp only [sealS] at e0 e1 e2 e3 e4 e5 e6 e7 e8 e9 e10 e11 e12
               have HNE:Hid (nextE a chain s=0):=Lib.hid (by rw [HNX.out,←HRS.out,←HCC.out];exact HC0.out)
               refine bodyPost_ret (v:=.tuple #[.agg #[.int .i64 r.author,.int .i64 r.number,.string r.prev,.int .i64 r.time,.int .i64 r.kind,.int .i64 r.a,.int .i64 r.b,.int .i64 r.c,.slice lb nb cb,.slice pb mp cq,.string r.body,.int .i64 r.author,.string (sha (stB r))],.int .i64 0]) (by simp [results,Tryz.results50,go_sem,e0,e1,e2,e3,e4,e5,e6,e7,e8,e9,e10,e11,e12]) rfl ?_
               exact⟨sealS r,lb,nb,cb,pb,mp,cq,by rw [HNE.out];rfl,HLY.out,fun _=>HRS.out,HEY.out⟩
             · have hc0d: (c != 0)=true:=by simp [hc0]
               have HC0:=Lib.hid hc0
               clear hc0
               go_wp2_with (refine wpList_store_rowTo rfl 51 (.tmp 6) (.tmp 59) rfl rfl (w.heap.size+1) #[.int .i64 0,.int .i64 0,.string ⟨#[]⟩,.int .i64 0,.int .i64 0,.int .i64 0,.int .i64 0,.int .i64 0,.slice none 0 0,.slice none 0 0,.string ⟨#[]⟩,.int .i64 0,.string ⟨#[]⟩] (by rfl) (by rfl) 51 #[.int .i64 0,.int .i64 0,.string ⟨#[]⟩,.int .i64 0,.int .i64 0,.int .i64 0,.int .i64 0,.int .i64 0,.slice none 0 0,.slice none 0 0,.string ⟨#[]⟩,.int .i64 0,.string ⟨#[]⟩] HBX.out.2 Tryz.sizeSt rfl (by simp [Value.oneCell']) ?_)
               obtain⟨wy,hwy⟩:∃wy:World,wy=wx.setRow (w.heap.size+1) #[.int .i64 0,.int .i64 0,.string ⟨#[]⟩,.int .i64 0,.int .i64 0,.int .i64 0,.int .i64 0,.int .i64 0,.slice none 0 0,.slice none 0 0,.string ⟨#[]⟩,.int .i64 0,.string ⟨#[]⟩]:=⟨_,rfl⟩
               have HEY:Hid (Ex w.heap.size none w wy):=Lib.hid (by rw [hwy];exact(HEX.out).setRow _ _ (.inr (by omega)))
               have hby:wy.heap[w.heap.size+1]? =some (.cells #[.int .i64 0,.int .i64 0,.string ⟨#[]⟩,.int .i64 0,.int .i64 0,.int .i64 0,.int .i64 0,.int .i64 0,.slice none 0 0,.slice none 0 0,.string ⟨#[]⟩,.int .i64 0,.string ⟨#[]⟩] 51 (0,0)):=by rw [hwy];exact setRow_heap _ _ _ _ _ _ HBX.out.2
               rw [←hwy]
               clear hwy
               obtain⟨⟨e0,e1,e2,e3,e4,e5,e6,e7,e8,e9,e10,e11,e12⟩,ez⟩:=st_block (s:=zeroSt) hby
               simp only [zeroSt] at e0 e1 e2 e3 e4 e5 e6 e7 e8 e9 e10 e11 e12
               have HNE:Hid (nextE a chain s=c):=Lib.hid (by rw [HNX.out,←HRS.out];exact HCC.out.symm)
               refine bodyPost_ret (v:=.tuple #[.agg #[.int .i64 0,.int .i64 0,.string ⟨#[]⟩,.int .i64 0,.int .i64 0,.int .i64 0,.int .i64 0,.int .i64 0,.slice none 0 0,.slice none 0 0,.string ⟨#[]⟩,.int .i64 0,.string ⟨#[]⟩],.int .i64 c]) (by simp [results,Tryz.results50,go_sem,e0,e1,e2,e3,e4,e5,e6,e7,e8,e9,e10,e11,e12]) rfl ?_
               exact⟨zeroSt,none,0,0,none,0,0,by rw [HNE.out];rfl,Lies.zero _ _,fun h=>by rw [HNE.out] at h;first | exact absurd h (by decide) | exact absurd h HC0.out,HEY.out⟩
          ))
   · have HCH:=Lib.hid hch
     clear hch
     go_upto_region 2 with(first
      | (go_at_call 48
         refine(counted04_any (.slice ao n cap) chain a w0 (by rw [HN.out];exact⟨ao,cap,rfl,HX.out.keep (by decide) fun b _ hb=>HE0.out.block b hb (by simp)⟩) (by have:=HN.out;omega) HTL.out).mono ?_
         rintro e w1 ⟨co,cc,rfl,hown,hex⟩
         have HO1:Hid (OwnS w1 w0.heap.size co cc (countedI a chain)∧Ex w0.heap.size none w0 w1):=Lib.hid ⟨hown,hex⟩
         have hz1:w0.heap.size≤w1.heap.size:=hex.size
         clear hown hex)
      | (go_at_call 83
         refine(sameList_any _ (.slice ao n cap) (countedI a chain) chain w1 HO1.out.1.sl (by rw [HN.out];exact⟨ao,cap,rfl,HX.out.keep (by decide) fun b _ hb=>(HE0.out.trans HO1.out.2 (by omega) (by simp)).block b hb (by simp)⟩) (by have:=countedI_len a chain;have:=HN.out;omega) (countedI_tame HTL.out).light).mono ?_
         rintro e w2 ⟨bb,rfl,HBB,hex2⟩
         have HE2:Hid (Ex w0.heap.size none w0 w2):=Lib.hid (HO1.out.2.trans hex2 hz1 (by simp))
         have hz2:w0.heap.size≤w2.heap.size:=HE2.out.size
         have HB2:Hid (w2.heap[w.heap.size]? =some (.cells #[.int .i64 s.author,.int .i64 s.number,.string s.prev,.int .i64 s.time,.int .i64 s.kind,.int .i64 s.a,.int .i64 s.b,.int .i64 s.c,.slice lo ln lc,.slice po pn pc,.string s.body,.int .i64 s.key,.string s.dig] 51 (0,0))∧w2.heap[w.heap.size+1]? =some (.cells #[.int .i64 0,.int .i64 0,.string ⟨#[]⟩,.int .i64 0,.int .i64 0,.int .i64 0,.int .i64 0,.int .i64 0,.slice none 0 0,.slice none 0 0,.string ⟨#[]⟩,.int .i64 0,.string ⟨#[]⟩] 51 (0,0))):=Lib.hid ⟨(HE2.out.block _ (by omega) (by simp)).trans HB0.out.1,(HE2.out.block _ (by omega) (by simp)).trans HB0.out.2⟩
         clear hex2 HO1
         have hbb:bb=false:=by
          cases bb with
          | false=>rfl
          | true=>exact absurd (HBB.out.1 rfl) HCH.out
         subst hbb)
      | fail)
     go_wp2_with (refine wpList_store_rowTo rfl 51 (.tmp 6) (.tmp 22) rfl rfl (w.heap.size+1) #[.int .i64 0,.int .i64 0,.string ⟨#[]⟩,.int .i64 0,.int .i64 0,.int .i64 0,.int .i64 0,.int .i64 0,.slice none 0 0,.slice none 0 0,.string ⟨#[]⟩,.int .i64 0,.string ⟨#[]⟩] (by rfl) (by rfl) 51 #[.int .i64 0,.int .i64 0,.string ⟨#[]⟩,.int .i64 0,.int .i64 0,.int .i64 0,.int .i64 0,.int .i64 0,.slice none 0 0,.slice none 0 0,.string ⟨#[]⟩,.int .i64 0,.string ⟨#[]⟩] HB2.out.2 Tryz.sizeSt rfl (by simp [Value.oneCell']) ?_)
     obtain⟨wy,hwy⟩:∃wy:World,wy=w2.setRow (w.heap.size+1) #[.int .i64 0,.int .i64 0,.string ⟨#[]⟩,.int .i64 0,.int .i64 0,.int .i64 0,.int .i64 0,.int .i64 0,.slice none 0 0,.slice none 0 0,.string ⟨#[]⟩,.int .i64 0,.string ⟨#[]⟩]:=⟨_,rfl⟩
     have HEY:Hid (Ex w.heap.size none w wy):=Lib.hid (by rw [hwy];exact(HE0.out.trans HE2.out (by omega) (by simp)).setRow _ _ (.inr (by omega)))
     have hby:wy.heap[w.heap.size+1]? =some (.cells #[.int .i64 0,.int .i64 0,.string ⟨#[]⟩,.int .i64 0,.int .i64 0,.int .i64 0,.int .i64 0,.int .i64 0,.slice none 0 0,.slice none 0 0,.string ⟨#[]⟩,.int .i64 0,.string ⟨#[]⟩] 51 (0,0)):=by rw [hwy];exact setRow_heap _ _ _ _ _ _ HB2.out.2
     rw [←hwy]
     clear hwy
     obtain⟨⟨e0,e1,e2,e3,e4,e5,e6,e7,e8,e9,e10,e11,e12⟩,ez⟩:=st_block (s:=zeroSt) hby
     simp only [zeroSt] at e0 e1 e2 e3 e4 e5 e6 e7 e8 e9 e10 e11 e12
     have HNE:Hid (nextE a chain s=1):=Lib.hid (by obtain⟨q,hq⟩:=HLX.out;unfold nextE;rw [hq];simp only [HCH.out,if_false])
     refine bodyPost_ret (v:=.tuple #[.agg #[.int .i64 0,.int .i64 0,.string ⟨#[]⟩,.int .i64 0,.int .i64 0,.int .i64 0,.int .i64 0,.int .i64 0,.slice none 0 0,.slice none 0 0,.string ⟨#[]⟩,.int .i64 0,.string ⟨#[]⟩],.int .i64 1]) (by simp [results,Tryz.results50,go_sem,e0,e1,e2,e3,e4,e5,e6,e7,e8,e9,e10,e11,e12]) rfl ?_
     exact⟨zeroSt,none,0,0,none,0,0,by rw [HNE.out];rfl,Lies.zero _ _,fun h=>by rw [HNE.out] at h;first | exact absurd h (by decide) | exact absurd h HC0.out,HEY.out⟩
 · have h0d:decide (0 < n)=false:=decide_eq_false h0
   have h0I : ¬(0:Int) < (n:Int):=by omega
   have HCN:Hid (chain=[]):=Lib.hid (List.eq_nil_of_length_eq_zero (by have:=HN.out;omega))
   have HNX:Hid (nextE a chain s=checkI (nextS a chain s)):=Lib.hid (by unfold nextE;rw [HCN.out];rfl)
   go_upto_region 3 with(fail)
   obtain⟨⟨d0,d1,d2,d3,d4,d5,d6,d7,d8,d9,d10,d11,d12⟩,fz⟩:=st_block HB0.out.1
   go_upto_region 4 with(first
    | (go_at_call 52
       refine(copy03_lit s lo po ln lc pn pc _ (HLS.out.keep fun b _ hb=>HE0.out.block b hb (by simp)) ⟨by have:=HT.out.list;omega,by have:=HT.out.pins;omega⟩).mono ?_
       rintro e w3 ⟨la,na,ca,pa,np,cp,rfl,hl3,hex3⟩
       have H3:Hid (Lies (fun b=>w0.heap.size≤b) w3 (s,⟨la,na,ca⟩,⟨pa,np,cp⟩)∧Ex w0.heap.size none w0 w3):=Lib.hid ⟨hl3,hex3⟩
       have hz3:w0.heap.size≤w3.heap.size:=hex3.size
       have HB3:Hid (w3.heap[w.heap.size]? =some (.cells #[.int .i64 s.author,.int .i64 s.number,.string s.prev,.int .i64 s.time,.int .i64 s.kind,.int .i64 s.a,.int .i64 s.b,.int .i64 s.c,.slice lo ln lc,.slice po pn pc,.string s.body,.int .i64 s.key,.string s.dig] 51 (0,0))∧w3.heap[w.heap.size+1]? =some (.cells #[.int .i64 0,.int .i64 0,.string ⟨#[]⟩,.int .i64 0,.int .i64 0,.int .i64 0,.int .i64 0,.int .i64 0,.slice none 0 0,.slice none 0 0,.string ⟨#[]⟩,.int .i64 0,.string ⟨#[]⟩] 51 (0,0))):=Lib.hid ⟨(hex3.block _ (by omega) (by simp)).trans HB0.out.1,(hex3.block _ (by omega) (by simp)).trans HB0.out.2⟩
       clear hl3 hex3 d0 d1 d2 d3 d4 d5 d6 d7 d8 d9 d10 d11 d12 fz)
    | (refine wpList_store_rowTo rfl 51 (.tmp 5) (.tmp 24) rfl rfl w.heap.size #[.int .i64 s.author,.int .i64 s.number,.string s.prev,.int .i64 s.time,.int .i64 s.kind,.int .i64 s.a,.int .i64 s.b,.int .i64 s.c,.slice la na ca,.slice pa np cp,.string s.body,.int .i64 s.key,.string s.dig] (by rfl) (by rfl) 51 #[.int .i64 s.author,.int .i64 s.number,.string s.prev,.int .i64 s.time,.int .i64 s.kind,.int .i64 s.a,.int .i64 s.b,.int .i64 s.c,.slice lo ln lc,.slice po pn pc,.string s.body,.int .i64 s.key,.string s.dig] HB3.out.1 Tryz.sizeSt rfl (by simp [Value.oneCell']) ?_))
   obtain⟨w4,hw4⟩:∃w4:World,w4=w3.setRow w.heap.size #[.int .i64 s.author,.int .i64 s.number,.string s.prev,.int .i64 s.time,.int .i64 s.kind,.int .i64 s.a,.int .i64 s.b,.int .i64 s.c,.slice la na ca,.slice pa np cp,.string s.body,.int .i64 s.key,.string s.dig]:=⟨_,rfl⟩
   have HB4:Hid (w4.heap[w.heap.size]? =some (.cells #[.int .i64 s.author,.int .i64 s.number,.string s.prev,.int .i64 s.time,.int .i64 s.kind,.int .i64 s.a,.int .i64 s.b,.int .i64 s.c,.slice la na ca,.slice pa np cp,.string s.body,.int .i64 s.key,.string s.dig] 51 (0,0))∧w4.heap[w.heap.size+1]? =some (.cells #[.int .i64 0,.int .i64 0,.string ⟨#[]⟩,.int .i64 0,.int .i64 0,.int .i64 0,.int .i64 0,.int .i64 0,.slice none 0 0,.slice none 0 0,.string ⟨#[]⟩,.int .i64 0,.string ⟨#[]⟩] 51 (0,0))):=Lib.hid (by
    rw [hw4];exact⟨setRow_heap _ _ _ _ _ _ HB3.out.1,(setRow_other _ _ _ _ (by omega)).trans HB3.out.2⟩)
   have HE4:Hid (Ex w.heap.size none w w4):=Lib.hid (by
    rw [hw4];exact((HE0.out).trans H3.out.2 (by omega) (by simp)).setRow _ _ (.inr (Nat.le_refl _)))
   have HL4:Hid (Lies (fun b=>w0.heap.size≤b) w4 (s,⟨la,na,ca⟩,⟨pa,np,cp⟩)):=Lib.hid (by
    rw [hw4];exact H3.out.1.keep fun b h1 _=>setRow_other _ _ _ _ (by omega))
   have hz4:w3.heap.size≤w4.heap.size:=by rw [hw4];simp
   rw [←hw4]
   clear hw4 H3 HB3
   obtain⟨⟨d0,d1,d2,d3,d4,d5,d6,d7,d8,d9,d10,d11,d12⟩,fz⟩:=st_block HB4.out.1
   go_upto_region 5 with(fail)
   clear d0 d1 d2 d3 d4 d5 d6 d7 d8 d9 d10 d11 d12 fz
   obtain⟨w5,hw5⟩:∃w5:World,w5= ((w4.setCell ⟨w.heap.size,0,none⟩ (.int .i64 a)).setCell ⟨w.heap.size,1,none⟩ (.int .i64 0)).setCell ⟨w.heap.size,2,none⟩ (.string ⟨#[]⟩):=⟨_,rfl⟩
   have HB5:Hid (w5.heap[w.heap.size]? =some (.cells #[.int .i64 a,.int .i64 0,.string ⟨#[]⟩,.int .i64 s.time,.int .i64 s.kind,.int .i64 s.a,.int .i64 s.b,.int .i64 s.c,.slice la na ca,.slice pa np cp,.string s.body,.int .i64 s.key,.string s.dig] 51 (0,0))∧w5.heap[w.heap.size+1]? =some (.cells #[.int .i64 0,.int .i64 0,.string ⟨#[]⟩,.int .i64 0,.int .i64 0,.int .i64 0,.int .i64 0,.int .i64 0,.slice none 0 0,.slice none 0 0,.string ⟨#[]⟩,.int .i64 0,.string ⟨#[]⟩] 51 (0,0))):=Lib.hid (by
    rw [hw5]
    refine⟨?_,?_⟩
    · rw [heap_setCell_same _ _ _ _ _ _ (heap_setCell_same _ _ _ _ _ _ (heap_setCell_same _ _ _ _ _ _ HB4.out.1))];rfl
    · iterate 3 refine set_far (by omega) ?_
      exact HB4.out.2)
   have HE5:Hid (Ex w.heap.size none w w5):=Lib.hid (by
    rw [hw5]
    iterate 3 refine Ex.setCell ?_ _ none _ (Or.inr (Nat.le_refl _))
    exact HE4.out)
   have HL5:Hid (Lies (fun b=>w0.heap.size≤b) w5 (s,⟨la,na,ca⟩,⟨pa,np,cp⟩)):=Lib.hid (by
    rw [hw5]
    exact HL4.out.keep fun b h1 _=>by
     iterate 3 refine set_far (by omega) ?_
     rfl)
   have hz5:w4.heap.size≤w5.heap.size:=by rw [hw5];simp [World.setCell]
   rw [←hw5]
   clear hw5 HB4 HL4
   go_upto_region 13 with(fail)
   obtain⟨r,hr⟩:∃r:St,r={ s with author:=a,number:=0,prev:=⟨#[]⟩ }:=⟨_,rfl⟩
   obtain⟨wt,hwt⟩:∃wt,wt=w5:=⟨_,rfl⟩
   have HBT:Hid (wt.heap[w.heap.size]? =some (.cells #[.int .i64 r.author,.int .i64 r.number,.string r.prev,.int .i64 r.time,.int .i64 r.kind,.int .i64 r.a,.int .i64 r.b,.int .i64 r.c,.slice la na ca,.slice pa np cp,.string r.body,.int .i64 r.key,.string r.dig] 51 (0,0))∧wt.heap[w.heap.size+1]? =some (.cells #[.int .i64 0,.int .i64 0,.string ⟨#[]⟩,.int .i64 0,.int .i64 0,.int .i64 0,.int .i64 0,.int .i64 0,.slice none 0 0,.slice none 0 0,.string ⟨#[]⟩,.int .i64 0,.string ⟨#[]⟩] 51 (0,0))):=Lib.hid (by rw [hwt,hr];exact HB5.out)
   have HET:Hid (Ex w.heap.size none w wt):=Lib.hid (by rw [hwt];exact HE5.out)
   have HLT:Hid (Lies (fun b=>w.heap.size+2≤b) wt (r,⟨la,na,ca⟩,⟨pa,np,cp⟩)):=Lib.hid (by rw [hwt,hr];exact Lies.mono HL5.out fun b h _=>by omega)
   have HTR:Hid (Tame r):=Lib.hid (by rw [hr];exact tame_with HT.out _ _ (by decide))
   have hzt:w.heap.size+2≤wt.heap.size:=by rw [hwt];omega
   have HRS:Hid (sealS r=nextS a chain s):=Lib.hid (by rw [hr];rw [HCN.out];rfl)
   rw [←hwt]
   clear hwt hr
   obtain⟨⟨d0,d1,d2,d3,d4,d5,d6,d7,d8,d9,d10,d11,d12⟩,fz⟩:=st_block HBT.out.1
   go_wp2_with (first
    | (go_at_call 34
       refine(seal03_any r la pa na ca np cp wt HLT.out HTR.out).mono ?_
       rintro e wu ⟨lb,nb,cb,pb,mp,cq,rfl,hlu,hexu⟩
       have HU:Hid (Lies (fun b=>wt.heap.size≤b) wu (sealS r,⟨lb,nb,cb⟩,⟨pb,mp,cq⟩)∧Ex wt.heap.size none wt wu):=Lib.hid ⟨hlu,hexu⟩
       have hzu:wt.heap.size≤wu.heap.size:=hexu.size
       have HBU:Hid (wu.heap[w.heap.size]? =some (.cells #[.int .i64 r.author,.int .i64 r.number,.string r.prev,.int .i64 r.time,.int .i64 r.kind,.int .i64 r.a,.int .i64 r.b,.int .i64 r.c,.slice la na ca,.slice pa np cp,.string r.body,.int .i64 r.key,.string r.dig] 51 (0,0))∧wu.heap[w.heap.size+1]? =some (.cells #[.int .i64 0,.int .i64 0,.string ⟨#[]⟩,.int .i64 0,.int .i64 0,.int .i64 0,.int .i64 0,.int .i64 0,.slice none 0 0,.slice none 0 0,.string ⟨#[]⟩,.int .i64 0,.string ⟨#[]⟩] 51 (0,0))):=Lib.hid ⟨(hexu.block _ (by omega) (by simp)).trans HBT.out.1,(hexu.block _ (by omega) (by simp)).trans HBT.out.2⟩
       clear hlu hexu d0 d1 d2 d3 d4 d5 d6 d7 d8 d9 d10 d11 d12 fz
       obtain⟨wv,hwv⟩:∃wv:World,wv=wu.setRow w.heap.size #[.int .i64 r.author,.int .i64 r.number,.string r.prev,.int .i64 r.time,.int .i64 r.kind,.int .i64 r.a,.int .i64 r.b,.int .i64 r.c,.slice lb nb cb,.slice pb mp cq,.string r.body,.int .i64 r.author,.string (sha (stB r))]:=⟨_,rfl⟩
       have HBV:Hid (wv.heap[w.heap.size]? =some (.cells #[.int .i64 (sealS r).author,.int .i64 (sealS r).number,.string (sealS r).prev,.int .i64 (sealS r).time,.int .i64 (sealS r).kind,.int .i64 (sealS r).a,.int .i64 (sealS r).b,.int .i64 (sealS r).c,.slice lb nb cb,.slice pb mp cq,.string (sealS r).body,.int .i64 (sealS r).key,.string (sealS r).dig] 51 (0,0))∧wv.heap[w.heap.size+1]? =some (.cells #[.int .i64 0,.int .i64 0,.string ⟨#[]⟩,.int .i64 0,.int .i64 0,.int .i64 0,.int .i64 0,.int .i64 0,.slice none 0 0,.slice none 0 0,.string ⟨#[]⟩,.int .i64 0,.string ⟨#[]⟩] 51 (0,0))):=Lib.hid (by rw [hwv];exact⟨setRow_heap _ _ _ _ _ _ HBU.out.1,(setRow_other _ _ _ _ (by omega)).trans HBU.out.2⟩)
       have HEV:Hid (Ex w.heap.size none w wv):=Lib.hid (by rw [hwv];exact(HET.out.trans HU.out.2 (by omega) (by simp)).setRow _ _ (.inr (Nat.le_refl _)))
       have HLV:Hid (Lies (fun b=>wt.heap.size≤b) wv (sealS r,⟨lb,nb,cb⟩,⟨pb,mp,cq⟩)):=Lib.hid (by rw [hwv];exact HU.out.1.keep fun b h1 _=>setRow_other _ _ _ _ (by omega))
       have hzv:wu.heap.size≤wv.heap.size:=by rw [hwv];simp)
    | (refine wpList_store_rowTo rfl 51 (.tmp 5) (.tmp 54) rfl rfl w.heap.size #[.int .i64 r.author,.int .i64 r.number,.string r.prev,.int .i64 r.time,.int .i64 r.kind,.int .i64 r.a,.int .i64 r.b,.int .i64 r.c,.slice lb nb cb,.slice pb mp cq,.string r.body,.int .i64 r.author,.string (sha (stB r))] (by rfl) (by rfl) 51 #[.int .i64 r.author,.int .i64 r.number,.string r.prev,.int .i64 r.time,.int .i64 r.kind,.int .i64 r.a,.int .i64 r.b,.int .i64 r.c,.slice la na ca,.slice pa np cp,.string r.body,.int .i64 r.key,.string r.dig] HBU.out.1 Tryz.sizeSt rfl (by simp [Value.oneCell']) ?_
       rw [←hwv]
       clear hwv
       obtain⟨⟨d0,d1,d2,d3,d4,d5,d6,d7,d8,d9,d10,d11,d12⟩,fz⟩:=st_block HBV.out.1
       simp only [sealS] at d0 d1 d2 d3 d4 d5 d6 d7 d8 d9 d10 d11 d12)
    | (go_at_call 45
       refine(check03_any (sealS r) lb pb nb cb mp cq wv HLV.out ⟨by have:=HTR.out.list;show r.list.length≤_;omega,by have:=HTR.out.pins;show r.pins.length≤_;omega⟩).mono ?_
       rintro e wx ⟨rfl,hexx⟩
       have HX:Hid (Ex wv.heap.size none wv wx):=Lib.hid hexx
       have hzx:wv.heap.size≤wx.heap.size:=hexx.size
       have HBX:Hid (wx.heap[w.heap.size]? =some (.cells #[.int .i64 (sealS r).author,.int .i64 (sealS r).number,.string (sealS r).prev,.int .i64 (sealS r).time,.int .i64 (sealS r).kind,.int .i64 (sealS r).a,.int .i64 (sealS r).b,.int .i64 (sealS r).c,.slice lb nb cb,.slice pb mp cq,.string (sealS r).body,.int .i64 (sealS r).key,.string (sealS r).dig] 51 (0,0))∧wx.heap[w.heap.size+1]? =some (.cells #[.int .i64 0,.int .i64 0,.string ⟨#[]⟩,.int .i64 0,.int .i64 0,.int .i64 0,.int .i64 0,.int .i64 0,.slice none 0 0,.slice none 0 0,.string ⟨#[]⟩,.int .i64 0,.string ⟨#[]⟩] 51 (0,0))):=Lib.hid ⟨(hexx.block _ (by omega) (by simp)).trans HBV.out.1,(hexx.block _ (by omega) (by simp)).trans HBV.out.2⟩
       have HLX:Hid (Lies (fun b=>wt.heap.size≤b) wx (sealS r,⟨lb,nb,cb⟩,⟨pb,mp,cq⟩)):=Lib.hid (HLV.out.keep fun b _ hb=>hexx.block b hb (by simp))
       have HEX:Hid (Ex w.heap.size none w wx):=Lib.hid (HEV.out.trans hexx (by omega) (by simp))
       clear hexx d0 d1 d2 d3 d4 d5 d6 d7 d8 d9 d10 d11 d12 fz
       obtain⟨c,hcc⟩:∃c,c=checkI (sealS r):=⟨_,rfl⟩
       have HCC:=Lib.hid hcc
       rw [←hcc]
       clear hcc
       by_cases hc0:c=0
       · have hc0d: (c != 0)=false:=by simp [hc0]
         have HC0:=Lib.hid hc0
         clear hc0
         obtain⟨⟨d0,d1,d2,d3,d4,d5,d6,d7,d8,d9,d10,d11,d12⟩,fz⟩:=st_block HBX.out.1
         simp only [sealS] at d0 d1 d2 d3 d4 d5 d6 d7 d8 d9 d10 d11 d12
         go_wp2_with (refine wpList_store_rowTo rfl 51 (.tmp 6) (.tmp 61) rfl rfl (w.heap.size+1) #[.int .i64 r.author,.int .i64 r.number,.string r.prev,.int .i64 r.time,.int .i64 r.kind,.int .i64 r.a,.int .i64 r.b,.int .i64 r.c,.slice lb nb cb,.slice pb mp cq,.string r.body,.int .i64 r.author,.string (sha (stB r))] (by rfl) (by rfl) 51 #[.int .i64 0,.int .i64 0,.string ⟨#[]⟩,.int .i64 0,.int .i64 0,.int .i64 0,.int .i64 0,.int .i64 0,.slice none 0 0,.slice none 0 0,.string ⟨#[]⟩,.int .i64 0,.string ⟨#[]⟩] HBX.out.2 Tryz.sizeSt rfl (by simp [Value.oneCell']) ?_)
         obtain⟨wy,hwy⟩:∃wy:World,wy=wx.setRow (w.heap.size+1) #[.int .i64 r.author,.int .i64 r.number,.string r.prev,.int .i64 r.time,.int .i64 r.kind,.int .i64 r.a,.int .i64 r.b,.int .i64 r.c,.slice lb nb cb,.slice pb mp cq,.string r.body,.int .i64 r.author,.string (sha (stB r))]:=⟨_,rfl⟩
         have HEY:Hid (Ex w.heap.size none w wy):=Lib.hid (by rw [hwy];exact HEX.out.setRow _ _ (.inr (by omega)))
         have HLY:Hid (Lies (fun b=>w.heap.size≤b) wy (sealS r,⟨lb,nb,cb⟩,⟨pb,mp,cq⟩)):=Lib.hid (by rw [hwy];exact(HLX.out.keep (w':=wx.setRow _ _) fun b h1 _=>setRow_other _ _ _ _ (by omega)).mono fun b h _=>by omega)
         have hby:wy.heap[w.heap.size+1]? =some (.cells #[.int .i64 r.author,.int .i64 r.number,.string r.prev,.int .i64 r.time,.int .i64 r.kind,.int .i64 r.a,.int .i64 r.b,.int .i64 r.c,.slice lb nb cb,.slice pb mp cq,.string r.body,.int .i64 r.author,.string (sha (stB r))] 51 (0,0)):=by rw [hwy];exact setRow_heap _ _ _ _ _ _ HBX.out.2
         rw [←hwy]
         clear hwy d0 d1 d2 d3 d4 d5 d6 d7 d8 d9 d10 d11 d12 fz
         obtain⟨⟨e0,e1,e2,e3,e4,e5,e6,e7,e8,e9,e10,e11,e12⟩,ez⟩:=st_block (s:=sealS r) hby
         simp only [sealS] at e0 e1 e2 e3 e4 e5 e6 e7 e8 e9 e10 e11 e12
         have HNE:Hid (nextE a chain s=0):=Lib.hid (by rw [HNX.out,←HRS.out,←HCC.out];exact HC0.out)
         refine bodyPost_ret (v:=.tuple #[.agg #[.int .i64 r.author,.int .i64 r.number,.string r.prev,.int .i64 r.time,.int .i64 r.kind,.int .i64 r.a,.int .i64 r.b,.int .i64 r.c,.slice lb nb cb,.slice pb mp cq,.string r.body,.int .i64 r.author,.string (sha (stB r))],.int .i64 0]) (by simp [results,Tryz.results50,go_sem,e0,e1,e2,e3,e4,e5,e6,e7,e8,e9,e10,e11,e12]) rfl ?_
         exact⟨sealS r,lb,nb,cb,pb,mp,cq,by rw [HNE.out];rfl,HLY.out,fun _=>HRS.out,HEY.out⟩
       · have hc0d: (c != 0)=true:=by simp [hc0]
         have HC0:=Lib.hid hc0
         clear hc0
         go_wp2_with (refine wpList_store_rowTo rfl 51 (.tmp 6) (.tmp 59) rfl rfl (w.heap.size+1) #[.int .i64 0,.int .i64 0,.string ⟨#[]⟩,.int .i64 0,.int .i64 0,.int .i64 0,.int .i64 0,.int .i64 0,.slice none 0 0,.slice none 0 0,.string ⟨#[]⟩,.int .i64 0,.string ⟨#[]⟩] (by rfl) (by rfl) 51 #[.int .i64 0,.int .i64 0,.string ⟨#[]⟩,.int .i64 0,.int .i64 0,.int .i64 0,.int .i64 0,.int .i64 0,.slice none 0 0,.slice none 0 0,.string ⟨#[]⟩,.int .i64 0,.string ⟨#[]⟩] HBX.out.2 Tryz.sizeSt rfl (by simp [Value.oneCell']) ?_)
         obtain⟨wy,hwy⟩:∃wy:World,wy=wx.setRow (w.heap.size+1) #[.int .i64 0,.int .i64 0,.string ⟨#[]⟩,.int .i64 0,.int .i64 0,.int .i64 0,.int .i64 0,.int .i64 0,.slice none 0 0,.slice none 0 0,.string ⟨#[]⟩,.int .i64 0,.string ⟨#[]⟩]:=⟨_,rfl⟩
         have HEY:Hid (Ex w.heap.size none w wy):=Lib.hid (by rw [hwy];exact(HEX.out).setRow _ _ (.inr (by omega)))
         have hby:wy.heap[w.heap.size+1]? =some (.cells #[.int .i64 0,.int .i64 0,.string ⟨#[]⟩,.int .i64 0,.int .i64 0,.int .i64 0,.int .i64 0,.int .i64 0,.slice none 0 0,.slice none 0 0,.string ⟨#[]⟩,.int .i64 0,.string ⟨#[]⟩] 51 (0,0)):=by rw [hwy];exact setRow_heap _ _ _ _ _ _ HBX.out.2
         rw [←hwy]
         clear hwy
         obtain⟨⟨e0,e1,e2,e3,e4,e5,e6,e7,e8,e9,e10,e11,e12⟩,ez⟩:=st_block (s:=zeroSt) hby
         simp only [zeroSt] at e0 e1 e2 e3 e4 e5 e6 e7 e8 e9 e10 e11 e12
         have HNE:Hid (nextE a chain s=c):=Lib.hid (by rw [HNX.out,←HRS.out];exact HCC.out.symm)
         refine bodyPost_ret (v:=.tuple #[.agg #[.int .i64 0,.int .i64 0,.string ⟨#[]⟩,.int .i64 0,.int .i64 0,.int .i64 0,.int .i64 0,.int .i64 0,.slice none 0 0,.slice none 0 0,.string ⟨#[]⟩,.int .i64 0,.string ⟨#[]⟩],.int .i64 c]) (by simp [results,Tryz.results50,go_sem,e0,e1,e2,e3,e4,e5,e6,e7,e8,e9,e10,e11,e12]) rfl ?_
         exact⟨zeroSt,none,0,0,none,0,0,by rw [HNE.out];rfl,Lies.zero _ _,fun h=>by rw [HNE.out] at h;first | exact absurd h (by decide) | exact absurd h HC0.out,HEY.out⟩
    ))
end Go.Proofs.YtflhidfclfkjlaaGreat

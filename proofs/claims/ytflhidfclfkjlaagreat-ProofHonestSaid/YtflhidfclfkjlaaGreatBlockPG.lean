/- digest.state.block: a contract, no statement of the seat. -/
import Derived.Test.YtflhidfclfkjlaaGreatRoundsPG
import Derived.Test.YtflhidfclfkjlaaGreatMg05
namespace Go.Proofs.YtflhidfclfkjlaaGreat
open Go.RowKit Go.Sort
theorem row_cell {w:World} {g:Nat} {l:List UInt32} {t:TypeId} (h:w.heap[g]? =some (.cells (flatL wdE l).toArray t (0,0))) (i:Nat) (hi:i < l.length):w.cell? ⟨g,i,none⟩=some (.int .u32 (l.getD i 0).toNat):=by
 rw [cell_of_row _ _ _ _ _ _ h,flat_wdE]
 simp [List.getD,hi]
theorem addTo_comm {v h:List UInt32} (hv:v.length=8) (hh:h.length=8):addTo v h 8=addTo h v 8:=by
 unfold addTo
 rw [hv,hh]
 apply List.map_congr_left
 intro i hi
 have h8:i < 8:=by simpa using hi
 rw [if_pos h8,if_pos h8,UInt32.add_comm]
theorem eight {h:List UInt32} (l:h.length=8):h=[h.getD 0 0,h.getD 1 0,h.getD 2 0,h.getD 3 0,h.getD 4 0,h.getD 5 0,h.getD 6 0,h.getD 7 0]:=by
 match h,l with
 | [_,_,_,_,_,_,_,_],_=>rfl
theorem wp_at {P:Program} {c:Code} {Q:Exit→Act→World→Prop} {a:Act} {W:World} (p:World→Prop) (hW:p W) (h:∀wq,p wq→c.wp P Q a wq):c.wp P Q a W:=h W hW
theorem Tryz.sizeS: (Tryz.prog.info? 164).map (·.size)=some 8:=by kernel_rfl
set_option maxHeartbeats 8000000 in
set_option maxRecDepth 100000 in
theorem blockP_any {P:Nat→Prop} (gs gk:Nat) (vb:Value) (hst:List UInt32) (b:List UInt8) (w:World) (hs:HoldsK wdE 1 w gs 0 hst.toArray) (hb:Sl byRep P w vb b) (hk:HoldsK wdE 1 w gk 0 constU.toArray) (lh:hst.length=8) (lb:b.length=64) :
 Calls Tryz.prog 130 #[.pointer (some ⟨gs,0,none⟩),vb,.pointer (some ⟨gk,0,none⟩)] w fun e w'=>e=.returned (.tuple #[])∧HoldsK wdE 1 w' gs 0 (blockU hst b constU).toArray∧Ex w.heap.size (some gs) w w':=by
 obtain⟨bo,bc,rfl,hbx⟩:=hb
 rw [lb]
 have HBY:=Lib.hid hbx
 have HS:=Lib.hid hs
 have HK:=Lib.hid hk
 have HLH:=Lib.hid lh
 have HLB:=Lib.hid lb
 have hgs:gs < w.heap.size:=World.block_lt_of_cell? w _ (wd_cell hs 0 (by rw [List.size_toArray,lh];omega)).1
 have hgk:gk < w.heap.size:=World.block_lt_of_cell? w _ (wd_cell hk 0 (by decide)).1
 clear hbx hs hk lh lb
 have HO:Hid (HoldsK wdE 1 (w.alloc (.cells #[.int .u32 0,.int .u32 0,.int .u32 0,.int .u32 0,.int .u32 0,.int .u32 0,.int .u32 0,.int .u32 0,.int .u32 0,.int .u32 0,.int .u32 0,.int .u32 0,.int .u32 0,.int .u32 0,.int .u32 0,.int .u32 0,.int .u32 0,.int .u32 0,.int .u32 0,.int .u32 0,.int .u32 0,.int .u32 0,.int .u32 0,.int .u32 0,.int .u32 0,.int .u32 0,.int .u32 0,.int .u32 0,.int .u32 0,.int .u32 0,.int .u32 0,.int .u32 0,.int .u32 0,.int .u32 0,.int .u32 0,.int .u32 0,.int .u32 0,.int .u32 0,.int .u32 0,.int .u32 0,.int .u32 0,.int .u32 0,.int .u32 0,.int .u32 0,.int .u32 0,.int .u32 0,.int .u32 0,.int .u32 0,.int .u32 0,.int .u32 0,.int .u32 0,.int .u32 0,.int .u32 0,.int .u32 0,.int .u32 0,.int .u32 0,.int .u32 0,.int .u32 0,.int .u32 0,.int .u32 0,.int .u32 0,.int .u32 0,.int .u32 0,.int .u32 0] 165)) w.heap.size 0 (List.replicate 64 (0:UInt32)).toArray):=Lib.hid (lit_words rfl)
 go_enter Tryz.func130,Tryz.ntmps130
 go_upto_region 1 with(fail)
 obtain⟨w1,hw1⟩:∃w1:World,w1=w.alloc (.cells #[.int .u32 0,.int .u32 0,.int .u32 0,.int .u32 0,.int .u32 0,.int .u32 0,.int .u32 0,.int .u32 0,.int .u32 0,.int .u32 0,.int .u32 0,.int .u32 0,.int .u32 0,.int .u32 0,.int .u32 0,.int .u32 0,.int .u32 0,.int .u32 0,.int .u32 0,.int .u32 0,.int .u32 0,.int .u32 0,.int .u32 0,.int .u32 0,.int .u32 0,.int .u32 0,.int .u32 0,.int .u32 0,.int .u32 0,.int .u32 0,.int .u32 0,.int .u32 0,.int .u32 0,.int .u32 0,.int .u32 0,.int .u32 0,.int .u32 0,.int .u32 0,.int .u32 0,.int .u32 0,.int .u32 0,.int .u32 0,.int .u32 0,.int .u32 0,.int .u32 0,.int .u32 0,.int .u32 0,.int .u32 0,.int .u32 0,.int .u32 0,.int .u32 0,.int .u32 0,.int .u32 0,.int .u32 0,.int .u32 0,.int .u32 0,.int .u32 0,.int .u32 0,.int .u32 0,.int .u32 0,.int .u32 0,.int .u32 0,.int .u32 0,.int .u32 0] 165):=⟨_,rfl⟩
 have HE1:Hid (Ex w.heap.size none w w1):=Lib.hid (by rw [hw1];exact Ex.new w _)
 have hg1:w.heap.size < w1.heap.size:=by rw [hw1];simp
 rw [←hw1] at HO
 rw [←hw1]
 clear hw1
 go_wp2_with fail
 go_loopw [7,19] (fun _ i wr=>∃(k:Nat) (d:Array UInt32),k≤16∧i=.int .i64 k∧d.size=64∧d.toList.take k=sched b k∧HoldsK wdE 1 wr w.heap.size 0 d∧Ex w.heap.size none w wr) (fun _ i _=>16 - (intOf i).toNat)
 case atStart=>exact⟨0,_,by omega,rfl,rfl,rfl,HO.out,HE1.out⟩
 case round=>
  obtain⟨k,d,hk,rfl,hds,hdt,hhd,hex⟩:=hrel
  have hsz:=hex.size
  by_cases hlt:k < 16
  · obtain⟨bb,ob,y0,rfl,hbl,c0,hy0⟩:=by_at HBY.out (4 * k) (by rw [HLB.out];omega)
    obtain⟨_,_,y1,e1,_,c1,hy1⟩:=by_at HBY.out (4 * k+1) (by rw [HLB.out];omega)
    obtain⟨_,_,y2,e2,_,c2,hy2⟩:=by_at HBY.out (4 * k+2) (by rw [HLB.out];omega)
    obtain⟨_,_,y3,e3,_,c3,hy3⟩:=by_at HBY.out (4 * k+3) (by rw [HLB.out];omega)
    cases e1;cases e2;cases e3
    have HWD:Hid (wordU b k= ((y0.toUInt32 <<< 24 ||| y1.toUInt32 <<< 16) ||| y2.toUInt32 <<< 8) ||| y3.toUInt32):=(show _=_ by unfold wordU;rw [getD_at hy0,getD_at hy1,getD_at hy2,getD_at hy3])
    clear hy0 hy1 hy2 hy3
    have kc:=fun(o:Nat)=>World.cell?_of_block (w:=w) (w':=wr) (a:=⟨bb,o,none⟩) (hex.block bb hbl (by simp))
    rw [←kc] at c0 c1 c2 c3
    obtain⟨hwc,hwf⟩:=wd_cell hhd k (by omega)
    have hkI: (k:Int) < 64:=by omega
    have q0:IntKind.i64.wrap (4 * (k:Int))=4 * (k:Int):=IntWalk.i64_in _ (by omega)
    have q1:IntKind.i64.wrap (4 * (k:Int)+1)=4 * (k:Int)+1:=IntWalk.i64_in _ (by omega)
    have q2:IntKind.i64.wrap (4 * (k:Int)+2)=4 * (k:Int)+2:=IntWalk.i64_in _ (by omega)
    have q3:IntKind.i64.wrap (4 * (k:Int)+3)=4 * (k:Int)+3:=IntWalk.i64_in _ (by omega)
    have p0: (4 * (k:Int)).toNat=4 * k:=by omega
    have p1: (4 * (k:Int)+1).toNat=4 * k+1:=by omega
    have p2: (4 * (k:Int)+2).toNat=4 * k+2:=by omega
    have p3: (4 * (k:Int)+3).toNat=4 * k+3:=by omega
    have b0:0≤4 * (k:Int)∧4 * (k:Int) < 64:=by omega
    have b1:0≤4 * (k:Int)+1∧4 * (k:Int)+1 < 64:=by omega
    have b2:0≤4 * (k:Int)+2∧4 * (k:Int)+2 < 64:=by omega
    have b3:0≤4 * (k:Int)+3∧4 * (k:Int)+3 < 64:=by omega
    obtain⟨⟨b00,b01⟩,⟨b10,b11⟩,⟨b20,b21⟩,⟨b30,b31⟩⟩:=And.intro b0 (And.intro b1 (And.intro b2 b3))
    have hne:bb≠w.heap.size:=by omega
    clear kc
    go_wp2_with fail
    go_region_held3 (fun w'=>w'.cell? ⟨bb,ob+4 * k,none⟩=some (.int .u8 y0.toNat)∧w'.cell? ⟨bb,ob+ (4 * k+1),none⟩=some (.int .u8 y1.toNat)∧w'.cell? ⟨bb,ob+ (4 * k+2),none⟩=some (.int .u8 y2.toNat)∧w'.cell? ⟨bb,ob+ (4 * k+3),none⟩=some (.int .u8 y3.toNat)) (first | exact⟨(World.cell?_of_block (w:=wr) (set_far hne rfl)).trans c0,(World.cell?_of_block (w:=wr) (set_far hne rfl)).trans c1,(World.cell?_of_block (w:=wr) (set_far hne rfl)).trans c2,(World.cell?_of_block (w:=wr) (set_far hne rfl)).trans c3⟩ | go_keep) (fail)
    go_wp2
    go_roundw
    case rel=>
     refine⟨k+1,d.setIfInBounds k (wordU b k),by omega,by go_num,by simpa using hds,sched_up (by omega) hdt (by rw [if_pos hlt]),wd_set hhd k (by omega) _ (by rw [HWD.out];exact u_word' y0 y1 y2 y3),?_⟩
     first | exact Ex.setCell hex k none _ (.inr (Nat.le_refl _)) | exact(Ex.setCell hex k none _ (.inr (Nat.le_refl _))).drew
    case measure=>simp [intOf] <;> omega
  · have hk16:k=16:=by omega
    have hnl : ¬(k:Int) < 16:=by omega
    rw [hk16] at hdt
    have HK16:=Lib.hid hk16
    clear hk16
    go_wp2_with fail
    have HO16:Hid (HoldsK wdE 1 wr w.heap.size 0 d):=hhd
    have HT16:=Lib.hid hdt
    have HE16:=Lib.hid hex
    have HS16:=Lib.hid hds
    clear hhd hdt hex hds
    obtain⟨w2,hw2⟩:∃w2,w2=wr:=⟨_,rfl⟩
    subst hw2
    go_loopw [9,10,11] (fun i _ _ wr=>∃(k:Nat) (d:Array UInt32),16≤k∧k≤64∧i=.int .i64 k∧d.size=64∧d.toList.take k=sched b k∧HoldsK wdE 1 wr w.heap.size 0 d∧Ex w.heap.size none w wr) (fun i _ _ _=>64 - (intOf i).toNat)
    case atStart=>exact⟨16,d,by omega,by omega,rfl,HS16.out,HT16.out,HO16.out,HE16.out⟩
    case round=>
     clear HO16 HT16 HE16 HS16
     obtain⟨k,d,hk0,hk,rfl,hds,hdt,hhd,hex⟩:=hrel
     have hsz:=hex.size
     by_cases hlt:k < 64
     · obtain⟨p,hp⟩:∃p,p=d.toList.getD (k - 15) 0:=⟨_,rfl⟩
       obtain⟨q,hq⟩:∃q,q=d.toList.getD (k - 2) 0:=⟨_,rfl⟩
       obtain⟨r,hr⟩:∃r,r=d.toList.getD (k - 16) 0:=⟨_,rfl⟩
       obtain⟨t,ht⟩:∃t,t=d.toList.getD (k - 7) 0:=⟨_,rfl⟩
       have cp:=(wd_cell hhd (k - 15) (by omega)).1
       have cq:=(wd_cell hhd (k - 2) (by omega)).1
       have cr:=(wd_cell hhd (k - 16) (by omega)).1
       have ct:=(wd_cell hhd (k - 7) (by omega)).1
       obtain⟨hwc,hwf⟩:=wd_cell hhd k (by omega)
       rw [←hp] at cp
       rw [←hq] at cq
       rw [←hr] at cr
       rw [←ht] at ct
       obtain⟨A,hA⟩:∃A,A=xorU (xorU (turnU p 7) (turnU p 18)) (shrU p 3):=⟨_,rfl⟩
       obtain⟨C,hC⟩:∃C,C=xorU (xorU (turnU q 17) (turnU q 19)) (shrU q 10):=⟨_,rfl⟩
       have HSU:Hid (schedU (sched b k) k= ((r+A)+t)+C):=(show _=_ by
        have e:∀j,j < k→(sched b k).getD j 0=d.toList.getD j 0:=fun j hj=>by rw [←hdt];simp [List.getD,hj]
        unfold schedU schedA schedC
        rw [e _ (by omega),e _ (by omega),e _ (by omega),e _ (by omega),←hp,←hq,←hr,←ht,hA,hC];rfl)
       have HD:Hid (d.size=64∧d.toList.take k=sched b k∧HoldsK wdE 1 wr w.heap.size 0 d∧Ex w.heap.size none w wr):=⟨hds,hdt,hhd,hex⟩
       have hAx: ((xorU (xorU (turnU p 7) (turnU p 18)) (shrU p 3)).toNat:Int)= (A.toNat:Int):=by rw [hA]
       have hCx: ((xorU (xorU (turnU q 17) (turnU q 19)) (shrU q 10)).toNat:Int)= (C.toNat:Int):=by rw [hC]
       clear hp hq hr ht hds hdt hhd hex hA hC
       have rX:=r_xor
       have r3:=r_shr3
       have r10:=r_shr10
       have rA:=r_add
       have rA':=r_add'
       have hkI: (k:Int) < 64:=by omega
       have q15:IntKind.i64.wrap ((k:Int) - 15)= (k:Int) - 15:=IntWalk.i64_in _ (by omega)
       have q2:IntKind.i64.wrap ((k:Int) - 2)= (k:Int) - 2:=IntWalk.i64_in _ (by omega)
       have q16:IntKind.i64.wrap ((k:Int) - 16)= (k:Int) - 16:=IntWalk.i64_in _ (by omega)
       have q7:IntKind.i64.wrap ((k:Int) - 7)= (k:Int) - 7:=IntWalk.i64_in _ (by omega)
       have p15: ((k:Int) - 15).toNat=k - 15:=by omega
       have p2: ((k:Int) - 2).toNat=k - 2:=by omega
       have p16: ((k:Int) - 16).toNat=k - 16:=by omega
       have p7: ((k:Int) - 7).toNat=k - 7:=by omega
       have b15:0≤(k:Int) - 15:=by omega
       have b2:0≤(k:Int) - 2:=by omega
       have b16:0≤(k:Int) - 16:=by omega
       have b7:0≤(k:Int) - 7:=by omega
       have c16: (16:Int)≤(k:Int):=by omega
       have c15: (15:Int)≤(k:Int):=by omega
       have c7: (7:Int)≤(k:Int):=by omega
       have c2: (2:Int)≤(k:Int):=by omega
       have e15: (k:Int) < 79:=by omega
       have e2: (k:Int) < 66:=by omega
       have e16: (k:Int) < 80:=by omega
       have e7: (k:Int) < 71:=by omega
       have d15: (k:Int) - 15 < 64:=by omega
       have d2: (k:Int) - 2 < 64:=by omega
       have d16: (k:Int) - 16 < 64:=by omega
       have d7: (k:Int) - 7 < 64:=by omega
       go_wp2_with fail
       go_quiet (fail)
       go_wp2_with fail
       obtain⟨wq,hwq⟩:∃wq:World,wq=wr.drewN nq:=⟨_,rfl⟩
       have hgW:w.heap.size < wr.heap.size:=World.block_lt_of_cell? wr _ hwc
       have HDQ:Hid (HoldsK wdE 1 wq w.heap.size 0 d∧Ex w.heap.size none w wq):=Lib.hid (by rw [hwq];exact⟨holdsK_keep (by decide) HD.out.2.2.1 hgW rfl,HD.out.2.2.2.drewN⟩)
       have cr2:wq.cell? ⟨w.heap.size,k - 16,none⟩=some (.int .u32 r.toNat):=by rw [hwq];exact cr
       have ct2:wq.cell? ⟨w.heap.size,k - 7,none⟩=some (.int .u32 t.toNat):=by rw [hwq];exact ct
       have cw2:=(wd_cell HDQ.out.1 k (by rw [HD.out.1];omega)).1
       have cf2:=(wd_cell HDQ.out.1 k (by rw [HD.out.1];omega)).2
       rw [←hwq]
       clear hwq cp cq cr ct hwc hwf
       go_still_tail 33,(by kernel_rfl)
       iterate 4 (still_call ((turnP_any _ _ (by decide) _).mono fun e w' hst=>⟨hst.1,hst.2.symm⟩);repeat still_step)
       refine wpStill_nil ?_
       change wpList _ _ _ _ _ wq.drew
       go_wp2_with fail
       go_roundw
       case rel=>
        refine⟨k+1,d.setIfInBounds k (schedU (sched b k) k),by omega,by omega,by go_num,by simpa using HD.out.1,sched_up (by rw [HD.out.1];omega) HD.out.2.1 (by rw [if_neg (by omega)]),wd_set (w:=wq.drew) HDQ.out.1 k (by rw [HD.out.1];omega) _ (by rw [HSU.out];rfl),?_⟩
        exact Ex.setCell HDQ.out.2.drew k none _ (.inr (Nat.le_refl _))
       case measure=>simp [intOf] <;> omega
     · have hk64:k=64:=by omega
       have hnl2 : ¬(k:Int) < 64:=by omega
       rw [hk64] at hdt
       have hd64:d.toList=sched b 64:=by rw [←hdt,List.take_of_length_le (by simp;omega)]
       have HW:Hid (HoldsK wdE 1 wr w.heap.size 0 (sched b 64).toArray):=(show HoldsK wdE 1 wr w.heap.size 0 (sched b 64).toArray by rw [←hd64];simpa using hhd)
       have HE2:=Lib.hid hex
       have hgW:w.heap.size < wr.heap.size:=World.block_lt_of_cell? wr _ (wd_cell HW.out 0 (by rw [List.size_toArray,sched_len];omega)).1
       clear hk64 hds hdt hhd hd64 hex
       have HSW:Hid (HoldsK wdE 1 wr gs 0 hst.toArray):=Lib.hid (holdsK_keep (by decide) HS.out hgs (HE2.out.block _ hgs (by simp)))
       obtain⟨h0,hh0⟩:∃x,x=hst.getD 0 0:=⟨_,rfl⟩
       have ch0:=(wd_cell HSW.out 0 (by rw [List.size_toArray,HLH.out];omega)).1
       rw [List.toList_toArray,←hh0] at ch0
       obtain⟨h1,hh1⟩:∃x,x=hst.getD 1 0:=⟨_,rfl⟩
       have ch1:=(wd_cell HSW.out 1 (by rw [List.size_toArray,HLH.out];omega)).1
       rw [List.toList_toArray,←hh1] at ch1
       obtain⟨h2,hh2⟩:∃x,x=hst.getD 2 0:=⟨_,rfl⟩
       have ch2:=(wd_cell HSW.out 2 (by rw [List.size_toArray,HLH.out];omega)).1
       rw [List.toList_toArray,←hh2] at ch2
       obtain⟨h3,hh3⟩:∃x,x=hst.getD 3 0:=⟨_,rfl⟩
       have ch3:=(wd_cell HSW.out 3 (by rw [List.size_toArray,HLH.out];omega)).1
       rw [List.toList_toArray,←hh3] at ch3
       obtain⟨h4,hh4⟩:∃x,x=hst.getD 4 0:=⟨_,rfl⟩
       have ch4:=(wd_cell HSW.out 4 (by rw [List.size_toArray,HLH.out];omega)).1
       rw [List.toList_toArray,←hh4] at ch4
       obtain⟨h5,hh5⟩:∃x,x=hst.getD 5 0:=⟨_,rfl⟩
       have ch5:=(wd_cell HSW.out 5 (by rw [List.size_toArray,HLH.out];omega)).1
       rw [List.toList_toArray,←hh5] at ch5
       obtain⟨h6,hh6⟩:∃x,x=hst.getD 6 0:=⟨_,rfl⟩
       have ch6:=(wd_cell HSW.out 6 (by rw [List.size_toArray,HLH.out];omega)).1
       rw [List.toList_toArray,←hh6] at ch6
       obtain⟨h7,hh7⟩:∃x,x=hst.getD 7 0:=⟨_,rfl⟩
       have ch7:=(wd_cell HSW.out 7 (by rw [List.size_toArray,HLH.out];omega)).1
       rw [List.toList_toArray,←hh7] at ch7
       have HH8:Hid (hst=[h0,h1,h2,h3,h4,h5,h6,h7]):=Lib.hid (by rw [hh0,hh1,hh2,hh3,hh4,hh5,hh6,hh7];exact eight HLH.out)
       clear hh0 hh1 hh2 hh3 hh4 hh5 hh6 hh7
       go_upto_region 13 with(fail)
       obtain⟨w3,hw3⟩:∃w3:World,w3=wr.alloc (.cells #[.int .u32 h0.toNat,.int .u32 h1.toNat,.int .u32 h2.toNat,.int .u32 h3.toNat,.int .u32 h4.toNat,.int .u32 h5.toNat,.int .u32 h6.toNat,.int .u32 h7.toNat] 164):=⟨_,rfl⟩
       have HX3:Hid (w3.heap[wr.heap.size]? =some (.cells (flatL wdE hst).toArray 164 (0,0))):=Lib.hid (by
        rw [hw3,heap_alloc_new,HH8.out];rfl)
       have HE3:Hid (Ex w.heap.size none w w3):=Lib.hid (by rw [hw3];exact HE2.out.alloc (by omega) _)
       have HW3:Hid (HoldsK wdE 1 w3 w.heap.size 0 (sched b 64).toArray):=Lib.hid (holdsK_keep (by decide) HW.out hgW (by rw [hw3];exact(Ex.new wr _).block _ hgW (by simp)))
       obtain⟨gx,hgx⟩:∃gx,gx=wr.heap.size:=⟨_,rfl⟩
       have hgx3:gx < w3.heap.size:=by rw [hw3,hgx];simp
       rw [←hw3,←hgx]
       rw [←hgx] at HX3 hgW
       clear hw3 hgx ch0 ch1 ch2 ch3 ch4 ch5 ch6 ch7 HSW HW HE2 HH8
       have HRL:Hid (∀{n:Nat},(rounds constU (sched b 64) hst n).length=8):=fun {n}=>rounds_len _ _ _ HLH.out _
       go_wp2_with fail
       go_loopw [13,14,15,16,17,106] (fun _ _ _ _ _ i wr=>∃k:Nat,k≤64∧i=.int .i64 k∧wr.heap[gx]? =some (.cells (flatL wdE (rounds constU (sched b 64) hst k)).toArray 164 (0,0))∧HoldsK wdE 1 wr w.heap.size 0 (sched b 64).toArray∧gx < wr.heap.size∧Ex w.heap.size none w wr) (fun _ _ _ _ _ i _=>64 - (intOf i).toNat)
       case atStart=>exact⟨0,by omega,rfl,HX3.out,HW3.out,hgx3,HE3.out⟩
       case round=>
        clear HX3 HW3 HE3 hgx3
        obtain⟨k,hk,rfl,hrow,hhw,hgl,hex⟩:=hrel
        have hsz:=hex.size
        by_cases hlt:k < 64
        · have hkI: (k:Int) < 64:=by omega
          obtain⟨v0,hv0⟩:∃x,x= (rounds constU (sched b 64) hst k).getD 0 0:=⟨_,rfl⟩
          have cv0:=row_cell hrow 0 (by rw [HRL.out];omega)
          rw [←hv0] at cv0
          obtain⟨v1,hv1⟩:∃x,x= (rounds constU (sched b 64) hst k).getD 1 0:=⟨_,rfl⟩
          have cv1:=row_cell hrow 1 (by rw [HRL.out];omega)
          rw [←hv1] at cv1
          obtain⟨v2,hv2⟩:∃x,x= (rounds constU (sched b 64) hst k).getD 2 0:=⟨_,rfl⟩
          have cv2:=row_cell hrow 2 (by rw [HRL.out];omega)
          rw [←hv2] at cv2
          obtain⟨v3,hv3⟩:∃x,x= (rounds constU (sched b 64) hst k).getD 3 0:=⟨_,rfl⟩
          have cv3:=row_cell hrow 3 (by rw [HRL.out];omega)
          rw [←hv3] at cv3
          obtain⟨v4,hv4⟩:∃x,x= (rounds constU (sched b 64) hst k).getD 4 0:=⟨_,rfl⟩
          have cv4:=row_cell hrow 4 (by rw [HRL.out];omega)
          rw [←hv4] at cv4
          obtain⟨v5,hv5⟩:∃x,x= (rounds constU (sched b 64) hst k).getD 5 0:=⟨_,rfl⟩
          have cv5:=row_cell hrow 5 (by rw [HRL.out];omega)
          rw [←hv5] at cv5
          obtain⟨v6,hv6⟩:∃x,x= (rounds constU (sched b 64) hst k).getD 6 0:=⟨_,rfl⟩
          have cv6:=row_cell hrow 6 (by rw [HRL.out];omega)
          rw [←hv6] at cv6
          obtain⟨v7,hv7⟩:∃x,x= (rounds constU (sched b 64) hst k).getD 7 0:=⟨_,rfl⟩
          have cv7:=row_cell hrow 7 (by rw [HRL.out];omega)
          rw [←hv7] at cv7
          obtain⟨ww,hww⟩:∃x,x= (sched b 64).getD k 0:=⟨_,rfl⟩
          have cww:=(wd_cell hhw k (by rw [List.size_toArray,sched_len];omega)).1
          rw [List.toList_toArray,←hww] at cww
          obtain⟨kk,hkk⟩:∃x,x=constU.getD k 0:=⟨_,rfl⟩
          have ckk:=(wd_cell (holdsK_keep (by decide) HK.out hgk (hex.block _ hgk (by simp))) k (by rw [List.size_toArray];exact hlt)).1
          rw [List.toList_toArray,←hkk] at ckk
          obtain⟨S,hS⟩:∃S,S=xorU (xorU (turnU v4 6) (turnU v4 11)) (turnU v4 25):=⟨_,rfl⟩
          obtain⟨C,hC⟩:∃C,C=xorU (andU v4 v5) (andU (notU v4) v6):=⟨_,rfl⟩
          obtain⟨X,hX⟩:∃X,X=addU (addU (addU (addU v7 S) C) kk) ww:=⟨_,rfl⟩
          obtain⟨T,hT⟩:∃T,T=xorU (xorU (turnU v0 2) (turnU v0 13)) (turnU v0 22):=⟨_,rfl⟩
          obtain⟨M,hM⟩:∃M,M=xorU (xorU (andU v0 v1) (andU v0 v2)) (andU v1 v2):=⟨_,rfl⟩
          obtain⟨U,hU⟩:∃U,U=addU T M:=⟨_,rfl⟩
          have HR:Hid (rounds constU (sched b 64) hst (k+1)=[addU X U,v0,v1,v2,addU v3 X,v4,v5,v6]):=(show _=_ by
           rw [rounds,←hkk,←hww]
           unfold roundU rX rS rC rT rM
           rw [←hv0,←hv1,←hv2,←hv3,←hv4,←hv5,←hv6,←hv7,hU,hX,hS,hC,hT,hM,UInt32.add_assoc _ _ (_ ^^^ (v1 &&& v2))]
           rfl)
          have hSx: ((xorU (xorU (turnU v4 6) (turnU v4 11)) (turnU v4 25)).toNat:Int)= (S.toNat:Int):=by rw [hS]
          have hCx: ((xorU (andU v4 v5) (andU (notU v4) v6)).toNat:Int)= (C.toNat:Int):=by rw [hC]
          have hXx: ((addU (addU (addU (addU v7 S) C) kk) ww).toNat:Int)= (X.toNat:Int):=by rw [hX]
          have hXm: (((addU v7 S).toNat:Int)+ (C.toNat:Int)+ (kk.toNat:Int)+ (ww.toNat:Int)) % 4294967296= (X.toNat:Int):=by
           rw [hX]
           simp only [addU,UInt32.toNat_add]
           omega
          have hTx: ((xorU (xorU (turnU v0 2) (turnU v0 13)) (turnU v0 22)).toNat:Int)= (T.toNat:Int):=by rw [hT]
          have hMx: ((xorU (xorU (andU v0 v1) (andU v0 v2)) (andU v1 v2)).toNat:Int)= (M.toNat:Int):=by rw [hM]
          have hUx: ((addU T M).toNat:Int)= (U.toNat:Int):=by rw [hU]
          have HHW:=Lib.hid hhw
          have HEX:=Lib.hid hex
          have HROW:=Lib.hid hrow
          clear hv0 hv1 hv2 hv3 hv4 hv5 hv6 hv7 hww hkk hS hC hX hT hM hU hhw hex hrow
          have rX:=r_xor
          have rN:=r_and
          have rO:=r_not
          have rA:=r_add
          have rA':=r_add'
          go_wp2_with fail
          go_quiet (fail)
          go_wp2_with fail
          go_quiet ((go_at_call 160;exact(turnP_any _ _ (by decide) _).mono fun _ _ hst=>⟨hst.1,_,hst.2.symm⟩))
          go_wp2_with fail
          go_quiet ((go_at_call 160;exact(turnP_any _ _ (by decide) _).mono fun _ _ hst=>⟨hst.1,_,hst.2.symm⟩))
          go_upto_region 19 with(fail)
          refine wp_at (fun wq=>wq.heap=wr.heap∧Ex wr.heap.size none wr wq) ⟨rfl,((Ex.refl _ _ wr).drewN).drewN⟩ (fun wq hwq=>?_)
          have HQ:=Lib.hid hwq
          have cq0:wq.cell? ⟨gx,0,none⟩=some (.int .u32 v0.toNat):=(World.cell?_of_block (w:=wr) (a:=⟨gx,0,none⟩) (by rw [hwq.1])).trans cv0
          have cq1:wq.cell? ⟨gx,1,none⟩=some (.int .u32 v1.toNat):=(World.cell?_of_block (w:=wr) (a:=⟨gx,1,none⟩) (by rw [hwq.1])).trans cv1
          have cq2:wq.cell? ⟨gx,2,none⟩=some (.int .u32 v2.toNat):=(World.cell?_of_block (w:=wr) (a:=⟨gx,2,none⟩) (by rw [hwq.1])).trans cv2
          have cq3:wq.cell? ⟨gx,3,none⟩=some (.int .u32 v3.toNat):=(World.cell?_of_block (w:=wr) (a:=⟨gx,3,none⟩) (by rw [hwq.1])).trans cv3
          have cq4:wq.cell? ⟨gx,4,none⟩=some (.int .u32 v4.toNat):=(World.cell?_of_block (w:=wr) (a:=⟨gx,4,none⟩) (by rw [hwq.1])).trans cv4
          have cq5:wq.cell? ⟨gx,5,none⟩=some (.int .u32 v5.toNat):=(World.cell?_of_block (w:=wr) (a:=⟨gx,5,none⟩) (by rw [hwq.1])).trans cv5
          have cq6:wq.cell? ⟨gx,6,none⟩=some (.int .u32 v6.toNat):=(World.cell?_of_block (w:=wr) (a:=⟨gx,6,none⟩) (by rw [hwq.1])).trans cv6
          have HROWQ:Hid (wq.heap[gx]? =some (.cells (flatL wdE (rounds constU (sched b 64) hst k)).toArray 164 (0,0))):=Lib.hid (by rw [hwq.1];exact HROW.out)
          clear hwq cv0 cv1 cv2 cv3 cv4 cv5 cv6 cv7 cww ckk
          go_wp2_with (refine wpList_store_rowTo rfl 164 (.tmp 12) (.tmp 194) rfl rfl gx #[.int .u32 (addU X U).toNat,.int .u32 v0.toNat,.int .u32 v1.toNat,.int .u32 v2.toNat,.int .u32 (addU v3 X).toNat,.int .u32 v4.toNat,.int .u32 v5.toNat,.int .u32 v6.toNat] (by rfl) (by rfl) 164 _ HROWQ.out Tryz.sizeS (by rw [List.size_toArray,flat_wdE,List.length_map,HRL.out];rfl) (by simp [Value.oneCell']) ?_)
          go_roundw
          case rel=>
           have hzq:wq.heap.size=wr.heap.size:=by rw [HQ.out.1]
           refine⟨k+1,by omega,by go_num,?_,?_,by simp <;> omega,?_⟩
           · rw [setRow_heap _ _ _ _ _ _ HROWQ.out,HR.out];rfl
           · exact holdsK_keep (by decide) HHW.out (by omega) ((setRow_other _ _ _ _ (by omega)).trans (by rw [HQ.out.1]))
           · exact(HEX.out.trans HQ.out.2 hsz (by simp)).row _ _ (.inr (by omega))
          case measure=>simp [intOf] <;> omega
        · have hk64:k=64:=by omega
          have hnl3 : ¬(k:Int) < 64:=by omega
          rw [hk64] at hrow
          obtain⟨R,hR⟩:∃R,R=rounds constU (sched b 64) hst 64:=⟨_,rfl⟩
          have HR8:Hid (R.length=8∧addTo hst R 8=blockU hst b constU):=by
           rw [hR];exact⟨rounds_len _ _ _ HLH.out _,by rw [addTo_comm HLH.out (rounds_len _ _ _ HLH.out _)];rfl⟩
          rw [←hR] at hrow
          have HROW:=Lib.hid hrow
          have HEX:=Lib.hid hex
          have HSG:Hid (HoldsK wdE 1 wr gs 0 hst.toArray):=Lib.hid (holdsK_keep (by decide) HS.out hgs (hex.block _ hgs (by simp)))
          clear hk64 hrow hhw hex hlt hR
          go_wp2_with fail
          obtain⟨w5,hw5⟩:∃w5,w5=wr:=⟨_,rfl⟩
          subst hw5
          go_loopw [18,196] (fun _ i wr=>∃k:Nat,k≤8∧i=.int .i64 k∧gx < wr.heap.size∧wr.heap[gx]? =some (.cells (flatL wdE R).toArray 164 (0,0))∧HoldsK wdE 1 wr gs 0 (addTo hst R k).toArray∧Ex w.heap.size (some gs) w wr) (fun _ i _=>8 - (intOf i).toNat)
          case atStart=>exact⟨0,by omega,rfl,hgl,HROW.out,by rw [addTo_0];exact HSG.out,HEX.out.weaken _⟩
          case round=>
           clear HROW HEX HSG hgl
           obtain⟨k,hk,rfl,hgl,hrow,hhv,hex⟩:=hrel
           have hsz:=hex.size
           by_cases hlt:k < 8
           · have hkI: (k:Int) < 8:=by omega
             obtain⟨y,hy⟩:∃y,y=R.getD k 0:=⟨_,rfl⟩
             have cy:=row_cell hrow k (by rw [HR8.out.1];exact hlt)
             rw [←hy] at cy
             obtain⟨x,hx⟩:∃x,x=hst.getD k 0:=⟨_,rfl⟩
             obtain⟨cx,fx⟩:=wd_cell hhv k (by rw [List.size_toArray,addTo_len,HLH.out];omega)
             rw [List.toList_toArray,addTo_at (by rw [HLH.out];omega),←hx] at cx
             have HUP:Hid ((addTo hst R k).toArray.setIfInBounds k (addU x y)= (addTo hst R (k+1)).toArray):=(show _=_ by rw [hx,hy];exact addTo_up (by rw [HLH.out];omega))
             have HHV:=Lib.hid hhv
             have HEX:=Lib.hid hex
             have HROW:=Lib.hid hrow
             have hne:gx≠gs:=by omega
             clear hx hy hhv hex hrow
             have rA:=r_add
             have rA':=r_add'
             go_wp2_with fail
             go_region_law (fail)
             all_goals
              go_wp2
              go_roundw
              case rel=>
               refine⟨k+1,by omega,by go_num,by simp <;> omega,?_,?_,?_⟩
               · exact set_far hne HROW.out
               · rw [←HUP.out]
                 exact wd_set HHV.out k (by rw [List.size_toArray,addTo_len,HLH.out];omega) _ rfl
               · first | exact Ex.setCell HEX.out k none _ (.inl rfl) | exact Ex.setCell HEX.out.drew k none _ (.inl rfl) | exact(Ex.setCell HEX.out k none _ (.inl rfl)).drew
              case measure=>simp [intOf] <;> omega
           · have hk8:k=8:=by omega
             have hnl4 : ¬(k:Int) < 8:=by omega
             rw [hk8,HR8.out.2] at hhv
             have HHV:=Lib.hid hhv
             have HEX:=Lib.hid hex
             clear hk8 hhv hex
             go_wp2
             go_end0
             exact⟨rfl,HHV.out,HEX.out⟩
end Go.Proofs.YtflhidfclfkjlaaGreat

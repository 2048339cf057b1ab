/- ref01.block: a contract, no statement of the seat. -/
import Derived.Test.YtflhidfclfkjlaaGreatMg04
import Derived.Deep.RegionHeld3
import Derived.Deep.RegionLaw
import Derived.IntWalk
import Derived.OwnWalk
import Derived.StillTailTactics
import Derived.Laws.OwnMore
import Derived.Outline
namespace Go.Proofs.YtflhidfclfkjlaaGreat
open Go.RowKit Go.Sort
theorem made64: (madeCells (Value.int .u32 0).cells (64 * 1)).toList=flatL wdE (List.replicate 64 0):=by
 rw [flat_wdE,show(Value.int .u32 0).cells=#[.int .u32 0] from rfl,toList_madeCells_one];rfl
theorem wd_cell {w:World} {g:Nat} {d:Array UInt32} (h:HoldsK wdE 1 w g 0 d) (i:Nat) (hi:i < d.size):w.cell? ⟨g,i,none⟩=some (.int .u32 (d.toList.getD i 0).toNat)∧w.frozen? ⟨g,i,none⟩=false:=by
 have:=h.cell hi (show 0 < 1 by decide)
 simp only [Nat.zero_add,Nat.mul_one,Nat.add_zero] at this
 rw [this.1,getElem!_pos d i hi]
 refine⟨?_,this.2⟩
 simp [wdE,List.getD,hi]
theorem wd_set {w:World} {g:Nat} {d:Array UInt32} (h:HoldsK wdE 1 w g 0 d) (i:Nat) (hi:i < d.size) (x:UInt32) {v:Int} (hv:v= (x.toNat:Int)):HoldsK wdE 1 (w.setCell ⟨g,i,none⟩ (.int .u32 v)) g 0 (d.setIfInBounds i x):=by
 subst hv
 have:=holdsK_set wdE_len h i x hi
 simpa [wdE,World.setCells] using this
theorem u8_u32 (y:UInt8): (y.toNat:Int)= (y.toUInt32.toNat:Int):=by rw [UInt8.toNat_toUInt32]
theorem u_word (y0 y1 y2 y3:UInt8):bits .or .u32 (bits .or .u32 (bits .or .u32 ((y0.toNat:Int) * 16777216 % 4294967296) ((y1.toNat:Int) * 65536 % 4294967296)) ((y2.toNat:Int) * 256 % 4294967296)) (y3.toNat:Int)= (((((y0.toUInt32 <<< 24) ||| (y1.toUInt32 <<< 16)) ||| (y2.toUInt32 <<< 8)) ||| y3.toUInt32).toNat:Int):=by
 have e0:=u_shl y0.toUInt32 24 (by omega)
 have e1:=u_shl y1.toUInt32 16 (by omega)
 have e2:=u_shl y2.toUInt32 8 (by omega)
 simp only [UInt8.toNat_toUInt32] at e0 e1 e2
 rw [show(16777216:Int)=2 ^ 24 by decide,show(65536:Int)=2 ^ 16 by decide,show(256:Int)=2 ^ 8 by decide,e0,e1,e2,u8_u32 y3,u_or,u_or,u_or]
 rfl
theorem u8_wrap32 (y:UInt8):IntKind.u32.wrap (y.toNat:Int)= (y.toNat:Int):=by
 have:=y.toNat_lt
 rw [IntKind.wrap_u32];omega
theorem u_word' (y0 y1 y2 y3:UInt8):bits .or .u32 (bits .or .u32 (bits .or .u32 (IntKind.u32.wrap (IntKind.u32.wrap (y0.toNat:Int) * 16777216)) (IntKind.u32.wrap (IntKind.u32.wrap (y1.toNat:Int) * 65536))) (IntKind.u32.wrap (IntKind.u32.wrap (y2.toNat:Int) * 256))) (IntKind.u32.wrap (y3.toNat:Int))= (((((y0.toUInt32 <<< 24) ||| (y1.toUInt32 <<< 16)) ||| (y2.toUInt32 <<< 8)) ||| y3.toUInt32).toNat:Int):=by
 rw [u8_wrap32,u8_wrap32,u8_wrap32,u8_wrap32,IntKind.wrap_u32,IntKind.wrap_u32,IntKind.wrap_u32]
 exact u_word y0 y1 y2 y3
theorem getD_at {α:Type} {l:List α} {i:Nat} {x y:α} (h:l[i]? =some x):l.getD i y=x:=by rw [List.getD_eq_getElem?_getD,h];rfl
theorem take_set {α:Type} (l:List α) (k:Nat) (x:α): (l.set k x).take k=l.take k:=by
 apply List.ext_getElem?
 intro i
 rw [List.getElem?_take,List.getElem?_take]
 split
 · rw [List.getElem?_set_ne (by omega)]
 · rfl
theorem sched_up {b:List UInt8} {d:Array UInt32} {k:Nat} {x:UInt32} (hs:k < d.size) (ht:d.toList.take k=sched b k) (hx:x=if k < 16 then wordU b k else schedU (sched b k) k): (d.setIfInBounds k x).toList.take (k+1)=sched b (k+1):=by
 rw [sched,←hx,←ht,List.take_add_one]
 simp [hs,take_set]
theorem holdsK_keep {α:Type} [Inhabited α] {enc:α→List Value} {k:Nat} {w w' :World} {g off:Nat} {d:Array α} (_hk:0 < k) (h:HoldsK enc k w g off d) (_hg:g < w.heap.size) (hb:w'.heap[g]? =w.heap[g]?):HoldsK enc k w' g off d :=
 holdsK_of fun i c hi hc=>by
  obtain⟨h1,h2⟩:=h.cell hi hc
  exact⟨(World.cell?_of_block (w:=w) (a:=⟨g,_,none⟩) hb).trans h1,(World.frozen?_of_block (w:=w) (a:=⟨g,_,none⟩) hb).trans h2⟩
theorem lit_words {w:World} {xs:List UInt32} {cs:Array Value} {t:TypeId} (h:cs.toList=flatL wdE xs):HoldsK wdE 1 (w.alloc (.cells cs t)) w.heap.size 0 xs.toArray :=
 holdsK_flat wdE_len (fun j v hv=>by rw [Nat.zero_add,cell_of_row _ _ _ _ _ _ (heap_alloc_new w _)];rw [←h] at hv;simpa using hv) (fun j _=>by rw [Nat.zero_add];unfold World.frozen?;rw [heap_alloc_new];simp)
theorem addTo_0 (v h:List UInt32):addTo v h 0=v:=by
 apply List.ext_getElem
 · simp [addTo]
 · intro i h1 h2
   simp [addTo,h2]
theorem addTo_at {v h:List UInt32} {k:Nat} (hk:k < v.length): (addTo v h k).getD k 0=v.getD k 0:=by
 simp [addTo,List.getD,hk]
theorem addTo_up {v h:List UInt32} {k:Nat} (_hk:k < v.length): (addTo v h k).toArray.setIfInBounds k (addU (v.getD k 0) (h.getD k 0))= (addTo v h (k+1)).toArray:=by
 rw [List.setIfInBounds_toArray]
 congr 1
 apply List.ext_getElem
 · simp [addTo]
 · intro i h1 h2
   have hi:i < v.length:=by simpa [addTo] using h2
   rw [List.getElem_set]
   by_cases e:k=i
   · subst e;simp [addTo,addU]
   · rw [if_neg e]
     simp only [addTo,List.getElem_map,List.getElem_range]
     by_cases e2:i < k
     · rw [if_pos e2,if_pos (by omega)]
     · rw [if_neg e2,if_neg (by omega)]
theorem far2 {w:World} {g k j:Nat} {v:Value} (h: (⟨g,k,none⟩:Addr)≠⟨g,j,none⟩): (w.setCell ⟨g,k,none⟩ v).cell? ⟨g,j,none⟩=w.cell? ⟨g,j,none⟩:=by
 rw [World.cell?_setCell_other]
 exact h
theorem wd_at {P:Nat→Prop} {w:World} {ao:Option Addr} {xs:List UInt32} (h:SlAt wdRep P w ao xs) (i:Nat) (hi:i < xs.length):∃b off y,ao=some ⟨b,off,none⟩∧b < w.heap.size∧w.cell? ⟨b,off+i,none⟩=some (.int .u32 y.toNat)∧xs[i]? =some y:=by
 obtain⟨b,off,e,_,hb,hc⟩:=wd_get h i hi
 exact⟨b,off,xs[i],e,hb,hc,by simp [hi]⟩
set_option maxHeartbeats 8000000 in
set_option maxRecDepth 100000 in
theorem block01_any {P:Nat→Prop} (vh vb vk:Value) (h:List UInt32) (b:List UInt8) (ks:List UInt32) (w:World) (hh:Sl wdRep P w vh h) (hb:Sl byRep P w vb b) (hk:Sl wdRep P w vk ks) (lh:h.length=8) (lb:b.length=64) (lk:ks.length=64) :
 Calls Tryz.prog 112 #[vh,vb,vk] w fun e w'=>∃ro rc,e=.returned (.slice ro 8 rc)∧SlAt wdRep (fun b=>w.heap.size≤b) w' ro (blockU h b ks)∧Ex w.heap.size none w w':=by
 obtain⟨ho,hc,rfl,hhx⟩:=hh
 obtain⟨bo,bc,rfl,hbx⟩:=hb
 obtain⟨ko,kc,rfl,hkx⟩:=hk
 rw [lh,lb,lk]
 have HH:=Lib.hid (And.intro hhx (And.intro hbx hkx))
 have HLL:Hid (h.length=8∧b.length=64∧ks.length=64):=⟨lh,lb,lk⟩
 clear hhx hbx hkx lh lb lk
 obtain⟨i0,hi,hz0,hz1,hz2⟩:=info_parts Tryz.infoW
 go_enter Tryz.func112,Tryz.ntmps112
 go_wp2_with (at_make;refine wpList_make_full _ rfl (.const (.int .i64 64)) (.const (.int .i64 64)) _ rfl w.heap.size 143 i0 _ 1 Tryz.underlying144 hi hz0 hz1 .i64 .i64 _ _ 64 rfl rfl rfl rfl (by rw [hz2];omega) (by unfold maxLen;omega) (Nat.le_refl _) ?_;intro w1 hown1 hgr1)
 have HO:Hid (HoldsK wdE 1 w1 w.heap.size 0 (List.replicate 64 (0:UInt32)).toArray):=by rw [made64] at hown1;exact own_holdsK wdE_len hown1
 have hg1:w.heap.size < w1.heap.size:=(own_there hown1).2.2.1
 have HE1:Hid (Ex w.heap.size none w w1):=(Ex.refl _ _ _).grown hgr1 (Nat.le_refl _) (by simp)
 clear hown1 hgr1
 go_loopw [8] (fun i wr=>∃(k:Nat) (d:Array UInt32),k≤16∧i=.int .i64 k∧d.size=64∧d.toList.take k=sched b k∧HoldsK wdE 1 wr w.heap.size 0 d∧Ex w.heap.size none w wr) (fun i _=>16 - (intOf i).toNat)
 case atStart=>exact⟨0,_,by omega,rfl,rfl,rfl,HO.out,HE1.out⟩
 case round=>
  obtain⟨k,d,hk,rfl,hds,hdt,hhd,hex⟩:=hrel
  have hsz:=hex.size
  by_cases hlt:k < 16
  · obtain⟨bb,ob,y0,rfl,hbl,c0,hy0⟩:=by_at HH.out.2.1 (4 * k) (by rw [HLL.out.2.1];omega)
    obtain⟨_,_,y1,e1,_,c1,hy1⟩:=by_at HH.out.2.1 (4 * k+1) (by rw [HLL.out.2.1];omega)
    obtain⟨_,_,y2,e2,_,c2,hy2⟩:=by_at HH.out.2.1 (4 * k+2) (by rw [HLL.out.2.1];omega)
    obtain⟨_,_,y3,e3,_,c3,hy3⟩:=by_at HH.out.2.1 (4 * k+3) (by rw [HLL.out.2.1];omega)
    cases e1;cases e2;cases e3
    have HWD:Hid (wordU b k= ((y0.toUInt32 <<< 24 ||| y1.toUInt32 <<< 16) ||| y2.toUInt32 <<< 8) ||| y3.toUInt32):=(show _=_ by unfold wordU;rw [getD_at hy0,getD_at hy1,getD_at hy2,getD_at hy3])
    clear hy0 hy1 hy2 hy3
    have kc:=fun(o:Nat)=>World.cell?_of_block (w:=w) (w':=wr) (a:=⟨bb,o,none⟩) (hex.block bb hbl (by simp))
    rw [←kc] at c0 c1 c2 c3
    obtain⟨hwc,hwf⟩:=wd_cell hhd k (by omega)
    have hkI: (k:Int) < 64:=by omega
    have q0:IntKind.i64.wrap (4 * (k:Int))=4 * (k:Int):=IntWalk.i64_in _ (by omega)
    have q1:IntKind.i64.wrap (4 * (k:Int)+1)=4 * (k:Int)+1:=IntWalk.i64_in _ (by omega)
    have q2:IntKind.i64.wrap (4 * (k:Int)+2)=4 * (k:Int)+2:=IntWalk.i64_in _ (by omega)
    have q3:IntKind.i64.wrap (4 * (k:Int)+3)=4 * (k:Int)+3:=IntWalk.i64_in _ (by omega)
    have p0: (4 * (k:Int)).toNat=4 * k:=by omega
    have p1: (4 * (k:Int)+1).toNat=4 * k+1:=by omega
    have p2: (4 * (k:Int)+2).toNat=4 * k+2:=by omega
    have p3: (4 * (k:Int)+3).toNat=4 * k+3:=by omega
    have b0:0≤4 * (k:Int)∧4 * (k:Int) < 64:=by omega
    have b1:0≤4 * (k:Int)+1∧4 * (k:Int)+1 < 64:=by omega
    have b2:0≤4 * (k:Int)+2∧4 * (k:Int)+2 < 64:=by omega
    have b3:0≤4 * (k:Int)+3∧4 * (k:Int)+3 < 64:=by omega
    obtain⟨⟨b00,b01⟩,⟨b10,b11⟩,⟨b20,b21⟩,⟨b30,b31⟩⟩:=And.intro b0 (And.intro b1 (And.intro b2 b3))
    have hne:bb≠w.heap.size:=by omega
    clear kc
    go_wp2_with fail
    go_region_held3? (fun w'=>w'.cell? ⟨bb,ob+4 * k,none⟩=some (.int .u8 y0.toNat)∧w'.cell? ⟨bb,ob+ (4 * k+1),none⟩=some (.int .u8 y1.toNat)∧w'.cell? ⟨bb,ob+ (4 * k+2),none⟩=some (.int .u8 y2.toNat)∧w'.cell? ⟨bb,ob+ (4 * k+3),none⟩=some (.int .u8 y3.toNat)) (first | exact⟨(World.cell?_of_block (w:=wr) (set_far hne rfl)).trans c0,(World.cell?_of_block (w:=wr) (set_far hne rfl)).trans c1,(World.cell?_of_block (w:=wr) (set_far hne rfl)).trans c2,(World.cell?_of_block (w:=wr) (set_far hne rfl)).trans c3⟩ | go_keep) (fail)
    go_wp2
    go_roundw
    case rel=>
     refine⟨k+1,d.setIfInBounds k (wordU b k),by omega,by go_num,by simpa using hds,sched_up (by omega) hdt (by rw [if_pos hlt]),wd_set hhd k (by omega) _ (by rw [HWD.out];exact u_word' y0 y1 y2 y3),?_⟩
     first | exact Ex.setCell hex k none _ (.inr (Nat.le_refl _)) | exact(Ex.setCell hex k none _ (.inr (Nat.le_refl _))).drew
    case measure=>simp [intOf] <;> omega
  · have hk16:k=16:=by omega
    have hnl : ¬(k:Int) < 16:=by omega
    rw [hk16] at hdt
    have HK16:=Lib.hid hk16
    clear hk16
    go_wp2
    have HO16:Hid (HoldsK wdE 1 wr w.heap.size 0 d):=hhd
    have HT16:=Lib.hid hdt
    have HE16:=Lib.hid hex
    have HS16:=Lib.hid hds
    clear hhd hdt hex hds
    obtain⟨w2,hw2⟩:∃w2,w2=wr:=⟨_,rfl⟩
    subst hw2
    go_loopw [9] (fun i wr=>∃(k:Nat) (d:Array UInt32),16≤k∧k≤64∧i=.int .i64 k∧d.size=64∧d.toList.take k=sched b k∧HoldsK wdE 1 wr w.heap.size 0 d∧Ex w.heap.size none w wr) (fun i _=>64 - (intOf i).toNat)
    case atStart=>exact⟨16,d,by omega,by omega,rfl,HS16.out,HT16.out,HO16.out,HE16.out⟩
    case round=>
     clear HO16 HT16 HE16 HS16
     obtain⟨k,d,hk0,hk,rfl,hds,hdt,hhd,hex⟩:=hrel
     have hsz:=hex.size
     by_cases hlt:k < 64
     · obtain⟨p,hp⟩:∃p,p=d.toList.getD (k - 15) 0:=⟨_,rfl⟩
       obtain⟨q,hq⟩:∃q,q=d.toList.getD (k - 2) 0:=⟨_,rfl⟩
       obtain⟨r,hr⟩:∃r,r=d.toList.getD (k - 16) 0:=⟨_,rfl⟩
       obtain⟨t,ht⟩:∃t,t=d.toList.getD (k - 7) 0:=⟨_,rfl⟩
       have cp:=(wd_cell hhd (k - 15) (by omega)).1
       have cq:=(wd_cell hhd (k - 2) (by omega)).1
       have cr:=(wd_cell hhd (k - 16) (by omega)).1
       have ct:=(wd_cell hhd (k - 7) (by omega)).1
       obtain⟨hwc,hwf⟩:=wd_cell hhd k (by omega)
       rw [←hp] at cp
       rw [←hq] at cq
       rw [←hr] at cr
       rw [←ht] at ct
       obtain⟨A,hA⟩:∃A,A=xorU (xorU (turnU p 7) (turnU p 18)) (shrU p 3):=⟨_,rfl⟩
       obtain⟨C,hC⟩:∃C,C=xorU (xorU (turnU q 17) (turnU q 19)) (shrU q 10):=⟨_,rfl⟩
       have HSU:Hid (schedU (sched b k) k= ((r+A)+t)+C):=(show _=_ by
        have e:∀j,j < k→(sched b k).getD j 0=d.toList.getD j 0:=fun j hj=>by rw [←hdt];simp [List.getD,hj]
        unfold schedU schedA schedC
        rw [e _ (by omega),e _ (by omega),e _ (by omega),e _ (by omega),←hp,←hq,←hr,←ht,hA,hC];rfl)
       have HD:Hid (d.size=64∧d.toList.take k=sched b k∧HoldsK wdE 1 wr w.heap.size 0 d∧Ex w.heap.size none w wr):=⟨hds,hdt,hhd,hex⟩
       have hAx: ((xorU (xorU (turnU p 7) (turnU p 18)) (shrU p 3)).toNat:Int)= (A.toNat:Int):=by rw [hA]
       have hCx: ((xorU (xorU (turnU q 17) (turnU q 19)) (shrU q 10)).toNat:Int)= (C.toNat:Int):=by rw [hC]
       clear hp hq hr ht hds hdt hhd hex hA hC
       have rX:=r_xor
       have r3:=r_shr3
       have r10:=r_shr10
       have rA:=r_add
       have rA':=r_add'
       have hkI: (k:Int) < 64:=by omega
       have q15:IntKind.i64.wrap ((k:Int) - 15)= (k:Int) - 15:=IntWalk.i64_in _ (by omega)
       have q2:IntKind.i64.wrap ((k:Int) - 2)= (k:Int) - 2:=IntWalk.i64_in _ (by omega)
       have q16:IntKind.i64.wrap ((k:Int) - 16)= (k:Int) - 16:=IntWalk.i64_in _ (by omega)
       have q7:IntKind.i64.wrap ((k:Int) - 7)= (k:Int) - 7:=IntWalk.i64_in _ (by omega)
       have p15: ((k:Int) - 15).toNat=k - 15:=by omega
       have p2: ((k:Int) - 2).toNat=k - 2:=by omega
       have p16: ((k:Int) - 16).toNat=k - 16:=by omega
       have p7: ((k:Int) - 7).toNat=k - 7:=by omega
       have b15:0≤(k:Int) - 15:=by omega
       have b2:0≤(k:Int) - 2:=by omega
       have b16:0≤(k:Int) - 16:=by omega
       have b7:0≤(k:Int) - 7:=by omega
       have c16: (16:Int)≤(k:Int):=by omega
       have c15: (15:Int)≤(k:Int):=by omega
       have c7: (7:Int)≤(k:Int):=by omega
       have c2: (2:Int)≤(k:Int):=by omega
       have e15: (k:Int) < 79:=by omega
       have e2: (k:Int) < 66:=by omega
       have e16: (k:Int) < 80:=by omega
       have e7: (k:Int) < 71:=by omega
       have d15: (k:Int) - 15 < 64:=by omega
       have d2: (k:Int) - 2 < 64:=by omega
       have d16: (k:Int) - 16 < 64:=by omega
       have d7: (k:Int) - 7 < 64:=by omega
       go_wp2_with fail
       go_quiet ((go_at_call 138;exact(turnZ_any _ _ (by decide) (by decide) _).mono fun _ _ h=>⟨h.1,_,h.2.symm⟩))
       go_wp2_with fail
       go_quiet ((go_at_call 138;exact(turnZ_any _ _ (by decide) (by decide) _).mono fun _ _ h=>⟨h.1,_,h.2.symm⟩))
       go_wp2_with fail
       have n16: (⟨w.heap.size,k,none⟩:Addr)≠⟨w.heap.size,k - 16,none⟩:=fun e=>by injection e;omega
       have n7: (⟨w.heap.size,k,none⟩:Addr)≠⟨w.heap.size,k - 7,none⟩:=fun e=>by injection e;omega
       go_region_held3 (fun w'=>w'.cell? ⟨w.heap.size,k - 16,none⟩=some (.int .u32 r.toNat)∧w'.cell? ⟨w.heap.size,k - 7,none⟩=some (.int .u32 t.toNat)) (first | exact⟨cr,ct⟩ | exact⟨(far2 n16).trans cr,(far2 n7).trans ct⟩ | go_keep) (fail)
       go_wp2
       go_roundw
       case rel=>
        refine⟨k+1,d.setIfInBounds k (schedU (sched b k) k),by omega,by omega,by go_num,by simpa using HD.out.1,sched_up (by rw [HD.out.1];omega) HD.out.2.1 (by rw [if_neg (by omega)]),wd_set HD.out.2.2.1 k (by rw [HD.out.1];omega) _ (by rw [HSU.out];rfl),?_⟩
        first | exact Ex.setCell (Ex.drewN HD.out.2.2.2) k none _ (.inr (Nat.le_refl _)) | exact Ex.setCell HD.out.2.2.2 k none _ (.inr (Nat.le_refl _)) | exact(Ex.setCell HD.out.2.2.2 k none _ (.inr (Nat.le_refl _))).drew
       case measure=>simp [intOf] <;> omega
     · have hk64:k=64:=by omega
       have hnl2 : ¬(k:Int) < 64:=by omega
       rw [hk64] at hdt
       have HK64:=Lib.hid hk64
       clear hk64
       have hd64:d.toList=sched b 64:=by rw [←hdt,List.take_of_length_le (by simp;omega)]
       have HW:Hid (HoldsK wdE 1 wr w.heap.size 0 (sched b 64).toArray):=(show HoldsK wdE 1 wr w.heap.size 0 (sched b 64).toArray by rw [←hd64];simpa using hhd)
       have HE2:=Lib.hid hex
       have hsz2:=hex.size
       clear hds hdt hhd hd64 hex
       have HSRC:=Lib.hid (val_cells (by decide) (HH.out.1.keep (by decide) (fun q _ hq=>HE2.out.block q hq (by simp))))
       have HN:Hid (OwnE wdE 1 143 wr wr.heap.size none 0 ([]:List UInt32)):=OwnE.nil _ _ _ _ _
       have hwl:w.heap.size < wr.heap.size:=World.block_lt_of_cell? wr _ (wd_cell HW.out 0 (by rw [List.size_toArray,sched_len];omega)).1
       go_wp2_with (at_builtin;refine wpList_appE2 rfl (.const (.slice none 0 0)) (.tmp 122) _ 143 (by rfl) Tryz.underlying144 _ 1 4 Tryz.infoW rfl (by decide) (by decide) wdE wdE_len one_wdE wr.heap.size none 0 0 [] rfl (by rfl) ho 8 hc (by rfl) h HLL.out.1 HN.out HSRC.out (by omega) (Nat.le_refl _) 8 (by omega) ?_;intro ro rc w3 hown3 hex3 _ _)
       have hown3' :OwnE wdE 1 143 w3 wr.heap.size ro rc h:=hown3
       rcases hown3'.cases with⟨_,_,h0⟩ | ⟨gv,rfl,hgv,hgv2,hcv⟩
       · exfalso;have:=HLL.out.1;rw [h0] at this;cases this
       have HV0:Hid (HoldsK wdE 1 w3 gv 0 h.toArray):=hown3'.holds wdE_len
       have HE3:Hid (Ex w.heap.size none w w3):=HE2.out.trans hex3 hsz2 (by simp)
       have HW3:Hid (HoldsK wdE 1 w3 w.heap.size 0 (sched b 64).toArray):=holdsK_keep (by decide) HW.out hwl (hex3.block _ hwl (by simp))
       clear hown3 hown3' hex3 HN HSRC HW
       have HRL:Hid (∀{n:Nat},(rounds ks (sched b 64) h n).toArray.size=8):=fun {n}=>by rw [List.size_toArray,rounds_len _ _ _ HLL.out.1]
       go_wp2_with fail
       obtain⟨w4,hw4⟩:∃w4,w4=wr:=⟨_,rfl⟩
       subst hw4
       have hgvb:w.heap.size < gv:=by omega
       go_loopw [12,13] (fun v i wr=>∃(k gv cv:Nat),k≤64∧i=.int .i64 k∧v=.slice (some ⟨gv,0,none⟩) 8 cv∧8≤cv∧w.heap.size < gv∧gv < wr.heap.size∧HoldsK wdE 1 wr gv 0 (rounds ks (sched b 64) h k).toArray∧HoldsK wdE 1 wr w.heap.size 0 (sched b 64).toArray∧Ex w.heap.size none w wr) (fun _ i _=>64 - (intOf i).toNat)
       case atStart=>exact⟨0,gv,rc,by omega,rfl,rfl,by rw [HLL.out.1] at hcv;exact hcv,hgvb,hgv2,HV0.out,HW3.out,HE3.out⟩
       case round=>
        clear HV0 HW3 HE3 hgv hgv2 hcv hgvb
        obtain⟨k,gv,cv,hk,rfl,rfl,hcv,hgw,hgl,hhv,hhw,hex⟩:=hrel
        have hsz:=hex.size
        by_cases hlt:k < 64
        · have hkI: (k:Int) < 64:=by omega
          have hcvI: (8:Int)≤(cv:Int):=by omega
          obtain⟨v0,hv0⟩:∃x,x= (rounds ks (sched b 64) h k).getD 0 0:=⟨_,rfl⟩
          have cv0:=(wd_cell hhv 0 (by rw [HRL.out];omega)).1
          rw [List.toList_toArray,←hv0] at cv0
          obtain⟨v1,hv1⟩:∃x,x= (rounds ks (sched b 64) h k).getD 1 0:=⟨_,rfl⟩
          have cv1:=(wd_cell hhv 1 (by rw [HRL.out];omega)).1
          rw [List.toList_toArray,←hv1] at cv1
          obtain⟨v2,hv2⟩:∃x,x= (rounds ks (sched b 64) h k).getD 2 0:=⟨_,rfl⟩
          have cv2:=(wd_cell hhv 2 (by rw [HRL.out];omega)).1
          rw [List.toList_toArray,←hv2] at cv2
          obtain⟨v3,hv3⟩:∃x,x= (rounds ks (sched b 64) h k).getD 3 0:=⟨_,rfl⟩
          have cv3:=(wd_cell hhv 3 (by rw [HRL.out];omega)).1
          rw [List.toList_toArray,←hv3] at cv3
          obtain⟨v4,hv4⟩:∃x,x= (rounds ks (sched b 64) h k).getD 4 0:=⟨_,rfl⟩
          have cv4:=(wd_cell hhv 4 (by rw [HRL.out];omega)).1
          rw [List.toList_toArray,←hv4] at cv4
          obtain⟨v5,hv5⟩:∃x,x= (rounds ks (sched b 64) h k).getD 5 0:=⟨_,rfl⟩
          have cv5:=(wd_cell hhv 5 (by rw [HRL.out];omega)).1
          rw [List.toList_toArray,←hv5] at cv5
          obtain⟨v6,hv6⟩:∃x,x= (rounds ks (sched b 64) h k).getD 6 0:=⟨_,rfl⟩
          have cv6:=(wd_cell hhv 6 (by rw [HRL.out];omega)).1
          rw [List.toList_toArray,←hv6] at cv6
          obtain⟨v7,hv7⟩:∃x,x= (rounds ks (sched b 64) h k).getD 7 0:=⟨_,rfl⟩
          have cv7:=(wd_cell hhv 7 (by rw [HRL.out];omega)).1
          rw [List.toList_toArray,←hv7] at cv7
          obtain⟨ww,hww⟩:∃x,x= (sched b 64).getD k 0:=⟨_,rfl⟩
          have cww:=(wd_cell hhw k (by rw [List.size_toArray,sched_len];omega)).1
          rw [List.toList_toArray,←hww] at cww
          obtain⟨bk,ok,kk,rfl,hbk,ckk0,hkk⟩:=wd_at HH.out.2.2 k (by rw [HLL.out.2.2];omega)
          have ckk:=(World.cell?_of_block (w:=w) (w':=wr) (a:=⟨bk,ok+k,none⟩) (hex.block bk hbk (by simp))).trans ckk0
          obtain⟨S,hS⟩:∃S,S=xorU (xorU (turnU v4 6) (turnU v4 11)) (turnU v4 25):=⟨_,rfl⟩
          obtain⟨C,hC⟩:∃C,C=xorU (andU v4 v5) (andU (notU v4) v6):=⟨_,rfl⟩
          obtain⟨X,hX⟩:∃X,X=addU (addU (addU (addU v7 S) C) kk) ww:=⟨_,rfl⟩
          obtain⟨T,hT⟩:∃T,T=xorU (xorU (turnU v0 2) (turnU v0 13)) (turnU v0 22):=⟨_,rfl⟩
          obtain⟨M,hM⟩:∃M,M=xorU (xorU (andU v0 v1) (andU v0 v2)) (andU v1 v2):=⟨_,rfl⟩
          have HR:Hid (rounds ks (sched b 64) h (k+1)=[addU (addU X T) M,v0,v1,v2,addU v3 X,v4,v5,v6]):=(show _=_ by
           rw [rounds,getD_at hkk,←hww]
           unfold roundU rX rS rC rT rM
           rw [←hv0,←hv1,←hv2,←hv3,←hv4,←hv5,←hv6,←hv7,hX,hS,hC,hT,hM]
           rfl)
          have hSx: ((xorU (xorU (turnU v4 6) (turnU v4 11)) (turnU v4 25)).toNat:Int)= (S.toNat:Int):=by rw [hS]
          have hCx: ((xorU (andU v4 v5) (andU (notU v4) v6)).toNat:Int)= (C.toNat:Int):=by rw [hC]
          have hXx: ((addU (addU (addU (addU v7 S) C) kk) ww).toNat:Int)= (X.toNat:Int):=by rw [hX]
          have hTx: ((xorU (xorU (turnU v0 2) (turnU v0 13)) (turnU v0 22)).toNat:Int)= (T.toNat:Int):=by rw [hT]
          have hMx: ((xorU (xorU (andU v0 v1) (andU v0 v2)) (andU v1 v2)).toNat:Int)= (M.toNat:Int):=by rw [hM]
          have HHW:=Lib.hid hhw
          have HEX:=Lib.hid hex
          have HCC:Hid (∀p:ExW wr,p.w'.cell? ⟨gv,0,none⟩=some (.int .u32 v0.toNat)∧p.w'.cell? ⟨gv,1,none⟩=some (.int .u32 v1.toNat)∧p.w'.cell? ⟨gv,2,none⟩=some (.int .u32 v2.toNat)∧p.w'.cell? ⟨gv,3,none⟩=some (.int .u32 v3.toNat)∧p.w'.cell? ⟨gv,4,none⟩=some (.int .u32 v4.toNat)∧p.w'.cell? ⟨gv,5,none⟩=some (.int .u32 v5.toNat)∧p.w'.cell? ⟨gv,6,none⟩=some (.int .u32 v6.toNat)):=fun p=>⟨(World.cell?_of_block (w:=wr) (a:=⟨gv,0,none⟩) (p.ex.block gv hgl (by simp))).trans cv0,(World.cell?_of_block (w:=wr) (a:=⟨gv,1,none⟩) (p.ex.block gv hgl (by simp))).trans cv1,(World.cell?_of_block (w:=wr) (a:=⟨gv,2,none⟩) (p.ex.block gv hgl (by simp))).trans cv2,(World.cell?_of_block (w:=wr) (a:=⟨gv,3,none⟩) (p.ex.block gv hgl (by simp))).trans cv3,(World.cell?_of_block (w:=wr) (a:=⟨gv,4,none⟩) (p.ex.block gv hgl (by simp))).trans cv4,(World.cell?_of_block (w:=wr) (a:=⟨gv,5,none⟩) (p.ex.block gv hgl (by simp))).trans cv5,(World.cell?_of_block (w:=wr) (a:=⟨gv,6,none⟩) (p.ex.block gv hgl (by simp))).trans cv6⟩
          have HWN:Hid (∀N o,Ex wr.heap.size none wr ((wr.drewN N).alloc o)):=fun N o=>(Ex.drewN (Ex.refl _ _ wr)).alloc (Nat.le_refl _) o
          clear hv0 hv1 hv2 hv3 hv4 hv5 hv6 hv7 hww hkk hS hC hX hT hM hhv hhw hex ckk0
          have rX:=r_xor
          have rN:=r_and
          have rO:=r_not
          have rA:=r_add
          have rA':=r_add'
          go_wp2_with fail
          go_quiet ((go_at_call 138;exact(turnZ_any _ _ (by decide) (by decide) _).mono fun _ _ h=>⟨h.1,_,h.2.symm⟩))
          go_wp2_with fail
          go_quiet (fail)
          go_wp2_with fail
          go_quiet (fail)
          go_wp2_with fail
          go_quiet ((go_at_call 138;exact(turnZ_any _ _ (by decide) (by decide) _).mono fun _ _ h=>⟨h.1,_,h.2.symm⟩))
          go_wp2_with fail
          go_quiet (fail)
          go_wp2_with fail
          go_region_held3 (fun w'=>w'.cell? ⟨gv,0,none⟩=some (.int .u32 v0.toNat)∧w'.cell? ⟨gv,1,none⟩=some (.int .u32 v1.toNat)∧w'.cell? ⟨gv,2,none⟩=some (.int .u32 v2.toNat)∧w'.cell? ⟨gv,3,none⟩=some (.int .u32 v3.toNat)∧w'.cell? ⟨gv,4,none⟩=some (.int .u32 v4.toNat)∧w'.cell? ⟨gv,5,none⟩=some (.int .u32 v5.toNat)∧w'.cell? ⟨gv,6,none⟩=some (.int .u32 v6.toNat)) (first | exact HCC.out ⟨_,by (refine Ex.alloc ?_ (by simp) _;repeat(first | exact Ex.refl _ _ _ | refine Ex.drewN ?_ | refine Ex.drew ?_))⟩ | exact HCC.out ⟨_,by repeat(first | exact Ex.refl _ _ _ | refine Ex.drewN ?_ | refine Ex.drew ?_)⟩ | fail) (fail)
          go_wp2
          go_roundw
          case rel=>
           refine⟨k+1,wr.heap.size,8,by omega,by go_num,rfl,Nat.le_refl _,by omega,by simp,?_,?_,?_⟩
           · rw [HR.out]
             exact lit_words rfl
           · exact holdsK_keep (by decide) HHW.out (by omega) ((HWN.out _ _).block _ (by omega) (by simp))
           · exact HEX.out.trans (HWN.out _ _) hsz (by simp)
          case measure=>simp [intOf] <;> omega
        · have hk64:k=64:=by omega
          have hnl3 : ¬(k:Int) < 64:=by omega
          rw [hk64] at hhv
          have HVR:=Lib.hid hhv
          have HEX:=Lib.hid hex
          clear hk64 hhv hhw hex hlt
          go_wp2_with fail
          obtain⟨w5,hw5⟩:∃w5,w5=wr:=⟨_,rfl⟩
          subst hw5
          obtain⟨R,hR⟩:∃R,R=rounds ks (sched b 64) h 64:=⟨_,rfl⟩
          have HR8:Hid (R.length=8∧addTo R h 8=blockU h b ks):=by
           rw [hR];exact⟨rounds_len _ _ _ HLL.out.1 _,rfl⟩
          rw [←hR] at HVR
          clear hR
          go_loopw [18] (fun i wr=>∃k:Nat,k≤8∧i=.int .i64 k∧gv < wr.heap.size∧HoldsK wdE 1 wr gv 0 (addTo R h k).toArray∧Ex w.heap.size none w wr) (fun i _=>8 - (intOf i).toNat)
          case atStart=>exact⟨0,by omega,rfl,hgl,by rw [addTo_0];exact HVR.out,HEX.out⟩
          case round=>
           clear HVR HEX hgl
           obtain⟨k,hk,rfl,hgl,hhv,hex⟩:=hrel
           have hsz:=hex.size
           by_cases hlt:k < 8
           · have hkI: (k:Int) < 8:=by omega
             obtain⟨bh,oh,y,rfl,hbh,ch0,hyy⟩:=wd_at HH.out.1 k (by rw [HLL.out.1];omega)
             have ch:=(World.cell?_of_block (w:=w) (w':=wr) (a:=⟨bh,oh+k,none⟩) (hex.block bh hbh (by simp))).trans ch0
             obtain⟨x,hx⟩:∃x,x=R.getD k 0:=⟨_,rfl⟩
             obtain⟨cx,fx⟩:=wd_cell hhv k (by rw [List.size_toArray,addTo_len,HR8.out.1];omega)
             rw [List.toList_toArray,addTo_at (by rw [HR8.out.1];omega),←hx] at cx
             have HUP:Hid ((addTo R h k).toArray.setIfInBounds k (addU x y)= (addTo R h (k+1)).toArray):=(show _=_ by rw [hx,←getD_at (y:=0) hyy];exact addTo_up (by rw [HR8.out.1];omega))
             have HHV:=Lib.hid hhv
             have HEX:=Lib.hid hex
             clear hx hyy hhv hex ch0
             have rA:=r_add
             have rA':=r_add'
             go_wp2_with fail
             go_region_law (fail)
             all_goals
              go_wp2
              go_roundw
              case rel=>
               refine⟨k+1,by omega,by go_num,by simp <;> omega,?_,?_⟩
               · rw [←HUP.out]
                 exact wd_set HHV.out k (by rw [List.size_toArray,addTo_len,HR8.out.1];omega) _ rfl
               · first | exact Ex.setCell HEX.out k none _ (.inr (by omega)) | exact Ex.setCell HEX.out.drew k none _ (.inr (by omega)) | exact(Ex.setCell HEX.out k none _ (.inr (by omega))).drew
              case measure=>simp [intOf] <;> omega
           · have hk8:k=8:=by omega
             have hnl4 : ¬(k:Int) < 8:=by omega
             rw [hk8,HR8.out.2] at hhv
             have HHV:=Lib.hid hhv
             have HEX:=Lib.hid hex
             clear hk8 hhv hex
             go_wp2
             go_ret
             exact⟨some ⟨gv,0,none⟩,⟨cv,rfl⟩,val_sl (by omega) HHV.out,HEX.out⟩
end Go.Proofs.YtflhidfclfkjlaaGreat

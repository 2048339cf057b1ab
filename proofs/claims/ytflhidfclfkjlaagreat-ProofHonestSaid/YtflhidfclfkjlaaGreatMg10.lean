/- statement.Bytes, Digest, Sealed: contracts. No statement of the seat. | statement.Digest and Sealed: contracts. No statement of the seat. | The program's statement.Seal: a contract, no statement of the seat. -/
import Derived.Test.YtflhidfclfkjlaaGreatMg04
import Derived.Test.YtflhidfclfkjlaaGreatSumPG
import Derived.Test.YtflhidfclfkjlaaGreatSeal03G
import Derived.BigQuiet
import Derived.Test.YtflhidfclfkjlaaGreatOnlyG
import Derived.Deep.RegionLaw
namespace Go.Proofs.YtflhidfclfkjlaaGreat
open Go.RowKit Go.Sort
theorem int_v {P:Nat→Prop} (v:Value) (xs:List UInt8) (n:Int) (w:World) (hv:Sl byRep P w v xs) (hm:xs.length≤5000000) :
 Calls Tryz.prog 131 #[v,.int .i64 n] w fun e w'=>∃u,e=.returned u∧ByV w' w.heap.size u (xs ++ int8 n)∧Ex w.heap.size none w w' :=
 (int_any v xs n w hv hm).mono fun e w' ⟨ro,rc,h1,h2,h3⟩=>⟨_,h1,⟨ro,rc,by rw [List.length_append];rfl,h2⟩,h3⟩
theorem text_v {P:Nat→Prop} (v:Value) (xs:List UInt8) (s:ByteArray) (w:World) (hv:Sl byRep P w v xs) (hm:xs.length≤4000000) (hs:s.size≤1200000) :
 Calls Tryz.prog 132 #[v,.string s] w fun e w'=>∃u,e=.returned u∧ByV w' w.heap.size u (xs ++ int8 s.size ++ strL s)∧Ex w.heap.size none w w' :=
 (text_any v xs s w hv hm hs).mono fun e w' ⟨ro,rc,h1,h2,h3⟩=>⟨_,h1,⟨ro,rc,by rw [List.length_append,List.length_append,strL_len];rfl,h2⟩,h3⟩
theorem ints_v {P:Nat→Prop} (v u:Value) (xs:List UInt8) (l:List Int) (w:World) (hv:Sl byRep P w v xs) (hu:Ints w u l) (hm:xs.length≤3000000) (hl:l.length≤100000) :
 Calls Tryz.prog 133 #[v,u] w fun e w'=>∃u,e=.returned u∧ByV w' w.heap.size u (xs ++ int8 l.length ++ intsB l)∧Ex w.heap.size none w w' :=
 (ints_any v u xs l w hv hu hm hl).mono fun e w' ⟨ro,rc,h1,h2,h3⟩=>⟨_,h1,⟨ro,rc,by rw [List.length_append,List.length_append,intsB_len];rfl,h2⟩,h3⟩
theorem Tryz.idx5_0 (a0 a1 a2 a3 a4:Value) (w:World): (Instr.index 169 (.agg #[a0,a1,a2,a3,a4]) (.int .i64 0)).run Tryz.prog w=.ok a0 w:=by kernel_rfl
theorem Tryz.idx5_1 (a0 a1 a2 a3 a4:Value) (w:World): (Instr.index 169 (.agg #[a0,a1,a2,a3,a4]) (.int .i64 1)).run Tryz.prog w=.ok a1 w:=by kernel_rfl
theorem Tryz.idx5_2 (a0 a1 a2 a3 a4:Value) (w:World): (Instr.index 169 (.agg #[a0,a1,a2,a3,a4]) (.int .i64 2)).run Tryz.prog w=.ok a2 w:=by kernel_rfl
theorem Tryz.idx5_3 (a0 a1 a2 a3 a4:Value) (w:World): (Instr.index 169 (.agg #[a0,a1,a2,a3,a4]) (.int .i64 3)).run Tryz.prog w=.ok a3 w:=by kernel_rfl
theorem Tryz.idx5_4 (a0 a1 a2 a3 a4:Value) (w:World): (Instr.index 169 (.agg #[a0,a1,a2,a3,a4]) (.int .i64 4)).run Tryz.prog w=.ok a4 w:=by kernel_rfl
set_option maxHeartbeats 16000000 in
set_option maxRecDepth 100000 in
theorem bytesP_any {P:Nat→Prop} (s:St) (lo po:Option Addr) (ln lc pn pc:Nat) (w:World) (hs:Lies P w (s,⟨lo,ln,lc⟩,⟨po,pn,pc⟩)) (ht:Tame s) :
 Calls Tryz.prog 103 #[.agg #[.int .i64 s.author,.int .i64 s.number,.string s.prev,.int .i64 s.time,.int .i64 s.kind,.int .i64 s.a,.int .i64 s.b,.int .i64 s.c,.slice lo ln lc,.slice po pn pc,.string s.body,.int .i64 s.key,.string s.dig]] w fun e w'=>∃v,e=.returned v∧ByV w' w.heap.size v (stB s)∧Ex w.heap.size none w w':=by
 have HT:=Lib.hid ht
 have HLS:=Lib.hid hs
 have HLN:Hid (ln=s.list.length):=by obtain⟨⟨_,_,e,_⟩,_⟩:=hs;simp only [Sv.v] at e;cases e;exact rfl
 have HPN:Hid (pn=s.pins.length):=by obtain⟨_,⟨_,_,e,_⟩⟩:=hs;simp only [Sv.v] at e;cases e;exact rfl
 have hpn:pn≤1000:=by have:=ht.pins;have:=HPN.out;omega
 clear hs ht
 obtain⟨w0,hw0⟩:∃w0:World,w0=w.alloc (.cells #[.int .i64 s.author,.int .i64 s.number,.string s.prev,.int .i64 s.time,.int .i64 s.kind,.int .i64 s.a,.int .i64 s.b,.int .i64 s.c,.slice lo ln lc,.slice po pn pc,.string s.body,.int .i64 s.key,.string s.dig] 51):=⟨_,rfl⟩
 have hz0:w.heap.size < w0.heap.size:=by rw [hw0];simp
 have HE0:Hid (Ex w.heap.size none w w0):=by rw [hw0];exact Ex.new w _
 have HC:Hid (∀w',Ex w0.heap.size none w0 w'→w'.cell? ⟨w.heap.size,0,none⟩=some (.int .i64 s.author)∧w'.cell? ⟨w.heap.size,1,none⟩=some (.int .i64 s.number)∧w'.cell? ⟨w.heap.size,2,none⟩=some (.string s.prev)∧w'.cell? ⟨w.heap.size,3,none⟩=some (.int .i64 s.time)∧w'.cell? ⟨w.heap.size,4,none⟩=some (.int .i64 s.kind)∧w'.cell? ⟨w.heap.size,5,none⟩=some (.int .i64 s.a)∧w'.cell? ⟨w.heap.size,6,none⟩=some (.int .i64 s.b)∧w'.cell? ⟨w.heap.size,7,none⟩=some (.int .i64 s.c)∧w'.cell? ⟨w.heap.size,8,none⟩=some (.slice lo ln lc)∧w'.cell? ⟨w.heap.size,9,none⟩=some (.slice po pn pc)∧w'.cell? ⟨w.heap.size,10,none⟩=some (.string s.body)∧w'.cell? ⟨w.heap.size,11,none⟩=some (.int .i64 s.key)∧w'.cell? ⟨w.heap.size,12,none⟩=some (.string s.dig)):=fun w' h=>(st_block ((h.block w.heap.size hz0 (by simp)).trans (by rw [hw0];exact heap_alloc_new w _))).1
 go_enter Tryz.func103,Tryz.ntmps103
 go_upto_region 1 with(fail)
 rw [←hw0]
 clear hw0
 obtain⟨d0,d1,d2,d3,d4,d5,d6,d7,d8,d9,d10,d11,d12⟩:=HC.out _ (Ex.refl _ _ w0)
 go_upto_region 2 with(go_at_call 131;refine(int_v (.slice none 0 0) [] s.author _ (Sl.nil (fun _=>True) _) (by simp)).mono ?_;rintro e wa ⟨ua,rfl,hh,hex⟩;have HA:Hid (ByV wa w0.heap.size ua (int8 s.author)∧Ex w0.heap.size none w0 wa):=Lib.hid ⟨hh.lower (Nat.le_refl _),hex⟩;have hzwa:w0.heap.size≤wa.heap.size:=HA.out.2.size;clear hh hex d0 d1 d2 d3 d4 d5 d6 d7 d8 d9 d10 d11 d12;obtain⟨d0,d1,d2,d3,d4,d5,d6,d7,d8,d9,d10,d11,d12⟩:=HC.out _ HA.out.2)
 go_upto_region 3 with(go_at_call 131;refine(int_v ua _ s.number _ HA.out.1.sl (by rw [int8_len];omega)).mono ?_;rintro e wb ⟨ub,rfl,hh,hex⟩;have HB:Hid (ByV wb w0.heap.size ub (int8 s.author ++ int8 s.number)∧Ex w0.heap.size none w0 wb):=Lib.hid ⟨hh.lower hzwa,HA.out.2.trans hex hzwa (by simp)⟩;have hzwb:w0.heap.size≤wb.heap.size:=HB.out.2.size;clear hh hex d0 d1 d2 d3 d4 d5 d6 d7 d8 d9 d10 d11 d12;obtain⟨d0,d1,d2,d3,d4,d5,d6,d7,d8,d9,d10,d11,d12⟩:=HC.out _ HB.out.2)
 go_upto_region 4 with(go_at_call 132;refine(text_v ub _ s.prev _ HB.out.1.sl (by rw [List.length_append,int8_len,int8_len];omega) (by have:=HT.out.prev;omega)).mono ?_;rintro e wd ⟨ud,rfl,hh,hex⟩;have HD:Hid (ByV wd w0.heap.size ud (stB0 s)∧Ex w0.heap.size none w0 wd):=Lib.hid ⟨hh.lower hzwb,HB.out.2.trans hex hzwb (by simp)⟩;have hzwd:w0.heap.size≤wd.heap.size:=HD.out.2.size;clear hh hex d0 d1 d2 d3 d4 d5 d6 d7 d8 d9 d10 d11 d12;obtain⟨d0,d1,d2,d3,d4,d5,d6,d7,d8,d9,d10,d11,d12⟩:=HC.out _ HD.out.2)
 clear HA HB hzwa hzwb
 have HVF:Hid (ByV wd w0.heap.size ud (stB1 s 0)):=Lib.hid (by simpa [stB1] using HD.out.1)
 go_wp2_with fail
 clear d0 d1 d2 d3 d4 d5 d6 d7 d8 d9 d10 d11 d12
 go_loopw [3,5,30] (fun v x i wr=>∃(k:Nat),k≤5∧i=.int .i64 k∧Hid (ByV wr w0.heap.size v (stB1 s k))∧Ex w0.heap.size none w0 wr) (fun _ _ i _=>5 - (intOf i).toNat)
 case atStart=>exact⟨0,by omega,rfl,HVF,HD.out.2⟩
 case round=>
  obtain⟨k,hk,rfl,hv,hex⟩:=hrel
  have hsz:=hex.size
  have HE:=Lib.hid hex
  clear hex
  rcases(by omega:k=0∨k=1∨k=2∨k=3∨k=4∨k=5) with rfl | rfl | rfl | rfl | rfl | hk5
  · have ix:=fun w=>Tryz.idx5_0 (.int .i64 s.time) (.int .i64 s.kind) (.int .i64 s.a) (.int .i64 s.b) (.int .i64 s.c) w
    go_wp2_with (go_at_call 131;refine(int_v _ _ s.time _ hv.out.sl (by have:=stB1_len s 0;have:=HT.out.prev;omega)).mono ?_;rintro e w2 ⟨u2,rfl,hh,hex2⟩;have H2:Hid (ByV w2 w0.heap.size u2 (stB1 s 1)∧Ex w0.heap.size none w0 w2):=Lib.hid ⟨by rw [stB1_succ s 0 (by omega)];exact hh.lower (by omega),HE.out.trans hex2 hsz (by simp)⟩;clear hh hex2)
    go_roundw
    case rel=>exact⟨1,by omega,by first | rfl | go_num,H2.out.1,H2.out.2⟩
    case measure=>simp [intOf]
  · have ix:=fun w=>Tryz.idx5_1 (.int .i64 s.time) (.int .i64 s.kind) (.int .i64 s.a) (.int .i64 s.b) (.int .i64 s.c) w
    go_wp2_with (go_at_call 131;refine(int_v _ _ s.kind _ hv.out.sl (by have:=stB1_len s 1;have:=HT.out.prev;omega)).mono ?_;rintro e w2 ⟨u2,rfl,hh,hex2⟩;have H2:Hid (ByV w2 w0.heap.size u2 (stB1 s 2)∧Ex w0.heap.size none w0 w2):=Lib.hid ⟨by rw [stB1_succ s 1 (by omega)];exact hh.lower (by omega),HE.out.trans hex2 hsz (by simp)⟩;clear hh hex2)
    go_roundw
    case rel=>exact⟨2,by omega,by first | rfl | go_num,H2.out.1,H2.out.2⟩
    case measure=>simp [intOf]
  · have ix:=fun w=>Tryz.idx5_2 (.int .i64 s.time) (.int .i64 s.kind) (.int .i64 s.a) (.int .i64 s.b) (.int .i64 s.c) w
    go_wp2_with (go_at_call 131;refine(int_v _ _ s.a _ hv.out.sl (by have:=stB1_len s 2;have:=HT.out.prev;omega)).mono ?_;rintro e w2 ⟨u2,rfl,hh,hex2⟩;have H2:Hid (ByV w2 w0.heap.size u2 (stB1 s 3)∧Ex w0.heap.size none w0 w2):=Lib.hid ⟨by rw [stB1_succ s 2 (by omega)];exact hh.lower (by omega),HE.out.trans hex2 hsz (by simp)⟩;clear hh hex2)
    go_roundw
    case rel=>exact⟨3,by omega,by first | rfl | go_num,H2.out.1,H2.out.2⟩
    case measure=>simp [intOf]
  · have ix:=fun w=>Tryz.idx5_3 (.int .i64 s.time) (.int .i64 s.kind) (.int .i64 s.a) (.int .i64 s.b) (.int .i64 s.c) w
    go_wp2_with (go_at_call 131;refine(int_v _ _ s.b _ hv.out.sl (by have:=stB1_len s 3;have:=HT.out.prev;omega)).mono ?_;rintro e w2 ⟨u2,rfl,hh,hex2⟩;have H2:Hid (ByV w2 w0.heap.size u2 (stB1 s 4)∧Ex w0.heap.size none w0 w2):=Lib.hid ⟨by rw [stB1_succ s 3 (by omega)];exact hh.lower (by omega),HE.out.trans hex2 hsz (by simp)⟩;clear hh hex2)
    go_roundw
    case rel=>exact⟨4,by omega,by first | rfl | go_num,H2.out.1,H2.out.2⟩
    case measure=>simp [intOf]
  · have ix:=fun w=>Tryz.idx5_4 (.int .i64 s.time) (.int .i64 s.kind) (.int .i64 s.a) (.int .i64 s.b) (.int .i64 s.c) w
    go_wp2_with (go_at_call 131;refine(int_v _ _ s.c _ hv.out.sl (by have:=stB1_len s 4;have:=HT.out.prev;omega)).mono ?_;rintro e w2 ⟨u2,rfl,hh,hex2⟩;have H2:Hid (ByV w2 w0.heap.size u2 (stB1 s 5)∧Ex w0.heap.size none w0 w2):=Lib.hid ⟨by rw [stB1_succ s 4 (by omega)];exact hh.lower (by omega),HE.out.trans hex2 hsz (by simp)⟩;clear hh hex2)
    go_roundw
    case rel=>exact⟨5,by omega,by first | rfl | go_num,H2.out.1,H2.out.2⟩
    case measure=>simp [intOf]
  · have hk5I : ¬(k:Int) < 5:=by omega
    have HV5:Hid (ByV wr w0.heap.size u3 (stB1 s 5)):=by rw [←hk5];exact hv.out
    clear hv hk5
    obtain⟨w1,hw1⟩:∃w1,w1=wr:=⟨_,rfl⟩
    subst hw1
    obtain⟨d0,d1,d2,d3,d4,d5,d6,d7,d8,d9,d10,d11,d12⟩:=HC.out _ HE.out
    go_upto_region 10 with(go_at_call 133;refine(ints_v u3 (.slice lo ln lc) (stB1 s 5) s.list _ HV5.out.sl (sl_ints (HLS.out.keep fun b _ hb=>(HE0.out.trans HE.out (by omega) (by simp)).block b hb (by simp)).1) (by have:=stB1_len s 5;have:=HT.out.prev;omega) (by have:=HT.out.list;omega)).mono ?_;rintro e wg ⟨ug,rfl,hh,hex⟩;have HG:Hid (ByV wg w0.heap.size ug ((stB1 s 5 ++ int8 s.list.length) ++ intsB s.list)∧Ex w0.heap.size none w0 wg):=Lib.hid ⟨hh.lower hsz,HE.out.trans hex hsz (by simp)⟩;have hzwg:w0.heap.size≤wg.heap.size:=HG.out.2.size;clear hh hex d0 d1 d2 d3 d4 d5 d6 d7 d8 d9 d10 d11 d12;obtain⟨d0,d1,d2,d3,d4,d5,d6,d7,d8,d9,d10,d11,d12⟩:=HC.out _ HG.out.2)
    go_upto_region 11 with(go_at_call 131;refine(int_v ug _ (pn:Int) _ HG.out.1.sl (by have:=stB1_len s 5;have:=HT.out.prev;have:=HT.out.list;rw [List.length_append,List.length_append,int8_len,intsB_len];omega)).mono ?_;rintro e wh ⟨uh,rfl,hh,hex⟩;have HH:Hid (ByV wh w0.heap.size uh (stB2 s)∧Ex w0.heap.size none w0 wh):=Lib.hid ⟨by unfold stB2;rw [←HPN.out];exact hh.lower hzwg,HG.out.2.trans hex hzwg (by simp)⟩;have hzwh:w0.heap.size≤wh.heap.size:=HH.out.2.size;clear hh hex d0 d1 d2 d3 d4 d5 d6 d7 d8 d9 d10 d11 d12;obtain⟨d0,d1,d2,d3,d4,d5,d6,d7,d8,d9,d10,d11,d12⟩:=HC.out _ HH.out.2)
    clear HG hzwg HV5
    have HV8:Hid (ByV wh w0.heap.size uh (stB3 s 0)):=by rw [show stB3 s 0=stB2 s by simp [stB3,pinsL]];exact HH.out.1
    go_wp2_with fail
    clear d0 d1 d2 d3 d4 d5 d6 d7 d8 d9 d10 d11 d12
    go_loopw [3,7,49] (fun v q i wi=>∃(k:Nat),k≤pn∧i=.int .i64 k∧Hid (ByV wi w0.heap.size v (stB3 s k))∧Ex w0.heap.size none w0 wi) (fun _ _ i _=>pn - (intOf i).toNat)
    case atStart=>exact⟨0,by omega,rfl,HV8,HH.out.2⟩
    case round=>
     obtain⟨m,hm,rfl,hv,hex⟩:=hrel
     have hszi:=hex.size
     have HEI:=Lib.hid hex
     clear hex
     by_cases hlt:m < pn
     · have hltI: (m:Int) < (pn:Int):=by omega
       obtain⟨b,off,p,hpo,_,hb,c0,c1,c2,HP⟩:=pin_get ((HLS.out.keep fun b _ hb=>(HE0.out.trans HEI.out (by omega) (by simp)).block b hb (by simp)).2.at') m (by rw [←HPN.out];exact hlt)
       subst hpo
       have HPS:Hid (p.2.2.size≤1200000):=HT.out.dig (List.mem_of_getElem? HP.out)
       go_upto_region 14 with(fail)
       obtain⟨wp,hwp⟩:∃wp:World,wp=wr.alloc (.cells #[.int .i64 p.1,.int .i64 p.2.1,.string p.2.2] 77):=⟨_,rfl⟩
       have HCP:Hid (∀w',Ex wp.heap.size none wp w'→w'.cell? ⟨wr.heap.size,0,none⟩=some (.int .i64 p.1)∧w'.cell? ⟨wr.heap.size,1,none⟩=some (.int .i64 p.2.1)∧w'.cell? ⟨wr.heap.size,2,none⟩=some (.string p.2.2)):=fun w' h=>by
        have hb9:w'.heap[wr.heap.size]? =some (.cells #[.int .i64 p.1,.int .i64 p.2.1,.string p.2.2] 77 (0,0)):=(h.block wr.heap.size (by rw [hwp];simp) (by simp)).trans (by rw [hwp];exact heap_alloc_new wr _)
        exact⟨cell_of_row _ _ _ _ _ _ hb9,cell_of_row _ _ _ _ _ _ hb9,cell_of_row _ _ _ _ _ _ hb9⟩
       have HEP:Hid (Ex w0.heap.size none w0 wp):=by rw [hwp];exact HEI.out.trans (Ex.new wr _) hszi (by simp)
       have HVP:Hid (ByV wp w0.heap.size u3 (stB3 s m)):=by rw [hwp];exact hv.out.keep (Ex.new wr _) (Nat.le_refl _)
       have hzp:w0.heap.size≤wp.heap.size:=HEP.out.size
       rw [←hwp]
       clear hwp
       go_region_held3 (fun w'=>w'.cell? ⟨wr.heap.size,0,none⟩=some (.int .i64 p.1)∧w'.cell? ⟨wr.heap.size,1,none⟩=some (.int .i64 p.2.1)∧w'.cell? ⟨wr.heap.size,2,none⟩=some (.string p.2.2)) (first | exact HCP.out _ ((Ex.refl _ _ wp).drew) | exact HCP.out _ HG1.out.2 | exact HCP.out _ HG2.out.2 | exact HCP.out _ HG3.out.2)
        (first
          | (go_at_call 131;(fail_if_success (first | have _x:=HG1 | fail));refine(int_v u3 (stB3 s m) p.1 _ (HVP.out.keep ((Ex.refl _ _ wp).drew) (Nat.le_refl _)).sl (by have:=stB3_len HT.out m;omega)).mono ?_;rintro e wg1 ⟨ug1,rfl,hh,hex⟩;have HG1:Hid (ByV wg1 wp.heap.size ug1 (stB3 s m ++ int8 p.1)∧Ex wp.heap.size none wp wg1):=⟨hh.lower (Nat.le_refl _),((Ex.refl _ _ wp).drew).trans hex (Nat.le_refl _) (by simp)⟩;have hzwg1:wp.heap.size≤wg1.heap.size:=HG1.out.2.size;clear hh hex)
          | (go_at_call 131;(fail_if_success (first | have _x:=HG2 | fail));refine(int_v ug1 _ p.2.1 _ HG1.out.1.sl (by have:=stB3_len HT.out m;rw [List.length_append,int8_len];omega)).mono ?_;rintro e wg2 ⟨ug2,rfl,hh,hex⟩;have HG2:Hid (ByV wg2 wp.heap.size ug2 ((stB3 s m ++ int8 p.1) ++ int8 p.2.1)∧Ex wp.heap.size none wp wg2):=⟨hh.lower hzwg1,HG1.out.2.trans hex hzwg1 (by simp)⟩;have hzwg2:wp.heap.size≤wg2.heap.size:=HG2.out.2.size;clear hh hex)
          | (go_at_call 132;(fail_if_success (first | have _x:=HG3 | fail));refine(text_v ug2 _ p.2.2 _ HG2.out.1.sl (by have:=stB3_len HT.out m;rw [List.length_append,List.length_append,int8_len,int8_len];omega) (by have:=HPS.out;omega)).mono ?_;rintro e wg3 ⟨ug3,rfl,hh,hex⟩;have HG3:Hid (ByV wg3 wp.heap.size ug3 (stB3 s (m+1))∧Ex wp.heap.size none wp wg3):=⟨by rw [stB3_succ s m p HP.out];exact hh.lower hzwg2,HG2.out.2.trans hex hzwg2 (by simp)⟩;have hzwg3:wp.heap.size≤wg3.heap.size:=HG3.out.2.size;clear hh hex)
          | fail)
       clear HG1 HG2 hzwg1 hzwg2
       go_wp2
       go_roundw
       case rel=>exact⟨m+1,by omega,by go_num,Lib.hid (HG3.out.1.lower hzp),HEP.out.trans HG3.out.2 hzp (by simp)⟩
       case measure=>simp [intOf] <;> omega
     · have hltI : ¬(m:Int) < (pn:Int):=by omega
       have HMN:Hid (m=s.pins.length):=(show _=_ by have:=HPN.out;omega)
       obtain⟨d0,d1,d2,d3,d4,d5,d6,d7,d8,d9,d10,d11,d12⟩:=HC.out _ HEI.out
       go_wp2_with (go_at_call 132;refine(text_v _ _ s.body _ hv.out.sl (by have:=stB3_len HT.out m;omega) (by have:=HT.out.body;omega)).mono ?_;rintro e w9 ⟨u9,rfl,hh,hex9⟩)
       go_ret
       exact⟨_,rfl,by rw [stB_eq,←HMN.out];exact hh.lower (by omega),HE0.out.trans (HEI.out.trans hex9 hszi (by simp)) (by omega) (by simp)⟩
set_option maxHeartbeats 4000000 in
set_option maxRecDepth 100000 in
theorem digestP_any {P:Nat→Prop} (s:St) (lo po:Option Addr) (ln lc pn pc:Nat) (w:World) (hs:Lies P w (s,⟨lo,ln,lc⟩,⟨po,pn,pc⟩)) (ht:Tame s) :
 Calls Tryz.prog 72 #[.agg #[.int .i64 s.author,.int .i64 s.number,.string s.prev,.int .i64 s.time,.int .i64 s.kind,.int .i64 s.a,.int .i64 s.b,.int .i64 s.c,.slice lo ln lc,.slice po pn pc,.string s.body,.int .i64 s.key,.string s.dig]] w fun e w'=>e=.returned (.string (sha (stB s)))∧Ex w.heap.size none w w':=by
 have HT:=Lib.hid ht
 have HLS:=Lib.hid hs
 clear hs ht
 obtain⟨w0,hw0⟩:∃w0:World,w0=w.alloc (.cells #[.int .i64 s.author,.int .i64 s.number,.string s.prev,.int .i64 s.time,.int .i64 s.kind,.int .i64 s.a,.int .i64 s.b,.int .i64 s.c,.slice lo ln lc,.slice po pn pc,.string s.body,.int .i64 s.key,.string s.dig] 51):=⟨_,rfl⟩
 have hz0:w.heap.size < w0.heap.size:=by rw [hw0];simp
 have HE0:Hid (Ex w.heap.size none w w0):=by rw [hw0];exact Ex.new w _
 obtain⟨⟨d0,d1,d2,d3,d4,d5,d6,d7,d8,d9,d10,d11,d12⟩,fz⟩:=st_block (w:=w0) (g:=w.heap.size) (by rw [hw0];exact heap_alloc_new w _)
 go_enter Tryz.func72,Tryz.ntmps72
 go_upto_region 1 with(fail)
 rw [←hw0]
 clear hw0
 have hlen: (stB s).length≤5000000:=by
  have h1:=stB3_len HT.out s.pins.length
  have h2:=HT.out.body
  rw [stB_eq,List.length_append,List.length_append,int8_len,strL_len];omega
 go_wp2_with (first
  | (go_at_call 103
     refine(bytesP_any s lo po ln lc pn pc w0 (HLS.out.keep fun b _ hb=>HE0.out.block b hb (by simp)) HT.out).mono ?_
     rintro e w1 ⟨v1,rfl,hv,hex⟩
     have H1:Hid (ByV w1 w0.heap.size v1 (stB s)∧Ex w.heap.size none w w1):=Lib.hid ⟨hv,HE0.out.trans hex (by omega) (by simp)⟩
     have hz1:w0.heap.size≤w1.heap.size:=hex.size
     clear hv hex d0 d1 d2 d3 d4 d5 d6 d7 d8 d9 d10 d11 d12 fz)
  | (go_at_call 102
     refine(sumP_any v1 (stB s) w1 H1.out.1.sl hlen).mono ?_
     rintro e w2 ⟨rfl,hex⟩
     have H2:Hid (Ex w.heap.size none w w2):=Lib.hid (H1.out.2.trans hex (by omega) (by simp))
     clear hex)
  | fail)
 go_ret
 exact⟨rfl,H2.out⟩
set_option maxHeartbeats 4000000 in
set_option maxRecDepth 100000 in
theorem sealedP_any {P:Nat→Prop} (s:St) (lo po:Option Addr) (ln lc pn pc:Nat) (w:World) (hs:Lies P w (s,⟨lo,ln,lc⟩,⟨po,pn,pc⟩)) (ht:Tame s) :
 Calls Tryz.prog 41 #[.agg #[.int .i64 s.author,.int .i64 s.number,.string s.prev,.int .i64 s.time,.int .i64 s.kind,.int .i64 s.a,.int .i64 s.b,.int .i64 s.c,.slice lo ln lc,.slice po pn pc,.string s.body,.int .i64 s.key,.string s.dig]] w fun e w'=>e=.returned (.bool (sealedB s))∧Ex w.heap.size none w w':=by
 have HT:=Lib.hid ht
 have HLS:=Lib.hid hs
 clear hs ht
 obtain⟨w0,hw0⟩:∃w0:World,w0=w.alloc (.cells #[.int .i64 s.author,.int .i64 s.number,.string s.prev,.int .i64 s.time,.int .i64 s.kind,.int .i64 s.a,.int .i64 s.b,.int .i64 s.c,.slice lo ln lc,.slice po pn pc,.string s.body,.int .i64 s.key,.string s.dig] 51):=⟨_,rfl⟩
 have hz0:w.heap.size < w0.heap.size:=by rw [hw0];simp
 have HE0:Hid (Ex w.heap.size none w w0):=by rw [hw0];exact Ex.new w _
 have HC:Hid (∀p:ExW w0,p.w'.cell? ⟨w.heap.size,0,none⟩=some (.int .i64 s.author)∧p.w'.cell? ⟨w.heap.size,1,none⟩=some (.int .i64 s.number)∧p.w'.cell? ⟨w.heap.size,2,none⟩=some (.string s.prev)∧p.w'.cell? ⟨w.heap.size,3,none⟩=some (.int .i64 s.time)∧p.w'.cell? ⟨w.heap.size,4,none⟩=some (.int .i64 s.kind)∧p.w'.cell? ⟨w.heap.size,5,none⟩=some (.int .i64 s.a)∧p.w'.cell? ⟨w.heap.size,6,none⟩=some (.int .i64 s.b)∧p.w'.cell? ⟨w.heap.size,7,none⟩=some (.int .i64 s.c)∧p.w'.cell? ⟨w.heap.size,8,none⟩=some (.slice lo ln lc)∧p.w'.cell? ⟨w.heap.size,9,none⟩=some (.slice po pn pc)∧p.w'.cell? ⟨w.heap.size,10,none⟩=some (.string s.body)∧p.w'.cell? ⟨w.heap.size,11,none⟩=some (.int .i64 s.key)∧p.w'.cell? ⟨w.heap.size,12,none⟩=some (.string s.dig)):=fun p=>(st_block ((p.ex.block w.heap.size hz0 (by simp)).trans (by rw [hw0];exact heap_alloc_new w _))).1
 obtain⟨dg,hdg⟩:∃dg,dg=sha (stB s):=⟨_,rfl⟩
 have HDC:Hid (∀p:ExW w0,Calls Tryz.prog 72 #[.agg #[.int .i64 s.author,.int .i64 s.number,.string s.prev,.int .i64 s.time,.int .i64 s.kind,.int .i64 s.a,.int .i64 s.b,.int .i64 s.c,.slice lo ln lc,.slice po pn pc,.string s.body,.int .i64 s.key,.string s.dig]] p.w' fun e w'=>e=.returned (.string dg)∧Ex p.w'.heap.size none p.w' w'):=fun p=>by
  rw [hdg]
  exact digestP_any s lo po ln lc pn pc p.w' (HLS.out.keep fun b _ hb=>(p.ex.block b (by omega) (by simp)).trans (HE0.out.block b hb (by simp))) HT.out
 have HSB:Hid (sealedB s= (decide (s.key=s.author) && decide (s.dig=dg))):=Lib.hid (by rw [hdg];rfl)
 clear hdg
 go_enter Tryz.func41,Tryz.ntmps41
 go_upto_region 1 with(fail)
 rw [←hw0]
 clear hw0
 have hq:=HC.out
 have hsl:=seal_eql s.key s.author s.dig dg
 rw [←HSB.out] at hsl
 refine wp_region_quiet_ex (by kernel_rfl) (by kernel_rfl) ?_
 repeat(go_big_quiet_step ((go_at_call 72;refine calls_ex_of (HDC.out _))))
 refine wpQuiet_nil ?_
 intro _ hw'
 obtain⟨p9,hw''⟩:=hw'
 subst hw''
 go_wp2
 go_ret
 exact⟨rfl,HE0.out.trans p9.ex (by omega) (by simp)⟩
end Go.Proofs.YtflhidfclfkjlaaGreat

/- ref03.Bytes, Digest, Sealed, Seal: contracts, no statement of the seat. | ref03.Bytes: a contract, no statement of the seat. | What a right statement is: plain. No statement of the seat. | What is read off bytes: numbers, texts, lists, statements; and that bytes which are read so are those that are written. Plain, no program in sight. -/
import Derived.Test.YtflhidfclfkjlaaGreatSum01G
import Derived.Test.YtflhidfclfkjlaaGreatMg06
import Derived.Test.YtflhidfclfkjlaaGreatMg04
import Derived.Deep.Cut
import Derived.Deep.RegionHeld3
namespace Go.Proofs.YtflhidfclfkjlaaGreat
open Go.RowKit Go.Sort
def pinL (p:PinD):List UInt8:=int8 p.1 ++ int8 p.2.1 ++ int8 p.2.2.size ++ strL p.2.2
def pinsL (l:List PinD):List UInt8:=l.flatMap pinL
def stB (s:St):List UInt8 :=
 (((((((((((((int8 s.author ++ int8 s.number) ++ int8 s.prev.size) ++ strL s.prev) ++ int8 s.time) ++ int8 s.kind) ++ int8 s.a) ++ int8 s.b) ++ int8 s.c) ++ int8 s.list.length) ++ intsB s.list) ++ int8 s.pins.length) ++ pinsL s.pins) ++ int8 s.body.size) ++ strL s.body
theorem pinsL_len (l:List PinD) (h:∀p∈l,p.2.2.size≤1000): (pinsL l).length≤l.length * 1024:=by
 induction l with
 | nil=>simp [pinsL]
 | cons p r ih=>
   have h1:=h p (by simp)
   have h2:=ih fun q hq=>h q (by simp [hq])
   simp only [pinsL,List.flatMap_cons,List.length_append,pinL,int8_len,strL_len,List.length_cons] at *
   omega
theorem pinsL_take (l:List PinD) (k:Nat): (pinsL (l.take k)).length≤(pinsL l).length:=by
 have h:pinsL l=pinsL (l.take k) ++ pinsL (l.drop k):=by rw [pinsL,pinsL,pinsL,←List.flatMap_append,List.take_append_drop]
 rw [h,List.length_append];omega
theorem pinsL_mem {l:List PinD} {p:PinD} (hp:p∈l):p.2.2.size≤(pinsL l).length:=by
 induction l with
 | nil=>cases hp
 | cons q r ih=>
   simp only [pinsL,List.flatMap_cons,List.length_append,pinL,strL_len] at *
   rcases List.mem_cons.1 hp with rfl | h
   · omega
   · have:=ih h;omega
structure Tame (s:St):Prop where
 list:s.list.length≤10000
 pins:s.pins.length≤1000
 prev:s.prev.size≤100000
 body:s.body.size≤100000
 digs: (pinsL s.pins).length≤1200000
theorem Tame.dig {s:St} (h:Tame s) {p:PinD} (hp:p∈s.pins):p.2.2.size≤1200000:=Nat.le_trans (pinsL_mem hp) h.digs
theorem digs_of {s:St} (hn:s.pins.length≤1000) (h:∀p∈s.pins,p.2.2.size≤1000): (pinsL s.pins).length≤1200000:=by have:=pinsL_len s.pins h;omega
def stB0 (s:St):List UInt8:=((int8 s.author ++ int8 s.number) ++ int8 s.prev.size) ++ strL s.prev
def five (s:St):List Int:=[s.time,s.kind,s.a,s.b,s.c]
def stB1 (s:St) (k:Nat):List UInt8:=stB0 s ++ ((five s).take k).flatMap int8
def stB2 (s:St):List UInt8:=((stB1 s 5 ++ int8 s.list.length) ++ intsB s.list) ++ int8 s.pins.length
def stB3 (s:St) (k:Nat):List UInt8:=stB2 s ++ pinsL (s.pins.take k)
theorem stB_eq (s:St):stB s= (stB3 s s.pins.length ++ int8 s.body.size) ++ strL s.body:=by
 simp only [stB,stB3,stB2,stB1,stB0,List.take_length,five,List.flatMap_cons,List.flatMap_nil,List.take_succ_cons,List.take_zero,List.append_assoc,List.append_nil]
theorem stB1_succ (s:St) (k:Nat) (hk:k < 5):stB1 s (k+1)=stB1 s k ++ int8 ((five s).getD k 0):=by
 unfold stB1
 rw [take_succ_getD (five s) k hk,List.flatMap_append,List.append_assoc]
 simp only [List.flatMap_cons,List.flatMap_nil,List.append_nil]
theorem stB3_succ (s:St) (k:Nat) (p:PinD) (hp:s.pins[k]? =some p):stB3 s (k+1)= (((stB3 s k ++ int8 p.1) ++ int8 p.2.1) ++ int8 p.2.2.size) ++ strL p.2.2:=by
 unfold stB3 pinsL
 rw [List.take_add_one,hp]
 simp [pinL]
theorem flat8_len (l:List Int): (l.flatMap int8).length=l.length * 8:=intsB_len l
theorem stB0_len (s:St): (stB0 s).length=24+s.prev.size:=by simp [stB0,int8_len,strL_len];omega
theorem stB1_len (s:St) (k:Nat): (stB1 s k).length≤64+s.prev.size:=by
 have: ((five s).take k).length≤5:=by simp [five];omega
 simp only [stB1,List.length_append,stB0_len,flat8_len]
 omega
theorem stB2_len (s:St): (stB2 s).length≤80+s.prev.size+s.list.length * 8:=by
 have:=stB1_len s 5
 simp only [stB2,List.length_append,int8_len,intsB_len]
 omega
theorem stB3_len {s:St} (h:Tame s) (k:Nat): (stB3 s k).length≤2000000:=by
 have h1:=stB2_len s
 have h2:=pinsL_take s.pins k
 have h7:=h.digs
 have h3:=h.list
 have h4:=h.pins
 have h5:=h.prev
 have h6: (s.pins.take k).length≤1000:=by simp;omega
 simp only [stB3,List.length_append]
 omega
set_option maxHeartbeats 16000000 in
set_option maxRecDepth 100000 in
theorem bytes03_any {P:Nat→Prop} (s:St) (lo po:Option Addr) (ln lc pn pc:Nat) (w:World) (hs:Lies P w (s,⟨lo,ln,lc⟩,⟨po,pn,pc⟩)) (ht:Tame s) :
 Calls Tryz.prog 86 #[.agg #[.int .i64 s.author,.int .i64 s.number,.string s.prev,.int .i64 s.time,.int .i64 s.kind,.int .i64 s.a,.int .i64 s.b,.int .i64 s.c,.slice lo ln lc,.slice po pn pc,.string s.body,.int .i64 s.key,.string s.dig]] w fun e w'=>∃v,e=.returned v∧ByV w' w.heap.size v (stB s)∧Ex w.heap.size none w w':=by
 have HT:=Lib.hid ht
 have HLS:=Lib.hid hs
 have HLN:Hid (ln=s.list.length):=by obtain⟨⟨_,_,e,_⟩,_⟩:=hs;simp only [Sv.v] at e;cases e;exact rfl
 have HPN:Hid (pn=s.pins.length):=by obtain⟨_,⟨_,_,e,_⟩⟩:=hs;simp only [Sv.v] at e;cases e;exact rfl
 have hpn:pn≤1000:=by have:=ht.pins;have:=HPN.out;omega
 clear hs ht
 obtain⟨w0,hw0⟩:∃w0:World,w0=w.alloc (.cells #[.int .i64 s.author,.int .i64 s.number,.string s.prev,.int .i64 s.time,.int .i64 s.kind,.int .i64 s.a,.int .i64 s.b,.int .i64 s.c,.slice lo ln lc,.slice po pn pc,.string s.body,.int .i64 s.key,.string s.dig] 51):=⟨_,rfl⟩
 have hz0:w.heap.size < w0.heap.size:=by rw [hw0];simp
 have HE0:Hid (Ex w.heap.size none w w0):=by rw [hw0];exact Ex.new w _
 have HC:Hid (∀w',Ex w0.heap.size none w0 w'→w'.cell? ⟨w.heap.size,0,none⟩=some (.int .i64 s.author)∧w'.cell? ⟨w.heap.size,1,none⟩=some (.int .i64 s.number)∧w'.cell? ⟨w.heap.size,2,none⟩=some (.string s.prev)∧w'.cell? ⟨w.heap.size,3,none⟩=some (.int .i64 s.time)∧w'.cell? ⟨w.heap.size,4,none⟩=some (.int .i64 s.kind)∧w'.cell? ⟨w.heap.size,5,none⟩=some (.int .i64 s.a)∧w'.cell? ⟨w.heap.size,6,none⟩=some (.int .i64 s.b)∧w'.cell? ⟨w.heap.size,7,none⟩=some (.int .i64 s.c)∧w'.cell? ⟨w.heap.size,8,none⟩=some (.slice lo ln lc)∧w'.cell? ⟨w.heap.size,9,none⟩=some (.slice po pn pc)∧w'.cell? ⟨w.heap.size,10,none⟩=some (.string s.body)∧w'.cell? ⟨w.heap.size,11,none⟩=some (.int .i64 s.key)∧w'.cell? ⟨w.heap.size,12,none⟩=some (.string s.dig)):=fun w' h=>(st_block ((h.block w.heap.size hz0 (by simp)).trans (by rw [hw0];exact heap_alloc_new w _))).1
 go_enter Tryz.func86,Tryz.ntmps86
 go_upto_region 1 with(fail)
 rw [←hw0]
 clear hw0
 go_region_held3 (fun w'=>w'.cell? ⟨w.heap.size,0,none⟩=some (.int .i64 s.author)∧w'.cell? ⟨w.heap.size,1,none⟩=some (.int .i64 s.number)∧w'.cell? ⟨w.heap.size,2,none⟩=some (.string s.prev)∧w'.cell? ⟨w.heap.size,3,none⟩=some (.int .i64 s.time)∧w'.cell? ⟨w.heap.size,4,none⟩=some (.int .i64 s.kind)∧w'.cell? ⟨w.heap.size,5,none⟩=some (.int .i64 s.a)∧w'.cell? ⟨w.heap.size,6,none⟩=some (.int .i64 s.b)∧w'.cell? ⟨w.heap.size,7,none⟩=some (.int .i64 s.c)∧w'.cell? ⟨w.heap.size,8,none⟩=some (.slice lo ln lc)∧w'.cell? ⟨w.heap.size,9,none⟩=some (.slice po pn pc)∧w'.cell? ⟨w.heap.size,10,none⟩=some (.string s.body)∧w'.cell? ⟨w.heap.size,11,none⟩=some (.int .i64 s.key)∧w'.cell? ⟨w.heap.size,12,none⟩=some (.string s.dig)) (first | exact HC.out _ ((Ex.refl _ _ w0).drew) | exact HC.out _ HA.out.2 | exact HC.out _ HB.out.2 | exact HC.out _ HD.out.2)
  (first
    | (go_at_call 114;(fail_if_success (first | have _x:=HA | fail));refine(int02_v (.slice none 0 0) [] s.author _ (Sl.nil (fun _=>True) _) (by simp)).mono ?_;rintro e wa ⟨ua,rfl,hh,hex⟩;have HA:Hid (ByV wa w0.heap.size ua (int8 s.author)∧Ex w0.heap.size none w0 wa):=⟨hh.lower (Nat.le_refl _),((Ex.refl _ _ w0).drew).trans hex (Nat.le_refl _) (by simp)⟩;have hzwa:w0.heap.size≤wa.heap.size:=HA.out.2.size;clear hh hex)
    | (go_at_call 114;(fail_if_success (first | have _x:=HB | fail));refine(int02_v ua _ s.number _ HA.out.1.sl (by rw [int8_len];omega)).mono ?_;rintro e wb ⟨ub,rfl,hh,hex⟩;have HB:Hid (ByV wb w0.heap.size ub (int8 s.author ++ int8 s.number)∧Ex w0.heap.size none w0 wb):=⟨hh.lower hzwa,HA.out.2.trans hex hzwa (by simp)⟩;have hzwb:w0.heap.size≤wb.heap.size:=HB.out.2.size;clear hh hex)
    | (go_at_call 113;(fail_if_success (first | have _x:=HD | fail));refine(text02_v ub _ s.prev _ HB.out.1.sl (by rw [List.length_append,int8_len,int8_len];omega) (by have:=HT.out.prev;omega)).mono ?_;rintro e wd ⟨ud,rfl,hh,hex⟩;have HD:Hid (ByV wd w0.heap.size ud (stB0 s)∧Ex w0.heap.size none w0 wd):=⟨hh.lower hzwb,HB.out.2.trans hex hzwb (by simp)⟩;have hzwd:w0.heap.size≤wd.heap.size:=HD.out.2.size;clear hh hex)
    | fail)
 clear HA HB hzwa hzwb
 obtain⟨d0,d1,d2,d3,d4,d5,d6,d7,d8,d9,d10,d11,d12⟩:=HC.out _ HD.out.2
 go_upto_region 3 with(fail)
 clear d0 d1 d2 d3 d4 d5 d6 d7 d8 d9 d10 d11 d12
 obtain⟨wf,hwf⟩:∃wf:World,wf=wd.alloc (.cells #[.int .i64 s.time,.int .i64 s.kind,.int .i64 s.a,.int .i64 s.b,.int .i64 s.c] 3):=⟨_,rfl⟩
 have HF:Hid (IntsAt wf (some ⟨wd.heap.size,0,none⟩) (five s)):=by rw [hwf];exact IntsAt.lit wd (five s)
 have HEF:Hid (Ex w0.heap.size none w0 wf):=by rw [hwf];exact HD.out.2.trans (Ex.new wd _) hzwd (by simp)
 have HVF:Hid (ByV wf w0.heap.size ud (stB1 s 0)):=Lib.hid (by rw [hwf];simpa [stB1] using HD.out.1.keep (Ex.new wd _) (Nat.le_refl _))
 have hzf:w0.heap.size≤wf.heap.size:=HEF.out.size
 rw [←hwf]
 clear hwf
 go_loopw [3,5,29] (fun v x i wr=>∃(k:Nat),k≤5∧i=.int .i64 k∧Hid (ByV wr w0.heap.size v (stB1 s k))∧Ex wf.heap.size none wf wr) (fun _ _ i _=>5 - (intOf i).toNat)
 case atStart=>exact⟨0,by omega,rfl,HVF,Ex.refl _ _ _⟩
 case round=>
  obtain⟨k,hk,rfl,hv,hex⟩:=hrel
  have hsz:=hex.size
  have HE:=Lib.hid hex
  by_cases hlt:k < 5
  · have hlt5: (k:Int) < 5:=by omega
    obtain⟨b,off,y,e9,hck,HY⟩:=(HF.out.keep hex (Nat.le_refl _) (by simp)).get k hlt
    cases e9
    rw [Nat.zero_add] at hck
    clear hex
    go_wp2_with (go_at_call 114;refine(int02_v _ _ y _ hv.out.sl (by have:=stB1_len s k;have:=HT.out.prev;omega)).mono ?_;rintro e w2 ⟨u2,rfl,hh,hex2⟩;have H2:Hid (ByV w2 w0.heap.size u2 (stB1 s (k+1))∧Ex wf.heap.size none wf w2):=⟨by rw [stB1_succ s k hlt,HY.out];exact hh.lower (by omega),HE.out.trans hex2 hsz (by simp)⟩;clear hh hex2)
    go_roundw
    case rel=>exact⟨k+1,by omega,by go_num,H2.out.1,H2.out.2⟩
    case measure=>simp [intOf] <;> omega
  · have hk5 : ¬(k:Int) < 5:=by omega
    have HK5:Hid (k=5):=(show k=5 by omega)
    have HV5:Hid (ByV wr w0.heap.size u3 (stB1 s 5)):=by rw [←HK5.out];exact hv.out
    have HE7:Hid (Ex w0.heap.size none w0 wr):=HEF.out.trans HE.out hzf (by simp)
    have hz7:w0.heap.size≤wr.heap.size:=HE7.out.size
    clear hv hex hlt
    obtain⟨w1,hw1⟩:∃w1,w1=wr:=⟨_,rfl⟩
    subst hw1
    go_upto_region 7 with(fail)
    go_region_held3 (fun w'=>w'.cell? ⟨w.heap.size,0,none⟩=some (.int .i64 s.author)∧w'.cell? ⟨w.heap.size,1,none⟩=some (.int .i64 s.number)∧w'.cell? ⟨w.heap.size,2,none⟩=some (.string s.prev)∧w'.cell? ⟨w.heap.size,3,none⟩=some (.int .i64 s.time)∧w'.cell? ⟨w.heap.size,4,none⟩=some (.int .i64 s.kind)∧w'.cell? ⟨w.heap.size,5,none⟩=some (.int .i64 s.a)∧w'.cell? ⟨w.heap.size,6,none⟩=some (.int .i64 s.b)∧w'.cell? ⟨w.heap.size,7,none⟩=some (.int .i64 s.c)∧w'.cell? ⟨w.heap.size,8,none⟩=some (.slice lo ln lc)∧w'.cell? ⟨w.heap.size,9,none⟩=some (.slice po pn pc)∧w'.cell? ⟨w.heap.size,10,none⟩=some (.string s.body)∧w'.cell? ⟨w.heap.size,11,none⟩=some (.int .i64 s.key)∧w'.cell? ⟨w.heap.size,12,none⟩=some (.string s.dig)) (first | exact HC.out _ (HE7.out.drew) | exact HC.out _ HG.out.2 | exact HC.out _ HH.out.2)
     (first
       | (go_at_call 115;(fail_if_success (first | have _x:=HG | fail));refine(ints02_v u3 (.slice lo ln lc) (stB1 s 5) s.list _ (HV5.out.keep ((Ex.refl _ _ w1).drew) (Nat.le_refl _)).sl (sl_ints (HLS.out.keep fun b _ hb=>(HE0.out.trans HE7.out (by omega) (by simp)).drew.block b hb (by simp)).1) (by have:=stB1_len s 5;have:=HT.out.prev;omega) (by have:=HT.out.list;omega)).mono ?_;rintro e wg ⟨ug,rfl,hh,hex⟩;have HG:Hid (ByV wg w0.heap.size ug ((stB1 s 5 ++ int8 s.list.length) ++ intsB s.list)∧Ex w0.heap.size none w0 wg):=⟨hh.lower hz7,HE7.out.drew.trans hex hz7 (by simp)⟩;have hzwg:w0.heap.size≤wg.heap.size:=HG.out.2.size;clear hh hex)
       | (go_at_call 114;(fail_if_success (first | have _x:=HH | fail));refine(int02_v ug _ (pn:Int) _ HG.out.1.sl (by have:=stB1_len s 5;have:=HT.out.prev;have:=HT.out.list;rw [List.length_append,List.length_append,int8_len,intsB_len];omega)).mono ?_;rintro e wh ⟨uh,rfl,hh,hex⟩;have HH:Hid (ByV wh w0.heap.size uh (stB2 s)∧Ex w0.heap.size none w0 wh):=⟨by unfold stB2;rw [←HPN.out];exact hh.lower hzwg,HG.out.2.trans hex hzwg (by simp)⟩;have hzwh:w0.heap.size≤wh.heap.size:=HH.out.2.size;clear hh hex)
       | fail)
    clear HG hzwg HV5
    have HV8:Hid (ByV wh w0.heap.size uh (stB3 s 0)):=by rw [show stB3 s 0=stB2 s by simp [stB3,pinsL]];exact HH.out.1
    go_wp2_with fail
    go_loopw [3,6,7] (fun v i q wi=>∃(k:Nat),k≤pn∧i=.int .i64 k∧Hid (ByV wi w0.heap.size v (stB3 s k))∧Ex w0.heap.size none w0 wi) (fun _ i _ _=>pn - (intOf i).toNat)
    case atStart=>exact⟨0,by omega,rfl,HV8,HH.out.2⟩
    case round=>
     obtain⟨m,hm,rfl,hv,hex⟩:=hrel
     have hszi:=hex.size
     have HEI:=Lib.hid hex
     clear hex
     obtain⟨d0,d1,d2,d3,d4,d5,d6,d7,d8,d9,d10,d11,d12⟩:=HC.out _ HEI.out
     by_cases hlt:m < pn
     · have hltI: (m:Int) < (pn:Int):=by omega
       obtain⟨b,off,p,hpo,_,hb,c0,c1,c2,HP⟩:=pin_get ((HLS.out.keep fun b _ hb=>(HE0.out.trans HEI.out (by omega) (by simp)).block b hb (by simp)).2.at') m (by rw [←HPN.out];exact hlt)
       subst hpo
       have HPS:Hid (p.2.2.size≤1200000):=HT.out.dig (List.mem_of_getElem? HP.out)
       go_upto_region 12 with(fail)
       clear d0 d1 d2 d3 d4 d5 d6 d7 d8 d9 d10 d11 d12
       obtain⟨wp,hwp⟩:∃wp:World,wp=wr.alloc (.cells #[.int .i64 p.1,.int .i64 p.2.1,.string p.2.2] 77):=⟨_,rfl⟩
       have HCP:Hid (∀w',Ex wp.heap.size none wp w'→w'.cell? ⟨wr.heap.size,0,none⟩=some (.int .i64 p.1)∧w'.cell? ⟨wr.heap.size,1,none⟩=some (.int .i64 p.2.1)∧w'.cell? ⟨wr.heap.size,2,none⟩=some (.string p.2.2)):=fun w' h=>by
        have hb9:w'.heap[wr.heap.size]? =some (.cells #[.int .i64 p.1,.int .i64 p.2.1,.string p.2.2] 77 (0,0)):=(h.block wr.heap.size (by rw [hwp];simp) (by simp)).trans (by rw [hwp];exact heap_alloc_new wr _)
        exact⟨cell_of_row _ _ _ _ _ _ hb9,cell_of_row _ _ _ _ _ _ hb9,cell_of_row _ _ _ _ _ _ hb9⟩
       have HEP:Hid (Ex w0.heap.size none w0 wp):=by rw [hwp];exact HEI.out.trans (Ex.new wr _) hszi (by simp)
       have HVP:Hid (ByV wp w0.heap.size u3 (stB3 s m)):=by rw [hwp];exact hv.out.keep (Ex.new wr _) (Nat.le_refl _)
       have hzp:w0.heap.size≤wp.heap.size:=HEP.out.size
       rw [←hwp]
       clear hwp
       go_region_held3 (fun w'=>w'.cell? ⟨wr.heap.size,0,none⟩=some (.int .i64 p.1)∧w'.cell? ⟨wr.heap.size,1,none⟩=some (.int .i64 p.2.1)∧w'.cell? ⟨wr.heap.size,2,none⟩=some (.string p.2.2)) (first | exact HCP.out _ ((Ex.refl _ _ wp).drew) | exact HCP.out _ HG1.out.2 | exact HCP.out _ HG2.out.2 | exact HCP.out _ HG3.out.2)
        (first
          | (go_at_call 114;(fail_if_success (first | have _x:=HG1 | fail));refine(int02_v u3 (stB3 s m) p.1 _ (HVP.out.keep ((Ex.refl _ _ wp).drew) (Nat.le_refl _)).sl (by have:=stB3_len HT.out m;omega)).mono ?_;rintro e wg1 ⟨ug1,rfl,hh,hex⟩;have HG1:Hid (ByV wg1 wp.heap.size ug1 (stB3 s m ++ int8 p.1)∧Ex wp.heap.size none wp wg1):=⟨hh.lower (Nat.le_refl _),((Ex.refl _ _ wp).drew).trans hex (Nat.le_refl _) (by simp)⟩;have hzwg1:wp.heap.size≤wg1.heap.size:=HG1.out.2.size;clear hh hex)
          | (go_at_call 114;(fail_if_success (first | have _x:=HG2 | fail));refine(int02_v ug1 _ p.2.1 _ HG1.out.1.sl (by have:=stB3_len HT.out m;rw [List.length_append,int8_len];omega)).mono ?_;rintro e wg2 ⟨ug2,rfl,hh,hex⟩;have HG2:Hid (ByV wg2 wp.heap.size ug2 ((stB3 s m ++ int8 p.1) ++ int8 p.2.1)∧Ex wp.heap.size none wp wg2):=⟨hh.lower hzwg1,HG1.out.2.trans hex hzwg1 (by simp)⟩;have hzwg2:wp.heap.size≤wg2.heap.size:=HG2.out.2.size;clear hh hex)
          | (go_at_call 113;(fail_if_success (first | have _x:=HG3 | fail));refine(text02_v ug2 _ p.2.2 _ HG2.out.1.sl (by have:=stB3_len HT.out m;rw [List.length_append,List.length_append,int8_len,int8_len];omega) (by have:=HPS.out;omega)).mono ?_;rintro e wg3 ⟨ug3,rfl,hh,hex⟩;have HG3:Hid (ByV wg3 wp.heap.size ug3 (stB3 s (m+1))∧Ex wp.heap.size none wp wg3):=⟨by rw [stB3_succ s m p HP.out];exact hh.lower hzwg2,HG2.out.2.trans hex hzwg2 (by simp)⟩;have hzwg3:wp.heap.size≤wg3.heap.size:=HG3.out.2.size;clear hh hex)
          | fail)
       clear HG1 HG2 hzwg1 hzwg2
       go_wp2
       go_roundw
       case rel=>exact⟨m+1,by omega,by go_num,Lib.hid (HG3.out.1.lower hzp),HEP.out.trans HG3.out.2 hzp (by simp)⟩
       case measure=>simp [intOf] <;> omega
     · have hltI : ¬(m:Int) < (pn:Int):=by omega
       have HMN:Hid (m=s.pins.length):=(show _=_ by have:=HPN.out;omega)
       go_upto_region 13 with(fail)
       go_wp2_with (go_at_call 113;refine(text02_v _ _ s.body _ hv.out.sl (by have:=stB3_len HT.out m;omega) (by have:=HT.out.body;omega)).mono ?_;rintro e w9 ⟨u9,rfl,hh,hex9⟩)
       go_ret
       exact⟨_,rfl,by rw [stB_eq,←HMN.out];exact hh.lower (by omega),HE0.out.trans (HEI.out.trans hex9 hszi (by simp)) (by omega) (by simp)⟩
theorem pins_dig {l:List PinD} (h:pinsB l=true):∀p∈l,p.2.2.size=32:=by
 intro p hp
 obtain⟨i,hi,rfl⟩:=List.getElem_of_mem hp
 unfold pinsB pinsTo at h
 rw [List.all_eq_true] at h
 have:=h i (by simpa using hi)
 unfold pinAt at this
 rw [List.getElem?_eq_getElem hi] at this
 simp only [Bool.and_eq_true,decide_eq_true_eq] at this
 exact this.2
structure RightS (s:St):Prop where
 author:0≤s.author∧s.author < 64
 kind : ¬(s.kind < 1∨(3 < s.kind∧s.kind < 10)∨31 < s.kind)
 time:0≤s.time∧s.time≤2147483648
 num:numB s=true
 list:s.list.length≤64
 pins:s.pins.length≤64
 body:s.body.size≤4096
 prev0:s.number=0→s.prev= ⟨#[]⟩
 prev1:0 < s.number→s.prev.size=32
 pinsB:pinsB s.pins=true
 plain:s.kind≤3→s.list.length=0∧s.pins.length=0∧s.body= ⟨#[]⟩
theorem checkI_right {s:St} (h:checkI s=0):RightS s:=by
 unfold checkI at h
 split at h
 · exact absurd h (by decide)
 split at h
 · exact absurd h (by decide)
 split at h
 · exact absurd h (by decide)
 split at h
 · exact absurd h (by decide)
 split at h
 · exact absurd h (by decide)
 split at h
 · exact absurd h (by decide)
 split at h
 · exact absurd h (by decide)
 rename_i h1 h2 h3 h4 h5 h6 h7
 refine⟨keyB_iff.1 (by simpa using h1),h2,inB_iff.1 (by simpa using h3),by simpa using h4,by omega,by omega,by omega,fun e=>?_,fun e=>?_,?_,fun e=>⟨?_,?_,?_⟩⟩
 · exact Classical.byContradiction fun c=>h6 (.inl ⟨e,c⟩)
 · exact Classical.byContradiction fun c=>h6 (.inr (.inl ⟨e,c⟩))
 · cases hp:Go.Proofs.YtflhidfclfkjlaaGreat.pinsB s.pins
   · exact absurd (.inr (.inr hp)) h6
   · rfl
 · exact Classical.byContradiction fun c=>h7 ⟨e,.inl (by omega)⟩
 · exact Classical.byContradiction fun c=>h7 ⟨e,.inr (.inl (by omega))⟩
 · exact Classical.byContradiction fun c=>h7 ⟨e,.inr (.inr c)⟩
theorem RightS.number {s:St} (h:RightS s):0≤s.number∧s.number≤199:=by
 have:=h.num
 simp only [numB,Bool.and_eq_true] at this
 exact inB_iff.1 this.1.1.1.1.1
theorem RightS.tame {s:St} (h:RightS s):Tame s:=by
 refine⟨by have:=h.list;omega,by have:=h.pins;omega,?_,by have:=h.body;omega,digs_of (by have:=h.pins;omega) fun p hp=>by have:=pins_dig h.pinsB p hp;omega⟩
 have h0:=h.number
 by_cases h1:s.number=0
 · rw [h.prev0 h1];exact Nat.zero_le _
 · rw [h.prev1 (by omega)];omega
theorem checkI_tame {s:St} (h:checkI s=0):Tame s:=(checkI_right h).tame
def beN (b:List UInt8):Nat:=b.foldl (fun v x=>v * 256+x.toNat) 0
def i64N (n:Nat):Int:=IntKind.i64.wrap (n:Int)
def takeI (b:List UInt8):Option (Int×List UInt8):=if b.length < 8 then none else some (i64N (beN (b.take 8)),b.drop 8)
def takeT (b:List UInt8) (most:Int):Option (ByteArray×List UInt8) :=
 match takeI b with
 | none=>none
 | some (n,r)=>if n < 0∨most < n∨(r.length:Int) < n then none else some (strOf (r.take n.toNat),r.drop n.toNat)
def takeN:Nat→List UInt8→List Int×List UInt8
 | 0,b=>([],b)
 | n+1,b=>((i64N (beN (b.take 8))) :: (takeN n (b.drop 8)).1,(takeN n (b.drop 8)).2)
def takeL (b:List UInt8) (most:Int):Option (List Int×List UInt8) :=
 match takeI b with
 | none=>none
 | some (n,r)=>if n < 0∨most < n∨((r.length / 8:Nat):Int) < n then none else some (takeN n.toNat r)
def takeP (b:List UInt8):Option (PinD×List UInt8) :=
 match takeI b with
 | none=>none
 | some (a,r)=>
   match takeI r with
   | none=>none
   | some (h,r)=>
     match takeT r 32 with
     | none=>none
     | some (d,r)=>some ((a,h,d),r)
def takePs:Nat→List UInt8→Option (List PinD×List UInt8)
 | 0,b=>some ([],b)
 | n+1,b=>
   match takePs n b with
   | none=>none
   | some (l,r)=>
     match takeP r with
     | none=>none
     | some (p,r)=>some (l ++ [p],r)
end Go.Proofs.YtflhidfclfkjlaaGreat

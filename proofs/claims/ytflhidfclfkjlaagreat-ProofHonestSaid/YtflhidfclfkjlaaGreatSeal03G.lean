/- ref03.Digest, Sealed, Seal: contracts, no statement of the seat. -/
import Derived.Test.YtflhidfclfkjlaaGreatMg07
import Derived.Test.YtflhidfclfkjlaaGreatMg00
import Derived.Great.BuildSlice
namespace Go.Proofs.YtflhidfclfkjlaaGreat
open Go.RowKit Go.Sort
theorem stB_len {s:St} (h:Tame s): (stB s).length≤3000000:=by
 have h1:=stB3_len h s.pins.length
 have h2:=h.body
 rw [stB_eq,List.length_append,List.length_append,int8_len,strL_len]
 omega
set_option maxHeartbeats 4000000 in
set_option maxRecDepth 100000 in
theorem digest03_any {P:Nat→Prop} (s:St) (lo po:Option Addr) (ln lc pn pc:Nat) (w:World) (hs:Lies P w (s,⟨lo,ln,lc⟩,⟨po,pn,pc⟩)) (ht:Tame s) :
 Calls Tryz.prog 53 #[.agg #[.int .i64 s.author,.int .i64 s.number,.string s.prev,.int .i64 s.time,.int .i64 s.kind,.int .i64 s.a,.int .i64 s.b,.int .i64 s.c,.slice lo ln lc,.slice po pn pc,.string s.body,.int .i64 s.key,.string s.dig]] w fun e w'=>e=.returned (.string (sha (stB s)))∧Ex w.heap.size none w w':=by
 have HT:=Lib.hid ht
 have HLS:=Lib.hid hs
 clear hs ht
 go_enter Tryz.func53,Tryz.ntmps53
 go_wp2_with (first
  | (go_at_call 86;refine(bytes03_any s lo po ln lc pn pc _ (HLS.out.keep fun b _ hb=>(Ex.new w _).block b hb (by simp)) HT.out).mono ?_;rintro e w1 ⟨v1,rfl,hv1,hex1⟩;have HV1:=Lib.hid hv1;have HE1:=Lib.hid hex1;clear hv1 hex1)
  | (go_at_call 85;refine(sum01_any v1 (stB s) _ HV1.out.sl (by have:=stB_len HT.out;omega)).mono ?_;rintro e w2 ⟨rfl,hex2⟩))
 go_ret
 exact⟨rfl,((Ex.new w _).trans HE1.out (by simp) (by simp)).trans hex2 (by have:=HE1.out.size;simp at this;omega) (by simp)⟩
theorem Ex.setRow {B:Nat} {p:Option Nat} {a w:World} (h:Ex B p a w) (g:Nat) (cs:Array Value) (hp:p=some g∨B≤g):Ex B p a (w.setRow g cs) :=
 ⟨h.os,h.tape,h.output,by simpa using h.size,fun k hk hne=>(setRow_other _ _ _ _ (by
   rcases hp with hp | hp
   · intro e;exact hne (by rw [hp,e])
   · omega)).trans (h.block k hk hne)⟩
theorem Tryz.sizeSt: (Tryz.prog.info? 51).map (·.size)=some 13:=by kernel_rfl
def sealedB (s:St):Bool:=decide (s.key=s.author) && decide (s.dig=sha (stB s))
theorem toListB (a b:ByteArray): (a.toList == b.toList)=decide (a=b):=by
 by_cases h:a=b
 · rw [(bytes_beq h).2,decide_eq_true h]
 · rw [(bytes_nbeq h).2,decide_eq_false h]
set_option maxHeartbeats 4000000 in
set_option maxRecDepth 100000 in
theorem sealed03_any {P:Nat→Prop} (s:St) (lo po:Option Addr) (ln lc pn pc:Nat) (w:World) (hs:Lies P w (s,⟨lo,ln,lc⟩,⟨po,pn,pc⟩)) (ht:Tame s) :
 Calls Tryz.prog 54 #[.agg #[.int .i64 s.author,.int .i64 s.number,.string s.prev,.int .i64 s.time,.int .i64 s.kind,.int .i64 s.a,.int .i64 s.b,.int .i64 s.c,.slice lo ln lc,.slice po pn pc,.string s.body,.int .i64 s.key,.string s.dig]] w fun e w'=>e=.returned (.bool (sealedB s))∧Ex w.heap.size none w w':=by
 have HT:=Lib.hid ht
 have HLS:=Lib.hid hs
 clear hs ht
 obtain⟨w0,hw0⟩:∃w0:World,w0=w.alloc (.cells #[.int .i64 s.author,.int .i64 s.number,.string s.prev,.int .i64 s.time,.int .i64 s.kind,.int .i64 s.a,.int .i64 s.b,.int .i64 s.c,.slice lo ln lc,.slice po pn pc,.string s.body,.int .i64 s.key,.string s.dig] 51):=⟨_,rfl⟩
 have hz0:w.heap.size < w0.heap.size:=by rw [hw0];simp
 have HE0:Hid (Ex w.heap.size none w w0):=by rw [hw0];exact Ex.new w _
 have hq:=fun p0:ExW w0=>(st_block ((p0.ex.block w.heap.size hz0 (by simp)).trans (by rw [hw0];exact heap_alloc_new w _))).1
 have HD:Hid (∀p0:ExW w0,Calls Tryz.prog 53 #[.agg #[.int .i64 s.author,.int .i64 s.number,.string s.prev,.int .i64 s.time,.int .i64 s.kind,.int .i64 s.a,.int .i64 s.b,.int .i64 s.c,.slice lo ln lc,.slice po pn pc,.string s.body,.int .i64 s.key,.string s.dig]] p0.w' fun e w'=>e=.returned (.string (sha (stB s)))∧Ex p0.w'.heap.size none p0.w' w'):=fun p0=>digest03_any s lo po ln lc pn pc _ (HLS.out.keep fun b _ hb=>(HE0.out.trans p0.ex (by omega) (by simp)).block b hb (by simp)) HT.out
 have HQ:=Lib.hid hq
 clear hq
 by_cases hk:s.key=s.author
 · have hkd: (s.key == s.author)=true:=by simpa using hk
   have HR:Hid (sealedB s= (s.dig.toList == (sha (stB s)).toList)):=Lib.hid (by simp [sealedB,hk,toListB])
   have HK:=Lib.hid hk
   clear hk
   go_enter Tryz.func54,Tryz.ntmps54
   go_upto_region 1 with(fail)
   rw [←hw0]
   clear hw0
   have hq:=HQ.out
   refine wp_region_quiet_ex (by kernel_rfl) (by kernel_rfl) ?_
   repeat(go_big_quiet_step ((go_at_call 53;refine calls_ex_of (HD.out _))))
   refine wpQuiet_nil ?_
   intro _ hw'
   obtain⟨p9,hw''⟩:=hw'
   subst hw''
   clear hq
   go_wp2
   go_ret
   exact⟨by rw [HR.out];rfl,HE0.out.trans p9.ex (by omega) (by simp)⟩
 · have hkd: (s.key == s.author)=false:=by simpa using hk
   have HR:Hid (sealedB s=false):=Lib.hid (by simp [sealedB,hk])
   clear hk
   go_enter Tryz.func54,Tryz.ntmps54
   go_upto_region 1 with(fail)
   rw [←hw0]
   clear hw0
   have hq:=HQ.out
   refine wp_region_quiet_ex (by kernel_rfl) (by kernel_rfl) ?_
   repeat(go_big_quiet_step (fail))
   refine wpQuiet_nil ?_
   intro _ hw'
   obtain⟨p9,hw''⟩:=hw'
   subst hw''
   clear hq
   go_wp2
   go_ret
   exact⟨by rw [HR.out];rfl,HE0.out.trans p9.ex (by omega) (by simp)⟩
def sealS (s:St):St:={ s with key:=s.author,dig:=sha (stB s) }
theorem sealS_sealed (s:St):sealedB (sealS s)=true:=by simp [sealedB,sealS,show stB { s with key:=s.author,dig:=sha (stB s) }=stB s from rfl]
set_option maxHeartbeats 8000000 in
set_option maxRecDepth 100000 in
theorem seal03_any {P:Nat→Prop} (s:St) (lo po:Option Addr) (ln lc pn pc:Nat) (w:World) (hs:Lies P w (s,⟨lo,ln,lc⟩,⟨po,pn,pc⟩)) (ht:Tame s) :
 Calls Tryz.prog 34 #[.agg #[.int .i64 s.author,.int .i64 s.number,.string s.prev,.int .i64 s.time,.int .i64 s.kind,.int .i64 s.a,.int .i64 s.b,.int .i64 s.c,.slice lo ln lc,.slice po pn pc,.string s.body,.int .i64 s.key,.string s.dig]] w fun e w'=>∃(la:Option Addr) (na ca:Nat) (pa:Option Addr) (np cp:Nat),e=.returned (.agg #[.int .i64 s.author,.int .i64 s.number,.string s.prev,.int .i64 s.time,.int .i64 s.kind,.int .i64 s.a,.int .i64 s.b,.int .i64 s.c,.slice la na ca,.slice pa np cp,.string s.body,.int .i64 s.author,.string (sha (stB s))])∧Lies (fun b=>w.heap.size≤b) w' (sealS s,⟨la,na,ca⟩,⟨pa,np,cp⟩)∧Ex w.heap.size none w w':=by
 have HT:=Lib.hid ht
 have HLS:=Lib.hid hs
 clear hs ht
 obtain⟨w0,hw0⟩:∃w0:World,w0= (w.alloc (.cells #[.int .i64 s.author,.int .i64 s.number,.string s.prev,.int .i64 s.time,.int .i64 s.kind,.int .i64 s.a,.int .i64 s.b,.int .i64 s.c,.slice lo ln lc,.slice po pn pc,.string s.body,.int .i64 s.key,.string s.dig] 51)).alloc (.cells #[.int .i64 0,.int .i64 0,.string ⟨#[]⟩,.int .i64 0,.int .i64 0,.int .i64 0,.int .i64 0,.int .i64 0,.slice none 0 0,.slice none 0 0,.string ⟨#[]⟩,.int .i64 0,.string ⟨#[]⟩] 51):=⟨_,rfl⟩
 have hz0:w0.heap.size=w.heap.size+2:=by rw [hw0];simp
 have HE0:Hid (Ex w.heap.size none w w0):=by rw [hw0];exact ex_two0 _ _
 have HB0:Hid (w0.heap[w.heap.size]? =some (.cells #[.int .i64 s.author,.int .i64 s.number,.string s.prev,.int .i64 s.time,.int .i64 s.kind,.int .i64 s.a,.int .i64 s.b,.int .i64 s.c,.slice lo ln lc,.slice po pn pc,.string s.body,.int .i64 s.key,.string s.dig] 51 (0,0))∧w0.heap[w.heap.size+1]? =some (.cells #[.int .i64 0,.int .i64 0,.string ⟨#[]⟩,.int .i64 0,.int .i64 0,.int .i64 0,.int .i64 0,.int .i64 0,.slice none 0 0,.slice none 0 0,.string ⟨#[]⟩,.int .i64 0,.string ⟨#[]⟩] 51 (0,0))):=Lib.hid (by
  rw [hw0]
  exact⟨((Ex.new _ _).block w.heap.size (by simp) (by simp)).trans (heap_alloc_new w _),by have:=heap_alloc_new (w.alloc (.cells #[.int .i64 s.author,.int .i64 s.number,.string s.prev,.int .i64 s.time,.int .i64 s.kind,.int .i64 s.a,.int .i64 s.b,.int .i64 s.c,.slice lo ln lc,.slice po pn pc,.string s.body,.int .i64 s.key,.string s.dig] 51)) (.cells #[.int .i64 0,.int .i64 0,.string ⟨#[]⟩,.int .i64 0,.int .i64 0,.int .i64 0,.int .i64 0,.int .i64 0,.slice none 0 0,.slice none 0 0,.string ⟨#[]⟩,.int .i64 0,.string ⟨#[]⟩] 51);simpa using this⟩)
 go_enter Tryz.func34,Tryz.ntmps34
 go_upto_region 1 with(fail)
 rw [←hw0]
 clear hw0
 obtain⟨⟨d0,d1,d2,d3,d4,d5,d6,d7,d8,d9,d10,d11,d12⟩,fz⟩:=st_block HB0.out.1
 go_wp2_with (first
  | (go_at_call 52
     refine(copy03_lit s lo po ln lc pn pc _ (HLS.out.keep fun b _ hb=>HE0.out.block b hb (by simp)) ⟨by have:=HT.out.list;omega,by have:=HT.out.pins;omega⟩).mono ?_
     rintro e w1 ⟨la,na,ca,pa,np,cp,rfl,hl1,hex1⟩
     have H1:Hid (Lies (fun b=>w0.heap.size≤b) w1 (s,⟨la,na,ca⟩,⟨pa,np,cp⟩)∧Ex w0.heap.size none w0 w1):=Lib.hid ⟨hl1,hex1⟩
     have HB1:Hid (w1.heap[w.heap.size]? =some (.cells #[.int .i64 s.author,.int .i64 s.number,.string s.prev,.int .i64 s.time,.int .i64 s.kind,.int .i64 s.a,.int .i64 s.b,.int .i64 s.c,.slice lo ln lc,.slice po pn pc,.string s.body,.int .i64 s.key,.string s.dig] 51 (0,0))∧w1.heap[w.heap.size+1]? =some (.cells #[.int .i64 0,.int .i64 0,.string ⟨#[]⟩,.int .i64 0,.int .i64 0,.int .i64 0,.int .i64 0,.int .i64 0,.slice none 0 0,.slice none 0 0,.string ⟨#[]⟩,.int .i64 0,.string ⟨#[]⟩] 51 (0,0))):=Lib.hid ⟨(hex1.block _ (by omega) (by simp)).trans HB0.out.1,(hex1.block _ (by omega) (by simp)).trans HB0.out.2⟩
     clear hl1 hex1 d0 d1 d2 d3 d4 d5 d6 d7 d8 d9 d10 d11 d12 fz)
  | (refine wpList_store_rowTo rfl 51 (.tmp 1) (.tmp 4) rfl rfl w.heap.size #[.int .i64 s.author,.int .i64 s.number,.string s.prev,.int .i64 s.time,.int .i64 s.kind,.int .i64 s.a,.int .i64 s.b,.int .i64 s.c,.slice la na ca,.slice pa np cp,.string s.body,.int .i64 s.key,.string (s.dig)] (by rfl) (by rfl) 51 #[.int .i64 s.author,.int .i64 s.number,.string s.prev,.int .i64 s.time,.int .i64 s.kind,.int .i64 s.a,.int .i64 s.b,.int .i64 s.c,.slice lo ln lc,.slice po pn pc,.string s.body,.int .i64 s.key,.string s.dig] HB1.out.1 Tryz.sizeSt rfl (by simp [Value.oneCell']) ?_))
 have hz1:w.heap.size+2≤w1.heap.size:=by have:=H1.out.2.size;omega
 obtain⟨w2,hw2⟩:∃w2:World,w2=w1.setRow w.heap.size #[.int .i64 s.author,.int .i64 s.number,.string s.prev,.int .i64 s.time,.int .i64 s.kind,.int .i64 s.a,.int .i64 s.b,.int .i64 s.c,.slice la na ca,.slice pa np cp,.string s.body,.int .i64 s.key,.string (s.dig)]:=⟨_,rfl⟩
 have HB2:Hid (w2.heap[w.heap.size]? =some (.cells #[.int .i64 s.author,.int .i64 s.number,.string s.prev,.int .i64 s.time,.int .i64 s.kind,.int .i64 s.a,.int .i64 s.b,.int .i64 s.c,.slice la na ca,.slice pa np cp,.string s.body,.int .i64 s.key,.string (s.dig)] 51 (0,0))∧w2.heap[w.heap.size+1]? =some (.cells #[.int .i64 0,.int .i64 0,.string ⟨#[]⟩,.int .i64 0,.int .i64 0,.int .i64 0,.int .i64 0,.int .i64 0,.slice none 0 0,.slice none 0 0,.string ⟨#[]⟩,.int .i64 0,.string ⟨#[]⟩] 51 (0,0))):=Lib.hid (by
  rw [hw2]
  exact⟨setRow_heap _ _ _ _ _ _ HB1.out.1,(setRow_other _ _ _ _ (by omega)).trans HB1.out.2⟩)
 have HE2:Hid (Ex w.heap.size none w w2):=Lib.hid (by
  rw [hw2]
  exact(HE0.out.trans H1.out.2 (by omega) (by simp)).setRow _ _ (.inr (Nat.le_refl _)))
 have HL2:Hid (Lies (fun b=>w0.heap.size≤b) w2 (s,⟨la,na,ca⟩,⟨pa,np,cp⟩)):=Lib.hid (by
  rw [hw2]
  exact H1.out.1.keep fun b h1 _=>setRow_other _ _ _ _ (by omega))
 have hz2:w2.heap.size=w1.heap.size:=by rw [hw2];simp
 rw [←hw2]
 clear hw2 H1 HB1
 obtain⟨⟨d0,d1,d2,d3,d4,d5,d6,d7,d8,d9,d10,d11,d12⟩,fz⟩:=st_block HB2.out.1
 go_region_with
  (first
    | (go_at_call 53
       (refine(digest03_any s la pa na ca np cp w2.drew (HL2.out.keep (w':=w2.drew) fun _ _ _=>rfl) HT.out).mono ?_)
       rintro e w3 ⟨rfl,hex3⟩
       (have HE3:Hid (Ex w2.heap.size none w2 w3):=Lib.hid ((Ex.refl _ _ w2).drew.trans hex3 (Nat.le_refl _) (by simp)))
       have hb3:w3.heap[w.heap.size]? =some (.cells #[.int .i64 s.author,.int .i64 s.number,.string s.prev,.int .i64 s.time,.int .i64 s.kind,.int .i64 s.a,.int .i64 s.b,.int .i64 s.c,.slice la na ca,.slice pa np cp,.string s.body,.int .i64 s.key,.string (s.dig)] 51 (0,0)):=(HE3.out.block _ (by omega) (by simp)).trans HB2.out.1
       clear hex3
       obtain⟨⟨g0,g1,g2,g3,g4,g5,g6,g7,g8,g9,g10,g11,g12⟩,gz⟩:=st_block hb3
       clear hb3)
    | fail)
 all_goals (
  obtain⟨w4,hw4⟩:∃w4:World,w4= ((w3.setCell ⟨w.heap.size,11,none⟩ (.int .i64 s.author)).setCell ⟨w.heap.size,12,none⟩ (.string (sha (stB s)))):=⟨_,rfl⟩
  have HB4:Hid (w4.heap[w.heap.size]? =some (.cells #[.int .i64 s.author,.int .i64 s.number,.string s.prev,.int .i64 s.time,.int .i64 s.kind,.int .i64 s.a,.int .i64 s.b,.int .i64 s.c,.slice la na ca,.slice pa np cp,.string s.body,.int .i64 s.author,.string (sha (stB s))] 51 (0,0))∧w4.heap[w.heap.size+1]? =some (.cells #[.int .i64 0,.int .i64 0,.string ⟨#[]⟩,.int .i64 0,.int .i64 0,.int .i64 0,.int .i64 0,.int .i64 0,.slice none 0 0,.slice none 0 0,.string ⟨#[]⟩,.int .i64 0,.string ⟨#[]⟩] 51 (0,0))):=Lib.hid (by
   rw [hw4]
   refine⟨?_,?_⟩
   · rw [heap_setCell_same _ _ _ _ _ _ (heap_setCell_same _ _ _ _ _ _ ((HE3.out.block _ (by omega) (by simp)).trans HB2.out.1))];rfl
   · iterate 2 refine set_far (by omega) ?_
     exact(HE3.out.block _ (by omega) (by simp)).trans HB2.out.2)
  have HE4:Hid (Ex w.heap.size none w w4):=Lib.hid (by
   rw [hw4]
   iterate 2 refine Ex.setCell ?_ _ none _ (Or.inr (Nat.le_refl _))
   exact HE2.out.trans HE3.out (by omega) (by simp))
  have HL4:Hid (Lies (fun b=>w0.heap.size≤b) w4 (sealS s,⟨la,na,ca⟩,⟨pa,np,cp⟩)):=Lib.hid (by
   rw [hw4]
   have h3:Lies (fun b=>w0.heap.size≤b) w3 (s,⟨la,na,ca⟩,⟨pa,np,cp⟩):=HL2.out.keep fun b _ hb=>HE3.out.block b hb (by simp)
   exact Lies.keep (w:=w3) h3 fun b h1 _=>by
    iterate 2 refine set_far (by omega) ?_
    rfl)
  rw [←hw4]
  clear hw4 HL2 HB2 g0 g1 g2 g3 g4 g5 g6 g7 g8 g9 g10 g11 g12 gz d0 d1 d2 d3 d4 d5 d6 d7 d8 d9 d10 d11 d12 fz
  obtain⟨⟨d0,d1,d2,d3,d4,d5,d6,d7,d8,d9,d10,d11,d12⟩,fz⟩:=st_block (s:=sealS s) HB4.out.1
  go_wp2_with (first
   | (refine wpList_store_rowTo rfl 51 (.tmp 2) (.tmp 11) rfl rfl (w.heap.size+1) #[.int .i64 s.author,.int .i64 s.number,.string s.prev,.int .i64 s.time,.int .i64 s.kind,.int .i64 s.a,.int .i64 s.b,.int .i64 s.c,.slice la na ca,.slice pa np cp,.string s.body,.int .i64 s.author,.string (sha (stB s))] (by rfl) (by rfl) 51 #[.int .i64 0,.int .i64 0,.string ⟨#[]⟩,.int .i64 0,.int .i64 0,.int .i64 0,.int .i64 0,.int .i64 0,.slice none 0 0,.slice none 0 0,.string ⟨#[]⟩,.int .i64 0,.string ⟨#[]⟩] HB4.out.2 Tryz.sizeSt rfl (by simp [Value.oneCell']) ?_))
  obtain⟨w5,hw5⟩:∃w5:World,w5=w4.setRow (w.heap.size+1) #[.int .i64 s.author,.int .i64 s.number,.string s.prev,.int .i64 s.time,.int .i64 s.kind,.int .i64 s.a,.int .i64 s.b,.int .i64 s.c,.slice la na ca,.slice pa np cp,.string s.body,.int .i64 s.author,.string (sha (stB s))]:=⟨_,rfl⟩
  have HE5:Hid (Ex w.heap.size none w w5):=Lib.hid (by
   rw [hw5]
   exact HE4.out.setRow _ _ (.inr (by omega)))
  have HL5:Hid (Lies (fun b=>w0.heap.size≤b) w5 (sealS s,⟨la,na,ca⟩,⟨pa,np,cp⟩)):=Lib.hid (by
   rw [hw5]
   exact HL4.out.keep fun b h1 _=>setRow_other _ _ _ _ (by omega))
  have hb5:w5.heap[w.heap.size+1]? =some (.cells #[.int .i64 s.author,.int .i64 s.number,.string s.prev,.int .i64 s.time,.int .i64 s.kind,.int .i64 s.a,.int .i64 s.b,.int .i64 s.c,.slice la na ca,.slice pa np cp,.string s.body,.int .i64 s.author,.string (sha (stB s))] 51 (0,0)):=by rw [hw5];exact setRow_heap _ _ _ _ _ _ HB4.out.2
  rw [←hw5]
  clear hw5 HB4 HL4 d0 d1 d2 d3 d4 d5 d6 d7 d8 d9 d10 d11 d12 fz
  obtain⟨⟨d0,d1,d2,d3,d4,d5,d6,d7,d8,d9,d10,d11,d12⟩,fz⟩:=st_block (s:=sealS s) hb5
  refine bodyPost_ret (v:=.agg #[.int .i64 s.author,.int .i64 s.number,.string s.prev,.int .i64 s.time,.int .i64 s.kind,.int .i64 s.a,.int .i64 s.b,.int .i64 s.c,.slice la na ca,.slice pa np cp,.string s.body,.int .i64 s.author,.string (sha (stB s))]) (by simp [results,Tryz.results34,go_sem,d0,d1,d2,d3,d4,d5,d6,d7,d8,d9,d10,d11,d12,sealS]) rfl ?_
  exact⟨la,na,ca,pa,np,cp,rfl,HL5.out.mono fun b h _=>by omega,HE5.out⟩)
end Go.Proofs.YtflhidfclfkjlaaGreat

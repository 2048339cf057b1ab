/- ProofHonest: the walk. No statement of the seat. -/
import Derived.Test.YtflhidfclfkjlaaGreatHonestFnsG
import Derived.Deep.RegionHeld3
import Derived.Deep.Cut
import Derived.BigQuiet
namespace Go.Proofs.YtflhidfclfkjlaaGreat
open Go.RowKit Go.Sort
attribute [local go_sem ↓] rowLoad_stv rowStore_stv rowLoad_peer2 rowStore_peer2 rowLoad_dr rowStore_dr rowLoad_ca rowStore_ca rowBuild_ca rowBuild_st1
attribute [local go_sem ↓ high] eql_Cs
set_option maxHeartbeats 64000000 in
set_option maxRecDepth 100000 in
theorem proofHonest_walk (v:Value) (L:List Int) (w:World) (hv:Ints w v L) (hm0:L.length≤9223372036854775807) :
 Calls Tryz.prog 3 #[v] w fun e w'=>e=.returned (.bool true)∧Below w.heap.size w w':=by
 obtain⟨ao,cap,rfl,hx⟩:=hv
 have HX:=Lib.hid hx
 clear hx
 by_cases hm:L.length≤400
 · have hmI: (L.length:Int)≤400:=by omega
   go_enter Tryz.func3,Tryz.ntmps3
   go_upto_region 4 with(first
    | (go_at_call 4;refine(light_any _ _ _ _).mono ?_;rintro e w' ⟨rfl,rfl⟩)
    | (go_at_call 6
       refine(roll_any (.slice ao L.length cap) L w ⟨ao,cap,rfl,HX.out⟩ (by omega)).mono ?_
       rintro e w1 ⟨p,rfl,hd,hp1,hp2,hex⟩
       have HD1:Hid (DiceOK (p+1) w1 p):=Lib.hid ⟨_,hd⟩
       have HE1:Hid (Ex w.heap.size none w w1):=Lib.hid hex
       clear hd hex)
    | fail)
   have hpw:=hp1
   obtain⟨B,hB⟩:∃B,B=w1.heap.size+1:=⟨_,rfl⟩
   have hNg:p+1≤w1.heap.size:=hp2
   have hpg:p < w1.heap.size:=by omega
   have hgB:w1.heap.size < B:=by omega
   have hNB:p+1≤B:=by omega
   have hpB:p < B:=by omega
   have np:=peer_new2 w1 1 none 0 0
   go_upto_region 5 with(fail)
   obtain⟨w2,hw2⟩:∃w2:World,w2=w1.alloc (.cells #[.int .i64 1,.slice none 0 0] 31):=⟨_,rfl⟩
   have HIw2:Hid (HonI (p+1) p w1.heap.size B 0 0 0 0 0 none none [] [] w2):=Lib.hid (by
    rw [hw2]
    exact⟨rfl,rfl,Nat.le_refl _,OwnE.nil _ _ _ _ _,OwnS.nil _ _,fun r hr=>(by cases hr),HonL.nil _,heap_alloc_new _ _,HD1.out.keep (Ex.new w1 _) hNg,by rw [hB];simp⟩)
   have HEw2:Hid (Ex w.heap.size none w w2):=Lib.hid (by rw [hw2];exact HE1.out.allocX _)
   refine wp_world (fun W=>W=w2) (by rw [hw2]) (fun W hW=>?_)
   rw [hW]
   clear hW W hw2 np hB
   go_upto_region 7 with(fail)
   go_loopw [5,6] (fun v i wr=>∃(ii k n vc sc:Nat) (vo so:Option Addr) (V:List CaD) (l:List St),i=.int .i64 ii∧v=.slice vo k vc∧ii≤12∧k≤ii∧Hid (HonI (p+1) p w1.heap.size B ii k n vc sc vo so V l wr)∧Hid (Ex w.heap.size none w wr)) (fun _ i _=>12 - (intOf i).toNat)
   case atStart=>exact⟨0,0,0,0,0,none,none,[],[],rfl,rfl,by omega,by omega,HIw2,HEw2⟩
   case round=>
    rename World=>wo
    obtain⟨i,k,n,vc,sc,vo,so,V,l,rfl,rfl,hi12,hki,HIwo,HEwo⟩:=hrel
    have HFwo:Hid (Ex wo.heap.size (some p) wo wo):=Lib.hid (Ex.refl _ _ _)
    by_cases hilt:i < 12
    · have hiltI: (i:Int) < 12:=by omega
      go_upto_region 10 with(first
       | (go_at_call 7
          refine(draftM_w (p+1) p 1 ((i:Nat):Int) wo HIwo.out.dice (by have:=HIwo.out.size;omega) (by omega) (by omega)).mono ?_
          rintro e w3 ⟨⟨y,rfl,hy1,hy2,hy3,hy4⟩,hdw3,hxw3⟩
          have HIw3:Hid (HonI (p+1) p w1.heap.size B i k n vc sc vo so V l w3):=Lib.hid (HIwo.out.keep hxw3 hdw3 hpg hgB)
          have HY:Hid (FreshD V l y.1∧DrOK y.1):=Lib.hid ⟨.inl hy1,by omega,by rw [hy3];exact Nat.zero_le _,by rw [hy3];exact Nat.zero_le _⟩
          have HYL:Hid (Lies (fun b=>p < b∧b≠w3.heap.size) w3 y):=Lib.hid (hy4.mono fun b hb hl=>⟨by have:=HIwo.out.size;omega,by omega⟩)
          have HEw3:Hid (Ex w.heap.size none w w3):=Lib.hid (HEwo.out.trans hxw3 (by have:=HEwo.out.size;omega) (fun q e h=>by cases e;omega))
          have HFw3:Hid (Ex wo.heap.size (some p) wo w3):=Lib.hid (HFwo.out.trans hxw3 (by have:=HFwo.out.size;omega) (fun q e _=>e))
          have hzw3:wo.heap.size≤w3.heap.size:=hxw3.size
          have nd:=drV_new w3 #[.int .i64 0,.int .i64 0,.int .i64 0,.int .i64 0,.slice none 0 0,.slice none 0 0] y rfl
          clear hy1 hy2 hy3 hy4 hdw3 hxw3)
       | fail)
      obtain⟨w4,hww4⟩:∃w4:World,w4=w3.alloc (.cells (drE y).toArray 35):=⟨_,rfl⟩
      have hnw4:Ex w3.heap.size none w3 w4:=by rw [hww4];exact Ex.new _ _
      have HIw4:Hid (HonI (p+1) p w1.heap.size B i k n vc sc vo so V l w4):=Lib.hid (HIw3.out.keep0 hnw4 hNB hgB)
      have HEw4:Hid (Ex w.heap.size none w w4):=Lib.hid (HEw3.out.thenW hnw4)
      have HFw4:Hid (Ex wo.heap.size (some p) wo w4):=Lib.hid (HFw3.out.trans hnw4 (by have:=HFw3.out.size;omega) (by simp))
      have hzw4:w3.heap.size≤w4.heap.size:=hnw4.size
      obtain⟨gx,hgx⟩:∃gx,gx=w3.heap.size:=⟨_,rfl⟩
      have HDw4:Hid (w4.heap[gx]? =some (.cells (drE y).toArray 35 (0,0))∧gx < w4.heap.size∧B≤gx∧Lies (fun b=>p < b∧b≠gx) w4 y):=Lib.hid (by
       rw [hgx]
       exact⟨by rw [hww4];exact heap_alloc_new _ _,by rw [hww4];simp,HIw3.out.size,HYL.out.keep fun b _ hl=>hnw4.block b hl (by simp)⟩)
      have HVO:Hid (∀r,rowOf vo=some r→r < gx):=Lib.hid (fun r hr=>by have:=HIwo.out.next0 r hr;omega)
      have hwx:wo.heap.size≤gx:=by omega
      refine wp_world (fun W=>W=w4) (by rw [hww4]) (fun W hW=>?_)
      rw [hW]
      clear hW W hww4
      rw [←hgx]
      clear nd hnw4 hgx
      go_upto_region 11 with(first
       | (go_at_call 9
          refine(next_w (p+1) p 3 w4 HIw4.out.dice (by omega) (by omega)).mono ?_
          rintro e w5 ⟨k3,rfl,hvk3,hdw5,hxw5⟩
          have HIw5:Hid (HonI (p+1) p w1.heap.size B i k n vc sc vo so V l w5):=Lib.hid (HIw4.out.keep hxw5 hdw5 hpg hgB)
          have HEw5:Hid (Ex w.heap.size none w w5):=Lib.hid (HEw4.out.trans hxw5 (by have:=HEw4.out.size;omega) (fun q e h=>by cases e;omega))
          have HFw5:Hid (Ex wo.heap.size (some p) wo w5):=Lib.hid (HFw4.out.trans hxw5 (by have:=HFw4.out.size;omega) (fun q e _=>e))
          have hzw5:w4.heap.size≤w5.heap.size:=hxw5.size
          have HX45:=Lib.hid hxw5
          clear hdw5 hxw5)
       | (go_at_call 8
          refine(caseM_w (p+1) p ((k3:Nat):Int) w5 HIw5.out.dice (by have:=HIw5.out.size;omega)).mono ?_
          rintro e w6 ⟨⟨c,rfl,hcv⟩,hdw6,hxw6⟩
          have HIw6:Hid (HonI (p+1) p w1.heap.size B i k n vc sc vo so V l w6):=Lib.hid (HIw5.out.keep hxw6 hdw6 hpg hgB)
          have HEw6:Hid (Ex w.heap.size none w w6):=Lib.hid (HEw5.out.trans hxw6 (by have:=HEw5.out.size;omega) (fun q e h=>by cases e;omega))
          have HFw6:Hid (Ex wo.heap.size (some p) wo w6):=Lib.hid (HFw5.out.trans hxw6 (by have:=HFw5.out.size;omega) (fun q e _=>e))
          have hzw6:w5.heap.size≤w6.heap.size:=hxw6.size
          have HCV:Hid (validC c.1 c.2.1 c.2.2.1 c.2.2.2=true):=Lib.hid (hcv.valid (by omega) (by omega))
          have HX56:=Lib.hid hxw6
          have nc:=caV_new w6 #[.int .i64 0,.int .i64 0,.int .i64 0,.int .i64 0] c rfl
          clear hcv hdw6 hxw6)
       | fail)
      obtain⟨w7,hww7⟩:∃w7:World,w7=w6.alloc (.cells (caE c).toArray 38):=⟨_,rfl⟩
      have hnw7:Ex w6.heap.size none w6 w7:=by rw [hww7];exact Ex.new _ _
      have HIw7:Hid (HonI (p+1) p w1.heap.size B i k n vc sc vo so V l w7):=Lib.hid (HIw6.out.keep0 hnw7 hNB hgB)
      have HEw7:Hid (Ex w.heap.size none w w7):=Lib.hid (HEw6.out.thenW hnw7)
      have HFw7:Hid (Ex wo.heap.size (some p) wo w7):=Lib.hid (HFw6.out.trans hnw7 (by have:=HFw6.out.size;omega) (by simp))
      have hzw7:w6.heap.size≤w7.heap.size:=hnw7.size
      obtain⟨gc,hgc⟩:∃gc,gc=w6.heap.size:=⟨_,rfl⟩
      have HXw7:Hid (HonX p B gx gc y c w7):=Lib.hid (by
       have h4:=HDw4.out
       have k5:w5.heap[gx]? =some (.cells (drE y).toArray 35 (0,0)):=(HX45.out.block gx h4.2.1 (by have:=h4.2.2.1;simp;omega)).trans h4.1
       have k6:w6.heap[gx]? =some (.cells (drE y).toArray 35 (0,0)):=(HX56.out.block gx (by omega) (by have:=h4.2.2.1;simp;omega)).trans k5
       have l5:=h4.2.2.2.keep fun b hb hl=>HX45.out.block b hl (by have:=hb.1;simp;omega)
       have l6:=l5.keep fun b hb hl=>HX56.out.block b hl (by have:=hb.1;simp;omega)
       have hlt:gx < w6.heap.size:=by have:=h4.2.1;omega
       exact⟨h4.2.2.1,by omega,by rw [hgc,hww7];simp,(hnw7.block gx hlt (by simp)).trans k6,by rw [hgc,hww7];exact heap_alloc_new _ _,l6.keep fun b _ hl=>hnw7.block b hl (by simp)⟩)
      refine wp_world (fun W=>W=w7) (by rw [hww7]) (fun W hW=>?_)
      rw [hW]
      clear hW W hww7
      rw [←hgc]
      clear nc hnw7 hgc hvk3
      go_wp2_with (fail)
      go_at_call 10
      refine(one_w (p+1) p 2 w7 HIw7.out.dice (by omega) (by omega)).mono ?_
      rintro e w8 ⟨ob,rfl,hdw8,hxw8⟩
      have HIw8:Hid (HonI (p+1) p w1.heap.size B i k n vc sc vo so V l w8):=Lib.hid (HIw7.out.keep hxw8 hdw8 hpg hgB)
      have HXw8:Hid (HonX p B gx gc y c w8):=Lib.hid (HXw7.out.keep hxw8 hpB)
      have HEw8:Hid (Ex w.heap.size none w w8):=Lib.hid (HEw7.out.trans hxw8 (by have:=HEw7.out.size;omega) (fun q e h=>by cases e;omega))
      have HFw8:Hid (Ex wo.heap.size (some p) wo w8):=Lib.hid (HFw7.out.trans hxw8 (by have:=HFw7.out.size;omega) (fun q e _=>e))
      clear hdw8 hxw8
      cases ob with
      | false=>
        have FR:Hid (FreshD V l y.1):=Lib.hid HY.out.1
        have DO:Hid (DrOK y.1):=Lib.hid HY.out.2
        have lp:=peer_load2 HIw8.out.box rfl
        have ld:=drV_box HXw8.out.bx
        go_upto_region 21 with(first
         | (go_at_call 13
            refine(say36_w (P:=fun b=>B≤b) (P':=fun b=>p < b∧b≠gx) 1 so n sc l y ((i:Nat):Int) w8 (by omega) HIw8.out.llen (HIw8.out.row.sl.at'.mono (by decide) (fun b hb _=>hb)) (HIw8.out.hon.valid (by have:=HIw8.out.llen;have:=HIw8.out.ni;omega)) HIw8.out.hon.tame.light HIw8.out.hon.tame HXw8.out.lies ⟨DO.out.1,DO.out.2.1⟩ DO.out.2.2).mono ?_
            rintro e w9 ⟨⟨_,rfl,ro,kr,rc,q,cd,rfl,hc⟩,hx9⟩
            have HIw9:Hid (HonI (p+1) p w1.heap.size B i k n vc sc vo so V l w9):=Lib.hid (HIw8.out.keep0 hx9 hNB hgB)
            have HEw9:Hid (Ex w.heap.size none w w9):=Lib.hid (HEw8.out.thenW hx9)
            have HC9:=Lib.hid hc
            have hB9:w8.heap.size≤w9.heap.size:=hx9.size
            have b1:=heap_alloc2_old w9 (.cells #[.int .i64 0,.slice none 0 0] 31) (.cells #[.int .i64 0,.int .i64 0,.string ⟨#[]⟩,.int .i64 0,.int .i64 0,.int .i64 0,.int .i64 0,.int .i64 0,.slice none 0 0,.slice none 0 0,.string ⟨#[]⟩,.int .i64 0,.string ⟨#[]⟩] 51)
            have b2:=heap_alloc2_new w9 (.cells #[.int .i64 0,.slice none 0 0] 31) (.cells #[.int .i64 0,.int .i64 0,.string ⟨#[]⟩,.int .i64 0,.int .i64 0,.int .i64 0,.int .i64 0,.int .i64 0,.slice none 0 0,.slice none 0 0,.string ⟨#[]⟩,.int .i64 0,.string ⟨#[]⟩] 51)
            have hs1:=peer_store2 b1 rfl 1 ro kr rc
            have hs2: (rowStore 51 ⟨w9.heap.size+1,0,none⟩ (stV q)).run Tryz.prog (((w9.alloc (.cells #[.int .i64 0,.slice none 0 0] 31)).alloc (.cells #[.int .i64 0,.int .i64 0,.string ⟨#[]⟩,.int .i64 0,.int .i64 0,.int .i64 0,.int .i64 0,.int .i64 0,.slice none 0 0,.slice none 0 0,.string ⟨#[]⟩,.int .i64 0,.string ⟨#[]⟩] 51)).setRow w9.heap.size #[.int .i64 1,.slice ro kr rc])=.ok () ((((w9.alloc (.cells #[.int .i64 0,.slice none 0 0] 31)).alloc (.cells #[.int .i64 0,.int .i64 0,.string ⟨#[]⟩,.int .i64 0,.int .i64 0,.int .i64 0,.int .i64 0,.int .i64 0,.slice none 0 0,.slice none 0 0,.string ⟨#[]⟩,.int .i64 0,.string ⟨#[]⟩] 51)).setRow w9.heap.size #[.int .i64 1,.slice ro kr rc]).setRow (w9.heap.size+1) (stE q).toArray):=run_rowStore (P:=Tryz.prog) _ (w9.heap.size+1) 51 51 _ (stV q).cells ((setRow_other _ _ _ _ (by omega)).trans b2) Tryz.sizeStv rfl (stV_one q)
            obtain⟨w10,hw10⟩:∃w10:World,w10= (((w9.alloc (.cells #[.int .i64 0,.slice none 0 0] 31)).alloc (.cells #[.int .i64 0,.int .i64 0,.string ⟨#[]⟩,.int .i64 0,.int .i64 0,.int .i64 0,.int .i64 0,.int .i64 0,.slice none 0 0,.slice none 0 0,.string ⟨#[]⟩,.int .i64 0,.string ⟨#[]⟩] 51)).setRow w9.heap.size #[.int .i64 1,.slice ro kr rc]).setRow (w9.heap.size+1) (stE q).toArray:=⟨_,rfl⟩
            have hx10:Ex w9.heap.size none w9 w10:=by rw [hw10];exact(((Ex.new w9 _).alloc (by simp) _).setRow _ _ (.inr (Nat.le_refl _))).setRow _ _ (.inr (by omega))
            have HB10:Hid (w10.heap[w9.heap.size]? =some (.cells #[.int .i64 1,.slice ro kr rc] 31 (0,0))):=Lib.hid (by rw [hw10];exact(setRow_other _ _ _ _ (by omega)).trans (setRow_heap _ _ _ _ _ _ b1))
            have HIw10:Hid (HonI (p+1) p w1.heap.size B i k n vc sc vo so V l w10):=Lib.hid (HIw9.out.keep0 hx10 hNB hgB)
            have HEw10:Hid (Ex w.heap.size none w w10):=Lib.hid (HEw9.out.thenW hx10)
            have HX10:=Lib.hid hx10
            rw [←hw10] at hs2
            clear hx9 hc b1 b2 hw10 hx10 lp ld)
         | fail)
        clear hs1 hs2
        by_cases hcd:cd=0
        · subst hcd
          obtain⟨l2,hl2,hq1,hq2,hq3,hq4,hq5,hq6⟩:=HC9.out rfl
          obtain⟨hp1,hp2⟩:=HIw9.out.hon.said FR.out hq1 hq2 hq3
          have hkr:kr=n+1:=by rw [←hq4,hl2,hp1,List.length_append,HIw9.out.llen];rfl
          have HL2:Hid (HonL V l2):=Lib.hid (by rw [hl2,hp1];exact hp2)
          have HO2:Hid (l2.length=kr∧OwnS w10 w8.heap.size ro rc l2):=Lib.hid ⟨hq4,hq6.keep HX10.out (Nat.le_refl _)⟩
          clear hl2 hq1 hq2 hq3 hq4 hq5 hq6 hp1 hp2
          have lq:=peer_load2 HB10.out rfl
          have hs3:=peer_store2 HIw10.out.box rfl 1 ro kr rc
          obtain⟨w11,hw11⟩:∃w11:World,w11=w10.setRow w1.heap.size #[.int .i64 1,.slice ro kr rc]:=⟨_,rfl⟩
          have HIw11:Hid (HonI (p+1) p w1.heap.size B (i+1) k kr vc rc vo ro V l2 w11):=Lib.hid (HIw10.out.put hNg hgB hw11 HO2.out.1 (by rw [hkr];have:=HIw10.out.ni;omega) HO2.out.2 HIw8.out.size HIw8.out.next0 HL2.out)
          have HEw11:Hid (Ex w.heap.size none w w11):=Lib.hid (by rw [hw11];exact HEw10.out.setRow _ _ (.inr (by omega)))
          rw [←hw11] at hs3
          clear hw11 hkr
          go_wp2
          go_roundw
          case rel=>exact⟨i+1,k,kr,vc,rc,vo,ro,V,l2,rfl,by go_num,by omega,by omega,HIw11,HEw11⟩
          case measure=>simp [intOf] <;> omega
        · have hcdd: (cd == 0)=false:=by simpa using hcd
          go_wp2
          go_roundw
          case rel=>exact⟨i+1,k,n,vc,sc,vo,so,V,l,rfl,by go_num,by omega,by omega,Lib.hid HIw10.out.next,HEw10⟩
          case measure=>simp [intOf] <;> omega
      | true=>
        go_upto_region 14 with(fail)
        go_loopw [9,10] (fun a j wr=>∃jj:Nat,jj≤k∧j=.int .i64 jj∧a=.bool (decide (c∈V.take jj))∧Ex w8.heap.size none w8 wr) (fun _ j _=>k - (intOf j).toNat)
        case atStart=>exact⟨0,Nat.zero_le _,rfl,by simp,Ex.refl _ _ _⟩
        case round=>
         obtain⟨jj,hjk,rfl,rfl,hexr⟩:=hrel
         have HEXR:=Lib.hid hexr
         have HIwr:Hid (HonI (p+1) p w1.heap.size B i k n vc sc vo so V l wr):=Lib.hid (HIw8.out.keep0 hexr hNB hgB)
         have HXwr:Hid (HonX p B gx gc y c wr):=Lib.hid (HXw8.out.keep0 hexr)
         have HEwr:Hid (Ex w.heap.size none w wr):=Lib.hid (HEw8.out.thenW hexr)
         clear hexr
         by_cases hjl:jj < k
         · have hjlI: (jj:Int) < (k:Int):=by omega
           obtain⟨vb,off,hvo,hvb1,hvb2,hvl⟩:=cas_get HIwr.out.own jj (by rw [HIwr.out.vlen];exact hjl)
           subst hvo
           obtain⟨ce,hce⟩:∃ce:CaD,ce=V[jj]'(by rw [HIwr.out.vlen];exact hjl):=⟨_,rfl⟩
           rw [←hce] at hvl
           have HCE:Hid (V.take (jj+1)=V.take jj ++ [ce]):=Lib.hid (by rw [hce];exact List.take_succ_eq_append_getElem _)
           have lv:∀q,(rowLoad 38 ⟨vb,off+jj * 4,none⟩).run Tryz.prog (wr.drewN q)=.ok (caV ce) (wr.drewN q):=fun q=>hvl.out _ rfl
           have lc:∀q,(rowLoad 38 ⟨gc,0,none⟩).run Tryz.prog (wr.drewN q)=.ok (caV c) (wr.drewN q):=fun q=>caV_box (w:=wr.drewN q) HXwr.out.bc
           have hj0I: (0:Int)≤(jj:Int):=by omega
           have hjn: ((jj:Int)).toNat=jj:=by omega
           clear hce
           obtain⟨ag,hag⟩:∃ag,decide (c∈V.take jj)=ag:=⟨_,rfl⟩
           rw [hag]
           have HAG:=Lib.hid hag
           clear hag
           cases ag with
           | true=>
             go_upto_region 16 with(fail)
             go_quiet (fail)
             go_wp2
             go_roundw
             case rel=>exact⟨jj+1,by omega,by go_num,by rw [HCE.out,decide_eq_true (List.mem_append_left _ (of_decide_eq_true HAG.out))],by repeat(first | with_reducible exact HEXR.out | with_reducible refine Ex.drew ?_ | with_reducible refine Ex.drewN ?_)⟩
             case measure=>simp [intOf] <;> omega
           | false=>
             have he:=fun W=>case_eqV ce c W
             have hgd:=fun a b W=>case_guard ce c a b W
             obtain⟨eb,heb⟩:∃eb,decide (ce=c)=eb:=⟨_,rfl⟩
             rw [heb] at he
             have HEB:=Lib.hid heb
             clear heb
             go_upto_region 16 with(fail)
             go_quiet (fail)
             go_wp2
             go_roundw
             case rel=>exact⟨jj+1,by omega,by go_num,by
              have h1:=of_decide_eq_false HAG.out
              have h2:=HEB.out
              rw [HCE.out]
              congr 1
              rw [←h2]
              have: (c∈V.take jj ++ [ce]) ↔ ce=c:=by simp [h1,eq_comm]
              simp only [this],by repeat(first | with_reducible exact HEXR.out | with_reducible refine Ex.drew ?_ | with_reducible refine Ex.drewN ?_)⟩
             case measure=>simp [intOf] <;> omega
         · have hjlI : ¬(jj:Int) < (k:Int):=by omega
           have hjke:jj=k:=by omega
           obtain⟨ag,hag⟩:∃ag,decide (c∈V)=ag:=⟨_,rfl⟩
           rw [show V.take jj=V by rw [hjke,←HIwr.out.vlen];exact List.take_length,hag]
           have HAG:=Lib.hid hag
           clear hag hjke
           cases ag with
           | true=>
             go_wp2
             go_roundw
             case rel=>exact⟨i+1,k,n,vc,sc,vo,so,V,l,rfl,by go_num,by omega,by omega,Lib.hid HIwr.out.next,HEwr⟩
             case measure=>simp [intOf] <;> omega
           | false=>
             have lc:=caV_box HXwr.out.bc
             have hlit:=caV_lit wr c
             obtain⟨wl,hwl⟩:∃wl:World,wl=wr.alloc (.cells (caE c).toArray 38):=⟨_,rfl⟩
             have hnwl:Ex wr.heap.size none wr wl:=by rw [hwl];exact Ex.new _ _
             have HIwl:Hid (HonI (p+1) p w1.heap.size B i k n vc sc vo so V l wl):=Lib.hid (HIwr.out.keep0 hnwl hNB hgB)
             have HXwl:Hid (HonX p B gx gc y c wl):=Lib.hid (HXwr.out.keep0 hnwl)
             have HEwl:Hid (Ex w.heap.size none w wl):=Lib.hid (HEwr.out.thenW hnwl)
             have HFwl:Hid (Ex wo.heap.size (some p) wo wl):=Lib.hid ((HFw8.out.trans HEXR.out HFw8.out.size (by simp)).trans hnwl (by have:=HFw8.out.size;have:=HEXR.out.size;omega) (by simp))
             have HLIT:Hid (([c]:List CaD).length=0∨∃ad,some (⟨wr.heap.size,0,none⟩:Addr)=some ad∧∀(j:Nat) (v:Value),(flatL caE [c])[j]? =some v→wl.cell? (ad.add j)=some v):=Lib.hid (by rw [hwl];exact lit_cells (by rfl))
             rw [←hwl] at hlit
             clear hwl hnwl
             have hBwl:=HIwl.out.size
             have hgcl:=HXwl.out.h3
             go_upto_region 19 with(first
              | (at_builtin
                 refine wpList_appE2 rfl (.tmp 53) (.tmp 55) _ 38 (by rfl) Tryz.underlying32 _ 4 32 Tryz.infoCa rfl (by decide) (by decide) caE caE_len one_caE B vo vc k V HIwl.out.vlen (by rfl) (some ⟨wr.heap.size,0,none⟩) 1 1 (by rfl) [c] rfl HIwl.out.own HLIT.out (by omega) hBwl (k+1) rfl ?_
                 intro vo2 vc2 wA hownA hexA hkA hrA
                 have HOA:Hid (OwnE caE 4 38 wA B vo2 vc2 (V ++ [c])):=Lib.hid hownA
                 have HRA:Hid (∀r,rowOf vo2=some r→rowOf vo=some r∨wl.heap.size≤r):=Lib.hid (fun r hr=>by
                  rcases hrA with h | h
                  · exact .inl (by rw [←h];exact hr)
                  · rw [h] at hr;cases hr;exact .inr (Nat.le_refl _))
                 have HKA:Hid (∀b,b < wo.heap.size→b≠p→rowOf vo≠some b→wA.heap[b]? =wo.heap[b]?):=Lib.hid (fun b hb hbp hbv=>(hkA b (by have:=HFwl.out.size;omega) hbv).trans (HFwl.out.block b hb (by simp;omega)))
                 have HGA:Hid (wA.heap[gx]? =some (.cells (drE y).toArray 35 (0,0))∧wA.heap[gc]? =some (.cells (caE c).toArray 38 (0,0))∧gc < wA.heap.size∧DiceOK (p+1) wA p):=Lib.hid ⟨(hkA gx (by have:=HXwl.out.h2;omega) (fun e=>by have:=HVO.out gx e;omega)).trans HXwl.out.bx,(hkA gc hgcl (fun e=>by have:=HVO.out gc e;have:=HXwl.out.h2;omega)).trans HXwl.out.bc,by have:=hexA.size;omega,HIwl.out.dice.keep hexA hNB⟩
                 have HEwA:Hid (Ex w.heap.size none w wA):=Lib.hid (HEwl.out.trans hexA (by omega) (by simp))
                 have hzA:wl.heap.size≤wA.heap.size:=hexA.size
                 clear hownA hexA hkA hrA lc hlit)
              | fail)
             have hzwl:=HFwl.out.size
             have hgxc:=HXwl.out.h2
             have hBgx:=HXwl.out.h1
             have hgcA:=HGA.out.2.2.1
             have HCA:Hid (∀v:World,v.heap[gc]? =wA.heap[gc]?→(rowLoad 38 ⟨gc,0,none⟩).run Tryz.prog v=.ok (caV c) v):=Lib.hid (fun v h=>caV_box (h.trans HGA.out.2.1))
             have HNG:Hid (gc≠gx):=Lib.hid (by omega)
             have HFwA:Hid (Ex wA.heap.size (some p) wA wA):=Lib.hid (Ex.refl _ _ _)
             have lc:=HCA.out wA rfl
             go_region_held3 (fun w'=>(rowLoad 38 ⟨gc,0,none⟩).run Tryz.prog w' =.ok (caV c) w') (exact(HCA.out _ (by repeat(first | exact HKC.out | exact HKB.out | with_reducible refine(setRow_other _ _ _ _ HNG.out).trans ?_ | exact rfl))))
              (first
                | (go_at_call 12
                   fail_if_success (have _x:=HFwB)
                   refine(contentM_w (p+1) p c _ (DiceOK.keep HGA.out.2.2.2 (by repeat(first | with_reducible exact Ex.refl (p+1) none _ | with_reducible refine Ex.drew ?_)) (Nat.le_refl _)) (by first | omega | (show p+1≤wA.heap.size;omega))).mono ?_
                   rintro e wB ⟨⟨y2,rfl,hy1,hy2,hy3,hyl⟩,hdB,hexB⟩
                   have HFwB:Hid (Ex wA.heap.size (some p) wA wB):=Lib.hid (Ex.trans (by repeat(first | with_reducible exact Ex.refl _ _ _ | with_reducible refine Ex.drew ?_)) hexB (Nat.le_refl _) (fun q h _=>h))
                   have HKB:Hid (wB.heap[gc]? =wA.heap[gc]?):=Lib.hid (HFwB.out.block gc hgcA (by simp;omega))
                   have HDwB:Hid (DiceOK (p+1) wB p):=Lib.hid hdB
                   have hzB:wA.heap.size≤wB.heap.size:=HFwB.out.size
                   have HY2:Hid (ContOK c.2.1 y2.1.list∧y2.1.pins.length≤1∧(∀q∈y2.1.pins,q.2.2.size≤1000)∧Lies (fun _=>True) wB y2):=Lib.hid ⟨hy1,hy2,hy3,hyl.mono fun _ _ _=>trivial⟩
                   clear hdB hexB hy1 hy2 hy3 hyl)
                | (go_at_call 11
                   refine(draft23_any (P:=fun _=>True) c y2 _ HCV.out (Lies.keep HY2.out.2.2.2 fun b _ hb=>(by repeat(first | with_reducible exact Ex.refl _ none _ | with_reducible refine Ex.drew ?_):Ex wB.heap.size none wB _).block b hb (by simp)) HY2.out.1 (by have:=HY2.out.2.1;omega)).mono ?_
                   rintro e wC ⟨⟨z,dq,rfl,hz1,hz2⟩,hexC⟩
                   have HXC:Hid (Ex wB.heap.size none wB wC):=Lib.hid (Ex.trans (by repeat(first | with_reducible exact Ex.refl _ _ _ | with_reducible refine Ex.drew ?_)) hexC (Nat.le_refl _) (by simp))
                   have HFwC:Hid (Ex wA.heap.size (some p) wA wC):=Lib.hid (HFwB.out.trans HXC.out hzB (by simp))
                   have HKC:Hid (wC.heap[gc]? =wA.heap[gc]?):=Lib.hid (HFwC.out.block gc hgcA (by simp;omega))
                   have HZ:Hid (((pinsOK y2.1.pins=false∧z=zeroVo)∨(dq=0∧pinsOK y2.1.pins=true∧z.1=drS c y2.1))∧Lies (fun b=>wB.heap.size≤b) wC z):=Lib.hid ⟨hz1,hz2⟩
                   have hbC:wC.heap[gx]? =some (.cells (drE y).toArray 35 (0,0)):=(HFwC.out.block gx (by omega) (by simp;omega)).trans HGA.out.1
                   have HBC:=Lib.hid hbC
                   have hst:=drV_set z hbC rfl
                   clear hz1 hz2 hexC hbC)
                | fail)
             clear lc
             have HFR:Hid (FreshD (V ++ [c]) l z.1∧DrOK z.1):=Lib.hid (by
              have hy:=HY2.out
              have hl:y2.1.list.length≤2:=by
               rcases hy.1 with⟨_,y0,y1,hl,_⟩ | ⟨_,y0,hl,_⟩
               · rw [hl];simp
               · rw [hl];simp
              rcases HZ.out.1 with⟨_,hz⟩ | ⟨_,_,hz⟩
              · rw [hz]
                exact⟨.inl (by decide),by decide,by decide,by decide⟩
              · rw [hz]
                refine⟨FreshD.new HIwr.out.hon (of_decide_eq_false HAG.out) (caseS_dr _ HCV.out),?_,?_,?_⟩
                · show y2.1.list.length≤10000;omega
                · show y2.1.pins.length≤1000;have:=hy.2.1;omega
                · exact digs_of (s:=drS c y2.1) (by show y2.1.pins.length≤1000;have:=hy.2.1;omega) hy.2.2.1)
             obtain⟨wD,hwD⟩:∃wD:World,wD=wC.setRow gx (drE z).toArray:=⟨_,rfl⟩
             have HXD:Hid (Ex wC.heap.size (some gx) wC wD):=Lib.hid (by rw [hwD];exact(Ex.refl _ _ _).setRow _ _ (.inl rfl))
             have HIwD:Hid (HonI (p+1) p w1.heap.size B i (k+1) n vc2 sc vo2 so (V ++ [c]) l wD):=Lib.hid (by
              have hoC:OwnE caE 4 38 wC B vo2 vc2 (V ++ [c]):=HOA.out.keep HFwC.out (Nat.le_refl _) (fun q e=>by cases e;exact hpB)
              have hne:=own_away hoC HBC.out (by decide)
              have hoD:OwnE caE 4 38 wD B vo2 vc2 (V ++ [c]):=hoC.keepB fun b hb hl=>HXD.out.block b hl (fun e=>by cases e;exact hne hb)
              have hsC:=HFwC.out.size
              have hsD:=HXD.out.size
              refine HIwo.out.round hpg hgB hoD ((HDwB.out.keep HXC.out (by omega)).keep (B:=p+1) (by rw [hwD];exact(Ex.refl _ _ _).setRow _ _ (.inr (by omega))) (Nat.le_refl _)) (by omega) (fun b hb hbp hbv=>?_) (fun r hr=>?_)
              · exact(HXD.out.block b (by omega) (by simp;omega)).trans ((HFwC.out.block b (by omega) (by simp;omega)).trans (HKA.out b hb hbp hbv))
              · rcases HRA.out r hr with h | h
                · exact .inl h
                · exact .inr (by omega))
             have HXwD:Hid (HonX p B gx gc z c wD):=Lib.hid (by
              have hsC:=HFwC.out.size
              have hsD:=HXD.out.size
              refine⟨HXwl.out.h1,hgxc,by omega,by rw [hwD];exact setRow_heap _ _ _ _ _ _ HBC.out,(HXD.out.block gc (by omega) (by simp;omega)).trans ((HFwC.out.block gc (by omega) (by simp;omega)).trans HGA.out.2.1),?_⟩
              exact(HZ.out.2.mono (P':=fun b=>p < b∧b≠gx) fun b hb _=>⟨by have h:wB.heap.size≤b:=hb;omega,by have h:wB.heap.size≤b:=hb;omega⟩).keep fun b hb hl=>HXD.out.block b hl (by have:=hb.2;simp;omega))
             have HEwD:Hid (Ex w.heap.size none w wD):=Lib.hid ((HEwA.out.trans HFwC.out (by omega) (fun q e h=>by cases e;omega)).trans HXD.out (by have:=HFwC.out.size;omega) (fun q e h=>by cases e;omega))
             rw [←hwD]
             clear hwD hst
             have FR:Hid (FreshD (V ++ [c]) l z.1):=Lib.hid HFR.out.1
             have DO:Hid (DrOK z.1):=Lib.hid HFR.out.2
             have lp:=peer_load2 HIwD.out.box rfl
             have ld:=drV_box HXwD.out.bx
             go_upto_region 21 with(first
              | (go_at_call 13
                 refine(say36_w (P:=fun b=>B≤b) (P':=fun b=>p < b∧b≠gx) 1 so n sc l z ((i:Nat):Int) wD (by omega) HIwD.out.llen (HIwD.out.row.sl.at'.mono (by decide) (fun b hb _=>hb)) (HIwD.out.hon.valid (by have:=HIwD.out.llen;have:=HIwD.out.ni;omega)) HIwD.out.hon.tame.light HIwD.out.hon.tame HXwD.out.lies ⟨DO.out.1,DO.out.2.1⟩ DO.out.2.2).mono ?_
                 rintro e w9 ⟨⟨_,rfl,ro,kr,rc,q,cd,rfl,hc⟩,hx9⟩
                 have HIw9:Hid (HonI (p+1) p w1.heap.size B i (k+1) n vc2 sc vo2 so (V ++ [c]) l w9):=Lib.hid (HIwD.out.keep0 hx9 hNB hgB)
                 have HEw9:Hid (Ex w.heap.size none w w9):=Lib.hid (HEwD.out.thenW hx9)
                 have HC9:=Lib.hid hc
                 have hB9:wD.heap.size≤w9.heap.size:=hx9.size
                 have b1:=heap_alloc2_old w9 (.cells #[.int .i64 0,.slice none 0 0] 31) (.cells #[.int .i64 0,.int .i64 0,.string ⟨#[]⟩,.int .i64 0,.int .i64 0,.int .i64 0,.int .i64 0,.int .i64 0,.slice none 0 0,.slice none 0 0,.string ⟨#[]⟩,.int .i64 0,.string ⟨#[]⟩] 51)
                 have b2:=heap_alloc2_new w9 (.cells #[.int .i64 0,.slice none 0 0] 31) (.cells #[.int .i64 0,.int .i64 0,.string ⟨#[]⟩,.int .i64 0,.int .i64 0,.int .i64 0,.int .i64 0,.int .i64 0,.slice none 0 0,.slice none 0 0,.string ⟨#[]⟩,.int .i64 0,.string ⟨#[]⟩] 51)
                 have hs1:=peer_store2 b1 rfl 1 ro kr rc
                 have hs2: (rowStore 51 ⟨w9.heap.size+1,0,none⟩ (stV q)).run Tryz.prog (((w9.alloc (.cells #[.int .i64 0,.slice none 0 0] 31)).alloc (.cells #[.int .i64 0,.int .i64 0,.string ⟨#[]⟩,.int .i64 0,.int .i64 0,.int .i64 0,.int .i64 0,.int .i64 0,.slice none 0 0,.slice none 0 0,.string ⟨#[]⟩,.int .i64 0,.string ⟨#[]⟩] 51)).setRow w9.heap.size #[.int .i64 1,.slice ro kr rc])=.ok () ((((w9.alloc (.cells #[.int .i64 0,.slice none 0 0] 31)).alloc (.cells #[.int .i64 0,.int .i64 0,.string ⟨#[]⟩,.int .i64 0,.int .i64 0,.int .i64 0,.int .i64 0,.int .i64 0,.slice none 0 0,.slice none 0 0,.string ⟨#[]⟩,.int .i64 0,.string ⟨#[]⟩] 51)).setRow w9.heap.size #[.int .i64 1,.slice ro kr rc]).setRow (w9.heap.size+1) (stE q).toArray):=run_rowStore (P:=Tryz.prog) _ (w9.heap.size+1) 51 51 _ (stV q).cells ((setRow_other _ _ _ _ (by omega)).trans b2) Tryz.sizeStv rfl (stV_one q)
                 obtain⟨w10,hw10⟩:∃w10:World,w10= (((w9.alloc (.cells #[.int .i64 0,.slice none 0 0] 31)).alloc (.cells #[.int .i64 0,.int .i64 0,.string ⟨#[]⟩,.int .i64 0,.int .i64 0,.int .i64 0,.int .i64 0,.int .i64 0,.slice none 0 0,.slice none 0 0,.string ⟨#[]⟩,.int .i64 0,.string ⟨#[]⟩] 51)).setRow w9.heap.size #[.int .i64 1,.slice ro kr rc]).setRow (w9.heap.size+1) (stE q).toArray:=⟨_,rfl⟩
                 have hx10:Ex w9.heap.size none w9 w10:=by rw [hw10];exact(((Ex.new w9 _).alloc (by simp) _).setRow _ _ (.inr (Nat.le_refl _))).setRow _ _ (.inr (by omega))
                 have HB10:Hid (w10.heap[w9.heap.size]? =some (.cells #[.int .i64 1,.slice ro kr rc] 31 (0,0))):=Lib.hid (by rw [hw10];exact(setRow_other _ _ _ _ (by omega)).trans (setRow_heap _ _ _ _ _ _ b1))
                 have HIw10:Hid (HonI (p+1) p w1.heap.size B i (k+1) n vc2 sc vo2 so (V ++ [c]) l w10):=Lib.hid (HIw9.out.keep0 hx10 hNB hgB)
                 have HEw10:Hid (Ex w.heap.size none w w10):=Lib.hid (HEw9.out.thenW hx10)
                 have HX10:=Lib.hid hx10
                 rw [←hw10] at hs2
                 clear hx9 hc b1 b2 hw10 hx10 lp ld)
              | fail)
             clear hs1 hs2
             by_cases hcd:cd=0
             · subst hcd
               obtain⟨l2,hl2,hq1,hq2,hq3,hq4,hq5,hq6⟩:=HC9.out rfl
               obtain⟨hp1,hp2⟩:=HIw9.out.hon.said FR.out hq1 hq2 hq3
               have hkr:kr=n+1:=by rw [←hq4,hl2,hp1,List.length_append,HIw9.out.llen];rfl
               have HL2:Hid (HonL (V ++ [c]) l2):=Lib.hid (by rw [hl2,hp1];exact hp2)
               have HO2:Hid (l2.length=kr∧OwnS w10 wD.heap.size ro rc l2):=Lib.hid ⟨hq4,hq6.keep HX10.out (Nat.le_refl _)⟩
               clear hl2 hq1 hq2 hq3 hq4 hq5 hq6 hp1 hp2
               have lq:=peer_load2 HB10.out rfl
               have hs3:=peer_store2 HIw10.out.box rfl 1 ro kr rc
               obtain⟨w11,hw11⟩:∃w11:World,w11=w10.setRow w1.heap.size #[.int .i64 1,.slice ro kr rc]:=⟨_,rfl⟩
               have HIw11:Hid (HonI (p+1) p w1.heap.size B (i+1) (k+1) kr vc2 rc vo2 ro (V ++ [c]) l2 w11):=Lib.hid (HIw10.out.put hNg hgB hw11 HO2.out.1 (by rw [hkr];have:=HIw10.out.ni;omega) HO2.out.2 HIwD.out.size HIwD.out.next0 HL2.out)
               have HEw11:Hid (Ex w.heap.size none w w11):=Lib.hid (by rw [hw11];exact HEw10.out.setRow _ _ (.inr (by omega)))
               rw [←hw11] at hs3
               clear hw11 hkr
               go_wp2
               go_roundw
               case rel=>exact⟨i+1,(k+1),kr,vc2,rc,vo2,ro,(V ++ [c]),l2,rfl,by go_num,by omega,by omega,HIw11,HEw11⟩
               case measure=>simp [intOf] <;> omega
             · have hcdd: (cd == 0)=false:=by simpa using hcd
               go_wp2
               go_roundw
               case rel=>exact⟨i+1,(k+1),n,vc2,sc,vo2,so,(V ++ [c]),l,rfl,by go_num,by omega,by omega,Lib.hid HIw10.out.next,HEw10⟩
               case measure=>simp [intOf] <;> omega
    · have hiltI : ¬(i:Int) < 12:=by omega
      obtain⟨ys,hys1,hys2,hys3⟩:=own_srcT HIwo.out.row
      have hxe:Ex wo.heap.size none wo (wo.alloc (.cells #[] 51)):=Ex.new _ _
      have HIwe:Hid (HonI (p+1) p w1.heap.size B i k n vc sc vo so V l (wo.alloc (.cells #[] 51))):=Lib.hid (HIwo.out.keep0 hxe hNB hgB)
      have c1: (wo.alloc (.cells #[] 51)).cell? ⟨w1.heap.size,1,none⟩=some (.slice so n sc):=by rw [cell_of_row _ _ _ _ _ _ HIwe.out.box];rfl
      have HYS:Hid (ys.map (·.1)=l∧ys.length=n∧Src (wo.alloc (.cells #[] 51)) so ys∧(∀x∈ys,Lies (fun b=>B≤b∧rowOf (some (⟨wo.heap.size,0,none⟩:Addr))≠some b) (wo.alloc (.cells #[] 51)) x)∧OwnT (wo.alloc (.cells #[] 51)) wo.heap.size B (some ⟨wo.heap.size,0,none⟩) 0 []):=Lib.hid ⟨hys1,by rw [←HIwo.out.llen,←hys1,List.length_map],hys2.keep fun b hb hl=>hxe.block b hl (by simp),fun x hx=>((hys3 x hx).mono (P':=fun b=>B≤b∧rowOf (some (⟨wo.heap.size,0,none⟩:Addr))≠some b) fun b hb hl=>⟨hb,by simp [rowOf];omega⟩).keep fun b _ hl=>hxe.block b hl (by simp),own_empT (heap_alloc_new _ _) (Nat.le_refl _)⟩
      have hn12:n≤12:=by have:=HIwo.out.ni;omega
      have hBo:B≤wo.heap.size:=HIwo.out.size
      have hze:wo.heap.size≤(wo.alloc (.cells #[] 51)).heap.size:=hxe.size
      have HXE:=Lib.hid hxe
      clear hys1 hys2 hys3 hxe
      go_upto_region 24 with(first
       | (at_builtin
          refine wpList_appT rfl (.tmp 76) (.tmp 79) _ (by rfl) Tryz.underlying27 Tryz.infoSt wo.heap.size B (some ⟨wo.heap.size,0,none⟩) 0 0 [] rfl (by rfl) so n sc (by rfl) ys HYS.out.2.1 HYS.out.2.2.2.2 HYS.out.2.2.1 HYS.out.2.2.2.1 (by omega) hze n (by omega) ?_
          intro ro0 rc0 wf hownf hexf hkf hrf
          have HOwf:Hid (OwnT wf wo.heap.size B ro0 rc0 l):=Lib.hid (by rw [←HYS.out.1];exact hownf)
          have HFwf:Hid (Ex wo.heap.size (some p) wo wf):=Lib.hid ((HFwo.out.trans HXE.out (Nat.le_refl _) (by simp)).trans hexf (Nat.le_refl _) (by simp))
          have HDwf:Hid (DiceOK (p+1) wf p):=Lib.hid (HIwe.out.dice.keep hexf (by omega))
          have hzf: (wo.alloc (.cells #[] 51)).heap.size≤wf.heap.size:=hexf.size
          clear hownf hexf hkf hrf c1)
       | fail)
      have hpM:p < wo.heap.size:=by omega
      go_upto_region 25 with(first
       | (go_at_call 9
          refine(next_w (p+1) p 8 wf HDwf.out (by omega) (by omega)).mono ?_
          rintro e wh ⟨c8,rfl,hc8,hdh,hxh⟩
          have HDwh:Hid (DiceOK (p+1) wh p):=Lib.hid hdh
          have HFwh:Hid (Ex wo.heap.size (some p) wo wh):=Lib.hid (HFwf.out.trans hxh (by omega) (fun q e _=>e))
          have HOwh:Hid (OwnT wh wo.heap.size B ro0 rc0 l):=Lib.hid (HOwf.out.keepQ hxh hpM hpB)
          clear hdh hxh)
       | fail)
      go_loopw [14,15] (fun v c wr=>∃(cn m rc:Nat) (ro:Option Addr) (fs:List St),c=.int .i64 cn∧v=.slice ro m rc∧m+cn≤20∧Hid ((l ++ fs).length=m)∧Hid (OwnT wr wo.heap.size B ro rc (l ++ fs))∧Hid (∀s∈fs,sealedB s=false∧LightS s)∧Hid (DiceOK (p+1) wr p)∧Hid (Ex wo.heap.size (some p) wo wr)) (fun _ c _=>(intOf c).toNat)
      case atStart=>exact⟨c8,n,rc0,ro0,[],rfl,rfl,by omega,Lib.hid (by rw [List.append_nil];exact HIwo.out.llen),Lib.hid (by rw [List.append_nil];exact HOwh.out),Lib.hid (fun _ h=>by cases h),HDwh,HFwh⟩
      case round=>
       obtain⟨cn,m,rc,ro,fs,rfl,rfl,hmc,HM,HOwr,HS,HDwr,HFwr⟩:=hrel
       have hzr:wo.heap.size≤wr.heap.size:=HFwr.out.size
       by_cases hcn:0 < cn
       · have hcnI: (0:Int) < (cn:Int):=by omega
         have hwc:IntKind.i64.wrap ((cn:Int) - 1)= ((cn - 1:Nat):Int):=by rw [IntKind.wrap_i64];omega
         go_upto_region 28 with(first
          | (go_at_call 14
             refine(millV_any (P:=fun b=>u2.heap.size≤b) 1 ((k6:Nat):Int) ((k20:Nat):Int) y u3 HY.out.2 ⟨by have:=HY.out.1.1;omega,by rw [HY.out.1.2];exact Nat.zero_le _⟩ (by rw [HY.out.1.2];exact Nat.zero_le _) (by omega)).mono ?_
             rintro e u4 ⟨⟨zz,rfl,hzz,hzl⟩,hxu4⟩
             have HZZ:Hid (zz.1=millS 1 k6 k20 y.1∧Lies (fun b=>u3.heap.size≤b) u4 zz):=Lib.hid ⟨hzz,hzl⟩
             have HDu4:Hid (DiceOK (p+1) u4 p):=Lib.hid (HDu3.out.keep hxu4 (by omega))
             have hzu4:u3.heap.size≤u4.heap.size:=hxu4.size
             have HFu4:Hid (Ex wo.heap.size (some p) wo u4):=Lib.hid (HFu3.out.trans hxu4 (by omega) (by simp))
             have HOu4:Hid (OwnT u4 wo.heap.size B ro rc (l ++ fs)):=Lib.hid (HOu3.out.keep hxu4 (Nat.le_refl _))
             have ns:=stV_new u4 #[.int .i64 0,.int .i64 0,.string ⟨#[]⟩,.int .i64 0,.int .i64 0,.int .i64 0,.int .i64 0,.int .i64 0,.slice none 0 0,.slice none 0 0,.string ⟨#[]⟩,.int .i64 0,.string ⟨#[]⟩] zz rfl
             clear hzz hzl hxu4)
          | (go_at_call 7
             refine(draftM_w (p+1) p 1 3 u2 HDu2.out (by omega) (by omega) (by omega)).mono ?_
             rintro e u3 ⟨⟨y,rfl,hy1,hy2,hy3,hy4⟩,hdu3,hxu3⟩
             have HY:Hid ((y.1.list.length≤100∧y.1.pins=[])∧Lies (fun b=>u2.heap.size≤b) u3 y):=Lib.hid ⟨⟨hy2,hy3⟩,hy4⟩
             have HDu3:Hid (DiceOK (p+1) u3 p):=Lib.hid hdu3
             have hzu3:u2.heap.size≤u3.heap.size:=hxu3.size
             have HFu3:Hid (Ex wo.heap.size (some p) wo u3):=Lib.hid (HFu2.out.trans hxu3 (by have:=HFu2.out.size;omega) (fun q e _=>e))
             have HOu3:Hid (OwnT u3 wo.heap.size B ro rc (l ++ fs)):=Lib.hid (HOu2.out.keepQ hxu3 hpM hpB)
             clear hdu3 hxu3
             clear hy1 hy2 hy3 hy4)
          | (go_at_call 9
             refine(next_w (p+1) p 20 u1 HDu1.out (by omega) (by omega)).mono ?_
             rintro e u2 ⟨k20,rfl,hvk20,hdu2,hxu2⟩
             have HDu2:Hid (DiceOK (p+1) u2 p):=Lib.hid hdu2
             have hzu2:u1.heap.size≤u2.heap.size:=hxu2.size
             have HFu2:Hid (Ex wo.heap.size (some p) wo u2):=Lib.hid (HFu1.out.trans hxu2 (by have:=HFu1.out.size;omega) (fun q e _=>e))
             have HOu2:Hid (OwnT u2 wo.heap.size B ro rc (l ++ fs)):=Lib.hid (HOu1.out.keepQ hxu2 hpM hpB)
             clear hdu2 hxu2)
          | (go_at_call 9
             refine(next_w (p+1) p 6 wr HDwr.out (by omega) (by omega)).mono ?_
             rintro e u1 ⟨k6,rfl,hvk6,hdu1,hxu1⟩
             have HDu1:Hid (DiceOK (p+1) u1 p):=Lib.hid hdu1
             have hzu1:wr.heap.size≤u1.heap.size:=hxu1.size
             have HFu1:Hid (Ex wo.heap.size (some p) wo u1):=Lib.hid (HFwr.out.trans hxu1 (by have:=HFwr.out.size;omega) (fun q e _=>e))
             have HOu1:Hid (OwnT u1 wo.heap.size B ro rc (l ++ fs)):=Lib.hid (HOwr.out.keepQ hxu1 hpM hpB)
             clear hdu1 hxu1)
          | fail)
         obtain⟨gs,hgs⟩:∃gs,gs=u4.heap.size:=⟨_,rfl⟩
         obtain⟨u5,hu5⟩:∃u5:World,u5=u4.alloc (.cells (stE zz).toArray 51):=⟨_,rfl⟩
         have hxu5:Ex u4.heap.size none u4 u5:=by rw [hu5];exact Ex.new _ _
         have HDu5:Hid (DiceOK (p+1) u5 p):=Lib.hid (HDu4.out.keep hxu5 (by omega))
         have hzu5:gs < u5.heap.size:=by rw [hu5,hgs];simp
         have HFu5:Hid (Ex wo.heap.size (some p) wo u5):=Lib.hid (HFu4.out.trans hxu5 (by omega) (by simp))
         have HOu5:Hid (OwnG u5 wo.heap.size (fun b=>B≤b∧b≠gs) ro rc (l ++ fs)∧rowOf ro≠some gs):=Lib.hid (by
          have h1:=OwnG.monoG (G:=fun b=>B≤b) (G':=fun b=>B≤b∧b≠gs) HOu4.out (fun b hb hl=>⟨hb,by omega⟩)
          refine⟨OwnG.keepG h1 (fun b hb hl=>hxu5.block b hl (by simp)) (fun b _ hl=>hxu5.block b hl (by simp)),fun e=>by have:=OwnG.row (G:=fun b=>B≤b) HOu4.out gs e;omega⟩)
         have HBu5:Hid (u5.heap[gs]? =some (.cells (stE zz).toArray 51 (0,0))∧Lies (fun b=>u3.heap.size≤b∧b≠gs) u5 zz):=Lib.hid ⟨by rw [hu5,hgs];exact heap_alloc_new _ _,(HZZ.out.2.mono (P':=fun b=>u3.heap.size≤b∧b≠gs) fun b hb hl=>⟨hb,by omega⟩).keep fun b _ hl=>hxu5.block b hl (by simp)⟩
         refine wp_world (fun W=>W=u5) (by rw [hu5];rfl) (fun W hW=>?_)
         rw [hW]
         clear hW W
         rw [←hgs]
         have hgs4:u4.heap.size≤gs:=by omega
         clear ns hu5 hxu5 hgs hvk6 hvk20
         go_wp2_with (fail)
         go_at_call 9
         refine(next_w (p+1) p 5 u5 HDu5.out (by omega) (by omega)).mono ?_
         rintro e u6 ⟨k5,rfl,hvk5,hdu6,hxu6⟩
         have HDu6:Hid (DiceOK (p+1) u6 p):=Lib.hid hdu6
         have hzu6:u5.heap.size≤u6.heap.size:=hxu6.size
         have HFu6:Hid (Ex wo.heap.size (some p) wo u6):=Lib.hid (HFu5.out.trans hxu6 (by omega) (fun q e _=>e))
         have HOu6:Hid (OwnG u6 wo.heap.size (fun b=>B≤b∧b≠gs) ro rc (l ++ fs)):=Lib.hid (OwnG.keepG HOu5.out.1 (fun b hb hl=>hxu6.block b hl (by have:=OwnG.row_ge HOu5.out.1 b hb;simp;omega)) (fun b hb hl=>hxu6.block b hl (by simp;omega)))
         have HBu6:Hid (u6.heap[gs]? =some (.cells (stE zz).toArray 51 (0,0))∧Lies (fun b=>u3.heap.size≤b∧b≠gs) u6 zz):=Lib.hid ⟨(hxu6.block gs hzu5 (by simp;omega)).trans HBu5.out.1,HBu5.out.2.keep fun b hb hl=>hxu6.block b hl (by simp;omega)⟩
         have c11:u6.cell? ⟨gs,11,none⟩=some (.int .i64 zz.1.key):=by rw [cell_of_row _ _ _ _ _ _ HBu6.out.1];rfl
         have f11:u6.frozen? ⟨gs,11,none⟩=false:=by simp [World.frozen?,HBu6.out.1]
         have hwk:IntKind.i64.wrap (2+ (k5:Int))=2+ (k5:Int):=by rw [IntKind.wrap_i64];omega
         clear hdu6 hxu6 hvk5
         go_upto_region 29 with(fail)
         clear c11 f11 hwk
         obtain⟨u7,hu7⟩:∃u7:World,u7=u6.setCell ⟨gs,11,none⟩ (.int .i64 (2+ (k5:Int))):=⟨_,rfl⟩
         obtain⟨zk,hzk⟩:∃zk:St×Sv×Sv,zk= (keyS zz.1 (2+ (k5:Int)),zz.2):=⟨_,rfl⟩
         have hxu7:Ex u6.heap.size (some gs) u6 u7:=by rw [hu7];exact(Ex.refl _ _ _).setCell _ _ _ (.inl rfl)
         have HBu7:Hid (u7.heap[gs]? =some (.cells (stE zk).toArray 51 (0,0))∧Lies (fun b=>u3.heap.size≤b∧b≠gs) u7 zk):=Lib.hid ⟨by rw [hu7,hzk,heap_setCell_same _ _ _ _ _ _ HBu6.out.1];rfl,by
          have h:Lies (fun b=>u3.heap.size≤b∧b≠gs) u6 zk:=by rw [hzk];exact HBu6.out.2
          exact h.keep fun b hb hl=>hxu7.block b hl (by simp;exact hb.2)⟩
         have HOu7:Hid (OwnT u7 wo.heap.size B ro rc (l ++ fs)):=Lib.hid (OwnT.keepS (OwnG.monoG HOu6.out fun b hb _=>hb.1) hxu7 HOu5.out.2 HOu6.out)
         have HDu7:Hid (DiceOK (p+1) u7 p):=Lib.hid (HDu6.out.keep (B:=p+1) (by rw [hu7];exact(Ex.refl _ _ _).setCell _ _ _ (.inr (by omega))) (Nat.le_refl _))
         have HFu7:Hid (Ex wo.heap.size (some p) wo u7):=Lib.hid (HFu6.out.trans (by rw [hu7];exact(Ex.refl wo.heap.size none u6).setCell _ _ _ (.inr (by omega))) (Nat.le_refl _) (by simp))
         have HFS:Hid (sealedB zk.1=false∧LightS zk.1):=Lib.hid (by
          rw [hzk]
          show sealedB (keyS zz.1 (2+ (k5:Int)))=false∧LightS (keyS zz.1 (2+ (k5:Int)))
          rw [HZZ.out.1]
          exact⟨key_open _ _ _ _ _ (by omega),light_key _ _ _ _ _ HY.out.1.1 HY.out.1.2⟩)
         have hzu7:u6.heap.size≤u7.heap.size:=by rw [hu7];simp
         refine wp_world (fun W=>W=u7) (by rw [hu7]) (fun W hW=>?_)
         rw [hW]
         clear hW W hu7 hzk hxu7
         have lz:=stV_box HBu7.out.1
         have hlit:=stV_litN1 u7 zk
         go_wp2_with (first
          | (at_builtin
             refine wpList_appT rfl (.tmp 99) (.tmp 101) _ (by rfl) Tryz.underlying27 Tryz.infoSt wo.heap.size B ro rc m (l ++ fs) HM.out (by rfl) (some ⟨u7.heap.size,0,none⟩) 1 1 (by rfl) [zk] rfl (HOu7.out.keep (Ex.new u7 _) (Nat.le_refl _)) (lit_srcT u7 zk) (fun x hx=>by rw [List.mem_singleton.1 hx];exact(HBu7.out.2.keep fun b _ hb=>(Ex.new u7 _).block b hb (by simp)).mono fun b h _=>⟨by omega,fun e=>by have:=HOwr.out.row b e;omega⟩) (by omega) (by simp;omega) (m+1) (by omega) ?_
             intro ro2 rc2 u8 hown8 hex8 hk8 hr8
             have HO8:Hid (OwnT u8 wo.heap.size B ro2 rc2 (l ++ (fs ++ [zk.1]))):=Lib.hid (by rw [←List.append_assoc];exact hown8)
             have hx8:Ex wo.heap.size none u7 u8:=(((Ex.refl wo.heap.size none u7).alloc (by omega) _)).thenBX hex8
             have HD8:Hid (DiceOK (p+1) u8 p):=Lib.hid (HDu7.out.keep hx8 (by omega))
             have HF8:Hid (Ex wo.heap.size (some p) wo u8):=Lib.hid (HFu7.out.trans hx8 (Nat.le_refl _) (by simp))
             clear hown8 hex8 hk8 hr8 hx8 lz hlit)
          | fail)
         go_roundw
         case rel=>exact⟨cn - 1,m+1,rc2,ro2,fs ++ [zk.1],by go_num,rfl,by omega,Lib.hid (by rw [←List.append_assoc,List.length_append,HM.out];rfl),HO8,Lib.hid (fun s hs=>by
          rcases List.mem_append.1 hs with h | h
          · exact HS.out s h
          · rw [List.mem_singleton.1 h];exact HFS.out),HD8,HF8⟩
         case measure=>simp [intOf] <;> omega
       · have hcnI : ¬(0:Int) < (cn:Int):=by omega
         have hcnd:decide (0 < cn)=false:=decide_eq_false hcn
         have HIwr:Hid (HonI (p+1) p w1.heap.size B i k n vc sc vo so V l wr):=Lib.hid (HIwo.out.keep HFwr.out HDwr.out hpg hgB)
         have HEwr:Hid (Ex w.heap.size none w wr):=Lib.hid (HEwo.out.trans HFwr.out (by have:=HEwo.out.size;omega) (fun q e h=>by cases e;omega))
         have HBP:Hid (∀W,Ex wr.heap.size none wr W→(rowLoad 31 ⟨w1.heap.size,0,none⟩).run Tryz.prog W=.ok (.agg #[.int .i64 1,.slice so n sc]) W∧Sl stRep (fun _=>True) W (.slice so n sc) l):=Lib.hid (fun W h=>by
          have q:=HIwr.out.keep0 h hNB hgB
          exact⟨peer_load2 q.box rfl,so,sc,by rw [q.llen],(q.row.sl.at').mono (by decide) fun _ _ _=>trivial⟩)
         have HVL:Hid (validB l=true∧HonL V l):=Lib.hid ⟨HIwr.out.hon.valid (by have:=HIwr.out.llen;have:=HIwr.out.ni;omega),HIwr.out.hon⟩
         have HLT:Hid (∀s∈l ++ fs,LightS s):=Lib.hid (fun s hs=>by
          rcases List.mem_append.1 hs with h | h
          · exact light_tame (HVL.out.2.tame s h)
          · exact(HS.out s h).2)
         clear HIwo
         go_wp2_with (first
          | (go_at_call 16
             refine(guiltyV_any (P:=fun b=>B≤b) (.slice ro m rc) (l ++ fs) wr ⟨ro,rc,by rw [HM.out],(HOwr.out.s (by have:=HFwr.out.size;omega)).sl.at'.mono (by decide) fun b hb _=>hb⟩ (by rw [HM.out];omega) HLT.out).mono ?_
             rintro e v1 ⟨hg,hxv1⟩
             obtain⟨r1,rc1,rfl⟩:=hon_none HVL.out.2 (fun s hs=>(HS.out s hs).1) hg
             have HEv1:Hid (Ex wr.heap.size none wr v1):=Lib.hid hxv1
             obtain⟨lp,hsl⟩:=HBP.out v1 hxv1
             have HSL:=Lib.hid hsl
             clear hg hxv1 hsl)
          | (go_at_call 15;refine(has_none _ _ _ _).mono ?_;rintro e w' ⟨rfl,rfl⟩)
          | (go_at_call 17
             refine(valid08_yes (P:=fun _=>True) 1 (.slice so n sc) l v1 (by omega) HSL.out HVL.out.1).mono ?_
             rintro e v2 ⟨rfl,hxv2⟩
             have HEv2:Hid (Ex wr.heap.size none wr v2):=Lib.hid (HEv1.out.thenW hxv2)
             clear hxv2 lp)
          | (go_at_call 5
             refine(awake36_any v2).mono ?_
             rintro e v3 ⟨rfl,hxv3⟩
             have HEv3:Hid (Ex w.heap.size none w v3):=Lib.hid ((HEwr.out.thenW HEv2.out).thenW hxv3)
             clear hxv3)
          | fail)
         go_ret
         exact⟨rfl,HEv3.out.below⟩
 · have hmI : ¬(L.length:Int)≤400:=by omega
   have hmd:decide ((L.length:Int)≤400)=false:=decide_eq_false hmI
   go_enter Tryz.func3,Tryz.ntmps3
   go_wp2_with (first
    | (go_at_call 4;refine(light_any _ _ _ _).mono ?_;rintro e w' ⟨rfl,rfl⟩)
    | (go_at_call 5;refine(awake36_any _).mono ?_;rintro e w1 ⟨rfl,hex⟩))
   go_ret
   exact⟨rfl,hex.below⟩
end Go.Proofs.YtflhidfclfkjlaaGreat

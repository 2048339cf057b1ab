/- ref04.Counted: a contract, no statement of the seat. -/
import Derived.Test.YtflhidfclfkjlaaGreatOwn04G
namespace Go.Proofs.YtflhidfclfkjlaaGreat
open Go.RowKit Go.Sort
def goodAt (own:List St) (i:Nat):Bool :=
 match own[i]? with
 | none=>false
 | some s=>decide (s.number= (i:Int)) && !(own[i+1]?).any (fun t=>decide (t.number= (i:Int))) && (decide (i=0) || (own[i - 1]?).any (fun q=>followsB q s && !decide (q.kind=3)))
def countTo (own:List St) (i:Nat):Nat:=if h:i < own.length then(if goodAt own i then countTo own (i+1) else i) else i
termination_by own.length - i
def countedI (a:Int) (l:List St):List St:=(ownI a l).take (countTo (ownI a l) 0)
theorem countTo_go {own:List St} {i:Nat} (h:goodAt own i=true):countTo own i=countTo own (i+1):=by
 rw [countTo]
 have hi:i < own.length:=by
  unfold goodAt at h
  cases e:own[i]? with
  | none=>rw [e] at h;cases h
  | some s=>exact(List.getElem?_eq_some_iff.1 e).1
 rw [dif_pos hi,if_pos h]
theorem countTo_stop {own:List St} {i:Nat} (h:goodAt own i=false):countTo own i=i:=by
 rw [countTo,h];split <;> rfl
theorem goodAt_num {own:List St} {i:Nat} {s:St} (hs:own[i]? =some s) (h:decide (s.number= (i:Int))=false):goodAt own i=false:=by
 unfold goodAt;rw [hs];simp only [h,Bool.false_and]
theorem goodAt_two {own:List St} {i:Nat} {s t:St} (hs:own[i]? =some s) (ht:own[i+1]? =some t) (h:decide (t.number= (i:Int))=true):goodAt own i=false:=by
 unfold goodAt;rw [hs,ht];simp only [Option.any_some,h,Bool.not_true,Bool.and_false,Bool.false_and]
theorem goodAt_back {own:List St} {i:Nat} {s q:St} (hs:own[i]? =some s) (h0:decide (i=0)=false) (hq:own[i - 1]? =some q) (h: (followsB q s && !decide (q.kind=3))=false):goodAt own i=false:=by
 unfold goodAt;rw [hs,hq];simp only [Option.any_some,h,h0,Bool.or_self,Bool.and_false]
theorem goodAt_yes {own:List St} {i:Nat} {s:St} (hs:own[i]? =some s) (h1:decide (s.number= (i:Int))=true) (h2:∀t,own[i+1]? =some t→decide (t.number= (i:Int))=false) (h3:i=0∨∃q,own[i - 1]? =some q∧followsB q s=true∧decide (q.kind=3)=false):goodAt own i=true:=by
 have e2: (own[i+1]?).any (fun t=>decide (t.number= (i:Int)))=false:=by
  cases e:own[i+1]? with
  | none=>rfl
  | some t=>simpa using h2 t e
 have e3: (decide (i=0) || (own[i - 1]?).any (fun q=>followsB q s && !decide (q.kind=3)))=true:=by
  rcases h3 with h3 | ⟨q,hq,h4,h5⟩
  · rw [decide_eq_true h3,Bool.true_or]
  · rw [hq];simp only [Option.any_some,h4,h5,Bool.not_false,Bool.and_self,Bool.or_true]
 unfold goodAt;rw [hs];simp only [h1,e2,e3,Bool.not_false,Bool.and_self]
theorem goodAt_none {own:List St} {i:Nat} (h:own.length≤i):goodAt own i=false:=by
 unfold goodAt;rw [List.getElem?_eq_none h]
set_option maxHeartbeats 16000000 in
set_option maxRecDepth 100000 in
theorem counted04_any {P:Nat→Prop} (v:Value) (l:List St) (a:Int) (w:World) (hv:Sl stRep P w v l) (hm:l.length≤100000) (ht:TameL l) :
 Calls Tryz.prog 48 #[.int .i64 a,v] w fun e w'=>∃ro rc,e=.returned (.slice ro (countedI a l).length rc)∧OwnS w' w.heap.size ro rc (countedI a l)∧Ex w.heap.size none w w':=by
 have HV:=Lib.hid hv
 have HTL:=Lib.hid ht
 clear ht hv
 obtain⟨own,hoe⟩:∃own,own=ownI a l:=⟨_,rfl⟩
 obtain⟨N,hN⟩:∃N,N=own.length:=⟨_,rfl⟩
 have HN:=Lib.hid hN
 have hNb:N≤100000:=by rw [hN,hoe];exact Nat.le_trans (ownI_len a l) hm
 have HCE:Hid (countedI a l=own.take (countTo own 0)):=Lib.hid (by rw [hoe];rfl)
 have HTO:Hid (TameL own):=Lib.hid (by rw [hoe];exact ownI_tame HTL.out)
 have HOC:Hid (Calls Tryz.prog 80 #[.int .i64 a,v] w fun e w'=>∃ro rc,e=.returned (.slice ro N rc)∧OwnS w' w.heap.size ro rc own∧Ex w.heap.size none w w'):=Lib.hid (by
  rw [hN,hoe];exact own04_any v l a w HV.out hm HTL.out)
 clear hoe hN
 go_enter Tryz.func48,Tryz.ntmps48
 go_wp2_with (go_at_call 80;refine HOC.out.mono ?_;rintro e w1 ⟨oo,oc,rfl,hown,hex⟩;have HO1:=Lib.hid hown;have HE1:=Lib.hid hex;have hz1:w.heap.size≤w1.heap.size:=hex.size;clear hown hex)
 go_loopw [6,7,8] (fun v i u wr=>∃(m:Nat) (ro:Option Addr) (rc:Nat),m≤N∧i=.int .i64 m∧v=.slice ro m rc∧Hid (countTo own 0=countTo own m)∧Hid (OwnT wr w1.heap.size w.heap.size ro rc (own.take m))∧Ex w1.heap.size none w1 wr) (fun _ i _ _=>N - (intOf i).toNat)
 case atStart=>exact⟨0,none,0,by omega,rfl,rfl,Lib.hid rfl,Lib.hid (by simpa using OwnT.nil w1 w1.heap.size w.heap.size),Ex.refl _ _ _⟩
 case round=>
  obtain⟨m,ro,rc,hm',rfl,rfl,HCZ,HOT,hex⟩:=hrel
  have hsz:=hex.size
  have HEX:=Lib.hid hex
  clear hex
  by_cases hlt:m < N
  · have hltI: (m:Int) < (N:Int):=by omega
    obtain⟨b,off,s,⟨lo,ln,lc⟩,⟨po,pn,pc⟩,hoo,hbb,hls,hr,HS⟩:=st_get HO1.out.at' m (by rw [←HN.out];exact hlt)
    have hbl:=rangeAt_lt hr (by rw [stE_len];omega)
    have HLS:Hid (Lies (fun b=>w.heap.size≤b∧b < w1.heap.size) w1 (s,⟨lo,ln,lc⟩,⟨po,pn,pc⟩)):=Lib.hid (hls.mono fun b h hb=>⟨h,hb⟩)
    have HR:=Lib.hid hr
    have hc:=st_at (rangeAt_keep hr (HEX.out.block b hbl (by simp)))
    simp only [Sv.v] at hc
    obtain⟨c0,c1,c2,c3,c4,c5,c6,c7,c8,c9,c10,c11,c12⟩:=hc
    clear hls hr
    subst hoo
    by_cases n1:s.number= (m:Int)
    · have n1d: (s.number != (m:Int))=false:=by simp [n1]
      have HN1:Hid (decide (s.number= (m:Int))=true):=Lib.hid (decide_eq_true n1)
      clear n1
      by_cases hm1:m+1 < N
      · have hm1I: (m:Int)+1 < (N:Int):=by omega
        obtain⟨b2,off2,t,⟨lo2,ln2,lc2⟩,⟨po2,pn2,pc2⟩,hoo2,_,_,hr2,HS2⟩:=st_get HO1.out.at' (m+1) (by rw [←HN.out];exact hm1)
        cases hoo2
        have hc2:=st_at (rangeAt_keep hr2 (HEX.out.block b hbl (by simp)))
        simp only [Sv.v] at hc2
        have k1:=hc2.2.1
        clear hr2 hc2
        by_cases n2:t.number= (m:Int)
        · have n2d: (t.number == (m:Int))=true:=by simp [n2]
          have HN2:Hid (decide (t.number= (m:Int))=true):=Lib.hid (decide_eq_true n2)
          clear n2
          have HLEN:Hid ((countedI a l).length=m∧countedI a l=own.take m):=Lib.hid (by
           have h1:countedI a l=own.take m:=by rw [HCE.out,HCZ.out,countTo_stop (goodAt_two HS.out HS2.out HN2.out)]
           exact⟨by rw [h1,List.length_take];have:=HN.out;omega,h1⟩)
          go_wp2
          go_ret
          exact⟨_,rc,by rw [HLEN.out.1];rfl,by rw [HLEN.out.2];exact(HOT.out.keep (Ex.refl wr.heap.size none wr) (Nat.le_refl _)).s (by omega),(HE1.out.trans HEX.out (by omega) (by simp)).trans (Ex.refl wr.heap.size none wr) (by omega) (by simp)⟩
        · have n2d: (t.number == (m:Int))=false:=by simp [n2]
          have HN2:Hid (decide (t.number= (m:Int))=false):=Lib.hid (decide_eq_false n2)
          clear n2
          go_upto_region 8 with(fail)
          clear k1
          by_cases h0:0 < m
          · obtain⟨i,hi⟩:∃i,i=m - 1:=⟨_,rfl⟩
            have hij:i+1=m:=by omega
            have him:m - 1=i:=hi.symm
            have HIJ:=Lib.hid hij
            have HIM:=Lib.hid him
            obtain⟨g,og,q,⟨lo',ln',lc'⟩,⟨po',pn',pc'⟩,hro,hgb,hlq,hrq,HQ⟩:=st_get (HOT.out.s (base:=w.heap.size) (by omega)).at' i (by rw [List.length_take];have:=HN.out;omega)
            have HOQ:Hid (own[m - 1]? =some q):=Lib.hid (by
             have h:=HQ.out
             rw [List.getElem?_take] at h
             rw [HIM.out]
             split at h
             · exact h
             · cases h)
            have hgl:=rangeAt_lt hrq (by rw [stE_len];omega)
            have HTQ:Hid (Tame q):=Lib.hid (HTO.out q (List.mem_of_getElem? HOQ.out))
            have HLQ:=Lib.hid hlq
            have hik: (i:Int) < (m:Int):=by omega
            have hj0: (0:Int) < (m:Int):=by omega
            have hw1:IntKind.i64.wrap ((m:Int) - 1)=i:=by rw [show(m:Int) - 1=i by omega];exact IntWalk.i64_in _ (by omega)
            have hq3:=fun p0:ExW wr=>ExW.st_at hrq p0
            simp only [Sv.v] at hq3
            have hq4:=fun p0:ExW wr=>st_at (rangeAt_keep HR.out ((HEX.out.trans p0.ex hsz (by simp)).block _ hbl (by simp)))
            simp only [Sv.v] at hq4
            have HF:Hid (∀p0:ExW wr,Calls Tryz.prog 81 #[.agg #[.int .i64 q.author,.int .i64 q.number,.string q.prev,.int .i64 q.time,.int .i64 q.kind,.int .i64 q.a,.int .i64 q.b,.int .i64 q.c,.slice lo' ln' lc',.slice po' pn' pc',.string q.body,.int .i64 q.key,.string q.dig],.agg #[.int .i64 s.author,.int .i64 s.number,.string s.prev,.int .i64 s.time,.int .i64 s.kind,.int .i64 s.a,.int .i64 s.b,.int .i64 s.c,.slice lo ln lc,.slice po pn pc,.string s.body,.int .i64 s.key,.string s.dig]] p0.w' fun e w'=>e=.returned (.bool (followsB q s))∧Ex p0.w'.heap.size none p0.w' w'):=Lib.hid (fun p0=>follows04_any q s lo' po' lo po ln' lc' pn' pc' ln lc pn pc _ (HLQ.out.keep fun b _ hb=>p0.ex.block b hb (by simp)) HTQ.out)
            clear hlq hrq hi hij him c0 c1 c2 c3 c4 c5 c6 c7 c8 c9 c10 c11 c12
            subst hro
            have hm0:Hid (decide (m=0)=false):=Lib.hid (decide_eq_false (by omega))
            cases f1:followsB q s with
            | false=>
              rw [f1] at HF
              have HBAD:Hid ((followsB q s && !decide (q.kind=3))=false):=Lib.hid (by rw [f1];rfl)
              clear f1
              go_wp2_with fail
              refine wp_region_quiet_ex (by kernel_rfl) (by kernel_rfl) ?_
              repeat(go_big_quiet_step ((go_at_call 81;refine calls_ex_of (HF.out _))))
              refine wpQuiet_nil ?_
              intro _ hw'
              obtain⟨p9,hw''⟩:=hw'
              subst hw''
              clear hq3 hq4 HF
              have HLEN:Hid ((countedI a l).length=m∧countedI a l=own.take m):=Lib.hid (by
               have h1:countedI a l=own.take m:=by rw [HCE.out,HCZ.out,countTo_stop (goodAt_back HS.out hm0.out HOQ.out HBAD.out)]
               exact⟨by rw [h1,List.length_take];have:=HN.out;omega,h1⟩)
              go_wp2
              go_ret
              exact⟨_,rc,by rw [HLEN.out.1];rfl,by rw [HLEN.out.2];exact(HOT.out.keep p9.ex (Nat.le_refl _)).s (by omega),(HE1.out.trans HEX.out (by omega) (by simp)).trans p9.ex (by omega) (by simp)⟩
            | true=>
              rw [f1] at HF
              by_cases f2:q.kind=3
              · have f2d: (q.kind == 3)=true:=by simp [f2]
                have HBAD:Hid ((followsB q s && !decide (q.kind=3))=false):=Lib.hid (by rw [decide_eq_true f2];simp)
                clear f1 f2
                go_wp2_with fail
                refine wp_region_quiet_ex (by kernel_rfl) (by kernel_rfl) ?_
                repeat(go_big_quiet_step ((go_at_call 81;refine calls_ex_of (HF.out _))))
                refine wpQuiet_nil ?_
                intro _ hw'
                obtain⟨p9,hw''⟩:=hw'
                subst hw''
                clear hq3 hq4 HF
                have HLEN:Hid ((countedI a l).length=m∧countedI a l=own.take m):=Lib.hid (by
                 have h1:countedI a l=own.take m:=by rw [HCE.out,HCZ.out,countTo_stop (goodAt_back HS.out hm0.out HOQ.out HBAD.out)]
                 exact⟨by rw [h1,List.length_take];have:=HN.out;omega,h1⟩)
                go_wp2
                go_ret
                exact⟨_,rc,by rw [HLEN.out.1];rfl,by rw [HLEN.out.2];exact(HOT.out.keep p9.ex (Nat.le_refl _)).s (by omega),(HE1.out.trans HEX.out (by omega) (by simp)).trans p9.ex (by omega) (by simp)⟩
              · have f2d: (q.kind == 3)=false:=by simp [f2]
                have HGB:Hid (m=0∨∃q,own[m - 1]? =some q∧followsB q s=true∧decide (q.kind=3)=false):=Lib.hid (.inr ⟨q,HOQ.out,f1,decide_eq_false f2⟩)
                clear f1 f2
                go_wp2_with fail
                refine wp_region_quiet_ex (by kernel_rfl) (by kernel_rfl) ?_
                repeat(go_big_quiet_step ((go_at_call 81;refine calls_ex_of (HF.out _))))
                refine wpQuiet_nil ?_
                intro _ hw'
                obtain⟨p9,hw''⟩:=hw'
                subst hw''
                clear hq3 hq4 HF
                have HP9:=Lib.hid p9.ex
                generalize p9.w' =wz at HP9
                have hrox: (some ⟨g,og,none⟩:Option Addr)=some ⟨g,og,none⟩∨True:=.inr trivial
                generalize (some ⟨g,og,none⟩:Option Addr)=ro at *
                have HCG:Hid (countTo own m=countTo own (m+1)):=Lib.hid (countTo_go (goodAt_yes HS.out HN1.out (fun t' ht'=>by have e2:=ht'.symm.trans HS2.out;cases e2;exact HN2.out) HGB.out))
                have HEA:Hid (Ex wr.heap.size none wr wz):=Lib.hid (HP9.out)
                have hza:wr.heap.size≤wz.heap.size:=HEA.out.size
                obtain⟨c0,c1,c2,c3,c4,c5,c6,c7,c8,c9,c10,c11,c12⟩:=st_at (rangeAt_keep HR.out ((HEX.out.trans HEA.out hsz (by simp)).block _ hbl (by simp)))
                simp only [Sv.v] at c8 c9
                have HTS:Hid (own.take (m+1)=own.take m ++ [s]):=Lib.hid (by rw [List.take_add_one,HS.out];rfl)
                go_wp2_with (at_builtin;refine wpList_appT rfl (.tmp 68) (.tmp 73) _ (by rfl) Tryz.underlying27 Tryz.infoSt w1.heap.size w.heap.size ro rc m (own.take m) (by rw [List.length_take];have:=HN.out;omega) (by rfl) (some ⟨wz.heap.size,0,none⟩) 1 1 (by rfl) [(s,⟨lo,ln,lc⟩,⟨po,pn,pc⟩)] rfl (HOT.out.keep (HEA.out.trans (Ex.new wz _) hza (by simp)) (Nat.le_refl _)) (lit_cells rfl) (fun x hx=>by rw [List.mem_singleton.1 hx];exact(HLS.out.keep fun b h hb=>((HEX.out.trans HEA.out hsz (by simp)).trans (Ex.new wz _) (by omega) (by simp)).block b hb (by simp)).mono (fun b h _=>⟨h.1,fun e=>by have:=HOT.out.row_ge b e;omega⟩)) (by omega) (by simp;omega) (m+1) rfl ?_;intro ao3 cap3 wd hod hed hbd hrd;have HD:Hid (OwnT wd w1.heap.size w.heap.size ao3 cap3 (own.take (m+1))∧Ex w1.heap.size none wz wd):=Lib.hid ⟨by rw [HTS.out];exact hod,((Ex.new wz _).mono (by omega)).trans hed (by simp) (by simp)⟩;clear hod hed hbd hrd)
                go_roundw
                case rel=>exact⟨m+1,ao3,cap3,by omega,by go_num,rfl,Lib.hid (HCZ.out.trans HCG.out),Lib.hid HD.out.1,(HEX.out.trans HEA.out hsz (by simp)).trans HD.out.2 (by omega) (by simp)⟩
                case measure=>simp [intOf] <;> omega
          · have h0d:decide (0 < m)=false:=decide_eq_false h0
            have HGB:Hid (m=0∨∃q,own[m - 1]? =some q∧followsB q s=true∧decide (q.kind=3)=false):=Lib.hid (.inl (by omega))
            have hq4:=fun p0:ExW wr=>st_at (rangeAt_keep HR.out ((HEX.out.trans p0.ex hsz (by simp)).block _ hbl (by simp)))
            simp only [Sv.v] at hq4
            clear h0 c0 c1 c2 c3 c4 c5 c6 c7 c8 c9 c10 c11 c12
            go_wp2_with fail
            refine wp_region_quiet_ex (by kernel_rfl) (by kernel_rfl) ?_
            repeat(go_big_quiet_step (fail))
            refine wpQuiet_nil ?_
            intro _ hw'
            obtain⟨p9,hw''⟩:=hw'
            subst hw''
            clear hq4
            have HP9:=Lib.hid p9.ex
            generalize p9.w' =wz at HP9
            have HCG:Hid (countTo own m=countTo own (m+1)):=Lib.hid (countTo_go (goodAt_yes HS.out HN1.out (fun t' ht'=>by have e2:=ht'.symm.trans HS2.out;cases e2;exact HN2.out) HGB.out))
            have HEA:Hid (Ex wr.heap.size none wr wz):=Lib.hid (HP9.out)
            have hza:wr.heap.size≤wz.heap.size:=HEA.out.size
            obtain⟨c0,c1,c2,c3,c4,c5,c6,c7,c8,c9,c10,c11,c12⟩:=st_at (rangeAt_keep HR.out ((HEX.out.trans HEA.out hsz (by simp)).block _ hbl (by simp)))
            simp only [Sv.v] at c8 c9
            have HTS:Hid (own.take (m+1)=own.take m ++ [s]):=Lib.hid (by rw [List.take_add_one,HS.out];rfl)
            go_wp2_with (at_builtin;refine wpList_appT rfl (.tmp 68) (.tmp 73) _ (by rfl) Tryz.underlying27 Tryz.infoSt w1.heap.size w.heap.size ro rc m (own.take m) (by rw [List.length_take];have:=HN.out;omega) (by rfl) (some ⟨wz.heap.size,0,none⟩) 1 1 (by rfl) [(s,⟨lo,ln,lc⟩,⟨po,pn,pc⟩)] rfl (HOT.out.keep (HEA.out.trans (Ex.new wz _) hza (by simp)) (Nat.le_refl _)) (lit_cells rfl) (fun x hx=>by rw [List.mem_singleton.1 hx];exact(HLS.out.keep fun b h hb=>((HEX.out.trans HEA.out hsz (by simp)).trans (Ex.new wz _) (by omega) (by simp)).block b hb (by simp)).mono (fun b h _=>⟨h.1,fun e=>by have:=HOT.out.row_ge b e;omega⟩)) (by omega) (by simp;omega) (m+1) rfl ?_;intro ao3 cap3 wd hod hed hbd hrd;have HD:Hid (OwnT wd w1.heap.size w.heap.size ao3 cap3 (own.take (m+1))∧Ex w1.heap.size none wz wd):=Lib.hid ⟨by rw [HTS.out];exact hod,((Ex.new wz _).mono (by omega)).trans hed (by simp) (by simp)⟩;clear hod hed hbd hrd)
            go_roundw
            case rel=>exact⟨m+1,ao3,cap3,by omega,by go_num,rfl,Lib.hid (HCZ.out.trans HCG.out),Lib.hid HD.out.1,(HEX.out.trans HEA.out hsz (by simp)).trans HD.out.2 (by omega) (by simp)⟩
            case measure=>simp [intOf] <;> omega
      · have hm1I : ¬(m:Int)+1 < (N:Int):=by omega
        have hm1d:decide ((m:Int)+1 < (N:Int))=false:=decide_eq_false hm1I
        have HNO:Hid (∀t',own[m+1]?≠some t'):=Lib.hid (fun t' ht'=>by have:=(List.getElem?_eq_some_iff.1 ht').1;rw [←HN.out] at this;omega)
        clear hm1
        go_upto_region 8 with(fail)
        by_cases h0:0 < m
        · obtain⟨i,hi⟩:∃i,i=m - 1:=⟨_,rfl⟩
          have hij:i+1=m:=by omega
          have him:m - 1=i:=hi.symm
          have HIJ:=Lib.hid hij
          have HIM:=Lib.hid him
          obtain⟨g,og,q,⟨lo',ln',lc'⟩,⟨po',pn',pc'⟩,hro,hgb,hlq,hrq,HQ⟩:=st_get (HOT.out.s (base:=w.heap.size) (by omega)).at' i (by rw [List.length_take];have:=HN.out;omega)
          have HOQ:Hid (own[m - 1]? =some q):=Lib.hid (by
           have h:=HQ.out
           rw [List.getElem?_take] at h
           rw [HIM.out]
           split at h
           · exact h
           · cases h)
          have hgl:=rangeAt_lt hrq (by rw [stE_len];omega)
          have HTQ:Hid (Tame q):=Lib.hid (HTO.out q (List.mem_of_getElem? HOQ.out))
          have HLQ:=Lib.hid hlq
          have hik: (i:Int) < (m:Int):=by omega
          have hj0: (0:Int) < (m:Int):=by omega
          have hw1:IntKind.i64.wrap ((m:Int) - 1)=i:=by rw [show(m:Int) - 1=i by omega];exact IntWalk.i64_in _ (by omega)
          have hq3:=fun p0:ExW wr=>ExW.st_at hrq p0
          simp only [Sv.v] at hq3
          have hq4:=fun p0:ExW wr=>st_at (rangeAt_keep HR.out ((HEX.out.trans p0.ex hsz (by simp)).block _ hbl (by simp)))
          simp only [Sv.v] at hq4
          have HF:Hid (∀p0:ExW wr,Calls Tryz.prog 81 #[.agg #[.int .i64 q.author,.int .i64 q.number,.string q.prev,.int .i64 q.time,.int .i64 q.kind,.int .i64 q.a,.int .i64 q.b,.int .i64 q.c,.slice lo' ln' lc',.slice po' pn' pc',.string q.body,.int .i64 q.key,.string q.dig],.agg #[.int .i64 s.author,.int .i64 s.number,.string s.prev,.int .i64 s.time,.int .i64 s.kind,.int .i64 s.a,.int .i64 s.b,.int .i64 s.c,.slice lo ln lc,.slice po pn pc,.string s.body,.int .i64 s.key,.string s.dig]] p0.w' fun e w'=>e=.returned (.bool (followsB q s))∧Ex p0.w'.heap.size none p0.w' w'):=Lib.hid (fun p0=>follows04_any q s lo' po' lo po ln' lc' pn' pc' ln lc pn pc _ (HLQ.out.keep fun b _ hb=>p0.ex.block b hb (by simp)) HTQ.out)
          clear hlq hrq hi hij him c0 c1 c2 c3 c4 c5 c6 c7 c8 c9 c10 c11 c12
          subst hro
          have hm0:Hid (decide (m=0)=false):=Lib.hid (decide_eq_false (by omega))
          cases f1:followsB q s with
          | false=>
            rw [f1] at HF
            have HBAD:Hid ((followsB q s && !decide (q.kind=3))=false):=Lib.hid (by rw [f1];rfl)
            clear f1
            go_wp2_with fail
            refine wp_region_quiet_ex (by kernel_rfl) (by kernel_rfl) ?_
            repeat(go_big_quiet_step ((go_at_call 81;refine calls_ex_of (HF.out _))))
            refine wpQuiet_nil ?_
            intro _ hw'
            obtain⟨p9,hw''⟩:=hw'
            subst hw''
            clear hq3 hq4 HF
            have HLEN:Hid ((countedI a l).length=m∧countedI a l=own.take m):=Lib.hid (by
             have h1:countedI a l=own.take m:=by rw [HCE.out,HCZ.out,countTo_stop (goodAt_back HS.out hm0.out HOQ.out HBAD.out)]
             exact⟨by rw [h1,List.length_take];have:=HN.out;omega,h1⟩)
            go_wp2
            go_ret
            exact⟨_,rc,by rw [HLEN.out.1];rfl,by rw [HLEN.out.2];exact(HOT.out.keep p9.ex (Nat.le_refl _)).s (by omega),(HE1.out.trans HEX.out (by omega) (by simp)).trans p9.ex (by omega) (by simp)⟩
          | true=>
            rw [f1] at HF
            by_cases f2:q.kind=3
            · have f2d: (q.kind == 3)=true:=by simp [f2]
              have HBAD:Hid ((followsB q s && !decide (q.kind=3))=false):=Lib.hid (by rw [decide_eq_true f2];simp)
              clear f1 f2
              go_wp2_with fail
              refine wp_region_quiet_ex (by kernel_rfl) (by kernel_rfl) ?_
              repeat(go_big_quiet_step ((go_at_call 81;refine calls_ex_of (HF.out _))))
              refine wpQuiet_nil ?_
              intro _ hw'
              obtain⟨p9,hw''⟩:=hw'
              subst hw''
              clear hq3 hq4 HF
              have HLEN:Hid ((countedI a l).length=m∧countedI a l=own.take m):=Lib.hid (by
               have h1:countedI a l=own.take m:=by rw [HCE.out,HCZ.out,countTo_stop (goodAt_back HS.out hm0.out HOQ.out HBAD.out)]
               exact⟨by rw [h1,List.length_take];have:=HN.out;omega,h1⟩)
              go_wp2
              go_ret
              exact⟨_,rc,by rw [HLEN.out.1];rfl,by rw [HLEN.out.2];exact(HOT.out.keep p9.ex (Nat.le_refl _)).s (by omega),(HE1.out.trans HEX.out (by omega) (by simp)).trans p9.ex (by omega) (by simp)⟩
            · have f2d: (q.kind == 3)=false:=by simp [f2]
              have HGB:Hid (m=0∨∃q,own[m - 1]? =some q∧followsB q s=true∧decide (q.kind=3)=false):=Lib.hid (.inr ⟨q,HOQ.out,f1,decide_eq_false f2⟩)
              clear f1 f2
              go_wp2_with fail
              refine wp_region_quiet_ex (by kernel_rfl) (by kernel_rfl) ?_
              repeat(go_big_quiet_step ((go_at_call 81;refine calls_ex_of (HF.out _))))
              refine wpQuiet_nil ?_
              intro _ hw'
              obtain⟨p9,hw''⟩:=hw'
              subst hw''
              clear hq3 hq4 HF
              have HP9:=Lib.hid p9.ex
              generalize p9.w' =wz at HP9
              have hrox: (some ⟨g,og,none⟩:Option Addr)=some ⟨g,og,none⟩∨True:=.inr trivial
              generalize (some ⟨g,og,none⟩:Option Addr)=ro at *
              have HCG:Hid (countTo own m=countTo own (m+1)):=Lib.hid (countTo_go (goodAt_yes HS.out HN1.out (fun t' ht'=>absurd ht' (HNO.out t')) HGB.out))
              have HEA:Hid (Ex wr.heap.size none wr wz):=Lib.hid (HP9.out)
              have hza:wr.heap.size≤wz.heap.size:=HEA.out.size
              obtain⟨c0,c1,c2,c3,c4,c5,c6,c7,c8,c9,c10,c11,c12⟩:=st_at (rangeAt_keep HR.out ((HEX.out.trans HEA.out hsz (by simp)).block _ hbl (by simp)))
              simp only [Sv.v] at c8 c9
              have HTS:Hid (own.take (m+1)=own.take m ++ [s]):=Lib.hid (by rw [List.take_add_one,HS.out];rfl)
              go_wp2_with (at_builtin;refine wpList_appT rfl (.tmp 68) (.tmp 73) _ (by rfl) Tryz.underlying27 Tryz.infoSt w1.heap.size w.heap.size ro rc m (own.take m) (by rw [List.length_take];have:=HN.out;omega) (by rfl) (some ⟨wz.heap.size,0,none⟩) 1 1 (by rfl) [(s,⟨lo,ln,lc⟩,⟨po,pn,pc⟩)] rfl (HOT.out.keep (HEA.out.trans (Ex.new wz _) hza (by simp)) (Nat.le_refl _)) (lit_cells rfl) (fun x hx=>by rw [List.mem_singleton.1 hx];exact(HLS.out.keep fun b h hb=>((HEX.out.trans HEA.out hsz (by simp)).trans (Ex.new wz _) (by omega) (by simp)).block b hb (by simp)).mono (fun b h _=>⟨h.1,fun e=>by have:=HOT.out.row_ge b e;omega⟩)) (by omega) (by simp;omega) (m+1) rfl ?_;intro ao3 cap3 wd hod hed hbd hrd;have HD:Hid (OwnT wd w1.heap.size w.heap.size ao3 cap3 (own.take (m+1))∧Ex w1.heap.size none wz wd):=Lib.hid ⟨by rw [HTS.out];exact hod,((Ex.new wz _).mono (by omega)).trans hed (by simp) (by simp)⟩;clear hod hed hbd hrd)
              go_roundw
              case rel=>exact⟨m+1,ao3,cap3,by omega,by go_num,rfl,Lib.hid (HCZ.out.trans HCG.out),Lib.hid HD.out.1,(HEX.out.trans HEA.out hsz (by simp)).trans HD.out.2 (by omega) (by simp)⟩
              case measure=>simp [intOf] <;> omega
        · have h0d:decide (0 < m)=false:=decide_eq_false h0
          have HGB:Hid (m=0∨∃q,own[m - 1]? =some q∧followsB q s=true∧decide (q.kind=3)=false):=Lib.hid (.inl (by omega))
          have hq4:=fun p0:ExW wr=>st_at (rangeAt_keep HR.out ((HEX.out.trans p0.ex hsz (by simp)).block _ hbl (by simp)))
          simp only [Sv.v] at hq4
          clear h0 c0 c1 c2 c3 c4 c5 c6 c7 c8 c9 c10 c11 c12
          go_wp2_with fail
          refine wp_region_quiet_ex (by kernel_rfl) (by kernel_rfl) ?_
          repeat(go_big_quiet_step (fail))
          refine wpQuiet_nil ?_
          intro _ hw'
          obtain⟨p9,hw''⟩:=hw'
          subst hw''
          clear hq4
          have HP9:=Lib.hid p9.ex
          generalize p9.w' =wz at HP9
          have HCG:Hid (countTo own m=countTo own (m+1)):=Lib.hid (countTo_go (goodAt_yes HS.out HN1.out (fun t' ht'=>absurd ht' (HNO.out t')) HGB.out))
          have HEA:Hid (Ex wr.heap.size none wr wz):=Lib.hid (HP9.out)
          have hza:wr.heap.size≤wz.heap.size:=HEA.out.size
          obtain⟨c0,c1,c2,c3,c4,c5,c6,c7,c8,c9,c10,c11,c12⟩:=st_at (rangeAt_keep HR.out ((HEX.out.trans HEA.out hsz (by simp)).block _ hbl (by simp)))
          simp only [Sv.v] at c8 c9
          have HTS:Hid (own.take (m+1)=own.take m ++ [s]):=Lib.hid (by rw [List.take_add_one,HS.out];rfl)
          go_wp2_with (at_builtin;refine wpList_appT rfl (.tmp 68) (.tmp 73) _ (by rfl) Tryz.underlying27 Tryz.infoSt w1.heap.size w.heap.size ro rc m (own.take m) (by rw [List.length_take];have:=HN.out;omega) (by rfl) (some ⟨wz.heap.size,0,none⟩) 1 1 (by rfl) [(s,⟨lo,ln,lc⟩,⟨po,pn,pc⟩)] rfl (HOT.out.keep (HEA.out.trans (Ex.new wz _) hza (by simp)) (Nat.le_refl _)) (lit_cells rfl) (fun x hx=>by rw [List.mem_singleton.1 hx];exact(HLS.out.keep fun b h hb=>((HEX.out.trans HEA.out hsz (by simp)).trans (Ex.new wz _) (by omega) (by simp)).block b hb (by simp)).mono (fun b h _=>⟨h.1,fun e=>by have:=HOT.out.row_ge b e;omega⟩)) (by omega) (by simp;omega) (m+1) rfl ?_;intro ao3 cap3 wd hod hed hbd hrd;have HD:Hid (OwnT wd w1.heap.size w.heap.size ao3 cap3 (own.take (m+1))∧Ex w1.heap.size none wz wd):=Lib.hid ⟨by rw [HTS.out];exact hod,((Ex.new wz _).mono (by omega)).trans hed (by simp) (by simp)⟩;clear hod hed hbd hrd)
          go_roundw
          case rel=>exact⟨m+1,ao3,cap3,by omega,by go_num,rfl,Lib.hid (HCZ.out.trans HCG.out),Lib.hid HD.out.1,(HEX.out.trans HEA.out hsz (by simp)).trans HD.out.2 (by omega) (by simp)⟩
          case measure=>simp [intOf] <;> omega
    · have n1d: (s.number != (m:Int))=true:=by simp [n1]
      have HN1:Hid (decide (s.number= (m:Int))=false):=Lib.hid (decide_eq_false n1)
      clear n1
      have HLEN:Hid ((countedI a l).length=m∧countedI a l=own.take m):=Lib.hid (by
       have h1:countedI a l=own.take m:=by rw [HCE.out,HCZ.out,countTo_stop (goodAt_num HS.out HN1.out)]
       exact⟨by rw [h1,List.length_take];have:=HN.out;omega,h1⟩)
      go_wp2
      go_ret
      exact⟨_,rc,by rw [HLEN.out.1];rfl,by rw [HLEN.out.2];exact(HOT.out.keep (Ex.refl wr.heap.size none wr) (Nat.le_refl _)).s (by omega),(HE1.out.trans HEX.out (by omega) (by simp)).trans (Ex.refl wr.heap.size none wr) (by omega) (by simp)⟩
  · have hltI : ¬(m:Int) < (N:Int):=by omega
    have HLEN:Hid ((countedI a l).length=m∧countedI a l=own.take m):=Lib.hid (by
     have h1:countedI a l=own.take m:=by rw [HCE.out,HCZ.out,countTo_stop (goodAt_none (by rw [←HN.out];omega))]
     exact⟨by rw [h1,List.length_take];have:=HN.out;omega,h1⟩)
    go_wp2
    go_ret
    exact⟨_,rc,by rw [HLEN.out.1];rfl,by rw [HLEN.out.2];exact(HOT.out.keep (Ex.refl wr.heap.size none wr) (Nat.le_refl _)).s (by omega),(HE1.out.trans HEX.out (by omega) (by simp)).trans (Ex.refl wr.heap.size none wr) (by omega) (by simp)⟩
end Go.Proofs.YtflhidfclfkjlaaGreat

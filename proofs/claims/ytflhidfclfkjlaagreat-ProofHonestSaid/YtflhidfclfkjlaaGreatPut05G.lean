/- ref05.put: a contract. No statement of the seat. -/
import Derived.Deep.Cut
import Derived.BigQuiet
import Derived.Test.YtflhidfclfkjlaaGreatMg05
import Derived.Test.YtflhidfclfkjlaaGreatRefOrderG
namespace Go.Proofs.YtflhidfclfkjlaaGreat
open Go.RowKit Go.Sort
def putPos (acc:List St) (s:St):Nat:=(acc.takeWhile fun t=>before05B t s).length
def put05 (acc:List St) (s:St):List St:=if (acc[putPos acc s]?).any (sameS · s) then acc else acc.take (putPos acc s) ++ [s] ++ acc.drop (putPos acc s)
theorem putPos_eq {acc:List St} {s:St} {j:Nat} (hj:j≤acc.length) (hlt:∀i t,i < j→acc[i]? =some t→before05B t s=true) (hno:∀t,acc[j]? =some t→before05B t s=false):putPos acc s=j:=by
 unfold putPos
 have e:acc=acc.take j ++ acc.drop j:=(List.take_append_drop j acc).symm
 have h1:∀x∈acc.take j,before05B x s=true:=fun x hx=>by
  obtain⟨i,hi⟩:=List.mem_iff_getElem?.1 hx
  have hij:i < j:=by have:=(List.getElem?_eq_some_iff.1 hi).1;simp at this;omega
  exact hlt i x hij (by rw [←hi,List.getElem?_take];simp [hij])
 rw [e,List.takeWhile_append_of_pos h1]
 have h2: (acc.drop j).takeWhile (fun t=>before05B t s)=[]:=by
  cases hd:acc.drop j with
  | nil=>rfl
  | cons t r=>
    have:acc[j]? =some t:=by
     have h3: (acc.drop j)[0]? =some t:=by rw [hd];rfl
     rw [List.getElem?_drop] at h3;simpa using h3
    rw [List.takeWhile_cons,hno t this];rfl
 rw [h2,List.append_nil,List.length_take];omega
theorem ownPut05_same {acc:List St} {s t:St} {j:Nat} (h:putPos acc s=j) (ht:acc[j]? =some t) (hs:sameS t s=true):put05 acc s=acc:=by
 unfold put05;rw [h,ht];simp [hs]
theorem ownPut05_new {acc:List St} {s:St} {j:Nat} (h:putPos acc s=j) (hs:∀t,acc[j]? =some t→sameS t s=false):put05 acc s=acc.take j ++ [s] ++ acc.drop j:=by
 unfold put05;rw [h]
 cases hj:acc[j]? with
 | none=>simp
 | some t=>simp [hs t hj]
theorem put05_len (acc:List St) (s:St): (put05 acc s).length≤acc.length+1:=by
 unfold put05
 split
 · omega
 · simp only [List.length_append,List.length_take,List.length_drop,List.length_singleton];omega
set_option maxHeartbeats 16000000 in
set_option maxRecDepth 100000 in
theorem put05_any {P:Nat→Prop} (ro:Option Addr) (rc:Nat) (acc:List St) (s:St) (lo po:Option Addr) (ln lc pn pc g0 base:Nat) (w:World) (hown:OwnZ g0 base w ro rc acc) (hg0:g0 < w.heap.size) (hls:Lies P w (s,⟨lo,ln,lc⟩,⟨po,pn,pc⟩)) (hbase:base≤w.heap.size) (hm:acc.length≤100000) (hla:LightL 1000000 acc) (hm1:s.list.length≤1000000∧s.pins.length≤1000000) :
 Calls Tryz.prog 84 #[.slice ro acc.length rc,.agg #[.int .i64 s.author,.int .i64 s.number,.string s.prev,.int .i64 s.time,.int .i64 s.kind,.int .i64 s.a,.int .i64 s.b,.int .i64 s.c,.slice lo ln lc,.slice po pn pc,.string s.body,.int .i64 s.key,.string s.dig]] w fun e w'=>∃ro' rc' b,e=.returned (.tuple #[.slice ro' (put05 acc s).length rc',.bool b])∧OwnZ g0 base w' ro' rc' (put05 acc s)∧Ex w.heap.size none w w':=by
 obtain⟨n,hn⟩:∃n,n=acc.length:=⟨_,rfl⟩
 have HAL:Hid (acc.length=n):=Lib.hid hn.symm
 rw [HAL.out] at hm ⊢
 have HLA:=Lib.hid hla
 have HZ:=Lib.hid hown
 have HO:=Lib.hid hown.s
 have HLS:=Lib.hid hls
 clear hla hown hls hn
 go_enter Tryz.func84,Tryz.ntmps84
 go_upto_region 2 with(fail)
 obtain⟨ws,hws⟩:∃ws:World,ws=w.alloc (.cells #[.int .i64 s.author,.int .i64 s.number,.string s.prev,.int .i64 s.time,.int .i64 s.kind,.int .i64 s.a,.int .i64 s.b,.int .i64 s.c,.slice lo ln lc,.slice po pn pc,.string s.body,.int .i64 s.key,.string s.dig] 51):=⟨_,rfl⟩
 have HEs:Hid (Ex w.heap.size none w ws):=by rw [hws];exact Ex.new w _
 have HBs:Hid (ws.heap[w.heap.size]? =some (.cells #[.int .i64 s.author,.int .i64 s.number,.string s.prev,.int .i64 s.time,.int .i64 s.kind,.int .i64 s.a,.int .i64 s.b,.int .i64 s.c,.slice lo ln lc,.slice po pn pc,.string s.body,.int .i64 s.key,.string s.dig] 51 (0,0))):=by rw [hws];exact heap_alloc_new w _
 have hzs:w.heap.size < ws.heap.size:=by rw [hws];simp
 have HQS:Hid (∀w',Ex ws.heap.size none ws w'→w'.cell? ⟨w.heap.size,0,none⟩=some (.int .i64 s.author)∧w'.cell? ⟨w.heap.size,1,none⟩=some (.int .i64 s.number)∧w'.cell? ⟨w.heap.size,2,none⟩=some (.string s.prev)∧w'.cell? ⟨w.heap.size,3,none⟩=some (.int .i64 s.time)∧w'.cell? ⟨w.heap.size,4,none⟩=some (.int .i64 s.kind)∧w'.cell? ⟨w.heap.size,5,none⟩=some (.int .i64 s.a)∧w'.cell? ⟨w.heap.size,6,none⟩=some (.int .i64 s.b)∧w'.cell? ⟨w.heap.size,7,none⟩=some (.int .i64 s.c)∧w'.cell? ⟨w.heap.size,8,none⟩=some (.slice lo ln lc)∧w'.cell? ⟨w.heap.size,9,none⟩=some (.slice po pn pc)∧w'.cell? ⟨w.heap.size,10,none⟩=some (.string s.body)∧w'.cell? ⟨w.heap.size,11,none⟩=some (.int .i64 s.key)∧w'.cell? ⟨w.heap.size,12,none⟩=some (.string s.dig)):=Lib.hid (fun w' h=>(st_block ((h.block w.heap.size hzs (by simp)).trans HBs.out)).1)
 rw [←hws]
 clear hws
 go_wp2_with fail
 go_loopw [6] (fun u wi=>∃(j:Nat),j≤n∧u=.int .i64 j∧Hid (∀i t,i < j→acc[i]? =some t→before05B t s=true)∧Ex ws.heap.size none ws wi) (fun u _=>n - (intOf u).toNat)
 case atStart=>exact⟨0,by omega,rfl,Lib.hid (fun i t hi=>by omega),Ex.refl _ _ _⟩
 case round=>
  obtain⟨j,hj,rfl,HJ,hexi⟩:=hrel
  have hszi:=hexi.size
  by_cases hjt:j < n
  · obtain⟨g,og,t,⟨lo',ln',lc'⟩,⟨po',pn',pc'⟩,hro,hgb,hlt',hrt,HT⟩:=st_get (HO.out.keep (HEs.out.trans hexi (by omega) (by simp)) (Nat.le_refl _)).at' j (by rw [HAL.out];omega)
    have hgl:=rangeAt_lt hrt (by rw [stE_len];omega)
    have HLT:=Lib.hid hlt'
    have HRT:=Lib.hid hrt
    have hj0: (j:Int) < (n:Int):=by omega
    have hq3:=fun p0:ExW wr=>ExW.st_at hrt p0
    simp only [Sv.v] at hq3
    have hq4:=fun p0:ExW wr=>HQS.out _ (hexi.trans p0.ex hszi (by simp))
    have HEI:=Lib.hid hexi
    have HBC:Hid (∀p0:ExW wr,Calls Tryz.prog 55 #[.agg #[.int .i64 t.author,.int .i64 t.number,.string t.prev,.int .i64 t.time,.int .i64 t.kind,.int .i64 t.a,.int .i64 t.b,.int .i64 t.c,.slice lo' ln' lc',.slice po' pn' pc',.string t.body,.int .i64 t.key,.string t.dig],.agg #[.int .i64 s.author,.int .i64 s.number,.string s.prev,.int .i64 s.time,.int .i64 s.kind,.int .i64 s.a,.int .i64 s.b,.int .i64 s.c,.slice lo ln lc,.slice po pn pc,.string s.body,.int .i64 s.key,.string s.dig]] p0.w' fun e w'=>e=.returned (.bool (before05B t s))∧Ex p0.w'.heap.size none p0.w' w'):=Lib.hid (fun p0=>before05_any (t,⟨lo',ln',lc'⟩,⟨po',pn',pc'⟩) (s,⟨lo,ln,lc⟩,⟨po,pn,pc⟩) _)
    clear hrt hlt' hexi
    subst hro
    cases hlb:before05B t s with
    | true=>
      rw [hlb] at HBC
      have HLTB:=Lib.hid hlb
      clear hlb
      go_wp2_with fail
      refine wp_region_quiet_ex (by kernel_rfl) (by kernel_rfl) ?_
      repeat(go_big_quiet_step ((go_at_call 55;refine calls_ex_of (HBC.out _))))
      refine wpQuiet_nil ?_
      intro _ hw'
      obtain⟨p9,hw''⟩:=hw'
      subst hw''
      clear hq3 hq4
      go_wp2
      go_roundw
      case rel=>exact⟨j+1,by omega,by go_num,Lib.hid (fun i t' hi ht'=>by
       by_cases e:i=j
       · subst e
         have e2:=ht'.symm.trans HT.out
         cases e2
         exact HLTB.out
       · exact HJ.out i t' (by omega) ht'),HEI.out.trans p9.ex hszi (by simp)⟩
      case measure=>simp [intOf] <;> omega
    | false=>
      rw [hlb] at HBC
      have HLTB:=Lib.hid hlb
      clear hlb
      go_wp2_with fail
      refine wp_region_quiet_ex (by kernel_rfl) (by kernel_rfl) ?_
      repeat(go_big_quiet_step ((go_at_call 55;refine calls_ex_of (HBC.out _))))
      refine wpQuiet_nil ?_
      intro _ hw'
      obtain⟨p9,hw''⟩:=hw'
      subst hw''
      have HUP:Hid (putPos acc s=j):=Lib.hid (putPos_eq (by rw [HAL.out];omega) HJ.out (fun t' ht'=>by have e2:=ht'.symm.trans HT.out;cases e2;exact HLTB.out))
      have HE2:Hid (Ex ws.heap.size none ws p9.w'):=Lib.hid (HEI.out.trans p9.ex hszi (by simp))
      have HEP:Hid (Ex wr.heap.size none wr p9.w'):=Lib.hid p9.ex
      generalize p9.w' =w9 at HE2 HEP
      clear hq3 hq4
      go_wp2_with fail
      have hq5:=fun p0:ExW w9=>ExW.st_at (rangeAt_keep HRT.out ((HEP.out.trans p0.ex HEP.out.size (by simp)).block _ hgl (by simp))) (⟨p0.w',Ex.refl _ _ _⟩:ExW p0.w')
      simp only [Sv.v] at hq5
      have hq6:=fun p0:ExW w9=>HQS.out _ (HE2.out.trans p0.ex HE2.out.size (by simp))
      have HSC:Hid (∀p0:ExW w9,Calls Tryz.prog 110 #[.agg #[.int .i64 t.author,.int .i64 t.number,.string t.prev,.int .i64 t.time,.int .i64 t.kind,.int .i64 t.a,.int .i64 t.b,.int .i64 t.c,.slice lo' ln' lc',.slice po' pn' pc',.string t.body,.int .i64 t.key,.string t.dig],.agg #[.int .i64 s.author,.int .i64 s.number,.string s.prev,.int .i64 s.time,.int .i64 s.kind,.int .i64 s.a,.int .i64 s.b,.int .i64 s.c,.slice lo ln lc,.slice po pn pc,.string s.body,.int .i64 s.key,.string s.dig]] p0.w' fun e w'=>e=.returned (.bool (sameS t s))∧Ex p0.w'.heap.size none p0.w' w'):=Lib.hid (fun p0=>same_any (t,⟨lo',ln',lc'⟩,⟨po',pn',pc'⟩) (s,⟨lo,ln,lc⟩,⟨po,pn,pc⟩) _ (HLT.out.keep fun b _ hb=>(HEP.out.trans p0.ex HEP.out.size (by simp)).block b hb (by simp)) (HLS.out.keep fun b _ hb=>(HEs.out.trans (HE2.out.trans p0.ex HE2.out.size (by simp)) (by omega) (by simp)).block b hb (by simp)) (by have:=(HLA.out.get HT.out).1;show t.list.length≤_;omega) (by have:=(HLA.out.get HT.out).2;show t.pins.length≤_;omega))
      cases hsm:sameS t s with
      | true=>
        rw [hsm] at HSC
        have HSMT:=Lib.hid hsm
        clear hsm
        refine wp_region_quiet_ex (by kernel_rfl) (by kernel_rfl) ?_
        repeat(go_big_quiet_step ((go_at_call 110;refine calls_ex_of (HSC.out _))))
        refine wpQuiet_nil ?_
        intro _ hw'
        obtain⟨p9,hw''⟩:=hw'
        subst hw''
        have HE10:Hid (Ex ws.heap.size none ws p9.w'):=Lib.hid (HE2.out.trans p9.ex HE2.out.size (by simp))
        clear hq5 hq6 HSC
        go_wp2
        go_ret2
        have HPN:=ownPut05_same HUP.out HT.out HSMT.out
        exact⟨_,rc,false,by rw [HPN,HAL.out];rfl,by rw [HPN];exact HZ.out.keep (fun b _ _ hlt=>(HEs.out.trans HE10.out (by omega) (by simp)).block b hlt (by simp)),HEs.out.trans HE10.out (by omega) (by simp)⟩
      | false=>
        rw [hsm] at HSC
        have HSM:Hid (∀t',acc[j]? =some t'→sameS t' s=false):=Lib.hid (fun t' ht'=>by have e2:=ht'.symm.trans HT.out;cases e2;exact hsm)
        clear hsm
        refine wp_region_quiet_ex (by kernel_rfl) (by kernel_rfl) ?_
        repeat(go_big_quiet_step ((go_at_call 110;refine calls_ex_of (HSC.out _))))
        refine wpQuiet_nil ?_
        intro _ hw'
        obtain⟨p9,hw''⟩:=hw'
        subst hw''
        replace HE2:Hid (Ex ws.heap.size none ws p9.w'):=Lib.hid (HE2.out.trans p9.ex HE2.out.size (by simp))
        clear hq5 hq6 HSC
        generalize p9.w' =w2 at HE2
        have hrox: (some ⟨g,og,none⟩:Option Addr)=some ⟨g,og,none⟩∨True:=.inr trivial
        generalize (some ⟨g,og,none⟩:Option Addr)=ro at *
        have hz2:ws.heap.size≤w2.heap.size:=HE2.out.size
        have HEW:Hid (Ex w.heap.size none w w2):=Lib.hid (HEs.out.trans HE2.out (by omega) (by simp))
        have HOZ:Hid (OwnZ g0 base w2 ro rc acc):=Lib.hid (HZ.out.keep (fun b _ _ hlt=>HEW.out.block b hlt (by simp)))
        have HQ2:Hid (∀w',Ex w2.heap.size none w2 w'→w'.cell? ⟨w.heap.size,0,none⟩=some (.int .i64 s.author)∧w'.cell? ⟨w.heap.size,1,none⟩=some (.int .i64 s.number)∧w'.cell? ⟨w.heap.size,2,none⟩=some (.string s.prev)∧w'.cell? ⟨w.heap.size,3,none⟩=some (.int .i64 s.time)∧w'.cell? ⟨w.heap.size,4,none⟩=some (.int .i64 s.kind)∧w'.cell? ⟨w.heap.size,5,none⟩=some (.int .i64 s.a)∧w'.cell? ⟨w.heap.size,6,none⟩=some (.int .i64 s.b)∧w'.cell? ⟨w.heap.size,7,none⟩=some (.int .i64 s.c)∧w'.cell? ⟨w.heap.size,8,none⟩=some (.slice lo ln lc)∧w'.cell? ⟨w.heap.size,9,none⟩=some (.slice po pn pc)∧w'.cell? ⟨w.heap.size,10,none⟩=some (.string s.body)∧w'.cell? ⟨w.heap.size,11,none⟩=some (.int .i64 s.key)∧w'.cell? ⟨w.heap.size,12,none⟩=some (.string s.dig)):=Lib.hid (fun w' h=>HQS.out _ (HE2.out.trans h hz2 (by simp)))
        go_wp2_with fail
        obtain⟨xs,a2,hxs,hlies,hs1,ha2,hs2,hra,hrl⟩:=HOZ.out.1.parts j (by rw [HAL.out];omega)
        have HSS:Hid (xs.map (·.1)=acc∧(∀x∈xs,Lies (fun b=>(base≤b∧b≠g0)∧rowOf ro≠some b) w2 x)∧Src w2 ro (xs.take j)∧Src w2 a2 (xs.drop j)∧rowOf a2=rowOf ro∧∀b,rowOf ro=some b→b < w2.heap.size):=⟨hxs,hlies,hs1,hs2,hra,hrl⟩
        have HXL:Hid (xs.length=n):=(show xs.length=n by rw [←HAL.out,←hxs];simp)
        have HTL:Hid ((xs.take j).length=j):=(show _=_ by rw [List.length_take,HXL.out];omega)
        have HDL:Hid ((xs.drop j).length=n - j):=(show _=_ by rw [List.length_drop,HXL.out])
        have hkc:n≤rc:=by have:=HOZ.out.1.len;rw [HAL.out] at this;exact this
        clear hxs hlies hs1 hs2 hra hrl
        have g1: (0:Int)≤(j:Int):=by omega
        have g2: (j:Int)≤(n:Int):=by omega
        have g3: (n:Int)≤(rc:Int):=by omega
        have g4: (j:Int)≤(rc:Int):=by omega
        go_region_held3 (fun w'=>w'.cell? ⟨w.heap.size,0,none⟩=some (.int .i64 s.author)∧w'.cell? ⟨w.heap.size,1,none⟩=some (.int .i64 s.number)∧w'.cell? ⟨w.heap.size,2,none⟩=some (.string s.prev)∧w'.cell? ⟨w.heap.size,3,none⟩=some (.int .i64 s.time)∧w'.cell? ⟨w.heap.size,4,none⟩=some (.int .i64 s.kind)∧w'.cell? ⟨w.heap.size,5,none⟩=some (.int .i64 s.a)∧w'.cell? ⟨w.heap.size,6,none⟩=some (.int .i64 s.b)∧w'.cell? ⟨w.heap.size,7,none⟩=some (.int .i64 s.c)∧w'.cell? ⟨w.heap.size,8,none⟩=some (.slice lo ln lc)∧w'.cell? ⟨w.heap.size,9,none⟩=some (.slice po pn pc)∧w'.cell? ⟨w.heap.size,10,none⟩=some (.string s.body)∧w'.cell? ⟨w.heap.size,11,none⟩=some (.int .i64 s.key)∧w'.cell? ⟨w.heap.size,12,none⟩=some (.string s.dig)) (first | exact HQ2.out _ ((Ex.refl _ _ w2).drew) | exact HQ2.out _ HA.out.2.1 | exact HQ2.out _ (HA.out.2.1.trans HCC.out.2 hza (by simp)) | exact HQ2.out _ ((HA.out.2.1.trans HCC.out.2 hza (by simp)).trans (Ex.new wc _) (by omega) (by simp)) | exact HQ2.out _ HB.out.2 | exact HQ2.out _ HD.out.2)
         (first
           | (refine step_appG rfl (.const (.slice none 0 0)) (.tmp 36) _ (by rfl) Tryz.underlying27 Tryz.infoSt w2.heap.size (fun b=>base≤b∧b≠g0) none 0 0 [] rfl (by rfl) ro j rc (by rfl) (xs.take j) HTL.out (OwnG.nil _ _ _) (HSS.out.2.2.1.keep fun _ _ _=>rfl) (fun x hx=>((HSS.out.2.1 x (List.mem_of_mem_take hx)).keep fun _ _ _=>rfl).mono fun b h _=>⟨h.1,by simp [rowOf]⟩) (by omega) (Nat.le_refl _) j (by omega) ?_
              intro ao1 cap1 wa hoa hea hba hra
              have HA:Hid (OwnG wa w2.heap.size (fun b=>base≤b∧b≠g0) ao1 cap1 ((xs.take j).map (·.1))∧Ex w2.heap.size none w2 wa∧(∀b,rowOf ao1=some b→b < wa.heap.size)):=⟨by simpa using hoa,(Ex.refl _ _ w2).drew.trans hea (Nat.le_refl _) (by simp),hoa.row⟩
              have hza:w2.heap.size≤wa.heap.size:=hea.size
              clear hoa hea hba hra)
           | (go_at_call 52
              refine(copy03_lit s lo po ln lc pn pc _ (HLS.out.keep fun b _ hb=>(HA.out.2.1.block b (by omega) (by simp)).trans (HEW.out.block b hb (by simp))) (by omega)).mono ?_
              rintro e wc ⟨la,na,ca,pa,np,cp,rfl,hlc,hexc⟩
              have HCC:Hid (Lies (fun b=>wa.heap.size≤b) wc (s,⟨la,na,ca⟩,⟨pa,np,cp⟩)∧Ex wa.heap.size none wa wc):=⟨hlc,hexc⟩
              have hzc:wa.heap.size≤wc.heap.size:=hexc.size
              clear hlc hexc)
           | (refine step_appG rfl (.tmp 37) (.tmp 40) _ (by rfl) Tryz.underlying27 Tryz.infoSt w2.heap.size (fun b=>base≤b∧b≠g0) ao1 cap1 j ((xs.take j).map (·.1)) (by rw [List.length_map,HTL.out]) (by rfl) (some ⟨wc.heap.size,0,none⟩) 1 1 (by rfl) [(s,⟨la,na,ca⟩,⟨pa,np,cp⟩)] rfl (HA.out.1.keep ((HCC.out.2).trans (Ex.new wc _) hzc (by simp)) (Nat.le_refl _)) (lit_cells rfl) (fun x hx=>by rw [List.mem_singleton.1 hx];exact(HCC.out.1.keep fun b _ hb=>(Ex.new wc _).block b hb (by simp)).mono fun b h _=>⟨⟨by omega,by omega⟩,fun e=>by have:=HA.out.2.2 b e;omega⟩) (by omega) (by simp;omega) (j+1) rfl ?_
              intro ao2 cap2 wb hob heb hbb hrb
              have HB:Hid (OwnG wb w2.heap.size (fun b=>base≤b∧b≠g0) ao2 cap2 ((xs.take j).map (·.1) ++ [s])∧Ex w2.heap.size none w2 wb):=⟨by simpa using hob,((HA.out.2.1.trans HCC.out.2 hza (by simp)).trans (Ex.new wc _) (by omega) (by simp)).trans heb (Nat.le_refl _) (by simp)⟩
              have hzb2:w2.heap.size≤wb.heap.size:=HB.out.2.size
              clear hob heb hbb hrb)
           | (refine step_appG rfl (.tmp 41) (.tmp 44) _ (by rfl) Tryz.underlying27 Tryz.infoSt w2.heap.size (fun b=>base≤b∧b≠g0) ao2 cap2 (j+1) ((xs.take j).map (·.1) ++ [s]) (by rw [List.length_append,List.length_map,HTL.out];rfl) (by rfl) a2 (n - j) (rc - j) (by rfl) (xs.drop j) HDL.out HB.out.1 (HSS.out.2.2.2.1.keep fun b e hb=>HB.out.2.block b hb (by simp)) (fun x hx=>((HSS.out.2.1 x (List.mem_of_mem_drop hx)).mono (P':=fun b=>(base≤b∧b≠g0)∧b < w2.heap.size) fun b h hb=>⟨h.1,hb⟩).keep (fun b h _=>HB.out.2.block b h.2 (by simp)) |>.mono fun b h _=>⟨h.1,fun e=>by have:=HB.out.1.row_ge b e;omega⟩) (by omega) (by omega) (n+1) (by omega) ?_
              intro ao3 cap3 wd hod hed hbd hrd
              have HD:Hid (OwnG wd w2.heap.size (fun b=>base≤b∧b≠g0) ao3 cap3 (acc.take j ++ [s] ++ acc.drop j)∧Ex w2.heap.size none w2 wd):=⟨by rw [←HSS.out.1,←List.map_take,←List.map_drop];exact hod,HB.out.2.trans hed (Nat.le_refl _) (by simp)⟩
              clear hod hed hbd hrd)
           | fail)
        go_wp2
        go_ret2
        have HPN:=ownPut05_new HUP.out HSM.out
        exact⟨ao3,cap3,true,by rw [HPN,List.length_append,List.length_append,List.length_take,List.length_drop,HAL.out,show min j n+[s].length+ (n - j)=n+1 from by simp;omega];rfl,by rw [HPN];exact⟨HD.out.1.lowG (by omega),fun e=>by have:=HD.out.1.row_ge _ e;omega⟩,HEW.out.trans HD.out.2 (by omega) (by simp)⟩
  · have hjn:decide (j < n)=false:=decide_eq_false (by omega)
    have hq4:=fun p0:ExW wr=>HQS.out _ (hexi.trans p0.ex hszi (by simp))
    have HEI:=Lib.hid hexi
    clear hexi hjt
    go_wp2_with fail
    refine wp_region_quiet_ex (by kernel_rfl) (by kernel_rfl) ?_
    repeat(go_big_quiet_step (fail))
    refine wpQuiet_nil ?_
    intro _ hw'
    obtain⟨p9,hw''⟩:=hw'
    subst hw''
    have HNOJ:Hid (∀t',acc[j]?≠some t'):=Lib.hid (fun t' ht'=>by have:=(List.getElem?_eq_some_iff.1 ht').1;rw [HAL.out] at this;simp at hjn;omega)
    have HUP:Hid (putPos acc s=j):=Lib.hid (putPos_eq (by rw [HAL.out];omega) HJ.out (fun t' ht'=>absurd ht' (HNOJ.out t')))
    have HE2:Hid (Ex ws.heap.size none ws p9.w'):=Lib.hid (HEI.out.trans p9.ex hszi (by simp))
    have HSM:Hid (∀t',acc[j]? =some t'→sameS t' s=false):=Lib.hid (fun t' ht'=>absurd ht' (HNOJ.out t'))
    generalize p9.w' =w9 at HE2
    clear hq4
    go_wp2_with fail
    refine wp_region_quiet_ex (by kernel_rfl) (by kernel_rfl) ?_
    repeat(go_big_quiet_step (fail))
    refine wpQuiet_nil ?_
    intro _ hw'
    obtain⟨p9,hw''⟩:=hw'
    subst hw''
    replace HE2:Hid (Ex ws.heap.size none ws p9.w'):=Lib.hid (HE2.out.trans p9.ex HE2.out.size (by simp))
    generalize p9.w' =w2 at HE2
    have hz2:ws.heap.size≤w2.heap.size:=HE2.out.size
    have HEW:Hid (Ex w.heap.size none w w2):=Lib.hid (HEs.out.trans HE2.out (by omega) (by simp))
    have HOZ:Hid (OwnZ g0 base w2 ro rc acc):=Lib.hid (HZ.out.keep (fun b _ _ hlt=>HEW.out.block b hlt (by simp)))
    have HQ2:Hid (∀w',Ex w2.heap.size none w2 w'→w'.cell? ⟨w.heap.size,0,none⟩=some (.int .i64 s.author)∧w'.cell? ⟨w.heap.size,1,none⟩=some (.int .i64 s.number)∧w'.cell? ⟨w.heap.size,2,none⟩=some (.string s.prev)∧w'.cell? ⟨w.heap.size,3,none⟩=some (.int .i64 s.time)∧w'.cell? ⟨w.heap.size,4,none⟩=some (.int .i64 s.kind)∧w'.cell? ⟨w.heap.size,5,none⟩=some (.int .i64 s.a)∧w'.cell? ⟨w.heap.size,6,none⟩=some (.int .i64 s.b)∧w'.cell? ⟨w.heap.size,7,none⟩=some (.int .i64 s.c)∧w'.cell? ⟨w.heap.size,8,none⟩=some (.slice lo ln lc)∧w'.cell? ⟨w.heap.size,9,none⟩=some (.slice po pn pc)∧w'.cell? ⟨w.heap.size,10,none⟩=some (.string s.body)∧w'.cell? ⟨w.heap.size,11,none⟩=some (.int .i64 s.key)∧w'.cell? ⟨w.heap.size,12,none⟩=some (.string s.dig)):=Lib.hid (fun w' h=>HQS.out _ (HE2.out.trans h hz2 (by simp)))
    go_wp2_with fail
    obtain⟨xs,a2,hxs,hlies,hs1,ha2,hs2,hra,hrl⟩:=HOZ.out.1.parts j (by rw [HAL.out];omega)
    have HSS:Hid (xs.map (·.1)=acc∧(∀x∈xs,Lies (fun b=>(base≤b∧b≠g0)∧rowOf ro≠some b) w2 x)∧Src w2 ro (xs.take j)∧Src w2 a2 (xs.drop j)∧rowOf a2=rowOf ro∧∀b,rowOf ro=some b→b < w2.heap.size):=⟨hxs,hlies,hs1,hs2,hra,hrl⟩
    have HXL:Hid (xs.length=n):=(show xs.length=n by rw [←HAL.out,←hxs];simp)
    have HTL:Hid ((xs.take j).length=j):=(show _=_ by rw [List.length_take,HXL.out];omega)
    have HDL:Hid ((xs.drop j).length=n - j):=(show _=_ by rw [List.length_drop,HXL.out])
    have hkc:n≤rc:=by have:=HOZ.out.1.len;rw [HAL.out] at this;exact this
    clear hxs hlies hs1 hs2 hra hrl
    have g1: (0:Int)≤(j:Int):=by omega
    have g2: (j:Int)≤(n:Int):=by omega
    have g3: (n:Int)≤(rc:Int):=by omega
    have g4: (j:Int)≤(rc:Int):=by omega
    go_region_held3 (fun w'=>w'.cell? ⟨w.heap.size,0,none⟩=some (.int .i64 s.author)∧w'.cell? ⟨w.heap.size,1,none⟩=some (.int .i64 s.number)∧w'.cell? ⟨w.heap.size,2,none⟩=some (.string s.prev)∧w'.cell? ⟨w.heap.size,3,none⟩=some (.int .i64 s.time)∧w'.cell? ⟨w.heap.size,4,none⟩=some (.int .i64 s.kind)∧w'.cell? ⟨w.heap.size,5,none⟩=some (.int .i64 s.a)∧w'.cell? ⟨w.heap.size,6,none⟩=some (.int .i64 s.b)∧w'.cell? ⟨w.heap.size,7,none⟩=some (.int .i64 s.c)∧w'.cell? ⟨w.heap.size,8,none⟩=some (.slice lo ln lc)∧w'.cell? ⟨w.heap.size,9,none⟩=some (.slice po pn pc)∧w'.cell? ⟨w.heap.size,10,none⟩=some (.string s.body)∧w'.cell? ⟨w.heap.size,11,none⟩=some (.int .i64 s.key)∧w'.cell? ⟨w.heap.size,12,none⟩=some (.string s.dig)) (first | exact HQ2.out _ ((Ex.refl _ _ w2).drew) | exact HQ2.out _ HA.out.2.1 | exact HQ2.out _ (HA.out.2.1.trans HCC.out.2 hza (by simp)) | exact HQ2.out _ ((HA.out.2.1.trans HCC.out.2 hza (by simp)).trans (Ex.new wc _) (by omega) (by simp)) | exact HQ2.out _ HB.out.2 | exact HQ2.out _ HD.out.2)
     (first
       | (refine step_appG rfl (.const (.slice none 0 0)) (.tmp 36) _ (by rfl) Tryz.underlying27 Tryz.infoSt w2.heap.size (fun b=>base≤b∧b≠g0) none 0 0 [] rfl (by rfl) ro j rc (by rfl) (xs.take j) HTL.out (OwnG.nil _ _ _) (HSS.out.2.2.1.keep fun _ _ _=>rfl) (fun x hx=>((HSS.out.2.1 x (List.mem_of_mem_take hx)).keep fun _ _ _=>rfl).mono fun b h _=>⟨h.1,by simp [rowOf]⟩) (by omega) (Nat.le_refl _) j (by omega) ?_
          intro ao1 cap1 wa hoa hea hba hra
          have HA:Hid (OwnG wa w2.heap.size (fun b=>base≤b∧b≠g0) ao1 cap1 ((xs.take j).map (·.1))∧Ex w2.heap.size none w2 wa∧(∀b,rowOf ao1=some b→b < wa.heap.size)):=⟨by simpa using hoa,(Ex.refl _ _ w2).drew.trans hea (Nat.le_refl _) (by simp),hoa.row⟩
          have hza:w2.heap.size≤wa.heap.size:=hea.size
          clear hoa hea hba hra)
       | (go_at_call 52
          refine(copy03_lit s lo po ln lc pn pc _ (HLS.out.keep fun b _ hb=>(HA.out.2.1.block b (by omega) (by simp)).trans (HEW.out.block b hb (by simp))) (by omega)).mono ?_
          rintro e wc ⟨la,na,ca,pa,np,cp,rfl,hlc,hexc⟩
          have HCC:Hid (Lies (fun b=>wa.heap.size≤b) wc (s,⟨la,na,ca⟩,⟨pa,np,cp⟩)∧Ex wa.heap.size none wa wc):=⟨hlc,hexc⟩
          have hzc:wa.heap.size≤wc.heap.size:=hexc.size
          clear hlc hexc)
       | (refine step_appG rfl (.tmp 37) (.tmp 40) _ (by rfl) Tryz.underlying27 Tryz.infoSt w2.heap.size (fun b=>base≤b∧b≠g0) ao1 cap1 j ((xs.take j).map (·.1)) (by rw [List.length_map,HTL.out]) (by rfl) (some ⟨wc.heap.size,0,none⟩) 1 1 (by rfl) [(s,⟨la,na,ca⟩,⟨pa,np,cp⟩)] rfl (HA.out.1.keep ((HCC.out.2).trans (Ex.new wc _) hzc (by simp)) (Nat.le_refl _)) (lit_cells rfl) (fun x hx=>by rw [List.mem_singleton.1 hx];exact(HCC.out.1.keep fun b _ hb=>(Ex.new wc _).block b hb (by simp)).mono fun b h _=>⟨⟨by omega,by omega⟩,fun e=>by have:=HA.out.2.2 b e;omega⟩) (by omega) (by simp;omega) (j+1) rfl ?_
          intro ao2 cap2 wb hob heb hbb hrb
          have HB:Hid (OwnG wb w2.heap.size (fun b=>base≤b∧b≠g0) ao2 cap2 ((xs.take j).map (·.1) ++ [s])∧Ex w2.heap.size none w2 wb):=⟨by simpa using hob,((HA.out.2.1.trans HCC.out.2 hza (by simp)).trans (Ex.new wc _) (by omega) (by simp)).trans heb (Nat.le_refl _) (by simp)⟩
          have hzb2:w2.heap.size≤wb.heap.size:=HB.out.2.size
          clear hob heb hbb hrb)
       | (refine step_appG rfl (.tmp 41) (.tmp 44) _ (by rfl) Tryz.underlying27 Tryz.infoSt w2.heap.size (fun b=>base≤b∧b≠g0) ao2 cap2 (j+1) ((xs.take j).map (·.1) ++ [s]) (by rw [List.length_append,List.length_map,HTL.out];rfl) (by rfl) a2 (n - j) (rc - j) (by rfl) (xs.drop j) HDL.out HB.out.1 (HSS.out.2.2.2.1.keep fun b e hb=>HB.out.2.block b hb (by simp)) (fun x hx=>((HSS.out.2.1 x (List.mem_of_mem_drop hx)).mono (P':=fun b=>(base≤b∧b≠g0)∧b < w2.heap.size) fun b h hb=>⟨h.1,hb⟩).keep (fun b h _=>HB.out.2.block b h.2 (by simp)) |>.mono fun b h _=>⟨h.1,fun e=>by have:=HB.out.1.row_ge b e;omega⟩) (by omega) (by omega) (n+1) (by omega) ?_
          intro ao3 cap3 wd hod hed hbd hrd
          have HD:Hid (OwnG wd w2.heap.size (fun b=>base≤b∧b≠g0) ao3 cap3 (acc.take j ++ [s] ++ acc.drop j)∧Ex w2.heap.size none w2 wd):=⟨by rw [←HSS.out.1,←List.map_take,←List.map_drop];exact hod,HB.out.2.trans hed (Nat.le_refl _) (by simp)⟩
          clear hod hed hbd hrd)
       | fail)
    go_wp2
    go_ret2
    have HPN:=ownPut05_new HUP.out HSM.out
    exact⟨ao3,cap3,true,by rw [HPN,List.length_append,List.length_append,List.length_take,List.length_drop,HAL.out,show min j n+[s].length+ (n - j)=n+1 from by simp;omega];rfl,by rw [HPN];exact⟨HD.out.1.lowG (by omega),fun e=>by have:=HD.out.1.row_ge _ e;omega⟩,HEW.out.trans HD.out.2 (by omega) (by simp)⟩
end Go.Proofs.YtflhidfclfkjlaaGreat

/- ref04.Own: a contract, no statement of the seat. -/
import Derived.Test.YtflhidfclfkjlaaGreatChk03G
import Derived.Test.YtflhidfclfkjlaaGreatMg08
import Derived.Test.YtflhidfclfkjlaaGreatRefOrderG
namespace Go.Proofs.YtflhidfclfkjlaaGreat
open Go.RowKit Go.Sort
def TameL (l:List St):Prop:=∀s∈l,Tame s
theorem TameL.light {l:List St} (h:TameL l):LightL 1000000 l:=fun s hs=>⟨by have:=(h s hs).list;omega,by have:=(h s hs).pins;omega⟩
theorem TameL.get {l:List St} (h:TameL l) {i:Nat} {s:St} (hi:l[i]? =some s):Tame s:=h s (List.mem_of_getElem? hi)
def ownOK (a:Int) (s:St):Bool:=decide (s.author=a) && decide (checkI s=0) && sealedB s
def ltND (t s:St):Bool:=decide (t.number < s.number) || (decide (t.number=s.number) && Op.bytesLess t.dig.toList s.dig.toList)
def upPos (acc:List St) (s:St):Nat:=(acc.takeWhile fun t=>ltND t s).length
def ownPut (acc:List St) (s:St):List St:=if (acc[upPos acc s]?).any (sameS · s) then acc else acc.take (upPos acc s) ++ [s] ++ acc.drop (upPos acc s)
def ownI (a:Int) (l:List St):List St:=(l.filter (ownOK a)).foldl ownPut []
theorem ownI_yes {a:Int} {l:List St} {k:Nat} {s:St} (h:l[k]? =some s) (hp:ownOK a s=true):ownI a (l.take (k+1))=ownPut (ownI a (l.take k)) s:=by
 unfold ownI;rw [filter_yes h hp,List.foldl_append];rfl
theorem ownI_no {a:Int} {l:List St} {k:Nat} {s:St} (h:l[k]? =some s) (hp:ownOK a s=false):ownI a (l.take (k+1))=ownI a (l.take k):=by
 unfold ownI;rw [filter_no h hp]
theorem upPos_eq {acc:List St} {s:St} {j:Nat} (hj:j≤acc.length) (hlt:∀i t,i < j→acc[i]? =some t→ltND t s=true) (hno:∀t,acc[j]? =some t→ltND t s=false):upPos acc s=j:=by
 unfold upPos
 have e:acc=acc.take j ++ acc.drop j:=(List.take_append_drop j acc).symm
 have h1:∀x∈acc.take j,ltND x s=true:=fun x hx=>by
  obtain⟨i,hi⟩:=List.mem_iff_getElem?.1 hx
  have hij:i < j:=by have:=(List.getElem?_eq_some_iff.1 hi).1;simp at this;omega
  exact hlt i x hij (by rw [←hi,List.getElem?_take];simp [hij])
 rw [e,List.takeWhile_append_of_pos h1]
 have h2: (acc.drop j).takeWhile (fun t=>ltND t s)=[]:=by
  cases hd:acc.drop j with
  | nil=>rfl
  | cons t r=>
    have:acc[j]? =some t:=by
     have h3: (acc.drop j)[0]? =some t:=by rw [hd];rfl
     rw [List.getElem?_drop] at h3;simpa using h3
    rw [List.takeWhile_cons,hno t this];rfl
 rw [h2,List.append_nil,List.length_take];omega
theorem ownPut_same {acc:List St} {s t:St} {j:Nat} (h:upPos acc s=j) (ht:acc[j]? =some t) (hs:sameS t s=true):ownPut acc s=acc:=by
 unfold ownPut;rw [h,ht];simp [hs]
theorem ownPut_new {acc:List St} {s:St} {j:Nat} (h:upPos acc s=j) (hs:∀t,acc[j]? =some t→sameS t s=false):ownPut acc s=acc.take j ++ [s] ++ acc.drop j:=by
 unfold ownPut;rw [h]
 cases hj:acc[j]? with
 | none=>simp
 | some t=>simp [hs t hj]
theorem mem_ownPut {acc:List St} {s x:St} (h:x∈ownPut acc s):x∈acc∨x=s:=by
 unfold ownPut at h
 split at h
 · exact .inl h
 · simp only [List.mem_append,List.mem_singleton] at h
   rcases h with(h | h) | h
   · exact .inl (List.mem_of_mem_take h)
   · exact .inr h
   · exact .inl (List.mem_of_mem_drop h)
theorem mem_ownFold {l:List St} {x:St}:∀{acc:List St},x∈l.foldl ownPut acc→x∈acc∨x∈l:=by
 induction l with
 | nil=>exact fun h=>.inl h
 | cons s r ih=>
   intro acc h
   rcases ih h with h | h
   · rcases mem_ownPut h with h | h
     · exact .inl h
     · exact .inr (by simp [h])
   · exact .inr (by simp [h])
theorem mem_ownI {a:Int} {l:List St} {x:St} (h:x∈ownI a l):x∈l∧ownOK a x=true:=by
 rcases mem_ownFold h with h | h
 · cases h
 · exact List.mem_filter.1 h
theorem ownPut_len (acc:List St) (s:St): (ownPut acc s).length≤acc.length+1:=by
 unfold ownPut
 split
 · omega
 · simp only [List.length_append,List.length_take,List.length_drop,List.length_singleton];omega
theorem ownFold_len (l:List St):∀acc:List St,(l.foldl ownPut acc).length≤acc.length+l.length:=by
 induction l with
 | nil=>exact fun acc=>by simp
 | cons s r ih=>exact fun acc=>by have h1:=ih (ownPut acc s);have h2:=ownPut_len acc s;simp only [List.foldl_cons,List.length_cons];omega
theorem ownI_len (a:Int) (l:List St): (ownI a l).length≤l.length:=by
 have h1:=ownFold_len (l.filter (ownOK a)) []
 have h2:=List.length_filter_le (ownOK a) l
 simp only [List.length_nil] at h1
 unfold ownI;omega
theorem ownI_tame {a:Int} {l:List St} (h:TameL l):TameL (ownI a l):=fun s hs=>h s (mem_ownI hs).1
theorem mem_of_acc {a:Int} {l acc:List St} {k j:Nat} {t:St} (h:acc=ownI a (l.take k)) (ht:acc[j]? =some t):t∈l:=by
 have h1:t∈ownI a (l.take k):=by rw [←h];exact List.mem_of_getElem? ht
 exact List.mem_of_mem_take (mem_ownI h1).1
set_option maxHeartbeats 16000000 in
set_option maxRecDepth 100000 in
theorem own04_any {P:Nat→Prop} (v:Value) (l:List St) (a:Int) (w:World) (hv:Sl stRep P w v l) (hm:l.length≤100000) (ht:TameL l) :
 Calls Tryz.prog 80 #[.int .i64 a,v] w fun e w'=>∃ro rc,e=.returned (.slice ro (ownI a l).length rc)∧OwnS w' w.heap.size ro rc (ownI a l)∧Ex w.heap.size none w w':=by
 obtain⟨ao,cap,rfl,hx⟩:=hv
 have HTL:=Lib.hid ht
 clear ht
 go_enter Tryz.func80,Tryz.ntmps80
 go_wp2
 go_loopw [5,6,7,8] (fun v i q u wr=>∃(k n:Nat) (ro:Option Addr) (rc:Nat) (acc:List St),k≤l.length∧i=.int .i64 k∧v=.slice ro n rc∧Hid (acc=ownI a (l.take k)∧n=acc.length∧n≤k)∧OwnS wr w.heap.size ro rc acc∧Ex w.heap.size none w wr) (fun _ i _ _ _=>l.length - (intOf i).toNat)
 case atStart=>exact⟨0,0,none,0,[],by omega,rfl,rfl,Lib.hid ⟨rfl,rfl,Nat.le_refl _⟩,OwnS.nil _ _,Ex.refl _ _ _⟩
 case round=>
  obtain⟨k,n,ro,rc,acc,hk,rfl,rfl,HN,hown,hex⟩:=hrel
  have hsz:=hex.size
  have hnk:=HN.out.2.2
  by_cases hlt:k < l.length
  · have fx:=hx.keep (by decide) (fun b _ hb=>hex.block b hb (by simp))
    obtain⟨b,off,s,⟨lo,ln,lc⟩,⟨po,pn,pc⟩,rfl,_,hls,hr,HX⟩:=st_get fx k hlt
    have hc:=st_at hr
    simp only [Sv.v] at hc
    obtain⟨c0,c1,c2,c3,c4,c5,c6,c7,c8,c9,c10,c11,c12⟩:=hc
    have HTS:Hid (Tame s):=Lib.hid (HTL.out.get HX.out)
    have hm1:s.list.length≤1000000∧s.pins.length≤1000000:=HTL.out.light.get HX.out
    have HLS:=Lib.hid hls
    have HO:=Lib.hid hown
    have HEX:=Lib.hid hex
    have HAL:Hid (acc.length=n):=Lib.hid HN.out.2.1.symm
    clear fx hr hls hown hex
    obtain⟨w1,hw1⟩:∃w1,w1=wr:=⟨_,rfl⟩
    subst hw1
    go_upto_region 6 with(fail)
    clear c0 c1 c2 c3 c4 c5 c6 c7 c8 c9 c10 c11 c12
    obtain⟨ws,hws⟩:∃ws:World,ws=w1.alloc (.cells #[.int .i64 s.author,.int .i64 s.number,.string s.prev,.int .i64 s.time,.int .i64 s.kind,.int .i64 s.a,.int .i64 s.b,.int .i64 s.c,.slice lo ln lc,.slice po pn pc,.string s.body,.int .i64 s.key,.string s.dig] 51):=⟨_,rfl⟩
    have HEs:Hid (Ex w1.heap.size none w1 ws):=by rw [hws];exact Ex.new w1 _
    have HBs:Hid (ws.heap[w1.heap.size]? =some (.cells #[.int .i64 s.author,.int .i64 s.number,.string s.prev,.int .i64 s.time,.int .i64 s.kind,.int .i64 s.a,.int .i64 s.b,.int .i64 s.c,.slice lo ln lc,.slice po pn pc,.string s.body,.int .i64 s.key,.string s.dig] 51 (0,0))):=by rw [hws];exact heap_alloc_new w1 _
    have hzs:w1.heap.size < ws.heap.size:=by rw [hws];simp
    have HQS:Hid (∀w',Ex ws.heap.size none ws w'→w'.cell? ⟨w1.heap.size,0,none⟩=some (.int .i64 s.author)∧w'.cell? ⟨w1.heap.size,1,none⟩=some (.int .i64 s.number)∧w'.cell? ⟨w1.heap.size,2,none⟩=some (.string s.prev)∧w'.cell? ⟨w1.heap.size,3,none⟩=some (.int .i64 s.time)∧w'.cell? ⟨w1.heap.size,4,none⟩=some (.int .i64 s.kind)∧w'.cell? ⟨w1.heap.size,5,none⟩=some (.int .i64 s.a)∧w'.cell? ⟨w1.heap.size,6,none⟩=some (.int .i64 s.b)∧w'.cell? ⟨w1.heap.size,7,none⟩=some (.int .i64 s.c)∧w'.cell? ⟨w1.heap.size,8,none⟩=some (.slice lo ln lc)∧w'.cell? ⟨w1.heap.size,9,none⟩=some (.slice po pn pc)∧w'.cell? ⟨w1.heap.size,10,none⟩=some (.string s.body)∧w'.cell? ⟨w1.heap.size,11,none⟩=some (.int .i64 s.key)∧w'.cell? ⟨w1.heap.size,12,none⟩=some (.string s.dig)):=Lib.hid (fun w' h=>(st_block ((h.block w1.heap.size hzs (by simp)).trans HBs.out)).1)
    rw [←hws]
    clear hws
    obtain⟨⟨d0,d1,d2,d3,d4,d5,d6,d7,d8,d9,d10,d11,d12⟩,fz⟩:=st_block HBs.out
    by_cases r1:s.author=a
    · have r1d: (s.author != a)=false:=by simp [r1]
      have R1:=Lib.hid (decide_eq_true r1)
      clear r1
      by_cases r2:checkI s=0
      · have r2d: (checkI s != 0)=false:=by simp [r2]
        have R2:=Lib.hid (decide_eq_true r2)
        clear r2
        cases r3:sealedB s with
        | false=>
          have HPN:Hid (ownOK a s=false):=Lib.hid (by simp only [ownOK,R1.out,R2.out,r3,Bool.and_false])
          have HNX:Hid (ownI a (l.take (k+1))=acc):=Lib.hid (by rw [ownI_no HX.out HPN.out];exact HN.out.1.symm)
          go_wp2_with (first
           | (go_at_call 45;refine(check03_any s lo po ln lc pn pc _ (HLS.out.keep fun b _ hb=>(HEs.out.block b hb (by simp))) (by omega)).mono ?_;rintro e w7 ⟨rfl,hex7⟩;have HE7:Hid (Ex ws.heap.size none ws w7):=Lib.hid hex7;have hz7:ws.heap.size≤w7.heap.size:=hex7.size;clear hex7;obtain⟨⟨d0,d1,d2,d3,d4,d5,d6,d7,d8,d9,d10,d11,d12⟩,fz⟩:=st_block ((HE7.out.block w1.heap.size (by omega) (by simp)).trans HBs.out))
           | (go_at_call 54;refine(sealed03_any s lo po ln lc pn pc _ (HLS.out.keep fun b _ hb=>(HE7.out.block b (by omega) (by simp)).trans (HEs.out.block b hb (by simp))) HTS.out).mono ?_;rintro e w8 ⟨rfl,hex8⟩;have HE8:Hid (Ex ws.heap.size none ws w8):=Lib.hid (HE7.out.trans hex8 hz7 (by simp));have hz8:ws.heap.size≤w8.heap.size:=HE8.out.size;clear hex8 d0 d1 d2 d3 d4 d5 d6 d7 d8 d9 d10 d11 d12 fz)
           | fail)
          go_roundw
          case rel=>exact⟨k+1,n,_,rc,acc,by omega,by go_num,rfl,Lib.hid ⟨HNX.out.symm,HN.out.2.1,by omega⟩,HO.out.keep (HEs.out.trans HE8.out (by omega) (by simp)) (Nat.le_refl _),HEX.out.trans (HEs.out.trans HE8.out (by omega) (by simp)) hsz (by simp)⟩
          case measure=>simp [intOf] <;> omega
        | true=>
          have HPY:Hid (ownI a (l.take (k+1))=ownPut acc s):=Lib.hid (by rw [ownI_yes HX.out (by simp only [ownOK,R1.out,R2.out,r3,Bool.and_true]),←HN.out.1])
          go_wp2_with (first
           | (go_at_call 45;refine(check03_any s lo po ln lc pn pc _ (HLS.out.keep fun b _ hb=>(HEs.out.block b hb (by simp))) (by omega)).mono ?_;rintro e w7 ⟨rfl,hex7⟩;have HE7:Hid (Ex ws.heap.size none ws w7):=Lib.hid hex7;have hz7:ws.heap.size≤w7.heap.size:=hex7.size;clear hex7;obtain⟨⟨d0,d1,d2,d3,d4,d5,d6,d7,d8,d9,d10,d11,d12⟩,fz⟩:=st_block ((HE7.out.block w1.heap.size (by omega) (by simp)).trans HBs.out))
           | (go_at_call 54;refine(sealed03_any s lo po ln lc pn pc _ (HLS.out.keep fun b _ hb=>(HE7.out.block b (by omega) (by simp)).trans (HEs.out.block b hb (by simp))) HTS.out).mono ?_;rintro e w8 ⟨rfl,hex8⟩;have HE8:Hid (Ex ws.heap.size none ws w8):=Lib.hid (HE7.out.trans hex8 hz7 (by simp));have hz8:ws.heap.size≤w8.heap.size:=HE8.out.size;clear hex8 d0 d1 d2 d3 d4 d5 d6 d7 d8 d9 d10 d11 d12 fz)
           | fail)
          go_loopw [8] (fun u wi=>∃(j:Nat),j≤n∧u=.int .i64 j∧Hid (∀i t,i < j→acc[i]? =some t→ltND t s=true)∧Ex w8.heap.size none w8 wi) (fun u _=>n - (intOf u).toNat)
          case atStart=>exact⟨0,by omega,rfl,Lib.hid (fun i t hi=>by omega),Ex.refl _ _ _⟩
          case round=>
           obtain⟨j,hj,rfl,HJ,hexi⟩:=hrel
           have hszi:=hexi.size
           by_cases hjt:j < n
           · obtain⟨g,og,t,⟨lo',ln',lc'⟩,⟨po',pn',pc'⟩,hro,hgb,hlt',hrt,HT⟩:=st_get (HO.out.keep (HEs.out.trans (HE8.out.trans hexi hz8 (by simp)) (by omega) (by simp)) (Nat.le_refl _)).at' j (by rw [HAL.out];omega)
             have hgl:=rangeAt_lt hrt (by rw [stE_len];omega)
             have HLT:=Lib.hid hlt'
             have HRT:=Lib.hid hrt
             have hj0: (j:Int) < (n:Int):=by omega
             have hq3:=fun p0:ExW wr=>ExW.st_at hrt p0
             simp only [Sv.v] at hq3
             have hq4:=fun p0:ExW wr=>HQS.out _ ((HE8.out.trans hexi hz8 (by simp)).trans p0.ex (by omega) (by simp))
             have HEI:=Lib.hid hexi
             clear hrt hlt' hexi
             subst hro
             by_cases e1:t.number < s.number
             · have e1d:decide (t.number < s.number)=true:=decide_eq_true e1
               have HLTB:Hid (ltND t s=true):=Lib.hid (by simp only [ltND,e1d,Bool.true_or])
               clear e1
               go_wp2_with fail
               refine wp_region_quiet_ex (by kernel_rfl) (by kernel_rfl) ?_
               repeat(go_big_quiet_step (fail))
               refine wpQuiet_nil ?_
               intro _ hw'
               obtain⟨p9,hw''⟩:=hw'
               subst hw''
               clear hq3 hq4
               go_wp2
               go_roundw
               case rel=>exact⟨j+1,by omega,by go_num,Lib.hid (fun i t' hi ht'=>by
                by_cases e:i=j
                · subst e
                  have e2:=ht'.symm.trans HT.out
                  cases e2
                  exact HLTB.out
                · exact HJ.out i t' (by omega) ht'),HEI.out.trans p9.ex hszi (by simp)⟩
               case measure=>simp [intOf] <;> omega
             · have e1d:decide (t.number < s.number)=false:=decide_eq_false e1
               have K1:=Lib.hid e1d
               clear e1
               by_cases e2:t.number=s.number
               · have e2d: (t.number == s.number)=true:=by simp [e2]
                 have K2:Hid (decide (t.number=s.number)=true):=Lib.hid (decide_eq_true e2)
                 clear e2
                 cases e3:Op.bytesLess t.dig.toList s.dig.toList with
                 | true=>
                   have HLTB:Hid (ltND t s=true):=Lib.hid (by simp only [ltND,K1.out,K2.out,e3,Bool.false_or,Bool.and_true])
                   go_wp2_with fail
                   refine wp_region_quiet_ex (by kernel_rfl) (by kernel_rfl) ?_
                   repeat(go_big_quiet_step (fail))
                   refine wpQuiet_nil ?_
                   intro _ hw'
                   obtain⟨p9,hw''⟩:=hw'
                   subst hw''
                   clear hq3 hq4
                   go_wp2
                   go_roundw
                   case rel=>exact⟨j+1,by omega,by go_num,Lib.hid (fun i t' hi ht'=>by
                    by_cases e:i=j
                    · subst e
                      have e2:=ht'.symm.trans HT.out
                      cases e2
                      exact HLTB.out
                    · exact HJ.out i t' (by omega) ht'),HEI.out.trans p9.ex hszi (by simp)⟩
                   case measure=>simp [intOf] <;> omega
                 | false=>
                   have HLTB:Hid (ltND t s=false):=Lib.hid (by simp only [ltND,K1.out,K2.out,e3,Bool.false_or,Bool.and_false])
                   go_wp2_with fail
                   refine wp_region_quiet_ex (by kernel_rfl) (by kernel_rfl) ?_
                   repeat(go_big_quiet_step (fail))
                   refine wpQuiet_nil ?_
                   intro _ hw'
                   obtain⟨p9,hw''⟩:=hw'
                   subst hw''
                   have HUP:Hid (upPos acc s=j):=Lib.hid (upPos_eq (by rw [HAL.out];omega) HJ.out (fun t' ht'=>by have e2:=ht'.symm.trans HT.out;cases e2;exact HLTB.out))
                   have HE2:Hid (Ex ws.heap.size none ws p9.w'):=Lib.hid ((HE8.out.trans HEI.out hz8 (by simp)).trans p9.ex (by omega) (by simp))
                   have HEP:Hid (Ex wr.heap.size none wr p9.w'):=Lib.hid p9.ex
                   generalize p9.w' =w9 at HE2 HEP
                   clear hq3 hq4
                   go_wp2_with fail
                   have hq5:=fun p0:ExW w9=>ExW.st_at (rangeAt_keep HRT.out ((HEP.out.trans p0.ex HEP.out.size (by simp)).block _ hgl (by simp))) (⟨p0.w',Ex.refl _ _ _⟩:ExW p0.w')
                   simp only [Sv.v] at hq5
                   have hq6:=fun p0:ExW w9=>HQS.out _ (HE2.out.trans p0.ex HE2.out.size (by simp))
                   have HSC:Hid (∀p0:ExW w9,Calls Tryz.prog 110 #[.agg #[.int .i64 t.author,.int .i64 t.number,.string t.prev,.int .i64 t.time,.int .i64 t.kind,.int .i64 t.a,.int .i64 t.b,.int .i64 t.c,.slice lo' ln' lc',.slice po' pn' pc',.string t.body,.int .i64 t.key,.string t.dig],.agg #[.int .i64 s.author,.int .i64 s.number,.string s.prev,.int .i64 s.time,.int .i64 s.kind,.int .i64 s.a,.int .i64 s.b,.int .i64 s.c,.slice lo ln lc,.slice po pn pc,.string s.body,.int .i64 s.key,.string s.dig]] p0.w' fun e w'=>e=.returned (.bool (sameS t s))∧Ex p0.w'.heap.size none p0.w' w'):=Lib.hid (fun p0=>same_any (t,⟨lo',ln',lc'⟩,⟨po',pn',pc'⟩) (s,⟨lo,ln,lc⟩,⟨po,pn,pc⟩) _ (HLT.out.keep fun b _ hb=>(HEP.out.trans p0.ex HEP.out.size (by simp)).block b hb (by simp)) (HLS.out.keep fun b _ hb=>(HEs.out.trans (HE2.out.trans p0.ex HE2.out.size (by simp)) (by omega) (by simp)).block b hb (by simp)) (by have:=(HTL.out t (mem_of_acc HN.out.1 HT.out)).list;show t.list.length≤_;omega) (by have:=(HTL.out t (mem_of_acc HN.out.1 HT.out)).pins;show t.pins.length≤_;omega))
                   cases hsm:sameS t s with
                   | true=>
                     rw [hsm] at HSC
                     have HSMT:=Lib.hid hsm
                     clear hsm
                     refine wp_region_quiet_ex (by kernel_rfl) (by kernel_rfl) ?_
                     repeat(go_big_quiet_step ((go_at_call 110;refine calls_ex_of (HSC.out _))))
                     refine wpQuiet_nil ?_
                     intro _ hw'
                     obtain⟨p9,hw''⟩:=hw'
                     subst hw''
                     have HE10:Hid (Ex ws.heap.size none ws p9.w'):=Lib.hid (HE2.out.trans p9.ex HE2.out.size (by simp))
                     clear hq5 hq6 HSC
                     have HNX:Hid (ownI a (l.take (k+1))=acc):=Lib.hid (by rw [HPY.out];exact ownPut_same HUP.out HT.out HSMT.out)
                     go_wp2_with (first
                      | (go_at_call 45;refine(check03_any s lo po ln lc pn pc _ (HLS.out.keep fun b _ hb=>(HEs.out.block b hb (by simp))) (by omega)).mono ?_;rintro e w7 ⟨rfl,hex7⟩;have HE7:Hid (Ex ws.heap.size none ws w7):=Lib.hid hex7;have hz7:ws.heap.size≤w7.heap.size:=hex7.size;clear hex7;obtain⟨⟨d0,d1,d2,d3,d4,d5,d6,d7,d8,d9,d10,d11,d12⟩,fz⟩:=st_block ((HE7.out.block w1.heap.size (by omega) (by simp)).trans HBs.out))
                      | (go_at_call 54;refine(sealed03_any s lo po ln lc pn pc _ (HLS.out.keep fun b _ hb=>(HE7.out.block b (by omega) (by simp)).trans (HEs.out.block b hb (by simp))) HTS.out).mono ?_;rintro e w8 ⟨rfl,hex8⟩;have HE8:Hid (Ex ws.heap.size none ws w8):=Lib.hid (HE7.out.trans hex8 hz7 (by simp));have hz8:ws.heap.size≤w8.heap.size:=HE8.out.size;clear hex8 d0 d1 d2 d3 d4 d5 d6 d7 d8 d9 d10 d11 d12 fz)
                      | fail)
                     go_roundw
                     case rel=>exact⟨k+1,n,_,rc,acc,by omega,by go_num,rfl,Lib.hid ⟨HNX.out.symm,HN.out.2.1,by omega⟩,HO.out.keep (HEs.out.trans HE10.out (by omega) (by simp)) (Nat.le_refl _),HEX.out.trans (HEs.out.trans HE10.out (by omega) (by simp)) hsz (by simp)⟩
                     case measure=>simp [intOf] <;> omega
                   | false=>
                     rw [hsm] at HSC
                     have HSM:Hid (∀t',acc[j]? =some t'→sameS t' s=false):=Lib.hid (fun t' ht'=>by have e2:=ht'.symm.trans HT.out;cases e2;exact hsm)
                     clear hsm
                     refine wp_region_quiet_ex (by kernel_rfl) (by kernel_rfl) ?_
                     repeat(go_big_quiet_step ((go_at_call 110;refine calls_ex_of (HSC.out _))))
                     refine wpQuiet_nil ?_
                     intro _ hw'
                     obtain⟨p9,hw''⟩:=hw'
                     subst hw''
                     replace HE2:Hid (Ex ws.heap.size none ws p9.w'):=Lib.hid (HE2.out.trans p9.ex HE2.out.size (by simp))
                     clear hq5 hq6 HSC
                     generalize p9.w' =w2 at HE2
                     have hrox: (some ⟨g,og,none⟩:Option Addr)=some ⟨g,og,none⟩∨True:=.inr trivial
                     generalize (some ⟨g,og,none⟩:Option Addr)=ro at *
                     have hz2:ws.heap.size≤w2.heap.size:=HE2.out.size
                     have HEW:Hid (Ex w1.heap.size none w1 w2):=Lib.hid (HEs.out.trans HE2.out (by omega) (by simp))
                     have HOW:Hid (OwnS w2 w.heap.size ro rc acc):=Lib.hid (HO.out.keep HEW.out (Nat.le_refl _))
                     have HQ2:Hid (∀w',Ex w2.heap.size none w2 w'→w'.cell? ⟨w1.heap.size,0,none⟩=some (.int .i64 s.author)∧w'.cell? ⟨w1.heap.size,1,none⟩=some (.int .i64 s.number)∧w'.cell? ⟨w1.heap.size,2,none⟩=some (.string s.prev)∧w'.cell? ⟨w1.heap.size,3,none⟩=some (.int .i64 s.time)∧w'.cell? ⟨w1.heap.size,4,none⟩=some (.int .i64 s.kind)∧w'.cell? ⟨w1.heap.size,5,none⟩=some (.int .i64 s.a)∧w'.cell? ⟨w1.heap.size,6,none⟩=some (.int .i64 s.b)∧w'.cell? ⟨w1.heap.size,7,none⟩=some (.int .i64 s.c)∧w'.cell? ⟨w1.heap.size,8,none⟩=some (.slice lo ln lc)∧w'.cell? ⟨w1.heap.size,9,none⟩=some (.slice po pn pc)∧w'.cell? ⟨w1.heap.size,10,none⟩=some (.string s.body)∧w'.cell? ⟨w1.heap.size,11,none⟩=some (.int .i64 s.key)∧w'.cell? ⟨w1.heap.size,12,none⟩=some (.string s.dig)):=Lib.hid (fun w' h=>HQS.out _ (HE2.out.trans h hz2 (by simp)))
                     go_wp2_with fail
                     obtain⟨xs,a2,hxs,hlies,hs1,ha2,hs2,hra,hrl⟩:=HOW.out.t.parts j (by rw [HAL.out];omega)
                     have HSS:Hid (xs.map (·.1)=acc∧(∀x∈xs,Lies (fun b=>w.heap.size≤b∧rowOf ro≠some b) w2 x)∧Src w2 ro (xs.take j)∧Src w2 a2 (xs.drop j)∧rowOf a2=rowOf ro∧∀b,rowOf ro=some b→b < w2.heap.size):=⟨hxs,hlies,hs1,hs2,hra,hrl⟩
                     have HXL:Hid (xs.length=n):=(show xs.length=n by rw [←HAL.out,←hxs];simp)
                     have HTL:Hid ((xs.take j).length=j):=(show _=_ by rw [List.length_take,HXL.out];omega)
                     have HDL:Hid ((xs.drop j).length=n - j):=(show _=_ by rw [List.length_drop,HXL.out])
                     have hkc:n≤rc:=by have:=HOW.out.t.len;rw [HAL.out] at this;exact this
                     clear hxs hlies hs1 hs2 hra hrl
                     have g1: (0:Int)≤(j:Int):=by omega
                     have g2: (j:Int)≤(n:Int):=by omega
                     have g3: (n:Int)≤(rc:Int):=by omega
                     have g4: (j:Int)≤(rc:Int):=by omega
                     go_region_held3 (fun w'=>w'.cell? ⟨w1.heap.size,0,none⟩=some (.int .i64 s.author)∧w'.cell? ⟨w1.heap.size,1,none⟩=some (.int .i64 s.number)∧w'.cell? ⟨w1.heap.size,2,none⟩=some (.string s.prev)∧w'.cell? ⟨w1.heap.size,3,none⟩=some (.int .i64 s.time)∧w'.cell? ⟨w1.heap.size,4,none⟩=some (.int .i64 s.kind)∧w'.cell? ⟨w1.heap.size,5,none⟩=some (.int .i64 s.a)∧w'.cell? ⟨w1.heap.size,6,none⟩=some (.int .i64 s.b)∧w'.cell? ⟨w1.heap.size,7,none⟩=some (.int .i64 s.c)∧w'.cell? ⟨w1.heap.size,8,none⟩=some (.slice lo ln lc)∧w'.cell? ⟨w1.heap.size,9,none⟩=some (.slice po pn pc)∧w'.cell? ⟨w1.heap.size,10,none⟩=some (.string s.body)∧w'.cell? ⟨w1.heap.size,11,none⟩=some (.int .i64 s.key)∧w'.cell? ⟨w1.heap.size,12,none⟩=some (.string s.dig)) (first | exact HQ2.out _ ((Ex.refl _ _ w2).drew) | exact HQ2.out _ HA.out.2.1 | exact HQ2.out _ (HA.out.2.1.trans HCC.out.2 hza (by simp)) | exact HQ2.out _ ((HA.out.2.1.trans HCC.out.2 hza (by simp)).trans (Ex.new wc _) (by omega) (by simp)) | exact HQ2.out _ HB.out.2 | exact HQ2.out _ HD.out.2)
                      (first
                        | (refine step_appT rfl (.const (.slice none 0 0)) (.tmp 85) _ (by rfl) Tryz.underlying27 Tryz.infoSt w2.heap.size w.heap.size none 0 0 [] rfl (by rfl) ro j rc (by rfl) (xs.take j) HTL.out (OwnT.nil _ _ _) (HSS.out.2.2.1.keep fun _ _ _=>rfl) (fun x hx=>((HSS.out.2.1 x (List.mem_of_mem_take hx)).keep fun _ _ _=>rfl).mono fun b h _=>⟨h.1,by simp [rowOf]⟩) (by omega) (Nat.le_refl _) j (by omega) ?_
                           intro ao1 cap1 wa hoa hea hba hra
                           have HA:Hid (OwnT wa w2.heap.size w.heap.size ao1 cap1 ((xs.take j).map (·.1))∧Ex w2.heap.size none w2 wa∧(∀b,rowOf ao1=some b→b < wa.heap.size)):=⟨by simpa using hoa,(Ex.refl _ _ w2).drew.trans hea (Nat.le_refl _) (by simp),hoa.row⟩
                           have hza:w2.heap.size≤wa.heap.size:=hea.size
                           clear hoa hea hba hra)
                        | (go_at_call 52
                           refine(copy03_lit s lo po ln lc pn pc _ (HLS.out.keep fun b _ hb=>(HA.out.2.1.block b (by omega) (by simp)).trans (HEW.out.block b hb (by simp))) (by omega)).mono ?_
                           rintro e wc ⟨la,na,ca,pa,np,cp,rfl,hlc,hexc⟩
                           have HCC:Hid (Lies (fun b=>wa.heap.size≤b) wc (s,⟨la,na,ca⟩,⟨pa,np,cp⟩)∧Ex wa.heap.size none wa wc):=⟨hlc,hexc⟩
                           have hzc:wa.heap.size≤wc.heap.size:=hexc.size
                           clear hlc hexc)
                        | (refine step_appT rfl (.tmp 86) (.tmp 89) _ (by rfl) Tryz.underlying27 Tryz.infoSt w2.heap.size w.heap.size ao1 cap1 j ((xs.take j).map (·.1)) (by rw [List.length_map,HTL.out]) (by rfl) (some ⟨wc.heap.size,0,none⟩) 1 1 (by rfl) [(s,⟨la,na,ca⟩,⟨pa,np,cp⟩)] rfl (HA.out.1.keep ((HCC.out.2).trans (Ex.new wc _) hzc (by simp)) (Nat.le_refl _)) (lit_cells rfl) (fun x hx=>by rw [List.mem_singleton.1 hx];exact(HCC.out.1.keep fun b _ hb=>(Ex.new wc _).block b hb (by simp)).mono fun b h _=>⟨by omega,fun e=>by have:=HA.out.2.2 b e;omega⟩) (by omega) (by simp;omega) (j+1) rfl ?_
                           intro ao2 cap2 wb hob heb hbb hrb
                           have HB:Hid (OwnT wb w2.heap.size w.heap.size ao2 cap2 ((xs.take j).map (·.1) ++ [s])∧Ex w2.heap.size none w2 wb):=⟨by simpa using hob,((HA.out.2.1.trans HCC.out.2 hza (by simp)).trans (Ex.new wc _) (by omega) (by simp)).trans heb (Nat.le_refl _) (by simp)⟩
                           have hzb2:w2.heap.size≤wb.heap.size:=HB.out.2.size
                           clear hob heb hbb hrb)
                        | (refine step_appT rfl (.tmp 90) (.tmp 93) _ (by rfl) Tryz.underlying27 Tryz.infoSt w2.heap.size w.heap.size ao2 cap2 (j+1) ((xs.take j).map (·.1) ++ [s]) (by rw [List.length_append,List.length_map,HTL.out];rfl) (by rfl) a2 (n - j) (rc - j) (by rfl) (xs.drop j) HDL.out HB.out.1 (HSS.out.2.2.2.1.keep fun b e hb=>HB.out.2.block b hb (by simp)) (fun x hx=>((HSS.out.2.1 x (List.mem_of_mem_drop hx)).mono (P':=fun b=>w.heap.size≤b∧b < w2.heap.size) fun b h hb=>⟨h.1,hb⟩).keep (fun b h _=>HB.out.2.block b h.2 (by simp)) |>.mono fun b h _=>⟨h.1,fun e=>by have:=HB.out.1.row_ge b e;omega⟩) (by omega) (by omega) (n+1) (by omega) ?_
                           intro ao3 cap3 wd hod hed hbd hrd
                           have HD:Hid (OwnT wd w2.heap.size w.heap.size ao3 cap3 (acc.take j ++ [s] ++ acc.drop j)∧Ex w2.heap.size none w2 wd):=⟨by rw [←HSS.out.1,←List.map_take,←List.map_drop];exact hod,HB.out.2.trans hed (Nat.le_refl _) (by simp)⟩
                           clear hod hed hbd hrd)
                        | fail)
                     go_wp2
                     go_roundw
                     case rel=>exact⟨k+1,n+1,ao3,cap3,acc.take j ++ [s] ++ acc.drop j,by omega,by go_num,rfl,Lib.hid ⟨by rw [HPY.out];exact(ownPut_new HUP.out HSM.out).symm,by rw [List.length_append,List.length_append,List.length_take,List.length_drop,HAL.out];simp;omega,by omega⟩,HD.out.1.s (by omega),(HEX.out.trans HEW.out hsz (by simp)).trans HD.out.2 (by omega) (by simp)⟩
                     case measure=>simp [intOf] <;> omega
               · have e2d: (t.number == s.number)=false:=by simp [e2]
                 have HLTB:Hid (ltND t s=false):=Lib.hid (by simp only [ltND,K1.out,decide_eq_false e2,Bool.false_or,Bool.false_and])
                 clear e2
                 go_wp2_with fail
                 refine wp_region_quiet_ex (by kernel_rfl) (by kernel_rfl) ?_
                 repeat(go_big_quiet_step (fail))
                 refine wpQuiet_nil ?_
                 intro _ hw'
                 obtain⟨p9,hw''⟩:=hw'
                 subst hw''
                 have HUP:Hid (upPos acc s=j):=Lib.hid (upPos_eq (by rw [HAL.out];omega) HJ.out (fun t' ht'=>by have e2:=ht'.symm.trans HT.out;cases e2;exact HLTB.out))
                 have HE2:Hid (Ex ws.heap.size none ws p9.w'):=Lib.hid ((HE8.out.trans HEI.out hz8 (by simp)).trans p9.ex (by omega) (by simp))
                 have HEP:Hid (Ex wr.heap.size none wr p9.w'):=Lib.hid p9.ex
                 generalize p9.w' =w9 at HE2 HEP
                 clear hq3 hq4
                 go_wp2_with fail
                 have hq5:=fun p0:ExW w9=>ExW.st_at (rangeAt_keep HRT.out ((HEP.out.trans p0.ex HEP.out.size (by simp)).block _ hgl (by simp))) (⟨p0.w',Ex.refl _ _ _⟩:ExW p0.w')
                 simp only [Sv.v] at hq5
                 have hq6:=fun p0:ExW w9=>HQS.out _ (HE2.out.trans p0.ex HE2.out.size (by simp))
                 have HSC:Hid (∀p0:ExW w9,Calls Tryz.prog 110 #[.agg #[.int .i64 t.author,.int .i64 t.number,.string t.prev,.int .i64 t.time,.int .i64 t.kind,.int .i64 t.a,.int .i64 t.b,.int .i64 t.c,.slice lo' ln' lc',.slice po' pn' pc',.string t.body,.int .i64 t.key,.string t.dig],.agg #[.int .i64 s.author,.int .i64 s.number,.string s.prev,.int .i64 s.time,.int .i64 s.kind,.int .i64 s.a,.int .i64 s.b,.int .i64 s.c,.slice lo ln lc,.slice po pn pc,.string s.body,.int .i64 s.key,.string s.dig]] p0.w' fun e w'=>e=.returned (.bool (sameS t s))∧Ex p0.w'.heap.size none p0.w' w'):=Lib.hid (fun p0=>same_any (t,⟨lo',ln',lc'⟩,⟨po',pn',pc'⟩) (s,⟨lo,ln,lc⟩,⟨po,pn,pc⟩) _ (HLT.out.keep fun b _ hb=>(HEP.out.trans p0.ex HEP.out.size (by simp)).block b hb (by simp)) (HLS.out.keep fun b _ hb=>(HEs.out.trans (HE2.out.trans p0.ex HE2.out.size (by simp)) (by omega) (by simp)).block b hb (by simp)) (by have:=(HTL.out t (mem_of_acc HN.out.1 HT.out)).list;show t.list.length≤_;omega) (by have:=(HTL.out t (mem_of_acc HN.out.1 HT.out)).pins;show t.pins.length≤_;omega))
                 cases hsm:sameS t s with
                 | true=>
                   rw [hsm] at HSC
                   have HSMT:=Lib.hid hsm
                   clear hsm
                   refine wp_region_quiet_ex (by kernel_rfl) (by kernel_rfl) ?_
                   repeat(go_big_quiet_step ((go_at_call 110;refine calls_ex_of (HSC.out _))))
                   refine wpQuiet_nil ?_
                   intro _ hw'
                   obtain⟨p9,hw''⟩:=hw'
                   subst hw''
                   have HE10:Hid (Ex ws.heap.size none ws p9.w'):=Lib.hid (HE2.out.trans p9.ex HE2.out.size (by simp))
                   clear hq5 hq6 HSC
                   have HNX:Hid (ownI a (l.take (k+1))=acc):=Lib.hid (by rw [HPY.out];exact ownPut_same HUP.out HT.out HSMT.out)
                   go_wp2_with (first
                    | (go_at_call 45;refine(check03_any s lo po ln lc pn pc _ (HLS.out.keep fun b _ hb=>(HEs.out.block b hb (by simp))) (by omega)).mono ?_;rintro e w7 ⟨rfl,hex7⟩;have HE7:Hid (Ex ws.heap.size none ws w7):=Lib.hid hex7;have hz7:ws.heap.size≤w7.heap.size:=hex7.size;clear hex7;obtain⟨⟨d0,d1,d2,d3,d4,d5,d6,d7,d8,d9,d10,d11,d12⟩,fz⟩:=st_block ((HE7.out.block w1.heap.size (by omega) (by simp)).trans HBs.out))
                    | (go_at_call 54;refine(sealed03_any s lo po ln lc pn pc _ (HLS.out.keep fun b _ hb=>(HE7.out.block b (by omega) (by simp)).trans (HEs.out.block b hb (by simp))) HTS.out).mono ?_;rintro e w8 ⟨rfl,hex8⟩;have HE8:Hid (Ex ws.heap.size none ws w8):=Lib.hid (HE7.out.trans hex8 hz7 (by simp));have hz8:ws.heap.size≤w8.heap.size:=HE8.out.size;clear hex8 d0 d1 d2 d3 d4 d5 d6 d7 d8 d9 d10 d11 d12 fz)
                    | fail)
                   go_roundw
                   case rel=>exact⟨k+1,n,_,rc,acc,by omega,by go_num,rfl,Lib.hid ⟨HNX.out.symm,HN.out.2.1,by omega⟩,HO.out.keep (HEs.out.trans HE10.out (by omega) (by simp)) (Nat.le_refl _),HEX.out.trans (HEs.out.trans HE10.out (by omega) (by simp)) hsz (by simp)⟩
                   case measure=>simp [intOf] <;> omega
                 | false=>
                   rw [hsm] at HSC
                   have HSM:Hid (∀t',acc[j]? =some t'→sameS t' s=false):=Lib.hid (fun t' ht'=>by have e2:=ht'.symm.trans HT.out;cases e2;exact hsm)
                   clear hsm
                   refine wp_region_quiet_ex (by kernel_rfl) (by kernel_rfl) ?_
                   repeat(go_big_quiet_step ((go_at_call 110;refine calls_ex_of (HSC.out _))))
                   refine wpQuiet_nil ?_
                   intro _ hw'
                   obtain⟨p9,hw''⟩:=hw'
                   subst hw''
                   replace HE2:Hid (Ex ws.heap.size none ws p9.w'):=Lib.hid (HE2.out.trans p9.ex HE2.out.size (by simp))
                   clear hq5 hq6 HSC
                   generalize p9.w' =w2 at HE2
                   have hrox: (some ⟨g,og,none⟩:Option Addr)=some ⟨g,og,none⟩∨True:=.inr trivial
                   generalize (some ⟨g,og,none⟩:Option Addr)=ro at *
                   have hz2:ws.heap.size≤w2.heap.size:=HE2.out.size
                   have HEW:Hid (Ex w1.heap.size none w1 w2):=Lib.hid (HEs.out.trans HE2.out (by omega) (by simp))
                   have HOW:Hid (OwnS w2 w.heap.size ro rc acc):=Lib.hid (HO.out.keep HEW.out (Nat.le_refl _))
                   have HQ2:Hid (∀w',Ex w2.heap.size none w2 w'→w'.cell? ⟨w1.heap.size,0,none⟩=some (.int .i64 s.author)∧w'.cell? ⟨w1.heap.size,1,none⟩=some (.int .i64 s.number)∧w'.cell? ⟨w1.heap.size,2,none⟩=some (.string s.prev)∧w'.cell? ⟨w1.heap.size,3,none⟩=some (.int .i64 s.time)∧w'.cell? ⟨w1.heap.size,4,none⟩=some (.int .i64 s.kind)∧w'.cell? ⟨w1.heap.size,5,none⟩=some (.int .i64 s.a)∧w'.cell? ⟨w1.heap.size,6,none⟩=some (.int .i64 s.b)∧w'.cell? ⟨w1.heap.size,7,none⟩=some (.int .i64 s.c)∧w'.cell? ⟨w1.heap.size,8,none⟩=some (.slice lo ln lc)∧w'.cell? ⟨w1.heap.size,9,none⟩=some (.slice po pn pc)∧w'.cell? ⟨w1.heap.size,10,none⟩=some (.string s.body)∧w'.cell? ⟨w1.heap.size,11,none⟩=some (.int .i64 s.key)∧w'.cell? ⟨w1.heap.size,12,none⟩=some (.string s.dig)):=Lib.hid (fun w' h=>HQS.out _ (HE2.out.trans h hz2 (by simp)))
                   go_wp2_with fail
                   obtain⟨xs,a2,hxs,hlies,hs1,ha2,hs2,hra,hrl⟩:=HOW.out.t.parts j (by rw [HAL.out];omega)
                   have HSS:Hid (xs.map (·.1)=acc∧(∀x∈xs,Lies (fun b=>w.heap.size≤b∧rowOf ro≠some b) w2 x)∧Src w2 ro (xs.take j)∧Src w2 a2 (xs.drop j)∧rowOf a2=rowOf ro∧∀b,rowOf ro=some b→b < w2.heap.size):=⟨hxs,hlies,hs1,hs2,hra,hrl⟩
                   have HXL:Hid (xs.length=n):=(show xs.length=n by rw [←HAL.out,←hxs];simp)
                   have HTL:Hid ((xs.take j).length=j):=(show _=_ by rw [List.length_take,HXL.out];omega)
                   have HDL:Hid ((xs.drop j).length=n - j):=(show _=_ by rw [List.length_drop,HXL.out])
                   have hkc:n≤rc:=by have:=HOW.out.t.len;rw [HAL.out] at this;exact this
                   clear hxs hlies hs1 hs2 hra hrl
                   have g1: (0:Int)≤(j:Int):=by omega
                   have g2: (j:Int)≤(n:Int):=by omega
                   have g3: (n:Int)≤(rc:Int):=by omega
                   have g4: (j:Int)≤(rc:Int):=by omega
                   go_region_held3 (fun w'=>w'.cell? ⟨w1.heap.size,0,none⟩=some (.int .i64 s.author)∧w'.cell? ⟨w1.heap.size,1,none⟩=some (.int .i64 s.number)∧w'.cell? ⟨w1.heap.size,2,none⟩=some (.string s.prev)∧w'.cell? ⟨w1.heap.size,3,none⟩=some (.int .i64 s.time)∧w'.cell? ⟨w1.heap.size,4,none⟩=some (.int .i64 s.kind)∧w'.cell? ⟨w1.heap.size,5,none⟩=some (.int .i64 s.a)∧w'.cell? ⟨w1.heap.size,6,none⟩=some (.int .i64 s.b)∧w'.cell? ⟨w1.heap.size,7,none⟩=some (.int .i64 s.c)∧w'.cell? ⟨w1.heap.size,8,none⟩=some (.slice lo ln lc)∧w'.cell? ⟨w1.heap.size,9,none⟩=some (.slice po pn pc)∧w'.cell? ⟨w1.heap.size,10,none⟩=some (.string s.body)∧w'.cell? ⟨w1.heap.size,11,none⟩=some (.int .i64 s.key)∧w'.cell? ⟨w1.heap.size,12,none⟩=some (.string s.dig)) (first | exact HQ2.out _ ((Ex.refl _ _ w2).drew) | exact HQ2.out _ HA.out.2.1 | exact HQ2.out _ (HA.out.2.1.trans HCC.out.2 hza (by simp)) | exact HQ2.out _ ((HA.out.2.1.trans HCC.out.2 hza (by simp)).trans (Ex.new wc _) (by omega) (by simp)) | exact HQ2.out _ HB.out.2 | exact HQ2.out _ HD.out.2)
                    (first
                      | (refine step_appT rfl (.const (.slice none 0 0)) (.tmp 85) _ (by rfl) Tryz.underlying27 Tryz.infoSt w2.heap.size w.heap.size none 0 0 [] rfl (by rfl) ro j rc (by rfl) (xs.take j) HTL.out (OwnT.nil _ _ _) (HSS.out.2.2.1.keep fun _ _ _=>rfl) (fun x hx=>((HSS.out.2.1 x (List.mem_of_mem_take hx)).keep fun _ _ _=>rfl).mono fun b h _=>⟨h.1,by simp [rowOf]⟩) (by omega) (Nat.le_refl _) j (by omega) ?_
                         intro ao1 cap1 wa hoa hea hba hra
                         have HA:Hid (OwnT wa w2.heap.size w.heap.size ao1 cap1 ((xs.take j).map (·.1))∧Ex w2.heap.size none w2 wa∧(∀b,rowOf ao1=some b→b < wa.heap.size)):=⟨by simpa using hoa,(Ex.refl _ _ w2).drew.trans hea (Nat.le_refl _) (by simp),hoa.row⟩
                         have hza:w2.heap.size≤wa.heap.size:=hea.size
                         clear hoa hea hba hra)
                      | (go_at_call 52
                         refine(copy03_lit s lo po ln lc pn pc _ (HLS.out.keep fun b _ hb=>(HA.out.2.1.block b (by omega) (by simp)).trans (HEW.out.block b hb (by simp))) (by omega)).mono ?_
                         rintro e wc ⟨la,na,ca,pa,np,cp,rfl,hlc,hexc⟩
                         have HCC:Hid (Lies (fun b=>wa.heap.size≤b) wc (s,⟨la,na,ca⟩,⟨pa,np,cp⟩)∧Ex wa.heap.size none wa wc):=⟨hlc,hexc⟩
                         have hzc:wa.heap.size≤wc.heap.size:=hexc.size
                         clear hlc hexc)
                      | (refine step_appT rfl (.tmp 86) (.tmp 89) _ (by rfl) Tryz.underlying27 Tryz.infoSt w2.heap.size w.heap.size ao1 cap1 j ((xs.take j).map (·.1)) (by rw [List.length_map,HTL.out]) (by rfl) (some ⟨wc.heap.size,0,none⟩) 1 1 (by rfl) [(s,⟨la,na,ca⟩,⟨pa,np,cp⟩)] rfl (HA.out.1.keep ((HCC.out.2).trans (Ex.new wc _) hzc (by simp)) (Nat.le_refl _)) (lit_cells rfl) (fun x hx=>by rw [List.mem_singleton.1 hx];exact(HCC.out.1.keep fun b _ hb=>(Ex.new wc _).block b hb (by simp)).mono fun b h _=>⟨by omega,fun e=>by have:=HA.out.2.2 b e;omega⟩) (by omega) (by simp;omega) (j+1) rfl ?_
                         intro ao2 cap2 wb hob heb hbb hrb
                         have HB:Hid (OwnT wb w2.heap.size w.heap.size ao2 cap2 ((xs.take j).map (·.1) ++ [s])∧Ex w2.heap.size none w2 wb):=⟨by simpa using hob,((HA.out.2.1.trans HCC.out.2 hza (by simp)).trans (Ex.new wc _) (by omega) (by simp)).trans heb (Nat.le_refl _) (by simp)⟩
                         have hzb2:w2.heap.size≤wb.heap.size:=HB.out.2.size
                         clear hob heb hbb hrb)
                      | (refine step_appT rfl (.tmp 90) (.tmp 93) _ (by rfl) Tryz.underlying27 Tryz.infoSt w2.heap.size w.heap.size ao2 cap2 (j+1) ((xs.take j).map (·.1) ++ [s]) (by rw [List.length_append,List.length_map,HTL.out];rfl) (by rfl) a2 (n - j) (rc - j) (by rfl) (xs.drop j) HDL.out HB.out.1 (HSS.out.2.2.2.1.keep fun b e hb=>HB.out.2.block b hb (by simp)) (fun x hx=>((HSS.out.2.1 x (List.mem_of_mem_drop hx)).mono (P':=fun b=>w.heap.size≤b∧b < w2.heap.size) fun b h hb=>⟨h.1,hb⟩).keep (fun b h _=>HB.out.2.block b h.2 (by simp)) |>.mono fun b h _=>⟨h.1,fun e=>by have:=HB.out.1.row_ge b e;omega⟩) (by omega) (by omega) (n+1) (by omega) ?_
                         intro ao3 cap3 wd hod hed hbd hrd
                         have HD:Hid (OwnT wd w2.heap.size w.heap.size ao3 cap3 (acc.take j ++ [s] ++ acc.drop j)∧Ex w2.heap.size none w2 wd):=⟨by rw [←HSS.out.1,←List.map_take,←List.map_drop];exact hod,HB.out.2.trans hed (Nat.le_refl _) (by simp)⟩
                         clear hod hed hbd hrd)
                      | fail)
                   go_wp2
                   go_roundw
                   case rel=>exact⟨k+1,n+1,ao3,cap3,acc.take j ++ [s] ++ acc.drop j,by omega,by go_num,rfl,Lib.hid ⟨by rw [HPY.out];exact(ownPut_new HUP.out HSM.out).symm,by rw [List.length_append,List.length_append,List.length_take,List.length_drop,HAL.out];simp;omega,by omega⟩,HD.out.1.s (by omega),(HEX.out.trans HEW.out hsz (by simp)).trans HD.out.2 (by omega) (by simp)⟩
                   case measure=>simp [intOf] <;> omega
           · have hjn:decide (j < n)=false:=decide_eq_false (by omega)
             have hq4:=fun p0:ExW wr=>HQS.out _ ((HE8.out.trans hexi hz8 (by simp)).trans p0.ex (by omega) (by simp))
             have HEI:=Lib.hid hexi
             clear hexi hjt
             go_wp2_with fail
             refine wp_region_quiet_ex (by kernel_rfl) (by kernel_rfl) ?_
             repeat(go_big_quiet_step (fail))
             refine wpQuiet_nil ?_
             intro _ hw'
             obtain⟨p9,hw''⟩:=hw'
             subst hw''
             have HNOJ:Hid (∀t',acc[j]?≠some t'):=Lib.hid (fun t' ht'=>by have:=(List.getElem?_eq_some_iff.1 ht').1;rw [HAL.out] at this;simp at hjn;omega)
             have HUP:Hid (upPos acc s=j):=Lib.hid (upPos_eq (by rw [HAL.out];omega) HJ.out (fun t' ht'=>absurd ht' (HNOJ.out t')))
             have HE2:Hid (Ex ws.heap.size none ws p9.w'):=Lib.hid ((HE8.out.trans HEI.out hz8 (by simp)).trans p9.ex (by omega) (by simp))
             have HSM:Hid (∀t',acc[j]? =some t'→sameS t' s=false):=Lib.hid (fun t' ht'=>absurd ht' (HNOJ.out t'))
             generalize p9.w' =w9 at HE2
             clear hq4
             go_wp2_with fail
             refine wp_region_quiet_ex (by kernel_rfl) (by kernel_rfl) ?_
             repeat(go_big_quiet_step (fail))
             refine wpQuiet_nil ?_
             intro _ hw'
             obtain⟨p9,hw''⟩:=hw'
             subst hw''
             replace HE2:Hid (Ex ws.heap.size none ws p9.w'):=Lib.hid (HE2.out.trans p9.ex HE2.out.size (by simp))
             generalize p9.w' =w2 at HE2
             have hz2:ws.heap.size≤w2.heap.size:=HE2.out.size
             have HEW:Hid (Ex w1.heap.size none w1 w2):=Lib.hid (HEs.out.trans HE2.out (by omega) (by simp))
             have HOW:Hid (OwnS w2 w.heap.size ro rc acc):=Lib.hid (HO.out.keep HEW.out (Nat.le_refl _))
             have HQ2:Hid (∀w',Ex w2.heap.size none w2 w'→w'.cell? ⟨w1.heap.size,0,none⟩=some (.int .i64 s.author)∧w'.cell? ⟨w1.heap.size,1,none⟩=some (.int .i64 s.number)∧w'.cell? ⟨w1.heap.size,2,none⟩=some (.string s.prev)∧w'.cell? ⟨w1.heap.size,3,none⟩=some (.int .i64 s.time)∧w'.cell? ⟨w1.heap.size,4,none⟩=some (.int .i64 s.kind)∧w'.cell? ⟨w1.heap.size,5,none⟩=some (.int .i64 s.a)∧w'.cell? ⟨w1.heap.size,6,none⟩=some (.int .i64 s.b)∧w'.cell? ⟨w1.heap.size,7,none⟩=some (.int .i64 s.c)∧w'.cell? ⟨w1.heap.size,8,none⟩=some (.slice lo ln lc)∧w'.cell? ⟨w1.heap.size,9,none⟩=some (.slice po pn pc)∧w'.cell? ⟨w1.heap.size,10,none⟩=some (.string s.body)∧w'.cell? ⟨w1.heap.size,11,none⟩=some (.int .i64 s.key)∧w'.cell? ⟨w1.heap.size,12,none⟩=some (.string s.dig)):=Lib.hid (fun w' h=>HQS.out _ (HE2.out.trans h hz2 (by simp)))
             go_wp2_with fail
             obtain⟨xs,a2,hxs,hlies,hs1,ha2,hs2,hra,hrl⟩:=HOW.out.t.parts j (by rw [HAL.out];omega)
             have HSS:Hid (xs.map (·.1)=acc∧(∀x∈xs,Lies (fun b=>w.heap.size≤b∧rowOf ro≠some b) w2 x)∧Src w2 ro (xs.take j)∧Src w2 a2 (xs.drop j)∧rowOf a2=rowOf ro∧∀b,rowOf ro=some b→b < w2.heap.size):=⟨hxs,hlies,hs1,hs2,hra,hrl⟩
             have HXL:Hid (xs.length=n):=(show xs.length=n by rw [←HAL.out,←hxs];simp)
             have HTL:Hid ((xs.take j).length=j):=(show _=_ by rw [List.length_take,HXL.out];omega)
             have HDL:Hid ((xs.drop j).length=n - j):=(show _=_ by rw [List.length_drop,HXL.out])
             have hkc:n≤rc:=by have:=HOW.out.t.len;rw [HAL.out] at this;exact this
             clear hxs hlies hs1 hs2 hra hrl
             have g1: (0:Int)≤(j:Int):=by omega
             have g2: (j:Int)≤(n:Int):=by omega
             have g3: (n:Int)≤(rc:Int):=by omega
             have g4: (j:Int)≤(rc:Int):=by omega
             go_region_held3 (fun w'=>w'.cell? ⟨w1.heap.size,0,none⟩=some (.int .i64 s.author)∧w'.cell? ⟨w1.heap.size,1,none⟩=some (.int .i64 s.number)∧w'.cell? ⟨w1.heap.size,2,none⟩=some (.string s.prev)∧w'.cell? ⟨w1.heap.size,3,none⟩=some (.int .i64 s.time)∧w'.cell? ⟨w1.heap.size,4,none⟩=some (.int .i64 s.kind)∧w'.cell? ⟨w1.heap.size,5,none⟩=some (.int .i64 s.a)∧w'.cell? ⟨w1.heap.size,6,none⟩=some (.int .i64 s.b)∧w'.cell? ⟨w1.heap.size,7,none⟩=some (.int .i64 s.c)∧w'.cell? ⟨w1.heap.size,8,none⟩=some (.slice lo ln lc)∧w'.cell? ⟨w1.heap.size,9,none⟩=some (.slice po pn pc)∧w'.cell? ⟨w1.heap.size,10,none⟩=some (.string s.body)∧w'.cell? ⟨w1.heap.size,11,none⟩=some (.int .i64 s.key)∧w'.cell? ⟨w1.heap.size,12,none⟩=some (.string s.dig)) (first | exact HQ2.out _ ((Ex.refl _ _ w2).drew) | exact HQ2.out _ HA.out.2.1 | exact HQ2.out _ (HA.out.2.1.trans HCC.out.2 hza (by simp)) | exact HQ2.out _ ((HA.out.2.1.trans HCC.out.2 hza (by simp)).trans (Ex.new wc _) (by omega) (by simp)) | exact HQ2.out _ HB.out.2 | exact HQ2.out _ HD.out.2)
              (first
                | (refine step_appT rfl (.const (.slice none 0 0)) (.tmp 85) _ (by rfl) Tryz.underlying27 Tryz.infoSt w2.heap.size w.heap.size none 0 0 [] rfl (by rfl) ro j rc (by rfl) (xs.take j) HTL.out (OwnT.nil _ _ _) (HSS.out.2.2.1.keep fun _ _ _=>rfl) (fun x hx=>((HSS.out.2.1 x (List.mem_of_mem_take hx)).keep fun _ _ _=>rfl).mono fun b h _=>⟨h.1,by simp [rowOf]⟩) (by omega) (Nat.le_refl _) j (by omega) ?_
                   intro ao1 cap1 wa hoa hea hba hra
                   have HA:Hid (OwnT wa w2.heap.size w.heap.size ao1 cap1 ((xs.take j).map (·.1))∧Ex w2.heap.size none w2 wa∧(∀b,rowOf ao1=some b→b < wa.heap.size)):=⟨by simpa using hoa,(Ex.refl _ _ w2).drew.trans hea (Nat.le_refl _) (by simp),hoa.row⟩
                   have hza:w2.heap.size≤wa.heap.size:=hea.size
                   clear hoa hea hba hra)
                | (go_at_call 52
                   refine(copy03_lit s lo po ln lc pn pc _ (HLS.out.keep fun b _ hb=>(HA.out.2.1.block b (by omega) (by simp)).trans (HEW.out.block b hb (by simp))) (by omega)).mono ?_
                   rintro e wc ⟨la,na,ca,pa,np,cp,rfl,hlc,hexc⟩
                   have HCC:Hid (Lies (fun b=>wa.heap.size≤b) wc (s,⟨la,na,ca⟩,⟨pa,np,cp⟩)∧Ex wa.heap.size none wa wc):=⟨hlc,hexc⟩
                   have hzc:wa.heap.size≤wc.heap.size:=hexc.size
                   clear hlc hexc)
                | (refine step_appT rfl (.tmp 86) (.tmp 89) _ (by rfl) Tryz.underlying27 Tryz.infoSt w2.heap.size w.heap.size ao1 cap1 j ((xs.take j).map (·.1)) (by rw [List.length_map,HTL.out]) (by rfl) (some ⟨wc.heap.size,0,none⟩) 1 1 (by rfl) [(s,⟨la,na,ca⟩,⟨pa,np,cp⟩)] rfl (HA.out.1.keep ((HCC.out.2).trans (Ex.new wc _) hzc (by simp)) (Nat.le_refl _)) (lit_cells rfl) (fun x hx=>by rw [List.mem_singleton.1 hx];exact(HCC.out.1.keep fun b _ hb=>(Ex.new wc _).block b hb (by simp)).mono fun b h _=>⟨by omega,fun e=>by have:=HA.out.2.2 b e;omega⟩) (by omega) (by simp;omega) (j+1) rfl ?_
                   intro ao2 cap2 wb hob heb hbb hrb
                   have HB:Hid (OwnT wb w2.heap.size w.heap.size ao2 cap2 ((xs.take j).map (·.1) ++ [s])∧Ex w2.heap.size none w2 wb):=⟨by simpa using hob,((HA.out.2.1.trans HCC.out.2 hza (by simp)).trans (Ex.new wc _) (by omega) (by simp)).trans heb (Nat.le_refl _) (by simp)⟩
                   have hzb2:w2.heap.size≤wb.heap.size:=HB.out.2.size
                   clear hob heb hbb hrb)
                | (refine step_appT rfl (.tmp 90) (.tmp 93) _ (by rfl) Tryz.underlying27 Tryz.infoSt w2.heap.size w.heap.size ao2 cap2 (j+1) ((xs.take j).map (·.1) ++ [s]) (by rw [List.length_append,List.length_map,HTL.out];rfl) (by rfl) a2 (n - j) (rc - j) (by rfl) (xs.drop j) HDL.out HB.out.1 (HSS.out.2.2.2.1.keep fun b e hb=>HB.out.2.block b hb (by simp)) (fun x hx=>((HSS.out.2.1 x (List.mem_of_mem_drop hx)).mono (P':=fun b=>w.heap.size≤b∧b < w2.heap.size) fun b h hb=>⟨h.1,hb⟩).keep (fun b h _=>HB.out.2.block b h.2 (by simp)) |>.mono fun b h _=>⟨h.1,fun e=>by have:=HB.out.1.row_ge b e;omega⟩) (by omega) (by omega) (n+1) (by omega) ?_
                   intro ao3 cap3 wd hod hed hbd hrd
                   have HD:Hid (OwnT wd w2.heap.size w.heap.size ao3 cap3 (acc.take j ++ [s] ++ acc.drop j)∧Ex w2.heap.size none w2 wd):=⟨by rw [←HSS.out.1,←List.map_take,←List.map_drop];exact hod,HB.out.2.trans hed (Nat.le_refl _) (by simp)⟩
                   clear hod hed hbd hrd)
                | fail)
             go_wp2
             go_roundw
             case rel=>exact⟨k+1,n+1,ao3,cap3,acc.take j ++ [s] ++ acc.drop j,by omega,by go_num,rfl,Lib.hid ⟨by rw [HPY.out];exact(ownPut_new HUP.out HSM.out).symm,by rw [List.length_append,List.length_append,List.length_take,List.length_drop,HAL.out];simp;omega,by omega⟩,HD.out.1.s (by omega),(HEX.out.trans HEW.out hsz (by simp)).trans HD.out.2 (by omega) (by simp)⟩
             case measure=>simp [intOf] <;> omega
      · have r2d: (checkI s != 0)=true:=by simp [r2]
        have HPN:Hid (ownOK a s=false):=Lib.hid (by simp only [ownOK,decide_eq_false r2,Bool.and_false,Bool.false_and])
        clear r2
        have HNX:Hid (ownI a (l.take (k+1))=acc):=Lib.hid (by rw [ownI_no HX.out HPN.out];exact HN.out.1.symm)
        go_wp2_with (first
         | (go_at_call 45;refine(check03_any s lo po ln lc pn pc _ (HLS.out.keep fun b _ hb=>(HEs.out.block b hb (by simp))) (by omega)).mono ?_;rintro e w7 ⟨rfl,hex7⟩;have HE7:Hid (Ex ws.heap.size none ws w7):=Lib.hid hex7;have hz7:ws.heap.size≤w7.heap.size:=hex7.size;clear hex7;obtain⟨⟨d0,d1,d2,d3,d4,d5,d6,d7,d8,d9,d10,d11,d12⟩,fz⟩:=st_block ((HE7.out.block w1.heap.size (by omega) (by simp)).trans HBs.out))
         | (go_at_call 54;refine(sealed03_any s lo po ln lc pn pc _ (HLS.out.keep fun b _ hb=>(HE7.out.block b (by omega) (by simp)).trans (HEs.out.block b hb (by simp))) HTS.out).mono ?_;rintro e w8 ⟨rfl,hex8⟩;have HE8:Hid (Ex ws.heap.size none ws w8):=Lib.hid (HE7.out.trans hex8 hz7 (by simp));have hz8:ws.heap.size≤w8.heap.size:=HE8.out.size;clear hex8 d0 d1 d2 d3 d4 d5 d6 d7 d8 d9 d10 d11 d12 fz)
         | fail)
        go_roundw
        case rel=>exact⟨k+1,n,_,rc,acc,by omega,by go_num,rfl,Lib.hid ⟨HNX.out.symm,HN.out.2.1,by omega⟩,HO.out.keep (HEs.out.trans HE7.out (by omega) (by simp)) (Nat.le_refl _),HEX.out.trans (HEs.out.trans HE7.out (by omega) (by simp)) hsz (by simp)⟩
        case measure=>simp [intOf] <;> omega
    · have r1d: (s.author != a)=true:=by simp [r1]
      have HPN:Hid (ownOK a s=false):=Lib.hid (by simp only [ownOK,decide_eq_false r1,Bool.false_and])
      clear r1
      have HNX:Hid (ownI a (l.take (k+1))=acc):=Lib.hid (by rw [ownI_no HX.out HPN.out];exact HN.out.1.symm)
      go_wp2_with (first
       | (go_at_call 45;refine(check03_any s lo po ln lc pn pc _ (HLS.out.keep fun b _ hb=>(HEs.out.block b hb (by simp))) (by omega)).mono ?_;rintro e w7 ⟨rfl,hex7⟩;have HE7:Hid (Ex ws.heap.size none ws w7):=Lib.hid hex7;have hz7:ws.heap.size≤w7.heap.size:=hex7.size;clear hex7;obtain⟨⟨d0,d1,d2,d3,d4,d5,d6,d7,d8,d9,d10,d11,d12⟩,fz⟩:=st_block ((HE7.out.block w1.heap.size (by omega) (by simp)).trans HBs.out))
       | (go_at_call 54;refine(sealed03_any s lo po ln lc pn pc _ (HLS.out.keep fun b _ hb=>(HE7.out.block b (by omega) (by simp)).trans (HEs.out.block b hb (by simp))) HTS.out).mono ?_;rintro e w8 ⟨rfl,hex8⟩;have HE8:Hid (Ex ws.heap.size none ws w8):=Lib.hid (HE7.out.trans hex8 hz7 (by simp));have hz8:ws.heap.size≤w8.heap.size:=HE8.out.size;clear hex8 d0 d1 d2 d3 d4 d5 d6 d7 d8 d9 d10 d11 d12 fz)
       | fail)
      go_roundw
      case rel=>exact⟨k+1,n,_,rc,acc,by omega,by go_num,rfl,Lib.hid ⟨HNX.out.symm,HN.out.2.1,by omega⟩,HO.out.keep (HEs.out.trans (Ex.refl ws.heap.size none ws) (by omega) (by simp)) (Nat.le_refl _),HEX.out.trans (HEs.out.trans (Ex.refl ws.heap.size none ws) (by omega) (by simp)) hsz (by simp)⟩
      case measure=>simp [intOf] <;> omega
  · have hkl:k=l.length:=by omega
    have HF:Hid (acc=ownI a l):=Lib.hid (by rw [HN.out.1,hkl,List.take_length])
    have HNL:Hid (n= (ownI a l).length):=Lib.hid (by rw [←HF.out];exact HN.out.2.1)
    clear hkl
    go_wp2
    go_ret
    exact⟨ro,rc,by rw [←HNL.out];rfl,by rw [←HF.out];exact hown,hex⟩
end Go.Proofs.YtflhidfclfkjlaaGreat

/- law36.awake in plain words: two statements with one number, and what Find answers. No program in sight; no statement of the seat. | proof.Against, proof.Guilty: contracts. No statement of the seat. | law36.awake: a contract. No statement of the seat. | mill.Content: a contract. No statement of the seat. | mill.Vote: a contract. No statement of the seat. | Boxes of proofs that are written in parts. No statement of the seat. -/
import Derived.Test.YtflhidfclfkjlaaGreatMg13
import Derived.Test.YtflhidfclfkjlaaGreatMg15
import Derived.Test.YtflhidfclfkjlaaGreatMg09
import Derived.Test.YtflhidfclfkjlaaGreatMg12
import Derived.Test.YtflhidfclfkjlaaGreatMg03
import Derived.Test.YtflhidfclfkjlaaGreatMg14
import Derived.Test.YtflhidfclfkjlaaGreatMg02
import Derived.Deep.Cut
import Derived.Deep.MidRow
import Derived.Deep.Upon
namespace Go.Proofs.YtflhidfclfkjlaaGreat
open Go.RowKit Go.Sort
section
section
variable {α β:Type} [Inhabited α] {eq:α→α→Bool}
theorem cpt_key (k:α→β) (he:∀x y,eq x y=true→k x=k y) (d:Array α):∀n,∀i,i < n→∃y∈cpt eq d n,k y=k d[i]! :=by
 intro n
 induction n with
 | zero=>intro i hi;omega
 | succ n ih=>
   intro i hi
   by_cases hs:stays eq d n=true
   · rw [cpt_yes hs]
     rcases Nat.lt_succ_iff_lt_or_eq.1 hi with h | rfl
     · obtain⟨y,hy,e⟩:=ih i h
       exact⟨y,List.mem_append_left _ hy,e⟩
     · exact⟨d[i]!,by simp,rfl⟩
   · have hs' :stays eq d n=false:=by simpa using hs
     rw [cpt_no hs']
     rcases Nat.lt_succ_iff_lt_or_eq.1 hi with h | rfl
     · exact ih i h
     · unfold stays at hs'
       simp only [Bool.or_eq_false_iff,decide_eq_false_iff_not,Bool.not_eq_eq_eq_not,Bool.not_false] at hs'
       obtain⟨h0,h1⟩:=hs'
       obtain⟨y,hy,e⟩:=ih (i - 1) (by omega)
       exact⟨y,hy,by rw [e,he _ _ h1]⟩
end
theorem ordN_zero {x y:St} (h:ordN x y=0):x.dig=y.dig:=by
 unfold ordN lexC at h
 split at h
 · rename_i h2;exact absurd h h2
 · exact strC_zero h
theorem OwnR.digs {a:Int} {l ls:List St} (h:OwnR a l ls):∀s∈l,okB a s=true→∃t∈ls,t.dig=s.dig:=fun s hs ho=>by
 obtain⟨d,hp,_,rfl⟩:=h
 have h1:s∈d:=hp.mem_iff.2 (List.mem_filter.2 ⟨hs,ho⟩)
 obtain⟨i,hi,rfl⟩:=List.mem_iff_getElem.1 h1
 obtain⟨y,hy,e⟩:=cpt_key (eq:=sameNDs) (fun s:St=>s.dig) (fun x y h=>ordN_zero (of_decide_eq_true h)) d.toArray d.length i hi
 refine⟨y,hy,?_⟩
 rw [e,getElem!_pos d.toArray i (by simpa using hi)]
 simp
theorem OwnR.none {a:Int} {l ls:List St} (h:OwnR a l ls) (hn:∀s∈l,okB a s=false):ls=[]:=by
 match ls,h.mem,h.ok with
 | [],_,_=>rfl
 | s :: _,hm,hk=>exact absurd (hk s (by simp)) (by rw [hn s (hm s (by simp))];simp)
theorem doubles_none {ls:List St} {ds:List PrD} (h:DoublesR ls ds) (hn:∀s∈ls,voteB s=false):ds=[]:=by
 match ds,h with
 | [],_=>rfl
 | p :: _,h=>
   obtain⟨_,h2,_,h4,_⟩:=h.2 p (by simp)
   rw [hn _ h2] at h4;cases h4
theorem two_row {α:Type} {r:α→α→Prop} (irr:∀x,¬r x x) {s t:α} (hst:s≠t) {ls:List α} (hr:ls.Pairwise r) (hu:s∈ls) (hv:t∈ls) (hm:∀x∈ls,x=s∨x=t):ls=[s,t]∨ls=[t,s]:=by
 match ls,hr,hu,hv,hm with
 | [],_,hu,_,_=>cases hu
 | [x],_,hu,hv,_=>exact absurd ((List.mem_singleton.1 hu).trans (List.mem_singleton.1 hv).symm) hst
 | [x,y],hr,hu,hv,hm=>
   have hxy:r x y:=(List.pairwise_cons.1 hr).1 y (by simp)
   rcases hm x (by simp) with e | e <;> rcases hm y (by simp) with e2 | e2
   · rw [e,e2] at hxy;exact absurd hxy (irr _)
   · exact .inl (by rw [e,e2])
   · exact .inr (by rw [e,e2])
   · rw [e,e2] at hxy;exact absurd hxy (irr _)
 | x :: y :: z :: _,hr,_,_,hm=>
   have h1:=List.pairwise_cons.1 hr
   have h2:=List.pairwise_cons.1 h1.2
   have a1:=h1.1 y (by simp)
   have a2:=h1.1 z (by simp)
   have a3:=h2.1 z (by simp)
   rcases hm x (by simp) with e | e <;> rcases hm y (by simp) with e2 | e2 <;> rcases hm z (by simp) with e3 | e3 <;> rw [e,e2] at a1 <;> rw [e,e3] at a2 <;> rw [e2,e3] at a3 <;> first | exact absurd a1 (irr _) | exact absurd a2 (irr _) | exact absurd a3 (irr _)
theorem find_one {l:List St} {a:Nat} (s t:St) (hl:∀x∈l,x=s∨x=t) (hs:s∈l) (ht:t∈l) (hos:okB (a:Int) s=true) (hot:okB (a:Int) t=true) (hv:∀x∈l,voteB x=false) (hn:s.number=t.number) (hd:s.dig≠t.dig) :
 ∀k ps,FindR l k ps→(k≤a→ps=[])∧(a < k→∃x y,ps=[(1,x,y)]∧x.author= (a:Int)):=by
 have hother:∀k:Nat,k≠a→∀ls,OwnR ((k:Nat):Int) l ls→ls=[]:=fun k hk ls h=>h.none fun x hx=>by
  have hax:x.author= (a:Int):=by
   rcases hl x hx with rfl | rfl
   · exact(okB_parts hos).1
   · exact(okB_parts hot).1
  have : ¬x.author= ((k:Nat):Int):=by omega
  unfold okB
  simp [this]
 have htwo:∀ls,OwnR ((a:Nat):Int) l ls→ls=[s,t]∨ls=[t,s]:=fun ls h=>by
  obtain⟨u,hu,eu⟩:=h.digs s hs hos
  obtain⟨v,hv,ev⟩:=h.digs t ht hot
  have hu' :u=s:=by
   rcases hl u (h.mem u hu) with e | e
   · exact e
   · rw [e] at eu;exact absurd eu.symm hd
  have hv' :v=t:=by
   rcases hl v (h.mem v hv) with e | e
   · rw [e] at ev;exact absurd ev hd
   · exact e
  rw [hu'] at hu
  rw [hv'] at hv
  exact two_row (fun x hx=>by have:=(good_ordN.anti x x).1 hx;omega) (fun e=>hd (by rw [e])) h.rise hu hv fun x hx=>hl x (h.mem x hx)
 have hnil:∀fs,ForksR [] fs→fs=[]:=fun fs h=>by
  rcases h with⟨_,e⟩ | ⟨x,y,h,_⟩
  · exact e
  · cases h
 have hdn:∀ds,DoublesR [] ds→ds=[]:=fun ds h=>doubles_none h (by simp)
 intro k ps h
 induction h with
 | zero=>exact⟨fun _=>rfl,fun h=>by omega⟩
 | @few k ps ls h hl2 hn2 ih=>
   refine⟨fun hk=>ih.1 (by omega),fun hk=>?_⟩
   rcases Nat.lt_or_eq_of_le (Nat.le_of_lt_succ hk) with h3 | rfl
   · exact ih.2 h3
   · rcases htwo ls hl2 with rfl | rfl <;> simp at hn2
 | @more k ps fs ds ls h hl2 hf hdb ih=>
   by_cases hka:k=a
   · subst hka
     have e0:=ih.1 (Nat.le_refl _)
     have hdv:ds=[]:=doubles_none hdb fun x hx=>hv x (hl2.mem x hx)
     refine⟨fun h=>by omega,fun _=>?_⟩
     subst e0 hdv
     rw [List.append_nil,List.nil_append]
     rcases htwo ls hl2 with rfl | rfl
     · have e:forkF [s,t]=some (s,t):=by unfold forkF;rw [if_pos hn]
       rcases hf with⟨h,_⟩ | ⟨x,y,h,rfl⟩
       · rw [e] at h;cases h
       · rw [e] at h;cases h
         exact⟨_,_,rfl,(okB_parts hos).1⟩
     · have e:forkF [t,s]=some (t,s):=by unfold forkF;rw [if_pos hn.symm]
       rcases hf with⟨h,_⟩ | ⟨x,y,h,rfl⟩
       · rw [e] at h;cases h
       · rw [e] at h;cases h
         exact⟨_,_,rfl,(okB_parts hot).1⟩
   · have e1:=hother k hka ls hl2
     subst e1
     rw [hnil fs hf,hdn ds hdb,List.append_nil,List.append_nil]
     exact⟨fun h=>ih.1 (by omega),fun h=>ih.2 (by omega)⟩
theorem PairOK.chk {p:PrD} (h:PairOK p):chkX p=0:=by
 obtain⟨h1,h2,h3,h4,h5,h6⟩:=h
 have e1:p.2.1.dig=sha (stB p.2.1):=by unfold sealedB at h3;simp only [Bool.and_eq_true,decide_eq_true_eq] at h3;exact h3.2
 have e2:p.2.2.dig=sha (stB p.2.2):=by unfold sealedB at h4;simp only [Bool.and_eq_true,decide_eq_true_eq] at h4;exact h4.2
 have hk: ((decide (p.1=1) && kindB1 p.2.1 p.2.2) || (decide (p.1=2) && kindB2 p.2.1 p.2.2))=true:=by
  rcases h6 with⟨k1,k2,k3⟩ | ⟨k1,k2,k3,k4,k5⟩
  · rw [Bool.or_eq_true]
    left
    unfold kindB1
    rw [←e1,←e2]
    simp [k1,k2,k3]
  · rw [Bool.or_eq_true]
    right
    unfold caseB at k4
    simp only [Bool.and_eq_true,decide_eq_true_eq] at k4
    obtain⟨⟨⟨c1,c2⟩,c3⟩,c4⟩:=k4
    unfold kindB2 caseB
    simp [k1,k2,k3,c1,c2,c3,c4,k5]
 unfold chkX
 rw [h3,h4,hk]
 rfl
def awS (ti:Nat):St:=millS 2 4 (ti:Int) (drD 11 0 0 0 [])
theorem awS_eq (ti:Nat):awS ti=sealS ⟨((2:Nat):Int),((4:Nat):Int),dgW [0,0,0,0,0,0,0,0],(ti:Int),((11:Nat):Int),((0:Nat):Int),0,0,[],[],⟨#[]⟩,0,⟨#[]⟩⟩:=by
 have e: (if (0:Int) < 4 then strOf (List.replicate 32 (0:UInt8)) else⟨#[]⟩)=dgW [0,0,0,0,0,0,0,0]:=by
  rw [if_pos (by decide)]
  kernel_rfl
 unfold awS millS
 rw [e]
 rfl
theorem awS_ok (ti:Nat) (h:ti≤1):okB ((2:Nat):Int) (awS ti)=true:=by
 rw [awS_eq]
 refine okB_iff.2 ⟨rfl,?_,sealS_sealed _⟩
 exact plain_check (by decide) (by decide) (fun h=>absurd h (by decide)) (fun _=>dgW_size _ rfl) (by omega) (by decide) (by decide)
theorem awS_vote (ti:Nat):voteB (awS ti)=false:=voteB_kind (by show(11:Int)≠10;decide)
set_option maxRecDepth 100000 in
theorem shaW0:sha (stB ⟨((2:Nat):Int),((4:Nat):Int),dgW [0,0,0,0,0,0,0,0],((0:Nat):Int),((11:Nat):Int),((0:Nat):Int),((0:Nat):Int),((0:Nat):Int),[],[],⟨#[]⟩,0,⟨#[]⟩⟩)=dgW ([3113054183,3007760211,654458685,2410820234,1132174521,99787446,2766103030,1363547010].map UInt32.ofNat):=shaOf3 (by decide) (by kernel_rfl:stN3 2 4 (0:UInt32).toNat (0:UInt32).toNat (0:UInt32).toNat (0:UInt32).toNat (0:UInt32).toNat (0:UInt32).toNat (0:UInt32).toNat (0:UInt32).toNat 0 11 0 0 0 lk8=[3113054183,3007760211,654458685,2410820234,1132174521,99787446,2766103030,1363547010])
set_option maxRecDepth 100000 in
theorem shaW1:sha (stB ⟨((2:Nat):Int),((4:Nat):Int),dgW [0,0,0,0,0,0,0,0],((1:Nat):Int),((11:Nat):Int),((0:Nat):Int),((0:Nat):Int),((0:Nat):Int),[],[],⟨#[]⟩,0,⟨#[]⟩⟩)=dgW ([1538569275,636141278,61743591,3502319244,3224967066,1590997244,4196561366,337215333].map UInt32.ofNat):=shaOf3 (by decide) (by kernel_rfl:stN3 2 4 (0:UInt32).toNat (0:UInt32).toNat (0:UInt32).toNat (0:UInt32).toNat (0:UInt32).toNat (0:UInt32).toNat (0:UInt32).toNat (0:UInt32).toNat 1 11 0 0 0 lk8=[1538569275,636141278,61743591,3502319244,3224967066,1590997244,4196561366,337215333])
theorem seal_dig (s:St): (sealS s).dig=sha (stB s):=rfl
theorem awS_dg (ti:Nat): (awS ti).dig=sha (stB ⟨((2:Nat):Int),((4:Nat):Int),dgW [0,0,0,0,0,0,0,0],((ti:Nat):Int),((11:Nat):Int),((0:Nat):Int),((0:Nat):Int),((0:Nat):Int),[],[],⟨#[]⟩,0,⟨#[]⟩⟩):=by
 rw [awS_eq,seal_dig]
 exact congrArg (fun z:Int=>sha (stB ⟨((2:Nat):Int),((4:Nat):Int),dgW [0,0,0,0,0,0,0,0],((ti:Nat):Int),((11:Nat):Int),((0:Nat):Int),z,z,[],[],⟨#[]⟩,0,⟨#[]⟩⟩)) (rfl: (0:Int)= ((0:Nat):Int))
theorem awS_dig: (awS 0).dig≠(awS 1).dig:=by
 rw [awS_dg,awS_dg,shaW0,shaW1]
 intro h
 exact absurd (dgW_head h) (by decide)
theorem aw_find {l:List St} (hl:∀x∈l,x=awS 0∨x=awS 1) (h0:awS 0∈l) (h1:awS 1∈l) {ps:List PrD} (h:FindR l 64 ps):∃x y,ps=[(1,x,y)]∧x.author=2∧Lib.compact (ps.map fun p=>p.2.1.author)=[2]:=by
 have hv:∀x∈l,voteB x=false:=fun x hx=>by rcases hl x hx with rfl | rfl <;> exact awS_vote _
 obtain⟨x,y,rfl,e⟩:=(find_one (a:=2) (awS 0) (awS 1) hl h0 h1 (awS_ok 0 (by omega)) (awS_ok 1 (by omega)) hv rfl awS_dig 64 ps h).2 (by omega)
 refine⟨x,y,rfl,e,?_⟩
 show Lib.compact [x.author]=[2]
 rw [e]
 rfl
end
section
attribute [local go_sem ↓] rowLoad_stv rowStore_stv rowLoad_prf rowStore_prf
set_option maxHeartbeats 4000000 in
set_option maxRecDepth 100000 in
theorem against_any (x:PrX) (w:World):Calls Tryz.prog 21 #[prV x] w fun e w'=>e=.returned (.int .i64 x.2.1.1.author)∧Ex w.heap.size none w w':=by
 obtain⟨ws,hws⟩:∃ws:World,ws=w.alloc (.cells (prV x).cells 63):=⟨_,rfl⟩
 have HEs:Hid (Ex w.heap.size none w ws):=Lib.hid (by rw [hws];exact Ex.new w _)
 have c0:ws.cell? ⟨w.heap.size,1,none⟩=some (.int .i64 x.2.1.1.author):=by
  rw [prV_cell (x:=x) (by rw [hws];exact heap_alloc_new w _) 1];rfl
 have hnx:=prV_new w #[.int .i64 0,.int .i64 0,.int .i64 0,.string ⟨#[]⟩,.int .i64 0,.int .i64 0,.int .i64 0,.int .i64 0,.int .i64 0,.slice none 0 0,.slice none 0 0,.string ⟨#[]⟩,.int .i64 0,.string ⟨#[]⟩,.int .i64 0,.int .i64 0,.string ⟨#[]⟩,.int .i64 0,.int .i64 0,.int .i64 0,.int .i64 0,.int .i64 0,.slice none 0 0,.slice none 0 0,.string ⟨#[]⟩,.int .i64 0,.string ⟨#[]⟩] x rfl
 go_enter Tryz.func21,Tryz.ntmps21
 go_upto_region 1 with(fail)
 refine wp_world (fun W=>W=ws) (by rw [hws];rfl) (fun W hW=>?_)
 rw [hW]
 clear hW W hws hnx
 go_wp2
 go_ret
 exact⟨rfl,HEs.out⟩
def GuiltyE (l:List St) (e:Ending) (w' :World):Prop:=∃(ro:Option Addr) (rc:Nat) (ps:List PrD),FindR l 64 ps∧e=.returned (.slice ro (Lib.compact (ps.map fun p=>p.2.1.author)).length rc)∧IntsAt w' ro (Lib.compact (ps.map fun p=>p.2.1.author))
set_option maxHeartbeats 16000000 in
set_option maxRecDepth 100000 in
theorem guiltyV_any {P:Nat→Prop} (v:Value) (l:List St) (w:World) (hv:Sl stRep P w v l) (hm:l.length≤100000) (hL:∀s∈l,LightS s) :
 Calls Tryz.prog 16 #[v] w fun e w'=>GuiltyE l e w'∧Ex w.heap.size none w w':=by
 have HV:=Lib.hid hv
 have HLL:=Lib.hid hL
 clear hv hL
 have hli: (Tryz.prog.info? 3).map (fun i=>(i.zero,i.size,i.bytes))=some (some (.int .i64 0),1,8):=by kernel_rfl
 have HLI:=Lib.hid hli
 clear hli
 go_enter Tryz.func16,Tryz.ntmps16
 go_wp2_with (first
  | (go_at_call 18
     refine(findV_any v l w HV.out hm HLL.out).mono ?_
     rintro e w1 ⟨⟨po,pc,ps,rfl,hfr,hsl⟩,hex1⟩
     have H1:Hid (FindR l 64 ps∧SlAt prRep (fun _=>True) w1 po ps∧Ex w.heap.size none w w1):=Lib.hid ⟨hfr,hsl,hex1⟩
     have hz1:w.heap.size≤w1.heap.size:=hex1.size
     have hlen:ps.length≤6400064:=by have h1:=hfr.len;have h2:=Nat.mul_le_mul (Nat.le_refl 64) (show l.length+1≤100001 by omega);omega
     clear hfr hsl hex1)
  | fail)
 obtain⟨m,hmc⟩:∃m,m=ps.length:=⟨_,rfl⟩
 have HM:=Lib.hid hmc
 rw [←hmc] at hlen ⊢
 clear hmc
 go_loopw [3,9] (fun v i wr=>∃(k:Nat) (ro:Option Addr) (rc:Nat) (xs:List Int),k≤m∧i=.int .i64 k∧v=.slice ro k rc∧Hid (xs= (ps.take k).map fun p=>p.2.1.author)∧Hid (xs.length=k)∧OwnI wr w1.heap.size ro rc xs∧Ex w1.heap.size none w1 wr) (fun _ i _=>m - (intOf i).toNat)
 case atStart=>exact⟨0,none,0,[],by omega,rfl,rfl,Lib.hid (by simp),Lib.hid rfl,OwnI.nil _ _,Ex.refl _ _ _⟩
 case round=>
  obtain⟨k,ro,rc,xs,hk,rfl,rfl,HA,HXL,hown,hex⟩:=hrel
  have hsz:=hex.size
  have HEX:=Lib.hid hex
  have HO:=Lib.hid hown
  clear hown hex
  by_cases hlt:k < m
  · have hltI: (k:Int) < (m:Int):=by omega
    obtain⟨b,off,x,rfl,_,hbl,HXk,_,HR⟩:=prv_get H1.out.2.1 k (by rw [←HM.out];exact hlt)
    have r0:=HR.out wr (HEX.out.block b hbl (by simp))
    have hn1:=prV_new wr #[.int .i64 0,.int .i64 0,.int .i64 0,.string ⟨#[]⟩,.int .i64 0,.int .i64 0,.int .i64 0,.int .i64 0,.int .i64 0,.slice none 0 0,.slice none 0 0,.string ⟨#[]⟩,.int .i64 0,.string ⟨#[]⟩,.int .i64 0,.int .i64 0,.string ⟨#[]⟩,.int .i64 0,.int .i64 0,.int .i64 0,.int .i64 0,.int .i64 0,.slice none 0 0,.slice none 0 0,.string ⟨#[]⟩,.int .i64 0,.string ⟨#[]⟩] x rfl
    go_upto_region 5 with(fail)
    obtain⟨ws,hws⟩:∃ws:World,ws=wr.alloc (.cells (prE x).toArray 63):=⟨_,rfl⟩
    have HEs:Hid (Ex wr.heap.size none wr ws):=Lib.hid (by rw [hws];exact Ex.new wr _)
    have hzs:ws.heap.size=wr.heap.size+1:=by rw [hws];simp
    have r1: (rowLoad 63 ⟨wr.heap.size,0,none⟩).run Tryz.prog ws=.ok (prV x) ws:=prV_box (by rw [hws];exact heap_alloc_new wr _)
    clear r0 hn1
    refine wp_world (fun W=>W=ws) (by rw [hws]) (fun W hW=>?_)
    rw [hW]
    clear hW W hws
    obtain⟨z,hz⟩:∃z,z=x.2.1.1.author:=⟨_,rfl⟩
    have HZ:Hid (x.2.1.1.author=z):=Lib.hid hz.symm
    clear hz
    go_wp2_with (first
     | (go_at_call 21
        refine(against_any x ws).mono ?_
        rintro e w2 ⟨rfl,hex2⟩
        rw [HZ.out]
        have HE2:Hid (Ex wr.heap.size none wr w2):=Lib.hid (HEs.out.trans hex2 (by omega) (by simp))
        clear hex2 r1)
     | (at_builtin
        refine wpList_appI (w0:=w2) rfl (.tmp 13) (.tmp 16) 22 (by rfl) Tryz.underlying22 HLI.out w1.heap.size ro rc xs w2.heap.size z (by rw [HXL.out];rfl) (by rfl) (HO.out.keep HE2.out (Nat.le_refl _) (by simp)) (Ex.new w2 _) (by rw [cell_of_row _ _ _ _ _ _ (heap_alloc_new w2 _)];rfl) (by rw [HXL.out];omega) (by have:=HE2.out.size;omega) ?_
        intro ro2 rc2 w3 hown3 hex3
        rw [HXL.out]
        have HO3:=Lib.hid hown3
        have HE3:Hid (Ex w1.heap.size none w1 w3):=Lib.hid ((HEX.out.trans HE2.out hsz (by simp)).trans hex3 (Nat.le_refl _) (by simp))
        clear hown3 hex3)
     | fail)
    go_roundw
    case rel=>exact⟨k+1,ro2,rc2,xs ++ [z],by omega,by go_num,by go_num,Lib.hid (by rw [List.take_add_one,HXk.out,Option.toList_some,List.map_append,←HA.out];exact congrArg (fun y=>xs ++ [y]) HZ.out.symm),Lib.hid (by rw [List.length_append,HXL.out];rfl),HO3.out,HE3.out⟩
    case measure=>simp [intOf] <;> omega
  · obtain rfl:k=m:=by omega
    have HX2:Hid (xs=ps.map fun p=>p.2.1.author):=Lib.hid (by rw [HA.out,HM.out,List.take_length])
    go_wp2_with (first
     | (go_at_call 35
        refine(compactOwnI_any ro rc k w1.heap.size xs wr HO.out HXL.out (by rw [HXL.out];omega) hsz).mono ?_
        rintro e w2 ⟨rfl,hex2,hat⟩
        have H2:Hid (IntsAt w2 ro (Lib.compact xs)∧Ex w1.heap.size none wr w2):=Lib.hid ⟨hat,hex2⟩
        clear hex2 hat)
     | fail)
    go_ret
    exact⟨⟨ro,rc,ps,H1.out.1,by rw [←HX2.out];rfl,by rw [←HX2.out];exact H2.out.1⟩,H1.out.2.2.trans (HEX.out.trans H2.out.2 (Nat.le_refl _) (by simp)) hz1 (by simp)⟩
end
section
def Fact.stA (base:Nat) (s:St):Fact:=⟨fun v w=>∃y,v=stV y∧y.1=s∧Lies (fun k=>base≤k) w y,fun⟨y,h1,h2,h3⟩ hx=>⟨y,h1,h2,h3.keep fun b _ hb=>hx.block b hb (by simp)⟩⟩
theorem lies_bare {P Q:Nat→Prop} {w w' :World} {y:St×Sv×Sv} (h:Lies P w y) (h1:y.1.list=[]) (h2:y.1.pins=[]):Lies Q w' y:=by
 obtain⟨k1,k2⟩:=h
 rw [h1] at k1
 rw [h2] at k2
 obtain⟨a1,c1,e1,_⟩:=k1
 obtain⟨a2,c2,e2,_⟩:=k2
 refine⟨?_,?_⟩
 · rw [h1];exact⟨a1,c1,e1,fun i hi=>absurd hi (by simp)⟩
 · rw [h2];exact⟨a2,c2,e2,fun i hi=>absurd hi (by simp)⟩
theorem awS_bare (ti:Nat):LightS (awS ti):=⟨Nat.zero_le _,Nat.zero_le _⟩
theorem awS_light:∀s∈[awS 0,awS 1],LightS s:=fun s hs=>by
 simp only [List.mem_cons,List.not_mem_nil,or_false] at hs
 rcases hs with rfl | rfl <;> exact awS_bare _
theorem awS_light3:∀s∈[awS 1,awS 0,awS 1],LightS s:=fun s hs=>by
 simp only [List.mem_cons,List.not_mem_nil,or_false] at hs
 rcases hs with rfl | rfl | rfl <;> exact awS_bare _
attribute [local go_sem ↓] rowLoad_stv rowStore_stv rowBuild_stv rowLoad_prf
set_option maxHeartbeats 16000000 in
set_option maxRecDepth 100000 in
theorem awake36_any (w:World):Calls Tryz.prog 5 #[] w fun e w'=>e=.returned (.bool true)∧Ex w.heap.size none w w':=by
 go_enter Tryz.func5,Tryz.ntmps5
 go_upto_region 2 with(first
  | (go_at_call 14
     fail_if_success (have _x:=HE1)
     refine(millV_any (P:=fun _=>True) 2 4 0 (drD 11 0 0 0 [],⟨none,0,0⟩,⟨none,0,0⟩) w ⟨Sl.nil _ _,Sl.nil _ _⟩ ⟨Nat.zero_le _,Nat.zero_le _⟩ (Nat.zero_le _) (by decide)).mono ?_
     rintro e w1 ⟨⟨y,rfl,hy,hl⟩,hex⟩
     have HY1:Hid (y.1=awS 0∧Lies (fun k=>w.heap.size≤k) w1 y):=Lib.hid ⟨hy,hl⟩
     have HE1:Hid (Ex w.heap.size none w w1):=Lib.hid (hex)
     clear hy hl hex)
  | (go_at_call 14
     refine(millV_any (P:=fun _=>True) 2 4 1 (drD 11 0 0 0 [],⟨none,0,0⟩,⟨none,0,0⟩) w1 ⟨Sl.nil _ _,Sl.nil _ _⟩ ⟨Nat.zero_le _,Nat.zero_le _⟩ (Nat.zero_le _) (by decide)).mono ?_
     rintro e w2 ⟨⟨z,rfl,hy,hl⟩,hex⟩
     have HY2:Hid (z.1=awS 1∧Lies (fun k=>w1.heap.size≤k) w2 z):=Lib.hid ⟨hy,hl⟩
     have HE2:Hid (Ex w.heap.size none w w2):=Lib.hid (HE1.out.thenW hex)
     clear hy hl hex
     have hst1: (rowStore 51 ⟨w2.heap.size,0,none⟩ (stV y)).run Tryz.prog ((w2.alloc (.cells #[.int .i64 0,.int .i64 0,.string ⟨#[]⟩,.int .i64 0,.int .i64 0,.int .i64 0,.int .i64 0,.int .i64 0,.slice none 0 0,.slice none 0 0,.string ⟨#[]⟩,.int .i64 0,.string ⟨#[]⟩] 51)).alloc (.cells #[.int .i64 0,.int .i64 0,.string ⟨#[]⟩,.int .i64 0,.int .i64 0,.int .i64 0,.int .i64 0,.int .i64 0,.slice none 0 0,.slice none 0 0,.string ⟨#[]⟩,.int .i64 0,.string ⟨#[]⟩] 51))=.ok () (((w2.alloc (.cells #[.int .i64 0,.int .i64 0,.string ⟨#[]⟩,.int .i64 0,.int .i64 0,.int .i64 0,.int .i64 0,.int .i64 0,.slice none 0 0,.slice none 0 0,.string ⟨#[]⟩,.int .i64 0,.string ⟨#[]⟩] 51)).alloc (.cells #[.int .i64 0,.int .i64 0,.string ⟨#[]⟩,.int .i64 0,.int .i64 0,.int .i64 0,.int .i64 0,.int .i64 0,.slice none 0 0,.slice none 0 0,.string ⟨#[]⟩,.int .i64 0,.string ⟨#[]⟩] 51)).setRow w2.heap.size (stE y).toArray):=run_rowStore (P:=Tryz.prog) _ w2.heap.size 51 51 _ (stV y).cells (heap_alloc2_old _ _ _) Tryz.sizeStv rfl (stV_one _)
     have hst2: (rowStore 51 ⟨w2.heap.size+1,0,none⟩ (stV z)).run Tryz.prog (((w2.alloc (.cells #[.int .i64 0,.int .i64 0,.string ⟨#[]⟩,.int .i64 0,.int .i64 0,.int .i64 0,.int .i64 0,.int .i64 0,.slice none 0 0,.slice none 0 0,.string ⟨#[]⟩,.int .i64 0,.string ⟨#[]⟩] 51)).alloc (.cells #[.int .i64 0,.int .i64 0,.string ⟨#[]⟩,.int .i64 0,.int .i64 0,.int .i64 0,.int .i64 0,.int .i64 0,.slice none 0 0,.slice none 0 0,.string ⟨#[]⟩,.int .i64 0,.string ⟨#[]⟩] 51)).setRow w2.heap.size (stE y).toArray)=.ok () ((((w2.alloc (.cells #[.int .i64 0,.int .i64 0,.string ⟨#[]⟩,.int .i64 0,.int .i64 0,.int .i64 0,.int .i64 0,.int .i64 0,.slice none 0 0,.slice none 0 0,.string ⟨#[]⟩,.int .i64 0,.string ⟨#[]⟩] 51)).alloc (.cells #[.int .i64 0,.int .i64 0,.string ⟨#[]⟩,.int .i64 0,.int .i64 0,.int .i64 0,.int .i64 0,.int .i64 0,.slice none 0 0,.slice none 0 0,.string ⟨#[]⟩,.int .i64 0,.string ⟨#[]⟩] 51)).setRow w2.heap.size (stE y).toArray).setRow (w2.heap.size+1) (stE z).toArray):=run_rowStore (P:=Tryz.prog) _ (w2.heap.size+1) 51 51 _ (stV z).cells ((setRow_other _ _ _ _ (by omega)).trans (heap_alloc2_new _ _ _)) Tryz.sizeStv rfl (stV_one _)
     obtain⟨w3,hw3⟩:∃w3:World,w3= (((w2.alloc (.cells #[.int .i64 0,.int .i64 0,.string ⟨#[]⟩,.int .i64 0,.int .i64 0,.int .i64 0,.int .i64 0,.int .i64 0,.slice none 0 0,.slice none 0 0,.string ⟨#[]⟩,.int .i64 0,.string ⟨#[]⟩] 51)).alloc (.cells #[.int .i64 0,.int .i64 0,.string ⟨#[]⟩,.int .i64 0,.int .i64 0,.int .i64 0,.int .i64 0,.int .i64 0,.slice none 0 0,.slice none 0 0,.string ⟨#[]⟩,.int .i64 0,.string ⟨#[]⟩] 51)).setRow w2.heap.size (stE y).toArray).setRow (w2.heap.size+1) (stE z).toArray:=⟨_,rfl⟩
     have k1:w3.heap[w2.heap.size]? =some (.cells (stE y).toArray 51 (0,0)):=by rw [hw3];exact(setRow_other _ _ _ _ (by omega)).trans (setRow_heap _ _ _ _ _ _ (heap_alloc2_old _ _ _))
     have k2:w3.heap[w2.heap.size+1]? =some (.cells (stE z).toArray 51 (0,0)):=by rw [hw3];exact setRow_heap _ _ _ _ _ _ ((setRow_other _ _ _ _ (by omega)).trans (heap_alloc2_new _ _ _))
     have HX3:Hid (Ex w.heap.size none w w3):=Lib.hid (by rw [hw3];exact(((HE2.out.alloc HE2.out.size _).alloc (by have:=HE2.out.size;simp;omega) _).setRow _ _ (.inr HE2.out.size)).setRow _ _ (.inr (by have:=HE2.out.size;omega)))
     have HB:Hid (∀w',Ex w3.heap.size none w3 w'→w'.heap[w2.heap.size]? =some (.cells (stE y).toArray 51 (0,0))∧w'.heap[w2.heap.size+1]? =some (.cells (stE z).toArray 51 (0,0))∧Lies (fun _=>True) w' y∧Lies (fun _=>True) w' z):=Lib.hid (fun w' h=>⟨h.at2 (Nat.le_refl _) k1,h.at2 (Nat.le_refl _) k2,lies_bare HY1.out.2 (by rw [HY1.out.1];rfl) (by rw [HY1.out.1];rfl),lies_bare HY2.out.2 (by rw [HY2.out.1];rfl) (by rw [HY2.out.1];rfl)⟩)
     rw [←hw3] at hst2
     clear hw3 k1 k2)
  | fail)
 clear hst1 hst2
 have rb1:=stV_box (HB.out w3 (Ex.refl _ _ _)).1
 have rb2:=stV_box (HB.out w3 (Ex.refl _ _ _)).2.1
 have hlit:=stV_litN2 w3 y z
 obtain⟨w4,hw4⟩:∃w4:World,w4=w3.alloc (.cells (flatL stE [y,z]).toArray 51):=⟨_,rfl⟩
 rw [←hw4] at hlit
 have HE4:Hid (Ex w3.heap.size none w3 w4):=Lib.hid (by rw [hw4];exact Ex.new _ _)
 have HS4:Hid (Sl stRep (fun _=>True) w4 (.slice (some ⟨w3.heap.size,0,none⟩) 2 2) [awS 0,awS 1]):=Lib.hid (by
  have h:=lit_slN (P:=fun _=>True) (w:=w4) (g:=w3.heap.size) (xs:=[y,z]) trivial (by rw [hw4];exact heap_alloc_new w3 _) (fun x hx=>by
   have hk:=HB.out w4 HE4.out
   rcases List.mem_cons.1 hx with rfl | hx
   · exact hk.2.2.1
   · obtain rfl:=List.mem_singleton.1 hx
     exact hk.2.2.2)
  simp only [List.map_cons,List.map_nil,HY1.out.1,HY2.out.1] at h
  exact⟨_,_,rfl,h⟩)
 clear hw4
 go_upto_region 3 with(first
  | (go_at_call 16
     refine(guiltyV_any (P:=fun _=>True) _ [awS 0,awS 1] w4 HS4.out (by decide) awS_light).mono ?_
     rintro e w5 ⟨⟨ro,rc,ps,hfr,rfl,hio⟩,hex⟩
     obtain⟨_,_,_,_,hcp⟩:=aw_find (by simp) (by simp) (by simp) hfr
     rw [hcp] at hio ⊢
     have HI5:Hid (IntsAt w5 ro [2]):=Lib.hid hio
     have HE5:Hid (Ex w3.heap.size none w3 w5):=Lib.hid (HE4.out.thenW hex)
     clear hfr hio hex hcp)
  | fail)
 clear rb1 rb2 hlit
 have rb1:=stV_box (HB.out w5 HE5.out).1
 have rb2:=stV_box (HB.out w5 HE5.out).2.1
 have hlit:=stV_litN3 w5 z y z
 obtain⟨w6,hw6⟩:∃w6:World,w6=w5.alloc (.cells (flatL stE [z,y,z]).toArray 51):=⟨_,rfl⟩
 rw [←hw6] at hlit
 have HE56:Hid (Ex w5.heap.size none w5 w6):=Lib.hid (by rw [hw6];exact Ex.new _ _)
 have HE6:Hid (Ex w3.heap.size none w3 w6):=Lib.hid (HE5.out.thenW HE56.out)
 have HS6:Hid (Sl stRep (fun _=>True) w6 (.slice (some ⟨w5.heap.size,0,none⟩) 3 3) [awS 1,awS 0,awS 1]):=Lib.hid (by
  have h:=lit_slN (P:=fun _=>True) (w:=w6) (g:=w5.heap.size) (xs:=[z,y,z]) trivial (by rw [hw6];exact heap_alloc_new w5 _) (fun x hx=>by
   have hk:=HB.out w6 HE6.out
   simp only [List.mem_cons,List.not_mem_nil,or_false] at hx
   rcases hx with rfl | rfl | rfl
   · exact hk.2.2.2
   · exact hk.2.2.1
   · exact hk.2.2.2)
  simp only [List.map_cons,List.map_nil,HY1.out.1,HY2.out.1] at h
  exact⟨_,_,rfl,h⟩)
 clear hw6
 go_upto_region 4 with(first
  | (go_at_call 18
     refine(findV_any (P:=fun _=>True) _ [awS 1,awS 0,awS 1] w6 HS6.out (by decide) awS_light3).mono ?_
     rintro e w7 ⟨⟨po,pc,ps,rfl,hfr,hsl⟩,hex⟩
     obtain⟨px,py,rfl,hpa,_⟩:=aw_find (by simp) (by simp) (by simp) hfr
     have HFR:Hid (PairOK (1,px,py)∧LightS px∧LightS py):=Lib.hid (by
      obtain⟨h1,h2,h3⟩:=hfr.ok _ (List.mem_singleton.2 rfl)
      exact⟨h1,awS_light3 _ h2,awS_light3 _ h3⟩)
     have HPA:Hid (px.author=2):=Lib.hid hpa
     have HS7:Hid (SlAt prRep (fun _=>True) w7 po [(1,px,py)]):=Lib.hid hsl
     have HE67:Hid (Ex w6.heap.size none w6 w7):=Lib.hid hex
     have HE7:Hid (Ex w3.heap.size none w3 w7):=Lib.hid (HE6.out.thenW hex)
     clear hfr hsl hex hpa)
  | fail)
 clear rb1 rb2 hlit
 have hz57:w5.heap.size≤w7.heap.size:=by have:=HE56.out.size;have:=HE67.out.size;omega
 have HI7:Hid (Ints w7 (.slice ro 1 rc) [2]):=Lib.hid ((show Ints w5 (.slice ro 1 rc) [2] from⟨_,_,rfl,HI5.out⟩).keep (HE56.out.thenW HE67.out) (Nat.le_refl _))
 obtain⟨pb,off,x,rfl,_,hpb,hxd,hxl,hxr⟩:=prv_get HS7.out 0 (Nat.zero_lt_one)
 have HXD:Hid (x.d= (1,px,py)):=Lib.hid (by have h:=hxd.out;simp only [List.getElem?_cons_zero,Option.some.injEq] at h;exact h.symm)
 have HXL:=Lib.hid hxl
 have HXR:Hid (∀w8,Ex w7.heap.size none w7 w8→(rowLoad 63 ⟨pb,off,none⟩).run Tryz.prog w8=.ok (prV x) w8∧LiesP (fun _=>True) w8 x):=Lib.hid (fun w8 h=>⟨by have k:=hxr.out w8 (h.block _ hpb (by simp));simpa only [Nat.zero_mul,Nat.add_zero] using k,HXL.out.keep fun b _ hb=>h.block b hb (by simp)⟩)
 clear hxd hxl hxr
 go_wp2_with (first
  | (go_at_call 19
     refine(sameInts_any (.slice ro 1 rc) (.slice (some ⟨w7.heap.size,0,none⟩) 1 1) [2] [2] _ (HI7.out.keep (Ex.new w7 _) (Nat.le_refl _)) ⟨_,1,rfl,IntsAt.lit w7 [2]⟩ (by decide)).mono ?_
     rintro e w8 ⟨rfl,hex⟩
     rw [decide_eq_true rfl]
     have HE8:Hid (Ex w7.heap.size none w7 w8):=Lib.hid ((Ex.new w7 _).thenW hex)
     obtain⟨rp,hlp⟩:=HXR.out w8 HE8.out
     clear hex)
  | (go_at_call 20
     have hxk:x.1= ((1:Nat):Int)∧x.2.1.1=px∧x.2.2.1=py:=by
      have h:=HXD.out
      unfold PrX.d at h
      simp only [Prod.mk.injEq] at h
      exact⟨h.1,h.2.1,h.2.2⟩
     refine(checkX_any (P:=fun _=>True) x 1 w8 hlp (by rw [hxk.2.1];exact HFR.out.2.1) (by rw [hxk.2.2];exact HFR.out.2.2) (by rw [hxk.2.1];exact HFR.out.1.1) (by rw [hxk.2.2];exact HFR.out.1.2.1) (by rw [hxk.2.1,hxk.2.2];exact HFR.out.1.2.2.2.2.1) hxk.1 (.inl rfl)).mono ?_
     rw [HXD.out,HFR.out.1.chk]
     rintro e w9 ⟨rfl,hex⟩
     have HE9:Hid (Ex w7.heap.size none w7 w9):=Lib.hid (HE8.out.thenW hex)
     clear rp hlp
     obtain⟨rp,hlp⟩:=HXR.out w9 HE9.out
     clear hex hxk)
  | (go_at_call 21
     refine(against_any x w9).mono ?_
     rw [show x.2.1.1.author=2 by have h:=HXD.out;unfold PrX.d at h;simp only [Prod.mk.injEq] at h;rw [h.2.1];exact HPA.out]
     rintro e w10 ⟨rfl,hex⟩
     have HE10:Hid (Ex w7.heap.size none w7 w10):=Lib.hid (HE9.out.thenW hex)
     clear hex rp hlp)
  | fail)
 go_ret
 exact⟨rfl,HX3.out.thenW (HE7.out.thenW HE10.out)⟩
end
section
theorem rowStore_co (a:Addr) (v:Value):storeVar 46 a v=rowStore 46 a v:=rfl
theorem rowLoad_co (a:Addr):loadVar 46 a=rowLoad 46 a:=rfl
theorem Tryz.sizeCo: (Tryz.prog.info? 46).map (·.size)=some 2:=by kernel_rfl
theorem one_coE (x:St×Sv×Sv): (coE x).toArray.all (·.oneCell')=true:=by simp [coE,Value.oneCell',Sv.v]
theorem coV_box {w:World} {g:Nat} {x:St×Sv×Sv} {t:TypeId} {fr:Nat×Nat} (h:w.heap[g]? =some (.cells (coE x).toArray t fr)): (rowLoad 46 ⟨g,0,none⟩).run Tryz.prog w=.ok (coV x) w :=
 run_rowLoad (P:=Tryz.prog) w g t 46 (coE x).toArray fr _ h Tryz.underlying46 rfl Tryz.sizeCo
theorem coV_set {w:World} {g:Nat} {old:Array Value} (x:St×Sv×Sv) (h:w.heap[g]? =some (.cells old 46 (0,0))) (ho:old.size=2): (rowStore 46 ⟨g,0,none⟩ (coV x)).run Tryz.prog w=.ok () (w.setRow g (coE x).toArray) :=
 run_rowStore (P:=Tryz.prog) w g 46 46 old (coE x).toArray h Tryz.sizeCo (by rw [ho];rfl) (one_coE x)
theorem coV_new (w:World) (old:Array Value) (x:St×Sv×Sv) (ho:old.size=2): (rowStore 46 ⟨w.heap.size,0,none⟩ (coV x)).run Tryz.prog (w.alloc (.cells old 46))=.ok () (w.alloc (.cells (coE x).toArray 46)):=by
 have h:=coV_set (w:=w.alloc (.cells old 46)) (g:=w.heap.size) (old:=old) x (heap_alloc_new w _) ho
 rw [alloc_setRow] at h
 exact h
def coS (l:List Int) (p:List PinD):St:=⟨0,0,⟨#[]⟩,0,0,0,0,0,l,p,⟨#[]⟩,0,⟨#[]⟩⟩
theorem ints_lies {w:World} {b:Nat} {l:List Int} (h:w.heap[b]? =some (.cells (l.map (Value.int .i64)).toArray 3 (0,0))):Sl intRep (fun c=>b≤c) w (.slice (some ⟨b,0,none⟩) l.length l.length) l:=by
 refine⟨_,_,rfl,fun i hi=>⟨b,0,[.int .i64 l[i]],rfl,Nat.le_refl _,?_,rfl⟩⟩
 intro j v hv
 match j,hv with
 | 0,hv=>
   have hv' :Value.int .i64 l[i]=v:=by simpa using hv
   show w.cell? ⟨b,0+i * 1+0,none⟩=some v
   rw [cell_of_row _ _ _ _ _ _ h,←hv']
   simp [hi]
 | j+1,hv=>simp at hv
theorem pin_lies {w:World} {b:Nat} {p:PinD} (h:w.heap[b]? =some (.cells (pinE p).toArray 77 (0,0))):Sl pinRep (fun c=>b≤c) w (.slice (some ⟨b,0,none⟩) 1 1) [p]:=by
 refine⟨_,_,rfl,fun i hi=>?_⟩
 obtain rfl:i=0:=by simpa using hi
 refine⟨b,0,pinE p,rfl,Nat.le_refl _,?_,rfl⟩
 intro j v hv
 show w.cell? ⟨b,0+0 * 3+j,none⟩=some v
 rw [cell_of_row _ _ _ _ _ _ h,←hv]
 simp
def ContE (k:Int) (b:Nat) (e:Ending) (w' :World):Prop:=∃y:St×Sv×Sv,e=.returned (coV y)∧ContOK k y.1.list∧y.1.pins.length≤1∧(∀p∈y.1.pins,p.2.2.size≤1000)∧Lies (fun c=>b≤c) w' y
attribute [local go_sem ↓] rowLoad_ca rowStore_ca rowLoad_co rowStore_co
set_option maxHeartbeats 16000000 in
set_option maxRecDepth 100000 in
theorem contentM_w (N p:Nat) (c:CaD) (w:World) (hd:DiceOK N w p) (hN:N≤w.heap.size) :
 Calls Tryz.prog 12 #[.pointer (some ⟨p,0,none⟩),caV c] w fun e w'=>ContE c.2.1 w.heap.size e w'∧DiceOK N w' p∧Ex w.heap.size (some p) w w':=by
 have hpN:=hd.lt
 obtain⟨w1,hw1⟩:∃w1:World,w1= (w.alloc (.cells (caE c).toArray 38)).alloc (.cells #[.slice none 0 0,.slice none 0 0] 46):=⟨_,rfl⟩
 have HE1:Hid (Ex w.heap.size none w w1):=Lib.hid (by rw [hw1];exact(Ex.new w _).alloc (by simp) _)
 have HD1:Hid (DiceOK N w1 p):=Lib.hid (hd.keep HE1.out hN)
 have hz1:w1.heap.size=w.heap.size+1+1:=by rw [hw1];simp
 have HR1:Hid (∀w',Ex w1.heap.size (some p) w1 w'→w'.heap[w.heap.size+1]? =some (.cells #[.slice none 0 0,.slice none 0 0] 46 (0,0))):=Lib.hid (fun w' h=>(h.block _ (by omega) (by simp;omega)).trans (by rw [hw1];exact heap_alloc2_new _ _ _))
 have c1:w1.cell? ⟨w.heap.size,1,none⟩=some (.int .i64 c.2.1):=by
  rw [cell_of_row _ _ _ _ _ _ (show w1.heap[w.heap.size]? =some (.cells (caE c).toArray 38 (0,0)) by rw [hw1];exact heap_alloc2_old _ _ _)];rfl
 clear hd
 have n0:=caV_new w #[.int .i64 0,.int .i64 0,.int .i64 0,.int .i64 0] c rfl
 go_enter Tryz.func12,Tryz.ntmps12
 go_upto_region 1 with(fail)
 refine wp_world (fun W=>W=w1) (by rw [hw1];rfl) (fun W hW=>?_)
 rw [hW]
 clear hW W hw1 n0
 by_cases hk:c.2.1=1
 · have kk: (c.2.1 != 1)=false:=by simpa using hk
   have HK:=Lib.hid hk
   clear hk
   go_upto_region 4 with(first
    | (go_at_call 9
       refine(next_w N p 127 w1 HD1.out (by omega) (by omega)).mono ?_
       rintro e w2 ⟨k,rfl,hk,hd2,hex2⟩
       have H2:Hid (DiceOK N w2 p∧Ex w1.heap.size (some p) w1 w2):=Lib.hid ⟨hd2,hex2⟩
       have hz2:w1.heap.size≤w2.heap.size:=hex2.size
       have hwp:IntKind.i64.wrap (1+ (k:Int))=1+ (k:Int):=by rw [IntKind.wrap_i64];omega
       clear hd2 hex2 c1)
    | (go_at_call 27
       refine(of_w N p (.slice (some ⟨w2.heap.size,0,none⟩) 3 3) [0,0,1] _ (H2.out.1.keep (Ex.new w2 _) (by omega)) (IntsO.lit [0,0,1] rfl rfl (by omega)) (by decide) (by decide)).mono ?_
       rintro e w3 ⟨y,rfl,hy,hd3,hex3⟩
       have H3:Hid (DiceOK N w3 p∧Ex w1.heap.size (some p) w1 w3):=Lib.hid ⟨hd3,(H2.out.2.alloc hz2 _).trans hex3 (by simp;omega) (fun q h _=>h)⟩
       have hz3:w1.heap.size≤w3.heap.size:=H3.out.2.size
       have hy2:y=0∨y=1:=by simpa using hy
       have hn3: (rowStore 46 ⟨w3.heap.size+1,0,none⟩ (.agg #[.slice (some ⟨w3.heap.size,0,none⟩) 2 2,.slice none 0 0])).run Tryz.prog ((w3.alloc (.cells #[.int .i64 (1+ (k:Int)),.int .i64 y] 3)).alloc (.cells #[.slice none 0 0,.slice none 0 0] 46))=.ok () ((w3.alloc (.cells #[.int .i64 (1+ (k:Int)),.int .i64 y] 3)).alloc (.cells (coE (coS [1+ (k:Int),y] [],⟨some ⟨w3.heap.size,0,none⟩,2,2⟩,⟨none,0,0⟩)).toArray 46)):=by
        have h:=coV_new (w3.alloc (.cells #[.int .i64 (1+ (k:Int)),.int .i64 y] 3)) #[.slice none 0 0,.slice none 0 0] (coS [1+ (k:Int),y] [],⟨some ⟨w3.heap.size,0,none⟩,2,2⟩,⟨none,0,0⟩) rfl
        simp only [World.size_alloc] at h
        exact h
       clear hd3 hex3 hy)
    | fail)
   obtain⟨w4,hw4⟩:∃w4:World,w4= (w3.alloc (.cells #[.int .i64 (1+ (k:Int)),.int .i64 y] 3)).alloc (.cells (coE (coS [1+ (k:Int),y] [],⟨some ⟨w3.heap.size,0,none⟩,2,2⟩,⟨none,0,0⟩)).toArray 46):=⟨_,rfl⟩
   have HE4:Hid (Ex w1.heap.size (some p) w1 w4):=Lib.hid (by rw [hw4];exact(H3.out.2.alloc hz3 _).alloc (by simp;omega) _)
   have HD4:Hid (DiceOK N w4 p):=Lib.hid (by rw [hw4];exact H3.out.1.keep ((Ex.new w3 _).alloc (by simp) _) (by omega))
   have HA4:Hid (w4.heap[w3.heap.size]? =some (.cells #[.int .i64 (1+ (k:Int)),.int .i64 y] 3 (0,0))∧w4.heap[w3.heap.size+1]? =some (.cells (coE (coS [1+ (k:Int),y] [],⟨some ⟨w3.heap.size,0,none⟩,2,2⟩,⟨none,0,0⟩)).toArray 46 (0,0))):=Lib.hid (by rw [hw4];exact⟨heap_alloc2_old _ _ _,heap_alloc2_new _ _ _⟩)
   have hz4:w4.heap.size=w3.heap.size+1+1:=by rw [hw4];simp
   refine wp_world (fun W=>W=w4) (by rw [hw4]) (fun W hW=>?_)
   rw [hW]
   clear hW W hw4 hn3
   have HOK:Hid (ContOK c.2.1 [1+ (k:Int),y]):=Lib.hid (.inl ⟨HK.out,_,_,rfl,by omega,by omega,by omega,by omega⟩)
   go_upto_if 22 with(first
    | (go_at_call 10
       refine(one_w N p 4 w4 HD4.out (by omega) (by omega)).mono ?_
       rintro e w5 ⟨b,rfl,hd,hex⟩
       have H5:Hid (DiceOK N w5 p∧Ex w4.heap.size (some p) w4 w5):=Lib.hid ⟨hd,hex⟩
       have hz5:w4.heap.size≤w5.heap.size:=hex.size
       clear hd hex)
    | fail)
   have HE5:Hid (Ex w1.heap.size (some p) w1 w5):=Lib.hid (HE4.out.trans H5.out.2 (by omega) (fun q h _=>h))
   have HA5:Hid (w5.heap[w3.heap.size]? =some (.cells #[.int .i64 (1+ (k:Int)),.int .i64 y] 3 (0,0))∧w5.heap[w3.heap.size+1]? =some (.cells (coE (coS [1+ (k:Int),y] [],⟨some ⟨w3.heap.size,0,none⟩,2,2⟩,⟨none,0,0⟩)).toArray 46 (0,0))):=Lib.hid ⟨(H5.out.2.block _ (by omega) (by simp;omega)).trans HA4.out.1,(H5.out.2.block _ (by omega) (by simp;omega)).trans HA4.out.2⟩
   cases b with
   | false=>
     have r5: (rowLoad 46 ⟨w3.heap.size+1,0,none⟩).run Tryz.prog w5=.ok (coV (coS [1+ (k:Int),y] [],⟨some ⟨w3.heap.size,0,none⟩,2,2⟩,⟨none,0,0⟩)) w5:=coV_box HA5.out.2
     have st5:=coV_set (coS [1+ (k:Int),y] [],⟨some ⟨w3.heap.size,0,none⟩,2,2⟩,⟨none,0,0⟩) (HR1.out w5 HE5.out) rfl
     go_wp2
     refine bodyPost_ret (v:=coV (coS [1+ (k:Int),y] [],⟨some ⟨w3.heap.size,0,none⟩,2,2⟩,⟨none,0,0⟩)) (results_cell_row rfl _ _ (w.heap.size+1) 46 (coE (coS [1+ (k:Int),y] [],⟨some ⟨w3.heap.size,0,none⟩,2,2⟩,⟨none,0,0⟩)).toArray (0,0) _ (by rfl) (setRow_heap _ _ _ _ _ _ (HR1.out w5 HE5.out)) Tryz.underlying46 rfl Tryz.sizeCo) rfl ?_
     exact⟨⟨_,rfl,HOK.out,Nat.zero_le _,(fun q hq=>by cases hq),⟨((ints_lies (l:=[1+ (k:Int),y]) HA5.out.1).keep (by decide) fun b hb _=>setRow_other _ _ _ _ (by omega)).mono (by decide) fun b hb _=>by omega,Sl.nil _ _⟩⟩,DiceOK.keep H5.out.1 ((Ex.refl N none w5).setRow _ _ (.inr (by omega))) (Nat.le_refl _),((HE1.out.weaken (some p)).trans HE5.out (by omega) (fun q h _=>h)).setRow _ _ (.inr (by omega))⟩
   | true=>
     go_upto_region 6 with(first
      | (go_at_call 9
         fail_if_success (have _x:=H6)
         refine(next_w N p 4 w5 H5.out.1 (by omega) (by omega)).mono ?_
         rintro e w6 ⟨a,rfl,ha,hd6,hex6⟩
         have H6:Hid (DiceOK N w6 p∧Ex w1.heap.size (some p) w1 w6):=Lib.hid ⟨hd6,HE5.out.trans hex6 (by omega) (fun q h _=>h)⟩
         have HX6:Hid (Ex w5.heap.size (some p) w5 w6):=Lib.hid hex6
         have hz6:w5.heap.size≤w6.heap.size:=hex6.size
         clear hd6 hex6)
      | (go_at_call 9
         refine(next_w N p 3 w6 H6.out.1 (by omega) (by omega)).mono ?_
         rintro e w7 ⟨h,rfl,hh,hd7,hex7⟩
         have H7:Hid (DiceOK N w7 p∧Ex w1.heap.size (some p) w1 w7):=Lib.hid ⟨hd7,H6.out.2.trans hex7 (by omega) (fun q h _=>h)⟩
         have HX7:Hid (Ex w5.heap.size (some p) w5 w7):=Lib.hid (HX6.out.trans hex7 (by omega) (fun q h _=>h))
         have hz7:w6.heap.size≤w7.heap.size:=hex7.size
         have hwp2:IntKind.i64.wrap (1+ (h:Int))=1+ (h:Int):=by rw [IntKind.wrap_i64];omega
         clear hd7 hex7)
      | (go_at_call 32
         refine(digestD_w N p w7 H7.out.1 (by omega)).mono ?_
         rintro e w8 ⟨ds,rfl,hds,hd8,hex8⟩
         have H8:Hid (DiceOK N w8 p∧Ex w1.heap.size (some p) w1 w8):=Lib.hid ⟨hd8,H7.out.2.trans hex8 (by omega) (fun q h _=>h)⟩
         have HX8:Hid (Ex w5.heap.size (some p) w5 w8):=Lib.hid (HX7.out.trans hex8 (by omega) (fun q h _=>h))
         have hz8:w7.heap.size≤w8.heap.size:=hex8.size
         have hb8: (w8.alloc (.cells #[.int .i64 (a:Int),.int .i64 (1+ (h:Int)),.string ds] 77)).heap[w3.heap.size+1]? =some (.cells #[.slice (some ⟨w3.heap.size,0,none⟩) 2 2,.slice none 0 0] 46 (0,0)):=(at_oldX _ _ _ (by omega)).trans ((HX8.out.block _ (by omega) (by simp;omega)).trans HA5.out.2)
         have q1: (w8.alloc (.cells #[.int .i64 (a:Int),.int .i64 (1+ (h:Int)),.string ds] 77)).cell? ⟨w3.heap.size+1,1,none⟩=some (.slice none 0 0):=by rw [cell_of_row _ _ _ _ _ _ hb8];rfl
         have f1: (w8.alloc (.cells #[.int .i64 (a:Int),.int .i64 (1+ (h:Int)),.string ds] 77)).frozen? ⟨w3.heap.size+1,1,none⟩=false:=row_frozen_g hb8
         have HB8:=Lib.hid hb8
         clear hd8 hex8 hb8)
      | fail)
     obtain⟨w9,hw9⟩:∃w9:World,w9= (w8.alloc (.cells #[.int .i64 (a:Int),.int .i64 (1+ (h:Int)),.string ds] 77)).setCell ⟨w3.heap.size+1,1,none⟩ (.slice (some ⟨w8.heap.size,0,none⟩) 1 1):=⟨_,rfl⟩
     have HB9:Hid (w9.heap[w3.heap.size+1]? =some (.cells (coE (coS [1+ (k:Int),y] [((a:Int),1+ (h:Int),ds)],⟨some ⟨w3.heap.size,0,none⟩,2,2⟩,⟨some ⟨w8.heap.size,0,none⟩,1,1⟩)).toArray 46 (0,0))∧w9.heap[w3.heap.size]? =some (.cells #[.int .i64 (1+ (k:Int)),.int .i64 y] 3 (0,0))∧w9.heap[w8.heap.size]? =some (.cells #[.int .i64 (a:Int),.int .i64 (1+ (h:Int)),.string ds] 77 (0,0))):=Lib.hid (by
      rw [hw9]
      refine⟨by rw [heap_setCell_same _ _ _ _ _ _ HB8.out];rfl,set_far (by omega) ((at_oldX _ _ _ (by omega)).trans ((HX8.out.block _ (by omega) (by simp;omega)).trans HA5.out.1)),set_far (by omega) (heap_alloc_new _ _)⟩)
     have HX9:Hid (Ex w1.heap.size none w8 w9):=Lib.hid (by rw [hw9];exact((Ex.refl _ _ w8).alloc (by omega) _).setCell _ _ _ (.inr (by omega)))
     have HE9:Hid (Ex w1.heap.size (some p) w1 w9):=Lib.hid (H8.out.2.trans HX9.out (Nat.le_refl _) (by simp))
     have HD9:Hid (DiceOK N w9 p):=Lib.hid (H8.out.1.keep HX9.out (by omega))
     have r9: (rowLoad 46 ⟨w3.heap.size+1,0,none⟩).run Tryz.prog w9=.ok (coV (coS [1+ (k:Int),y] [((a:Int),1+ (h:Int),ds)],⟨some ⟨w3.heap.size,0,none⟩,2,2⟩,⟨some ⟨w8.heap.size,0,none⟩,1,1⟩)) w9:=coV_box HB9.out.1
     have st9:=coV_set (coS [1+ (k:Int),y] [((a:Int),1+ (h:Int),ds)],⟨some ⟨w3.heap.size,0,none⟩,2,2⟩,⟨some ⟨w8.heap.size,0,none⟩,1,1⟩) (HR1.out w9 HE9.out) rfl
     have hp9:w1.heap.size≤w3.heap.size∧w1.heap.size≤w8.heap.size:=⟨hz3,by omega⟩
     refine wp_world (fun W=>W=w9) (by rw [hw9]) (fun W hW=>?_)
     rw [hW]
     clear hW W hw9 q1 f1
     go_wp2
     refine bodyPost_ret (v:=coV (coS [1+ (k:Int),y] [((a:Int),1+ (h:Int),ds)],⟨some ⟨w3.heap.size,0,none⟩,2,2⟩,⟨some ⟨w8.heap.size,0,none⟩,1,1⟩)) (results_cell_row rfl _ _ (w.heap.size+1) 46 (coE (coS [1+ (k:Int),y] [((a:Int),1+ (h:Int),ds)],⟨some ⟨w3.heap.size,0,none⟩,2,2⟩,⟨some ⟨w8.heap.size,0,none⟩,1,1⟩)).toArray (0,0) _ (by rfl) (setRow_heap _ _ _ _ _ _ (HR1.out w9 HE9.out)) Tryz.underlying46 rfl Tryz.sizeCo) rfl ?_
     exact⟨⟨_,rfl,HOK.out,Nat.le_refl 1,(fun q hq=>by
      rw [List.mem_singleton.1 hq]
      show ds.size≤1000
      omega),⟨((ints_lies (l:=[1+ (k:Int),y]) HB9.out.2.1).keep (by decide) fun b hb _=>setRow_other _ _ _ _ (by omega)).mono (by decide) fun b hb _=>by omega,((pin_lies (p:=((a:Int),1+ (h:Int),ds)) HB9.out.2.2).keep (by decide) fun b hb _=>setRow_other _ _ _ _ (by omega)).mono (by decide) fun b hb _=>by omega⟩⟩,DiceOK.keep HD9.out ((Ex.refl N none w9).setRow _ _ (.inr (by omega))) (Nat.le_refl _),((HE1.out.weaken (some p)).trans HE9.out (by omega) (fun q h _=>h)).setRow _ _ (.inr (by omega))⟩
 · have kk: (c.2.1 != 1)=true:=by simpa using hk
   have HK:=Lib.hid hk
   clear hk
   go_wp2_with (first
    | (go_at_call 9
       refine(next_w N p 2 w1 HD1.out (by omega) (by omega)).mono ?_
       rintro e w2 ⟨k,rfl,hk,hd2,hex2⟩
       have H2:Hid (DiceOK N w2 p∧Ex w1.heap.size (some p) w1 w2):=Lib.hid ⟨hd2,hex2⟩
       have hz2:w1.heap.size≤w2.heap.size:=hex2.size
       have HB2:Hid ((w2.alloc (.cells #[.int .i64 (k:Int)] 3)).heap[w2.heap.size]? =some (.cells #[.int .i64 (k:Int)] 3 (0,0))):=Lib.hid (heap_alloc_new _ _)
       have HE3:Hid (Ex w1.heap.size (some p) w1 (w2.alloc (.cells #[.int .i64 (k:Int)] 3))):=Lib.hid (H2.out.2.alloc hz2 _)
       have HD3:Hid (DiceOK N (w2.alloc (.cells #[.int .i64 (k:Int)] 3)) p):=Lib.hid (H2.out.1.keep (Ex.new w2 _) (by omega))
       have hst: (rowStore 46 ⟨w.heap.size+1,0,none⟩ (.agg #[.slice (some ⟨w2.heap.size,0,none⟩) 1 1,.slice none 0 0])).run Tryz.prog (w2.alloc (.cells #[.int .i64 (k:Int)] 3))=.ok () ((w2.alloc (.cells #[.int .i64 (k:Int)] 3)).setRow (w.heap.size+1) (coE (coS [(k:Int)] [],⟨some ⟨w2.heap.size,0,none⟩,1,1⟩,⟨none,0,0⟩)).toArray):=coV_set (coS [(k:Int)] [],⟨some ⟨w2.heap.size,0,none⟩,1,1⟩,⟨none,0,0⟩) (HR1.out _ HE3.out) rfl
       clear hd2 hex2 c1)
    | fail)
   refine bodyPost_ret (v:=coV (coS [(k:Int)] [],⟨some ⟨w2.heap.size,0,none⟩,1,1⟩,⟨none,0,0⟩)) (results_cell_row rfl _ _ (w.heap.size+1) 46 (coE (coS [(k:Int)] [],⟨some ⟨w2.heap.size,0,none⟩,1,1⟩,⟨none,0,0⟩)).toArray (0,0) _ (by rfl) (setRow_heap _ _ _ _ _ _ (HR1.out _ HE3.out)) Tryz.underlying46 rfl Tryz.sizeCo) rfl ?_
   exact⟨⟨_,rfl,.inr ⟨HK.out,_,rfl,by omega⟩,Nat.zero_le _,(fun q hq=>by cases hq),⟨((ints_lies (l:=[(k:Int)]) HB2.out).keep (by decide) fun b hb _=>setRow_other _ _ _ _ (by omega)).mono (by decide) fun b hb _=>by omega,Sl.nil _ _⟩⟩,DiceOK.keep HD3.out ((Ex.refl N none _).setRow _ _ (.inr (by omega))) (Nat.le_refl _),((HE1.out.weaken (some p)).trans HE3.out (by omega) (fun q h _=>h)).setRow _ _ (.inr (by omega))⟩
end
section
attribute [local go_sem ↓] rowLoad_ca rowStore_ca rowLoad_co rowStore_co rowLoad_dr rowStore_dr rowLoad_stv rowStore_stv
def StE (b:Nat) (e:Ending) (w' :World):Prop:=∃y:St×Sv×Sv,e=.returned (stV y)∧(y.1.list.length≤100∧y.1.pins.length≤100)∧Lies (fun c=>b≤c) w' y
end
def BoxR (g:Nat) (x:PrX) (w:World):Prop:=w.rangeAt g 0 [.int .i64 x.1]∧w.rangeAt g 1 (stE x.2.1)∧w.rangeAt g 14 (stE x.2.2)∧w.there g 0 27
def keyS (s:St) (k:Int):St:={ s with key:=k }
end Go.Proofs.YtflhidfclfkjlaaGreat

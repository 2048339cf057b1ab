/- proof.own's closures, SortFunc and CompactFunc at them: contracts. No statement of the seat. | proof.own: a contract. No statement of the seat. | What a sorted row becomes when equal neighbours are dropped: it rises. Plain, no program in sight. | slices.IndexFunc at statements, its test leaning on what lies in memory: a contract. No statement of the seat. | Links in memory, one by one; a row of cells stored as one step of a region. No statement of the seat. | Rows of cells loaded, and laid as the one element of a slice, as one step of a region. No statement of the seat. | Cases as data; ballot.Cases' order, SortFunc at cases: contracts. No statement of the seat. | mill.Statement at whatever draft: a contract. No statement of the seat. | The library's binary search at statements, in the order of a store: a contract, no statement of the seat. | slices.Insert at statements: contracts, after the guide's walk at elements of one cell. No statement of the seat. | slices.Insert of one statement into an owned row of statements: a contract, no statement of the seat. | shelf.Put: a contract, no statement of the seat. | Slices of one to four given statements. No statement of the seat. -/
import Derived.Test.YtflhidfclfkjlaaGreatMg11
import Derived.Test.YtflhidfclfkjlaaGreatMg01
import Derived.Laws.EntriesVeiled
import Derived.Test.YtflhidfclfkjlaaGreatMg06
import Derived.Test.YtflhidfclfkjlaaGreatCheckPG
import Derived.Test.YtflhidfclfkjlaaGreatMg05
import Derived.Great.BuildSlice
import Derived.Test.YtflhidfclfkjlaaGreatMg00
import Derived.Test.YtflhidfclfkjlaaGreatMg02
import Derived.Test.YtflhidfclfkjlaaGreatSeal03G
import Derived.Test.YtflhidfclfkjlaaGreatBlock01G
import Derived.Test.YtflhidfclfkjlaaGreatDiceWG
import Derived.Test.YtflhidfclfkjlaaGreatMg04
import Derived.Lib.AppendZeros
import Derived.Lib.AppendZerosOnto
import Derived.Lib.Overlaps
import Derived.Laws.Externs
import Derived.Laws.IdiomCopy
import Derived.Laws.NewBlocks
import Derived.Lib.Walk
import Derived.Lib.SliceRun
import Derived.Lib.JoinLaws
import Derived.Shelf.RegionOpenPlain
import Derived.Test.YtflhidfclfkjlaaGreatMg09
namespace Go.Proofs.YtflhidfclfkjlaaGreat
open Go.RowKit Go.Sort
section
def ordN (s t:St):Int:=lexC (fun a b:St=>cmpI a.number b.number) (fun a b:St=>strC a.dig b.dig) s t
theorem good_ordN:GoodC ordN:=GoodC.lex (GoodC.on (fun s:St=>s.number) good_cmpI) (GoodC.on (fun s:St=>s.dig) good_strC)
def cmpNQ (x y:St×Sv×Sv):Int:=ordN x.1 y.1
theorem good_cmpNQ:GoodC cmpNQ:=GoodC.on (fun x:St×Sv×Sv=>x.1) good_ordN
theorem ordN_find (s t:St): ([cmpI s.number t.number,strC s.dig t.dig].find? (· != 0)).getD 0=ordN s t:=by rw [find2];rfl
set_option maxHeartbeats 4000000 in
set_option maxRecDepth 100000 in
theorem own1_any (x y:St×Sv×Sv) (w:World):Calls Tryz.prog 56 #[.agg (stE x).toArray,.agg (stE y).toArray] w fun e w'=>e=.returned (.int .i64 (cmpNQ x y))∧∃q os',w' =grow (w.drewN q) os':=by
 obtain⟨s,⟨lo,ln,lc⟩,⟨po,pn,pc⟩⟩:=x
 obtain⟨t,⟨lo',ln',lc'⟩,⟨po',pn',pc'⟩⟩:=y
 rw [show cmpNQ (s,⟨lo,ln,lc⟩,⟨po,pn,pc⟩) (t,⟨lo',ln',lc'⟩,⟨po',pn',pc'⟩)=ordN s t from rfl,←ordN_find]
 simp only [stE,Sv.v]
 go_enter Tryz.func56,Tryz.ntmps56
 go_wp2_with fail
 go_region_held3 (fun w'=>w'.cell? ⟨w.heap.size,1,none⟩=some (.int .i64 s.number)∧w'.cell? ⟨w.heap.size+1,1,none⟩=some (.int .i64 t.number)∧w'.cell? ⟨w.heap.size,12,none⟩=some (.string s.dig)∧w'.cell? ⟨w.heap.size+1,12,none⟩=some (.string t.dig)) (go_keep)
  (first
    | (go_at_call 58;refine(compare_any _ _ _).mono ?_;rintro e w' ⟨rfl,rfl⟩)
    | (go_at_call 59;refine(strCompare_any _ _ _).mono ?_;rintro e w' ⟨rfl,rfl⟩)
    | (go_at_call 57;refine(cmpOr_any _ [cmpI s.number t.number,strC s.dig t.dig] _ (Ints.keep (Ints.lit [cmpI s.number t.number,strC s.dig t.dig] (by simp) rfl) (Ex.refl _ none _).drew (Nat.le_refl _)) (by simp)).mono ?_;rintro e w' ⟨rfl,rfl⟩))
 go_wp2
 go_ret
 refine⟨rfl,?_⟩
 exact⟨1,#[_,_,_],by rw [alloc_eq_grow,alloc_eq_grow,alloc_eq_grow,grow_grow,grow_grow];rfl⟩
def sameND (x y:St×Sv×Sv):Bool:=decide (ordN x.1 y.1=0)
def sameNDs (s t:St):Bool:=decide (ordN s t=0)
section
attribute [local go_sem ↓] rowLoad_stv rowStore_stv
set_option maxHeartbeats 4000000 in
set_option maxRecDepth 100000 in
theorem own2_any (c:Nat) (x y:St×Sv×Sv) (w:World) (hc:w.heap[c]? =some (.cells #[.func (.func 56) #[] #[]] 98 (0,0))):Calls Tryz.prog 62 #[.agg (stE x).toArray,.agg (stE y).toArray,.pointer (some ⟨c,0,none⟩)] w fun e w'=>e=.returned (.bool (sameND x y))∧∃q os',w' =grow (w.drewN q) os':=by
 obtain⟨z,hz⟩:∃z,z=cmpNQ x y:=⟨_,rfl⟩
 have HO:Hid (∀W,Calls Tryz.prog 56 #[stV x,stV y] W fun e w'=>e=.returned (.int .i64 z)∧Gr W w'):=Lib.hid (fun W=>by rw [hz];exact own1_any x y W)
 have HS:Hid (sameND x y= (z == 0)):=Lib.hid (by show decide (cmpNQ x y=0)=_;rw [←hz];rfl)
 rw [HS.out]
 clear hz
 show Calls Tryz.prog _ #[stV x,stV y,.pointer (some ⟨c,0,none⟩)] w fun e w'=>e=.returned (.bool (z == 0))∧Gr w w'
 obtain⟨ws,hws⟩:∃ws:World,ws= (w.alloc (.cells (stV x).cells 51)).alloc (.cells (stV y).cells 51):=⟨_,rfl⟩
 have HGs:Hid (Gr w ws):=Lib.hid (by rw [hws];exact((Gr.refl w).alloc _).alloc _)
 have c0:ws.cell? ⟨c,0,none⟩=some (.func (.func 56) #[] #[]):=by
  rw [cell_of_row _ _ _ _ _ _ (HGs.out.ex.at2 (Nat.le_refl _) hc)];rfl
 have r0: (rowLoad 51 ⟨w.heap.size,0,none⟩).run Tryz.prog ws=.ok (stV x) ws:=stV_box (by rw [hws];exact heap_alloc2_old _ _ _)
 have r1: (rowLoad 51 ⟨w.heap.size+1,0,none⟩).run Tryz.prog ws=.ok (stV y) ws:=stV_box (by rw [hws];exact heap_alloc2_new _ _ _)
 have n0:=stV_new w #[.int .i64 0,.int .i64 0,.string ⟨#[]⟩,.int .i64 0,.int .i64 0,.int .i64 0,.int .i64 0,.int .i64 0,.slice none 0 0,.slice none 0 0,.string ⟨#[]⟩,.int .i64 0,.string ⟨#[]⟩] x rfl
 have n1:=stV_new (w.alloc (.cells (stV x).cells 51)) #[.int .i64 0,.int .i64 0,.string ⟨#[]⟩,.int .i64 0,.int .i64 0,.int .i64 0,.int .i64 0,.int .i64 0,.slice none 0 0,.slice none 0 0,.string ⟨#[]⟩,.int .i64 0,.string ⟨#[]⟩] y rfl
 clear hc
 go_enter Tryz.func62,Tryz.ntmps62
 go_upto_region 1 with(fail)
 refine wp_world (fun W=>W=ws) (by rw [hws];rfl) (fun W hW=>?_)
 rw [hW]
 clear hW W hws n0 n1
 go_wp2_with (first
  | (go_at_call 56
     refine(HO.out ws).mono ?_
     rintro e w1 ⟨rfl,hg⟩
     have HG1:=Lib.hid hg
     clear hg)
  | fail)
 go_ret
 exact⟨by rfl,HGs.out.trans HG1.out⟩
end
theorem sortOwn_none (p:Option Addr) (cap:Nat) (fv:Value) (w:World):Calls Tryz.prog 60 #[.slice p 0 cap,fv] w fun e w'=>e=.returned (.tuple #[])∧w' =w :=
 AnyF.slices_SortFunc_none Tryz.pdqSt p cap fv w
theorem sortOwn_any (g off cap n:Nat) (d:Array (St×Sv×Sv)) (w:World) (hH:HoldsK stE 13 w g off d) (hg:g < w.heap.size) (hn:d.size=n) (hsz:n < 4611686018427387904) :
 Calls Tryz.prog 60 #[.slice (some ⟨g,off,none⟩) n cap,.func (.func 56) #[] #[]] w fun e w'=>
  e=.returned (.tuple #[])∧∃d',HoldsK stE 13 w' g off d'∧d'.size=n∧d'.toList.Perm d.toList∧SortedIn (ltOf cmpNQ) 0 d'.size d'∧Ex w.heap.size (some g) w w':=by
 subst hn
 refine(AnyQ.slices_SortFunc Tryz.pdqSt 13 Tryz.isAgg51 Tryz.sizeOf51 stE stE_len one_stE cmpNQ good_cmpNQ.swo 56 #[] g off cap d w
  (enters_of Tryz.func56 (by kernel_rfl) rfl) (fun m os dk _ x y=>own1_any x y _) hH hg hsz).mono ?_
 rintro e w' ⟨rfl,d',n,os,hp,hs,rfl⟩
 exact⟨rfl,d',holdsK_sortWorldK_c stE 13 w g off d _ n os hH hg hp.1,hp.1,permIn_list hp,by rw [hp.1];exact hs,ex_sortWorldK stE 13 w g off n _ os⟩
set_option maxHeartbeats 1000000 in
theorem compactOwn_none (p:Option Addr) (cap:Nat) (fv:Value) (w:World):Calls Tryz.prog 61 #[.slice p 0 cap,fv] w fun e w'=>e=.returned (.slice p 0 cap)∧w' =w:=by
 go_enter Tryz.func61,Tryz.ntmps61
 go_wp2
 go_ret
 exact⟨rfl,rfl⟩
theorem compactOwn_any (g cap n c:Nat) (d:Array (St×Sv×Sv)) (w:World) (hH:HoldsK stE 13 w g 0 d) (hg:g < w.heap.size) (hs:d.size=n) (hsz:n < 1000000000000) (hcap:n≤cap)
 (hc:w.heap[c]? =some (.cells #[.func (.func 56) #[] #[]] 98 (0,0))) (hne:c≠g) :
 Calls Tryz.prog 61 #[.slice (some ⟨g,0,none⟩) n cap,.func (.func 62) #[] #[.pointer (some ⟨c,0,none⟩)]] w fun e w'=>
  e=.returned (.slice (some ⟨g,0,none⟩) (cpt sameND d n).length cap)∧HoldsK stE 13 w' g 0 (cpt sameND d n).toArray∧Ex w.heap.size (some g) w w' :=
 compactWSt_any claySt stE stE_len one_stE sameND 62 #[.pointer (some ⟨c,0,none⟩)] (enters_of Tryz.func62 (by kernel_rfl) rfl)
  Tryz.func61 _ Tryz.zeroValue51 rfl (by decide) Tryz.underlying86 Tryz.isAgg86 Tryz.sizeOf86
  g 0 cap n d w hH hg (by omega) (by omega) hs (fun w' h x y=>own2_any c x y w' ((h.block c (Array.getElem?_eq_some_iff.1 hc).1 (by simp;omega)).trans hc))
end
def cptO (d:List St):List St:=cpt sameNDs d.toArray d.length
def OwnR (a:Int) (l ls:List St):Prop:=∃d:List St,d.Perm (l.filter (okB a))∧(∀(i j:Nat) (x y:St),i < j→d[i]? =some x→d[j]? =some y→ordN x y≤0)∧ls=cptO d
theorem own_sl {P:Nat→Prop} {w:World} {g:Nat} {xs:List (St×Sv×Sv)} (hP:P g) (h:HoldsK stE 13 w g 0 xs.toArray) (hl:∀x∈xs,Lies P w x):SlAt stRep P w (some ⟨g,0,none⟩) (xs.map (·.1)):=fun i hi=>by
 have hi' :i < xs.length:=by simpa using hi
 refine⟨g,0,stE xs[i],rfl,hP,?_,xs[i].2.1,xs[i].2.2,by simp,by simpa using hl _ (List.getElem_mem hi')⟩
 have:=holdsK_range stE_len h i (by simpa using hi')
 rwa [getElem!_pos xs.toArray i hi',List.getElem_toArray] at this
theorem ownR_of {a:Int} {l:List St} {acc:List (St×Sv×Sv)} {d' :Array (St×Sv×Sv)} (h:acc.map (·.1)=l.filter (okB a)) (hp:d'.toList.Perm acc) (hs:SortedIn (ltOf cmpNQ) 0 d'.size d') (n:Nat) (hn:d'.size=n):OwnR a l ((cpt sameND d' n).map (·.1)):=by
 subst hn
 refine⟨d'.toList.map (·.1),by rw [←h];exact hp.map _,fun i j x y hij hi hj=>?_,?_⟩
 · have hj' :j < d'.size:=by have:=(List.getElem?_eq_some_iff.1 hj).1;simpa using this
   have hi' :i < d'.size:=by omega
   have k:=hs i j (Nat.zero_le _) hij hj'
   unfold ltOf cmpNQ at k
   rw [getElem!_pos d' i hi',getElem!_pos d' j hj'] at k
   have k2:=of_decide_eq_false k
   simp only [List.getElem?_map,Array.getElem?_toList,Array.getElem?_eq_getElem hi',Array.getElem?_eq_getElem hj',Option.map_some,Option.some.injEq] at hi hj
   rw [←hi,←hj]
   have:=good_ordN.anti (d'[i]).1 (d'[j]).1
   have:=good_ordN.anti (d'[j]).1 (d'[i]).1
   omega
 · rw [cpt_map (fun x:St×Sv×Sv=>x.1) (eq:=sameND) (eq':=sameNDs) (fun _ _=>rfl) d' d'.size (Nat.le_refl _)]
   rw [show d'.map (fun x:St×Sv×Sv=>x.1)= (d'.toList.map (fun x=>x.1)).toArray by apply Array.ext';simp]
   simp only [cptO,List.length_map,Array.length_toList]
theorem OwnR.mem {a:Int} {l ls:List St} (h:OwnR a l ls):∀s∈ls,s∈l:=fun s hs=>by
 obtain⟨d,hp,_,rfl⟩:=h
 have h1:s∈d:=by simpa using cpt_mem d.length (by simp) hs
 exact(List.mem_filter.1 (hp.mem_iff.1 h1)).1
theorem OwnR.ok {a:Int} {l ls:List St} (h:OwnR a l ls):∀s∈ls,okB a s=true:=fun s hs=>by
 obtain⟨d,hp,_,rfl⟩:=h
 have h1:s∈d:=by simpa using cpt_mem d.length (by simp) hs
 exact(List.mem_filter.1 (hp.mem_iff.1 h1)).2
set_option maxHeartbeats 16000000 in
set_option maxRecDepth 100000 in
theorem own_any {P:Nat→Prop} (v:Value) (l:List St) (a:Int) (w:World) (hv:Sl stRep P w v l) (hm:l.length≤100000) (hL:LightL 9223372036854775807 l) :
 Calls Tryz.prog 37 #[v,.int .i64 a] w fun e w'=>∃u ls,e=.returned u∧OwnR a l ls∧Sl stRep (fun b=>P b∨w.heap.size≤b) w' u ls∧ls.length≤l.length∧Ex w.heap.size none w w':=by
 obtain⟨ao,cap,rfl,hx⟩:=hv
 have HX:=Lib.hid hx
 have HLL:=Lib.hid hL
 clear hx hL
 go_enter Tryz.func37,Tryz.ntmps37
 go_wp2
 go_loopw [5,11] (fun v i wr=>∃(k n:Nat) (ro:Option Addr) (rc:Nat) (acc:List (St×Sv×Sv)),k≤l.length∧i=.int .i64 k∧v=.slice ro n rc∧Hid (acc.map (·.1)= (l.take k).filter (okB a)∧acc.length=n∧n≤k∧∀x∈acc,Lies P w x)∧OwnE stE 13 51 wr w.heap.size ro rc acc∧Ex w.heap.size none w wr) (fun _ i _=>l.length - (intOf i).toNat)
 case atStart=>exact⟨0,0,none,0,[],by omega,rfl,rfl,Lib.hid ⟨by simp,rfl,by omega,fun x hx=>by cases hx⟩,OwnE.nil _ _ _ _ _,Ex.refl _ _ _⟩
 case round=>
  obtain⟨k,n,ro,rc,acc,hk,rfl,rfl,HA,hown,hex⟩:=hrel
  have hsz:=hex.size
  have HEX:=Lib.hid hex
  have HO:=Lib.hid hown
  clear hown
  by_cases hlt:k < l.length
  · have hltI: (k:Int) < (l.length:Int):=by omega
    have hnk:n≤k:=HA.out.2.2.1
    obtain⟨b,off,s,⟨lo,ln,lc⟩,⟨po,pn,pc⟩,rfl,_,hls0,hr,HXs⟩:=st_get HX.out k hlt
    have HLG:Hid (s.list.length≤9223372036854775807∧s.pins.length≤9223372036854775807):=Lib.hid (HLL.out s (List.mem_of_getElem? HXs.out))
    have HLN:Hid (ln=s.list.length):=by obtain⟨⟨_,_,e,_⟩,_⟩:=hls0;simp only [Sv.v] at e;cases e;exact rfl
    have HPN:Hid (pn=s.pins.length):=by obtain⟨_,⟨_,_,e,_⟩⟩:=hls0;simp only [Sv.v] at e;cases e;exact rfl
    have hc:=st_at (rangeAt_keep hr (hex.block b (rangeAt_lt hr (by rw [stE_len];omega)) (by simp)))
    simp only [Sv.v] at hc
    obtain⟨c0,c1,c2,c3,c4,c5,c6,c7,c8,c9,c10,c11,c12⟩:=hc
    have HLS0:=Lib.hid hls0
    clear hls0 hr hex
    go_upto_region 5 with(fail)
    obtain⟨ws,hws⟩:∃ws:World,ws=wr.alloc (.cells #[.int .i64 s.author,.int .i64 s.number,.string s.prev,.int .i64 s.time,.int .i64 s.kind,.int .i64 s.a,.int .i64 s.b,.int .i64 s.c,.slice lo ln lc,.slice po pn pc,.string s.body,.int .i64 s.key,.string s.dig] 51):=⟨_,rfl⟩
    have HEs:Hid (Ex wr.heap.size none wr ws):=Lib.hid (by rw [hws];exact Ex.new wr _)
    have hzs:ws.heap.size=wr.heap.size+1:=by rw [hws];simp
    have HBs:Hid (ws.heap[wr.heap.size]? =some (.cells #[.int .i64 s.author,.int .i64 s.number,.string s.prev,.int .i64 s.time,.int .i64 s.kind,.int .i64 s.a,.int .i64 s.b,.int .i64 s.c,.slice lo ln lc,.slice po pn pc,.string s.body,.int .i64 s.key,.string s.dig] 51 (0,0))):=Lib.hid (by rw [hws];exact heap_alloc_new wr _)
    have HQ:Hid (∀w',Ex ws.heap.size none ws w'→w'.cell? ⟨wr.heap.size,0,none⟩=some (.int .i64 s.author)∧w'.cell? ⟨wr.heap.size,1,none⟩=some (.int .i64 s.number)∧w'.cell? ⟨wr.heap.size,2,none⟩=some (.string s.prev)∧w'.cell? ⟨wr.heap.size,3,none⟩=some (.int .i64 s.time)∧w'.cell? ⟨wr.heap.size,4,none⟩=some (.int .i64 s.kind)∧w'.cell? ⟨wr.heap.size,5,none⟩=some (.int .i64 s.a)∧w'.cell? ⟨wr.heap.size,6,none⟩=some (.int .i64 s.b)∧w'.cell? ⟨wr.heap.size,7,none⟩=some (.int .i64 s.c)∧w'.cell? ⟨wr.heap.size,8,none⟩=some (.slice lo ln lc)∧w'.cell? ⟨wr.heap.size,9,none⟩=some (.slice po pn pc)∧w'.cell? ⟨wr.heap.size,10,none⟩=some (.string s.body)∧w'.cell? ⟨wr.heap.size,11,none⟩=some (.int .i64 s.key)∧w'.cell? ⟨wr.heap.size,12,none⟩=some (.string s.dig)):=Lib.hid (fun w' h=>(st_block ((h.block wr.heap.size (by omega) (by simp)).trans HBs.out)).1)
    have HLS:Hid (∀w',Ex ws.heap.size none ws w'→Lies P w' (s,⟨lo,ln,lc⟩,⟨po,pn,pc⟩)):=Lib.hid (fun w' h=>HLS0.out.keep fun b _ hb=>(h.block b (by omega) (by simp)).trans ((HEs.out.block b (by omega) (by simp)).trans (HEX.out.block b hb (by simp))))
    obtain⟨q,hq0⟩:∃q,q=checkI s:=⟨_,rfl⟩
    have HCQ:Hid (checkI s=q):=Lib.hid hq0.symm
    have HCK:Hid (∀w',Ex ws.heap.size none ws w'→Calls Tryz.prog 40 #[.agg #[.int .i64 s.author,.int .i64 s.number,.string s.prev,.int .i64 s.time,.int .i64 s.kind,.int .i64 s.a,.int .i64 s.b,.int .i64 s.c,.slice lo ln lc,.slice po pn pc,.string s.body,.int .i64 s.key,.string s.dig]] w' fun e w''=>e=.returned (.int .i64 q)∧Ex w'.heap.size none w' w''):=Lib.hid (fun w' h=>by rw [hq0];exact checkP_any s lo po ln lc pn pc w' (HLS.out w' h) (by rw [HLN.out,HPN.out];exact HLG.out))
    clear hq0
    rw [←hws]
    clear hws c0 c1 c2 c3 c4 c5 c6 c7 c8 c9 c10 c11 c12
    obtain⟨d0,d1,d2,d3,d4,d5,d6,d7,d8,d9,d10,d11,d12⟩:=HQ.out _ (Ex.refl _ _ ws)
    by_cases t1:s.author=a
    case neg=>
     have k1: (s.author == a)=false:=by simpa using t1
     have HNO:Hid (okB a s=false):=Lib.hid (by simp [okB,t1])
     clear t1
     go_wp2_with (fail)
     go_roundw
     case rel=>exact⟨k+1,n,ro,rc,acc,by omega,by go_num,rfl,Lib.hid ⟨by rw [filter_no HXs.out HNO.out];exact HA.out.1,HA.out.2.1,by have:=HA.out.2.2.1;omega,HA.out.2.2.2⟩,HO.out.keep (HEs.out.trans (Ex.refl ws.heap.size none ws) (by omega) (by simp)) (Nat.le_refl _) (by simp),HEX.out.trans (HEs.out.trans (Ex.refl ws.heap.size none ws) (by omega) (by simp)) hsz (by simp)⟩
     case measure=>simp [intOf] <;> omega
    have k1: (s.author == a)=true:=by simpa using t1
    have HT1:=Lib.hid t1
    clear t1
    by_cases t2:q=0
    case neg=>
     have k2: (q == 0)=false:=by simpa using t2
     have HNO:Hid (okB a s=false):=Lib.hid (by simp [okB,HCQ.out,t2])
     clear t2
     go_wp2_with (first
      | (go_at_call 40
         refine(HCK.out _ (Ex.refl _ _ ws)).mono ?_
         rintro e w7 ⟨rfl,hex7⟩
         have HE7:Hid (Ex ws.heap.size none ws w7):=Lib.hid hex7
         have hz7:ws.heap.size≤w7.heap.size:=hex7.size
         clear hex7 d0 d1 d2 d3 d4 d5 d6 d7 d8 d9 d10 d11 d12
         obtain⟨d0,d1,d2,d3,d4,d5,d6,d7,d8,d9,d10,d11,d12⟩:=HQ.out _ HE7.out)
      | fail)
     go_roundw
     case rel=>exact⟨k+1,n,ro,rc,acc,by omega,by go_num,rfl,Lib.hid ⟨by rw [filter_no HXs.out HNO.out];exact HA.out.1,HA.out.2.1,by have:=HA.out.2.2.1;omega,HA.out.2.2.2⟩,HO.out.keep (HEs.out.trans HE7.out (by omega) (by simp)) (Nat.le_refl _) (by simp),HEX.out.trans (HEs.out.trans HE7.out (by omega) (by simp)) hsz (by simp)⟩
     case measure=>simp [intOf] <;> omega
    have k2: (q == 0)=true:=by simpa using t2
    have HT2:Hid (checkI s=0):=Lib.hid (HCQ.out.trans t2)
    have HTM:=Lib.hid (checkI_tame HT2.out)
    clear t2
    cases t3:sealedB s with
    | false=>
      have HNO:Hid (okB a s=false):=Lib.hid (by simp [okB,t3])
      have HSL:Hid (∀w',Ex ws.heap.size none ws w'→Calls Tryz.prog 41 #[.agg #[.int .i64 s.author,.int .i64 s.number,.string s.prev,.int .i64 s.time,.int .i64 s.kind,.int .i64 s.a,.int .i64 s.b,.int .i64 s.c,.slice lo ln lc,.slice po pn pc,.string s.body,.int .i64 s.key,.string s.dig]] w' fun e w''=>e=.returned (.bool false)∧Ex w'.heap.size none w' w''):=Lib.hid (fun w' h=>asB (sealedP_any s lo po ln lc pn pc w' (HLS.out w' h) HTM.out) t3)
      clear t3
      go_wp2_with (first
       | (go_at_call 40
          refine(HCK.out _ (Ex.refl _ _ ws)).mono ?_
          rintro e w7 ⟨rfl,hex7⟩
          have HE7:Hid (Ex ws.heap.size none ws w7):=Lib.hid hex7
          have hz7:ws.heap.size≤w7.heap.size:=hex7.size
          clear hex7 d0 d1 d2 d3 d4 d5 d6 d7 d8 d9 d10 d11 d12
          obtain⟨d0,d1,d2,d3,d4,d5,d6,d7,d8,d9,d10,d11,d12⟩:=HQ.out _ HE7.out)
       | (go_at_call 41
          refine(HSL.out _ HE7.out).mono ?_
          rintro e w8 ⟨rfl,hex8⟩
          have HE8:Hid (Ex ws.heap.size none ws w8):=Lib.hid (HE7.out.trans hex8 hz7 (by simp))
          have hz8:ws.heap.size≤w8.heap.size:=HE8.out.size
          clear hex8 d0 d1 d2 d3 d4 d5 d6 d7 d8 d9 d10 d11 d12
          obtain⟨d0,d1,d2,d3,d4,d5,d6,d7,d8,d9,d10,d11,d12⟩:=HQ.out _ HE8.out)
       | fail)
      go_roundw
      case rel=>exact⟨k+1,n,ro,rc,acc,by omega,by go_num,rfl,Lib.hid ⟨by rw [filter_no HXs.out HNO.out];exact HA.out.1,HA.out.2.1,by have:=HA.out.2.2.1;omega,HA.out.2.2.2⟩,HO.out.keep (HEs.out.trans HE8.out (by omega) (by simp)) (Nat.le_refl _) (by simp),HEX.out.trans (HEs.out.trans HE8.out (by omega) (by simp)) hsz (by simp)⟩
      case measure=>simp [intOf] <;> omega
    | true=>
      have HYES:Hid (okB a s=true):=Lib.hid (okB_iff.2 ⟨HT1.out,HT2.out,t3⟩)
      have HSL:Hid (∀w',Ex ws.heap.size none ws w'→Calls Tryz.prog 41 #[.agg #[.int .i64 s.author,.int .i64 s.number,.string s.prev,.int .i64 s.time,.int .i64 s.kind,.int .i64 s.a,.int .i64 s.b,.int .i64 s.c,.slice lo ln lc,.slice po pn pc,.string s.body,.int .i64 s.key,.string s.dig]] w' fun e w''=>e=.returned (.bool true)∧Ex w'.heap.size none w' w''):=Lib.hid (fun w' h=>asB (sealedP_any s lo po ln lc pn pc w' (HLS.out w' h) HTM.out) t3)
      clear t3
      have HAL:Hid (acc.length=n):=Lib.hid HA.out.2.1
      go_wp2_with (first
       | (go_at_call 40
          refine(HCK.out _ (Ex.refl _ _ ws)).mono ?_
          rintro e w7 ⟨rfl,hex7⟩
          have HE7:Hid (Ex ws.heap.size none ws w7):=Lib.hid hex7
          have hz7:ws.heap.size≤w7.heap.size:=hex7.size
          clear hex7 d0 d1 d2 d3 d4 d5 d6 d7 d8 d9 d10 d11 d12
          obtain⟨d0,d1,d2,d3,d4,d5,d6,d7,d8,d9,d10,d11,d12⟩:=HQ.out _ HE7.out)
       | (go_at_call 41
          refine(HSL.out _ HE7.out).mono ?_
          rintro e w8 ⟨rfl,hex8⟩
          have HE8:Hid (Ex ws.heap.size none ws w8):=Lib.hid (HE7.out.trans hex8 hz7 (by simp))
          have hz8:ws.heap.size≤w8.heap.size:=HE8.out.size
          clear hex8 d0 d1 d2 d3 d4 d5 d6 d7 d8 d9 d10 d11 d12
          obtain⟨d0,d1,d2,d3,d4,d5,d6,d7,d8,d9,d10,d11,d12⟩:=HQ.out _ HE8.out)
       | (at_builtin;refine wpList_appE2 rfl (.tmp 28) (.tmp 30) _ 51 (by rfl) Tryz.underlying27 _ 13 160 Tryz.infoSt rfl (by decide) (by decide) stE stE_len one_stE w.heap.size ro rc n acc HAL.out (by rfl) (some ⟨w8.heap.size,0,none⟩) 1 1 (by rfl) [(s,⟨lo,ln,lc⟩,⟨po,pn,pc⟩)] rfl ((HO.out.keep (HEs.out.trans HE8.out (by omega) (by simp)) (Nat.le_refl _) (by simp)).keep (Ex.new w8 _) (Nat.le_refl _) (by simp)) (lit_cells (by rfl)) (by omega) (by simp;omega) (n+1) rfl ?_;intro ro2 rc2 w6 hown6 hex6 _ _)
       | fail)
      have HO6:=Lib.hid hown6
      have HE6:Hid (Ex w.heap.size none w w6):=Lib.hid (((HEX.out.trans (HEs.out.trans HE8.out (by omega) (by simp)) hsz (by simp)).trans (Ex.new w8 _) (by omega) (by simp)).trans hex6 (Nat.le_refl _) (by simp))
      clear hown6 hex6
      go_roundw
      case rel=>exact⟨k+1,n+1,ro2,rc2,acc ++ [(s,⟨lo,ln,lc⟩,⟨po,pn,pc⟩)],by omega,by go_num,rfl,Lib.hid ⟨by rw [filter_yes HXs.out HYES.out,List.map_append,HA.out.1];rfl,by rw [List.length_append,HAL.out];rfl,by omega,fun x hx=>by
       rcases List.mem_append.1 hx with h | h
       · exact HA.out.2.2.2 x h
       · rw [List.mem_singleton.1 h];exact HLS0.out⟩,HO6.out,HE6.out⟩
      case measure=>simp [intOf] <;> omega
  · obtain rfl:k=l.length:=by omega
    have hnk:n≤l.length:=HA.out.2.2.1
    have HF:Hid (acc.map (·.1)=l.filter (okB a)):=Lib.hid (by have:=HA.out.1;rwa [List.take_length] at this)
    have HAL:Hid (acc.length=n):=Lib.hid HA.out.2.1
    clear hex
    go_upto_region 10 with(fail)
    obtain⟨wf,hwf⟩:∃wf:World,wf=wr.alloc (.cells #[.func (.func 56) #[] #[]] 98):=⟨_,rfl⟩
    rw [←hwf]
    have HEF:Hid (Ex wr.heap.size none wr wf):=Lib.hid (by rw [hwf];exact Ex.new wr _)
    have hbf:wf.heap[wr.heap.size]? =some (.cells #[.func (.func 56) #[] #[]] 98 (0,0)):=by rw [hwf];exact heap_alloc_new _ _
    have hzf:wf.heap.size=wr.heap.size+1:=by rw [hwf];simp
    have HBF:=Lib.hid hbf
    have c0:wf.cell? ⟨wr.heap.size,0,none⟩=some (.func (.func 56) #[] #[]):=by rw [cell_of_row _ _ _ _ _ _ hbf];rfl
    clear hwf hbf
    rcases HO.out.cases with⟨e1,e2,e3⟩ | ⟨g,e1,hg1,hg2,hg3⟩
    · subst e1 e2
      have hn0:n=0:=by rw [←HAL.out,e3];rfl
      have HLR:Hid (OwnR a l []):=Lib.hid (by
       have h:=HF.out
       rw [e3] at h
       exact⟨[],by rw [←h];exact List.Perm.refl _,fun i j x y _ h=>by simp at h,rfl⟩)
      clear e3
      subst hn0
      go_wp2_with (first
       | (go_at_call 60;refine(sortOwn_none _ _ _ _).mono ?_;rintro e w' ⟨rfl,rfl⟩)
       | (go_at_call 61;refine(compactOwn_none _ _ _ _).mono ?_;rintro e w' ⟨rfl,rfl⟩)
       | fail)
      go_ret
      exact⟨_,[],rfl,HLR.out,Sl.nil _ _,by simp,HEX.out.trans HEF.out hsz (by simp)⟩
    · subst e1
      have HH:Hid (HoldsK stE 13 wf g 0 acc.toArray):=Lib.hid ((HO.out.keep HEF.out (Nat.le_refl _) (by simp)).holds stE_len)
      have hcap:n≤rc:=by rw [←HAL.out];exact hg3
      have HSZ:Hid (acc.toArray.size=n):=Lib.hid (by simpa using HAL.out)
      go_wp2_with (first
       | (go_at_call 60
          refine(sortOwn_any g 0 rc n acc.toArray wf HH.out (by omega) HSZ.out (by omega)).mono ?_
          rintro e w1 ⟨rfl,d',hH1,hd1,hp1,hs1,hex1⟩
          have HD:Hid (HoldsK stE 13 w1 g 0 d'∧d'.size=n∧d'.toList.Perm acc∧SortedIn (ltOf cmpNQ) 0 d'.size d'∧Ex wf.heap.size (some g) wf w1):=Lib.hid ⟨hH1,hd1,by simpa using hp1,hs1,hex1⟩
          have hz1:wf.heap.size≤w1.heap.size:=hex1.size
          clear hH1 hd1 hp1 hs1 hex1 c0)
       | (go_at_call 61
          refine(compactOwn_any g rc n wr.heap.size d' w1 HD.out.1 (by omega) HD.out.2.1 (by omega) hcap ((HD.out.2.2.2.2.block wr.heap.size (by omega) (by simp;omega)).trans HBF.out) (by omega)).mono ?_
          rintro e w2 ⟨rfl,hH2,hex2⟩
          have HC:Hid (HoldsK stE 13 w2 g 0 (cpt sameND d' n).toArray∧Ex w1.heap.size (some g) w1 w2):=Lib.hid ⟨hH2,hex2⟩
          clear hH2 hex2)
       | fail)
      go_ret
      have hE:Ex w.heap.size none w w2:=(HEX.out.trans HEF.out hsz (by simp)).trans (HD.out.2.2.2.2.trans HC.out.2 hz1 (fun q h _=>h)) (by omega) (fun q h hq=>by cases h;omega)
      refine⟨.slice (some ⟨g,0,none⟩) (cpt sameND d' n).length rc,(cpt sameND d' n).map (·.1),by rfl,ownR_of HF.out HD.out.2.2.1 HD.out.2.2.2.1 n HD.out.2.1,⟨some ⟨g,0,none⟩,rc,by rw [List.length_map],own_sl (.inr hg1) HC.out.1 fun x hx=>?_⟩,?_,hE⟩
      · have hmem:x∈acc:=HD.out.2.2.1.mem_iff.1 (cpt_mem n (by rw [HD.out.2.1];exact Nat.le_refl _) hx)
        exact(HA.out.2.2.2 x hmem).keep (fun b _ hb=>hE.block b hb (by simp)) |>.mono fun _ hb _=>.inl hb
      · have:=cpt_le sameND d' n
        rw [List.length_map];omega
section
section
variable {α:Type} [Inhabited α] {c:α→α→Int} {eq:α→α→Bool}
theorem cpt_at (d:Array α):∀n,∀x∈cpt eq d n,∃i,i < n∧x=d[i]! :=by
 intro n
 induction n with
 | zero=>intro x h;simp [cpt] at h
 | succ n ih=>
   intro x h
   rw [cpt] at h
   split at h
   · rcases List.mem_append.1 h with h | h
     · obtain⟨i,hi,e⟩:=ih x h
       exact⟨i,by omega,e⟩
     · exact⟨n,by omega,List.mem_singleton.1 h⟩
   · obtain⟨i,hi,e⟩:=ih x h
     exact⟨i,by omega,e⟩
theorem riseLe (hc:GoodC c) {d:Array α} (hs:SortedIn (ltOf c) 0 d.size d) {i j:Nat} (hij:i≤j) (hj:j < d.size):c d[i]! d[j]!≤0:=by
 by_cases e:i=j
 · subst e;rw [hc.refl];exact Int.le_refl _
 · have k:=hs i j (Nat.zero_le _) (by omega) hj
   unfold ltOf at k
   have k2:=of_decide_eq_false k
   have:=hc.anti d[i]! d[j]!
   have:=hc.anti d[j]! d[i]!
   omega
theorem cpt_rise (hc:GoodC c) (he:∀x y,eq x y=decide (c x y=0)) (d:Array α) (hs:SortedIn (ltOf c) 0 d.size d):∀n,n≤d.size→(cpt eq d n).Pairwise (fun x y=>c x y < 0):=by
 intro n
 induction n with
 | zero=>intro _;simp [cpt]
 | succ n ih=>
   intro hn
   rw [cpt]
   split
   · rename_i hst
     rw [List.pairwise_append]
     refine⟨ih (by omega),by simp,fun x hx y hy=>?_⟩
     obtain rfl:=List.mem_singleton.1 hy
     obtain⟨i,hi,rfl⟩:=cpt_at d n x hx
     have h0:0 < n:=by omega
     have hne:eq d[n]! d[n - 1]! =false:=by
      cases hb:eq d[n]! d[n - 1]! with
      | false=>rfl
      | true=>rw [stays_of h0 true hb] at hst;cases hst
     rw [he] at hne
     have h1:=of_decide_eq_false hne
     have h2:=riseLe hc hs (i:=n - 1) (j:=n) (by omega) (by omega)
     have h3:c d[n - 1]! d[n]! < 0:=by
      have:=hc.anti d[n - 1]! d[n]!
      have:=hc.anti d[n]! d[n - 1]!
      omega
     exact hc.le_lt (riseLe hc hs (i:=i) (j:=n - 1) (by omega) (by omega)) h3
   · exact ih (by omega)
end
end
section
attribute [local go_sem ↓] rowLoad_stv rowStore_stv
theorem take_snocL {ls:List St} {k:Nat} {x:St} (h:ls[k]? =some x):ls.take (k+1)=ls.take k ++ [x]:=by
 rw [List.take_add_one,h];rfl
def TestL (P:Nat→Prop) (l:List St) (f:Nat) (cb:Array Value) (w0:World) (p:St→Bool):Prop:=∀(w:World) (x:St×Sv×Sv),Ex w0.heap.size none w0 w→Lies P w x→x.1∈l→Calls Tryz.prog f (#[stV x] ++ cb) w fun e w'=>e=.returned (.bool (p x.1))∧Ex w.heap.size none w w'
def IndexR (l:List St) (p:St→Bool) (i:Int):Prop:=(∃(k:Nat) (s:St),i=k∧l[k]? =some s∧p s=true)∨(i = -1∧∀s∈l,p s=false)
set_option maxHeartbeats 4000000 in
set_option maxRecDepth 100000 in
theorem indexL_any {P:Nat→Prop} (v:Value) (l:List St) (f:Nat) (cb:Array Value) (p:St→Bool) (w:World) (hv:Sl stRep P w v l) (hm:l.length≤100000)
 (ef:∀args w,(callFunc f args).run Tryz.prog w=.ok (.enter f args) w) (ht:TestL P l f cb w p) :
 Calls Tryz.prog 99 #[v,.func (.func f) #[] cb] w fun e w'=>∃i:Int,e=.returned (.int .i64 i)∧IndexR l p i∧Ex w.heap.size none w w':=by
 obtain⟨ao,cap,rfl,hx⟩:=hv
 have HX:Hid (∀w',Ex w.heap.size none w w'→SlAt stRep P w' ao l):=Lib.hid (fun w' h=>hx.keep (by decide) fun b _ hb=>h.block b hb (by simp))
 have HT:=Lib.hid ht
 clear hx ht
 go_enter Tryz.func99,Tryz.ntmps99
 go_wp2
 go_loopw [8] (fun i wr=>∃k:Nat,k≤l.length∧i=.int .i64 k∧Hid (∀s∈l.take k,p s=false)∧Ex w.heap.size none w wr) (fun i _=>l.length - (intOf i).toNat)
 case atStart=>exact⟨0,by omega,rfl,Lib.hid (fun s hs=>by simp at hs),Ex.refl _ _ _⟩
 case round=>
  obtain⟨k,hk,rfl,HG,hex0⟩:=hrel
  have hsz0:=hex0.size
  have HEX:=Lib.hid hex0
  clear hex0
  by_cases hlt:k < l.length
  · have hltI: (k:Int) < (l.length:Int):=by omega
    obtain⟨b,off,x,hao,hPb,hbl,HXs,hls0,HLD⟩:=stv_get (HX.out wr HEX.out) k hlt
    subst hao
    have hld:=HLD.out wr rfl
    have HTK:Hid (l.take (k+1)=l.take k ++ [x.1]):=Lib.hid (take_snocL HXs.out)
    have HLS:=Lib.hid hls0
    clear hls0
    cases hp:p x.1 with
    | false=>
      go_wp2_with fail
      refine(HT.out wr x HEX.out HLS.out (List.mem_of_getElem? HXs.out)).mono ?_
      rw [hp]
      rintro e w2 ⟨rfl,hex2⟩
      have HE2:Hid (Ex w.heap.size none w w2):=Lib.hid (HEX.out.trans hex2 hsz0 (by simp))
      have HP:=Lib.hid hp
      clear hex2 hp hld
      go_wp2
      go_roundw
      case rel=>exact⟨k+1,by omega,by go_num,Lib.hid (fun s hs=>by
       rw [HTK.out] at hs
       rcases List.mem_append.1 hs with h | h
       · exact HG.out s h
       · rw [List.mem_singleton.1 h];exact HP.out),HE2.out⟩
      case measure=>simp [intOf] <;> omega
    | true=>
      go_wp2_with fail
      refine(HT.out wr x HEX.out HLS.out (List.mem_of_getElem? HXs.out)).mono ?_
      rw [hp]
      rintro e w2 ⟨rfl,hex2⟩
      have HE2:Hid (Ex w.heap.size none w w2):=Lib.hid (HEX.out.trans hex2 hsz0 (by simp))
      have HP:=Lib.hid hp
      clear hex2 hp hld
      go_wp2
      go_ret
      exact⟨(k:Int),rfl,.inl ⟨k,x.1,rfl,HXs.out,HP.out⟩,HE2.out⟩
  · obtain rfl:k=l.length:=by omega
    go_wp2
    go_ret
    exact⟨-1,rfl,.inr ⟨rfl,fun s hs=>HG.out s (by rw [List.take_of_length_le (Nat.le_refl _)];exact hs)⟩,HEX.out⟩
end
theorem rowStore_fork (a:Addr) (v:Value):storeVar 116 a v=rowStore 116 a v:=rfl
def forkF:List St→Option (St×St)
 | s :: t :: r=>if s.number=t.number then some (s,t) else forkF (t :: r)
 | _=>none
theorem forkF_some {ls:List St}:∀{k:Nat} {s t:St},(∀j x y,j < k→ls[j]? =some x→ls[j+1]? =some y→ ¬x.number=y.number)→ls[k]? =some s→ls[k+1]? =some t→s.number=t.number→forkF ls=some (s,t):=by
 induction ls with
 | nil=>intro k s t _ h;simp at h
 | cons a r ih=>
   intro k s t hno hs ht he
   match r,k with
   | [],0=>simp at ht
   | [],k+1=>simp at hs
   | b :: r,0=>
     simp only [List.getElem?_cons_zero,List.getElem?_cons_succ,Option.some.injEq] at hs ht
     subst hs ht
     simp [forkF,he]
   | b :: r,k+1=>
     have h0:=hno 0 a b (by omega) rfl rfl
     unfold forkF
     rw [if_neg h0]
     exact ih (fun j x y hj hx hy=>hno (j+1) x y (by omega) hx hy) hs ht he
theorem forkF_none {ls:List St}: (∀j x y,ls[j]? =some x→ls[j+1]? =some y→ ¬x.number=y.number)→forkF ls=none:=by
 induction ls with
 | nil=>exact fun _=>rfl
 | cons a r ih=>
   intro hno
   match r with
   | []=>rfl
   | b :: r=>
     unfold forkF
     rw [if_neg (hno 0 a b rfl rfl)]
     exact ih fun j x y hx hy=>hno (j+1) x y hx hy
def ForkC (w:World) (base:Nat) (cs:Array Value):Option (St×St)→Prop
 | none=>cs=#[.int .i64 0,.int .i64 0,.string ⟨#[]⟩,.int .i64 0,.int .i64 0,.int .i64 0,.int .i64 0,.int .i64 0,.slice none 0 0,.slice none 0 0,.string ⟨#[]⟩,.int .i64 0,.string ⟨#[]⟩,.int .i64 0,.int .i64 0,.string ⟨#[]⟩,.int .i64 0,.int .i64 0,.int .i64 0,.int .i64 0,.int .i64 0,.slice none 0 0,.slice none 0 0,.string ⟨#[]⟩,.int .i64 0,.string ⟨#[]⟩]
 | some (s,t)=>∃(la:Option Addr) (na ca:Nat) (pa:Option Addr) (np cp:Nat) (lb:Option Addr) (nb cb:Nat) (pb:Option Addr) (nq cq:Nat),cs=#[.int .i64 s.author,.int .i64 s.number,.string s.prev,.int .i64 s.time,.int .i64 s.kind,.int .i64 s.a,.int .i64 s.b,.int .i64 s.c,.slice la na ca,.slice pa np cp,.string s.body,.int .i64 s.key,.string s.dig,.int .i64 t.author,.int .i64 t.number,.string t.prev,.int .i64 t.time,.int .i64 t.kind,.int .i64 t.a,.int .i64 t.b,.int .i64 t.c,.slice lb nb cb,.slice pb nq cq,.string t.body,.int .i64 t.key,.string t.dig]∧Lies (fun b=>base≤b) w (s,⟨la,na,ca⟩,⟨pa,np,cp⟩)∧Lies (fun b=>base≤b) w (t,⟨lb,nb,cb⟩,⟨pb,nq,cq⟩)
abbrev CaD:Type:=Int×Int×Int×Int
def caE (x:CaD):List Value:=[.int .i64 x.1,.int .i64 x.2.1,.int .i64 x.2.2.1,.int .i64 x.2.2.2]
theorem caE_len (x:CaD): (caE x).length=4:=rfl
theorem one_caE:∀x,∀v∈caE x,v.oneCell' =true:=fun x v hv=>by
 simp only [caE,List.mem_cons,List.not_mem_nil,or_false] at hv
 rcases hv with rfl | rfl | rfl | rfl <;> rfl
def ordCa (x y:CaD):Int:=lexC (fun a b:CaD=>cmpI a.1 b.1) (lexC (fun a b:CaD=>cmpI a.2.1 b.2.1) (lexC (fun a b:CaD=>cmpI a.2.2.1 b.2.2.1) fun a b:CaD=>cmpI a.2.2.2 b.2.2.2)) x y
theorem good_ordCa:GoodC ordCa:=GoodC.lex (GoodC.on (fun p:CaD=>p.1) good_cmpI) (GoodC.lex (GoodC.on (fun p:CaD=>p.2.1) good_cmpI) (GoodC.lex (GoodC.on (fun p:CaD=>p.2.2.1) good_cmpI) (GoodC.on (fun p:CaD=>p.2.2.2) good_cmpI)))
theorem ordCa_find (p q:CaD): ([cmpI p.1 q.1,cmpI p.2.1 q.2.1,cmpI p.2.2.1 q.2.2.1,cmpI p.2.2.2 q.2.2.2].find? (· != 0)).getD 0=ordCa p q:=by rw [find4];rfl
set_option maxHeartbeats 4000000 in
set_option maxRecDepth 100000 in
theorem cases1_any (p q:CaD) (w:World):Calls Tryz.prog 93 #[.agg (caE p).toArray,.agg (caE q).toArray] w fun e w'=>e=.returned (.int .i64 (ordCa p q))∧∃n os',w' =grow (w.drewN n) os':=by
 show Calls _ _ _ w fun e w'=>e=.returned (.int .i64 (ordCa p q))∧Gr w w'
 obtain⟨a0,a1,a2,a3⟩:=p
 obtain⟨b0,b1,b2,b3⟩:=q
 rw [←ordCa_find]
 simp only [caE]
 go_enter Tryz.func93,Tryz.ntmps93
 go_wp2_with fail
 go_region_held3 (fun w'=>w'.cell? ⟨w.heap.size,0,none⟩=some (.int .i64 a0)∧w'.cell? ⟨w.heap.size,1,none⟩=some (.int .i64 a1)∧w'.cell? ⟨w.heap.size,2,none⟩=some (.int .i64 a2)∧w'.cell? ⟨w.heap.size,3,none⟩=some (.int .i64 a3)∧w'.cell? ⟨w.heap.size+1,0,none⟩=some (.int .i64 b0)∧w'.cell? ⟨w.heap.size+1,1,none⟩=some (.int .i64 b1)∧w'.cell? ⟨w.heap.size+1,2,none⟩=some (.int .i64 b2)∧w'.cell? ⟨w.heap.size+1,3,none⟩=some (.int .i64 b3)) (go_keep)
  (first
    | (go_at_call 58;refine(compare_any _ _ _).mono ?_;rintro e w' ⟨rfl,rfl⟩)
    | (go_at_call 57;refine(cmpOr_any _ [cmpI a0 b0,cmpI a1 b1,cmpI a2 b2,cmpI a3 b3] _ (Ints.keep (Ints.lit [cmpI a0 b0,cmpI a1 b1,cmpI a2 b2,cmpI a3 b3] (by simp) rfl) (Ex.refl _ none _).drew (Nat.le_refl _)) (by simp)).mono ?_;rintro e w' ⟨rfl,rfl⟩))
 go_wp2
 go_ret
 exact⟨rfl,by repeat(first | exact Gr.refl _ | refine Gr.alloc ?_ _ | refine Gr.drew ?_)⟩
theorem sortCases_none (p:Option Addr) (cap:Nat) (fv:Value) (w:World):Calls Tryz.prog 92 #[.slice p 0 cap,fv] w fun e w'=>e=.returned (.tuple #[])∧w' =w :=
 AnyF.slices_SortFunc_none Tryz.pdqCs p cap fv w
theorem sortCases_any (g off cap n:Nat) (d:Array CaD) (w:World) (hH:HoldsK caE 4 w g off d) (hg:g < w.heap.size) (hn:d.size=n) (hsz:n < 4611686018427387904) :
 Calls Tryz.prog 92 #[.slice (some ⟨g,off,none⟩) n cap,.func (.func 93) #[] #[]] w fun e w'=>
  e=.returned (.tuple #[])∧∃d' :Array CaD,HoldsK caE 4 w' g off d'∧d'.size=n∧d'.toList.Perm d.toList∧Ex w.heap.size (some g) w w':=by
 subst hn
 refine(AnyQ.slices_SortFunc Tryz.pdqCs 4 Tryz.isAgg38 Tryz.sizeOf38 caE caE_len one_caE ordCa good_ordCa.swo 93 #[] g off cap d w
  (enters_of Tryz.func93 (by kernel_rfl) rfl) (fun m os dk _ x y=>cases1_any x y _) hH hg hsz).mono ?_
 rintro e w' ⟨rfl,d',n,os,hp,hs,rfl⟩
 exact⟨rfl,d',holdsK_sortWorldK_c caE 4 w g off d _ n os hH hg hp.1,hp.1,permIn_list hp,ex_sortWorldK caE 4 w g off n _ os⟩
section
attribute [local go_sem ↓] rowLoad_stv rowStore_stv
def drE (x:St×Sv×Sv):List Value:=[.int .i64 x.1.kind,.int .i64 x.1.a,.int .i64 x.1.b,.int .i64 x.1.c,x.2.1.v,x.2.2.v]
def drV (x:St×Sv×Sv):Value:=.agg (drE x).toArray
def millU (a n t:Int) (d:St) (z:ByteArray):St:={ author:=a,number:=n,prev:=z,time:=t,kind:=d.kind,a:=d.a,b:=d.b,c:=d.c,list:=d.list,pins:=d.pins,body:=⟨#[]⟩,key:=0,dig:=⟨#[]⟩ }
def millS (a n t:Int) (d:St):St:=sealS (millU a n t d (if 0 < n then strOf (List.replicate 32 (0:UInt8)) else⟨#[]⟩))
def Fact.st2 (base n1 n2:Nat) (s:St):Fact:=⟨fun v w=>∃ao ac qo qc,v=stV (s,⟨ao,n1,ac⟩,⟨qo,n2,qc⟩)∧OwnE iE 1 3 w base ao ac s.list∧OwnE pinE 3 77 w base qo qc s.pins,fun⟨ao,ac,qo,qc,h1,h2,h3⟩ hx=>⟨ao,ac,qo,qc,h1,h2.keep hx (Nat.le_refl _) (by simp),h3.keep hx (Nat.le_refl _) (by simp)⟩⟩
theorem pin_src {P:Nat→Prop} {w:World} {ao:Option Addr} {n c:Nat} {xs:List PinD} (h:Sl pinRep P w (.slice ao n c) xs):xs.length=0∨∃ad,ao=some ad∧∀(j:Nat) (v:Value),(flatL pinE xs)[j]? =some v→w.cell? (ad.add j)=some v:=val_cells (by decide) h.at'
theorem own_lies {w:World} {base g n1 n2:Nat} {ao qo:Option Addr} {ac qc:Nat} {s:St} {cs:Array Value} {t:TypeId} (hn:s.list.length=n1∧s.pins.length=n2) (h1:OwnE iE 1 3 w base ao ac s.list) (h2:OwnE pinE 3 77 w base qo qc s.pins) (hg:w.heap[g]? =some (.cells cs t (0,0))) (t1:3≠t) (t2:77≠t):Lies (fun b=>b≠g∧base≤b) w (s,⟨ao,n1,ac⟩,⟨qo,n2,qc⟩):=by
 have k1:=own_away h1 hg t1
 have k2:=own_away h2 hg t2
 have q1:Sl intRep (fun b=>base≤b) w (.slice ao n1 ac) s.list:=iE_slE hn.1 h1
 have q2:Sl pinRep (fun b=>base≤b) w (.slice qo n2 qc) s.pins:=own_slK hn.2 h2
 refine⟨?_,?_⟩
 · obtain⟨a',c',e,hs⟩:=q1
   refine⟨a',c',e,fun i hi=>?_⟩
   obtain⟨b,off,cs',e1,hb,hr,hR⟩:=hs i hi
   cases e
   subst e1
   exact⟨b,off,cs',rfl,⟨fun h=>k1 (by rw [h];rfl),hb⟩,hr,hR⟩
 · obtain⟨a',c',e,hs⟩:=q2
   refine⟨a',c',e,fun i hi=>?_⟩
   obtain⟨b,off,cs',e1,hb,hr,hR⟩:=hs i hi
   cases e
   subst e1
   exact⟨b,off,cs',rfl,⟨fun h=>k2 (by rw [h];rfl),hb⟩,hr,hR⟩
def MillE (s:St) (b:Nat) (e:Ending) (w' :World):Prop:=∃y:St×Sv×Sv,e=.returned (stV y)∧y.1=s∧Lies (fun k=>b≤k) w' y
set_option maxHeartbeats 16000000 in
set_option maxRecDepth 100000 in
theorem millV_any {P:Nat→Prop} (a n t:Int) (x:St×Sv×Sv) (w:World) (hx:Lies P w x) (hm:x.1.list.length≤10000∧x.1.pins.length≤1000) (hd: (pinsL x.1.pins).length≤1200000) (_hn:0≤n) :
 Calls Tryz.prog 14 #[.int .i64 a,.int .i64 n,.int .i64 t,drV x] w fun e w'=>MillE (millS a n t x.1) w.heap.size e w'∧Ex w.heap.size none w w':=by
 obtain⟨hln1,hln2⟩:=lies_len hx
 obtain⟨d,⟨lo,n1,lc⟩,⟨po,n2,pc⟩⟩:=x
 have e1:n1=d.list.length:=hln1
 have e2:n2=d.pins.length:=hln2
 have HN:Hid (d.list.length=n1∧d.pins.length=n2):=Lib.hid ⟨e1.symm,e2.symm⟩
 have hm' :n1≤10000∧n2≤1000:=by rw [e1,e2];exact hm
 have HTM:Hid (∀z:ByteArray,z.size≤32→Tame (millU a n t d z)):=Lib.hid (fun z hz=>⟨hm.1,hm.2,by show z.size≤_;omega,Nat.zero_le _,hd⟩)
 obtain⟨hm1,hm2⟩:=hm'
 clear hln1 hln2 e1 e2 hm hd
 obtain⟨w0,hw0⟩:∃w0:World,w0= (w.alloc (.cells (drE (d,⟨lo,n1,lc⟩,⟨po,n2,pc⟩)).toArray 35)).alloc (.cells #[.int .i64 0,.int .i64 0,.string ⟨#[]⟩,.int .i64 0,.int .i64 0,.int .i64 0,.int .i64 0,.int .i64 0,.slice none 0 0,.slice none 0 0,.string ⟨#[]⟩,.int .i64 0,.string ⟨#[]⟩] 51):=⟨_,rfl⟩
 have HE0:Hid (Ex w.heap.size none w w0):=Lib.hid (by rw [hw0];exact(Ex.new w _).alloc (by simp) _)
 have hz0:w0.heap.size=w.heap.size+1+1:=by rw [hw0];simp
 have HB:Hid (∀w',Ex w0.heap.size none w0 w'→w'.heap[w.heap.size]? =some (.cells (drE (d,⟨lo,n1,lc⟩,⟨po,n2,pc⟩)).toArray 35 (0,0))∧w'.heap[w.heap.size+1]? =some (.cells #[.int .i64 0,.int .i64 0,.string ⟨#[]⟩,.int .i64 0,.int .i64 0,.int .i64 0,.int .i64 0,.int .i64 0,.slice none 0 0,.slice none 0 0,.string ⟨#[]⟩,.int .i64 0,.string ⟨#[]⟩] 51 (0,0))):=Lib.hid (fun w' h=>by
  rw [hw0] at h hz0
  exact⟨(h.block _ (by omega) (by simp)).trans (heap_alloc2_old _ _ _),(h.block _ (by omega) (by simp)).trans (heap_alloc2_new _ _ _)⟩)
 have HQ:Hid (∀w',Ex w0.heap.size none w0 w'→w'.cell? ⟨w.heap.size,0,none⟩=some (.int .i64 d.kind)∧w'.cell? ⟨w.heap.size,1,none⟩=some (.int .i64 d.a)∧w'.cell? ⟨w.heap.size,2,none⟩=some (.int .i64 d.b)∧w'.cell? ⟨w.heap.size,3,none⟩=some (.int .i64 d.c)∧w'.cell? ⟨w.heap.size,4,none⟩=some (.slice lo n1 lc)∧w'.cell? ⟨w.heap.size,5,none⟩=some (.slice po n2 pc)):=Lib.hid (fun w' h=>by
  have k:=(HB.out w' h).1
  refine⟨?_,?_,?_,?_,?_,?_⟩ <;> (rw [cell_of_row _ _ _ _ _ _ k];rfl))
 have HLX:Hid (∀w',Ex w0.heap.size none w0 w'→Lies P w' (d,⟨lo,n1,lc⟩,⟨po,n2,pc⟩)):=Lib.hid (fun w' h=>hx.keep fun b _ hb=>(h.block b (by omega) (by simp)).trans (HE0.out.block b hb (by simp)))
 clear hx
 go_enter Tryz.func14,Tryz.ntmps14
 go_upto_region 1 with(fail)
 refine wp_world (fun W=>W=w0) (by rw [hw0];rfl) (fun W hW=>?_)
 rw [hW]
 clear hW W hw0
 show(Code.wp _ _ _ ⟨#[.int .i64 a,.int .i64 n,.int .i64 t,drV (d,⟨lo,n1,lc⟩,⟨po,n2,pc⟩),_,_,_,.pointer (some ⟨w.heap.size,0,none⟩),.pointer (some ⟨w.heap.size+1,0,none⟩),_,_,_,_,_,_,_,_,_,_,_,_,_,_,_,_,_,_,_,_,_,_,_,_,_,_,_,_],[]⟩ _)
 refine wp_region_steps 37 [Fact.is (.int .i64 a),
  Fact.is (.int .i64 n),
  Fact.is (.int .i64 t),
  Fact.is (.pointer (some ⟨w.heap.size,0,none⟩)),
  Fact.is (.int .i64 d.kind),
  Fact.is (.pointer (some ⟨w.heap.size,1,none⟩)),
  Fact.is (.int .i64 d.a),
  Fact.is (.pointer (some ⟨w.heap.size,2,none⟩)),
  Fact.is (.int .i64 d.b),
  Fact.is (.pointer (some ⟨w.heap.size,3,none⟩)),
  Fact.is (.int .i64 d.c),
  Fact.emp w0.heap.size 3,
  Fact.is (.pointer (some ⟨w.heap.size,4,none⟩)),
  Fact.is (.slice lo n1 lc),
  Fact.own iE 1 3 w0.heap.size n1 d.list,
  Fact.emp w0.heap.size 77,
  Fact.is (.pointer (some ⟨w.heap.size,5,none⟩)),
  Fact.is (.slice po n2 pc),
  Fact.own pinE 3 77 w0.heap.size n2 d.pins,
  Fact.st2 w0.heap.size n1 n2 (millU a n t d ⟨#[]⟩),
  Fact.box w0.heap.size #[.int .i64 0,.int .i64 0,.string ⟨#[]⟩,.int .i64 0,.int .i64 0,.int .i64 0,.int .i64 0,.int .i64 0,.slice none 0 0,.slice none 0 0,.string ⟨#[]⟩,.int .i64 0,.string ⟨#[]⟩] 51] (by kernel_rfl) (by kernel_rfl) rfl ?_ ?_
 · refine⟨?_,?_,?_,?_,?_,?_,?_,?_,?_,?_,?_,?_,?_,?_,?_,?_,?_,?_,?_,?_,?_,trivial⟩
   · -- 0 move
     intro a' w' hR hF hK K h
     have e0:a'.eval (.tmp 0)=.int .i64 a:=hF.evalB 0 (by kernel_rfl)
     refine wp_value (v:=.int .i64 a) ?_ (h _ _ (Ex.refl _ _ _) rfl)
     generalize a'.eval=ev at e0 ⊢
     go_simp
   · -- 1 move
     intro a' w' hR hF hK K h
     have e1:a'.eval (.tmp 1)=.int .i64 n:=hF.evalB 1 (by kernel_rfl)
     refine wp_value (v:=.int .i64 n) ?_ (h _ _ (Ex.refl _ _ _) rfl)
     generalize a'.eval=ev at e1 ⊢
     go_simp
   · -- 2 move
     intro a' w' hR hF hK K h
     have e2:a'.eval (.tmp 2)=.int .i64 t:=hF.evalB 2 (by kernel_rfl)
     refine wp_value (v:=.int .i64 t) ?_ (h _ _ (Ex.refl _ _ _) rfl)
     generalize a'.eval=ev at e2 ⊢
     go_simp
   · -- 3 fieldAddr
     intro a' w' hR hF hK K h
     have e7:a'.eval (.tmp 7)=.pointer (some ⟨w.heap.size,0,none⟩):=hF.evalB 7 (by kernel_rfl)
     refine wp_value (v:=.pointer (some ⟨w.heap.size,0,none⟩)) ?_ (h _ _ (Ex.refl _ _ _) rfl)
     generalize a'.eval=ev at e7 ⊢
     go_simp
   · -- 4 load
     intro a' w' hR hF hK K h
     have e13:a'.eval (.tmp 13)=.pointer (some ⟨w.heap.size,0,none⟩):=hK { on:=3,ground:=.data } (by simp) rfl (by show(3:Nat) < 21;omega)
     obtain⟨d0,d1,d2,d3,d4,d5⟩:=HQ.out w' hR
     refine wp_value (v:=.int .i64 d.kind) ?_ (h _ _ (Ex.refl _ _ _) rfl)
     generalize a'.eval=ev at e13 ⊢
     go_simp
   · -- 5 fieldAddr
     intro a' w' hR hF hK K h
     have e7:a'.eval (.tmp 7)=.pointer (some ⟨w.heap.size,0,none⟩):=hF.evalB 7 (by kernel_rfl)
     refine wp_value (v:=.pointer (some ⟨w.heap.size,1,none⟩)) ?_ (h _ _ (Ex.refl _ _ _) rfl)
     generalize a'.eval=ev at e7 ⊢
     go_simp
   · -- 6 load
     intro a' w' hR hF hK K h
     have e15:a'.eval (.tmp 15)=.pointer (some ⟨w.heap.size,1,none⟩):=hK { on:=5,ground:=.data } (by simp) rfl (by show(5:Nat) < 21;omega)
     obtain⟨d0,d1,d2,d3,d4,d5⟩:=HQ.out w' hR
     refine wp_value (v:=.int .i64 d.a) ?_ (h _ _ (Ex.refl _ _ _) rfl)
     generalize a'.eval=ev at e15 ⊢
     go_simp
   · -- 7 fieldAddr
     intro a' w' hR hF hK K h
     have e7:a'.eval (.tmp 7)=.pointer (some ⟨w.heap.size,0,none⟩):=hF.evalB 7 (by kernel_rfl)
     refine wp_value (v:=.pointer (some ⟨w.heap.size,2,none⟩)) ?_ (h _ _ (Ex.refl _ _ _) rfl)
     generalize a'.eval=ev at e7 ⊢
     go_simp
   · -- 8 load
     intro a' w' hR hF hK K h
     have e17:a'.eval (.tmp 17)=.pointer (some ⟨w.heap.size,2,none⟩):=hK { on:=7,ground:=.data } (by simp) rfl (by show(7:Nat) < 21;omega)
     obtain⟨d0,d1,d2,d3,d4,d5⟩:=HQ.out w' hR
     refine wp_value (v:=.int .i64 d.b) ?_ (h _ _ (Ex.refl _ _ _) rfl)
     generalize a'.eval=ev at e17 ⊢
     go_simp
   · -- 9 fieldAddr
     intro a' w' hR hF hK K h
     have e7:a'.eval (.tmp 7)=.pointer (some ⟨w.heap.size,0,none⟩):=hF.evalB 7 (by kernel_rfl)
     refine wp_value (v:=.pointer (some ⟨w.heap.size,3,none⟩)) ?_ (h _ _ (Ex.refl _ _ _) rfl)
     generalize a'.eval=ev at e7 ⊢
     go_simp
   · -- 10 load
     intro a' w' hR hF hK K h
     have e19:a'.eval (.tmp 19)=.pointer (some ⟨w.heap.size,3,none⟩):=hK { on:=9,ground:=.data } (by simp) rfl (by show(9:Nat) < 21;omega)
     obtain⟨d0,d1,d2,d3,d4,d5⟩:=HQ.out w' hR
     refine wp_value (v:=.int .i64 d.c) ?_ (h _ _ (Ex.refl _ _ _) rfl)
     generalize a'.eval=ev at e19 ⊢
     go_simp
   · -- 11 buildSlice
     intro a' w' hR hF hK K h
     refine wp_value (v:=.slice (some ⟨w'.heap.size,0,none⟩) 0 0) (w':=w'.alloc (.cells #[] 3)) ?_ (h _ _ (Ex.new _ _) ⟨_,rfl,hR.size,heap_alloc_new _ _⟩)
     generalize a'.eval=ev
     go_simp
   · -- 12 fieldAddr
     intro a' w' hR hF hK K h
     have e7:a'.eval (.tmp 7)=.pointer (some ⟨w.heap.size,0,none⟩):=hF.evalB 7 (by kernel_rfl)
     refine wp_value (v:=.pointer (some ⟨w.heap.size,4,none⟩)) ?_ (h _ _ (Ex.refl _ _ _) rfl)
     generalize a'.eval=ev at e7 ⊢
     go_simp
   · -- 13 load
     intro a' w' hR hF hK K h
     have e22:a'.eval (.tmp 22)=.pointer (some ⟨w.heap.size,4,none⟩):=hK { on:=12,ground:=.data } (by simp) rfl (by show(12:Nat) < 21;omega)
     obtain⟨d0,d1,d2,d3,d4,d5⟩:=HQ.out w' hR
     refine wp_value (v:=.slice lo n1 lc) ?_ (h _ _ (Ex.refl _ _ _) rfl)
     generalize a'.eval=ev at e22 ⊢
     go_simp
   · -- 14 call
     intro a' w' hR hF hK K h
     have F21:=hK { on:=11,ground:=.data } (by simp) rfl (by show(11:Nat) < 21;omega)
     have e23:a'.eval (.tmp 23)=.slice lo n1 lc:=hK { on:=13,ground:=.data } (by simp) rfl (by show(13:Nat) < 21;omega)
     obtain⟨b,e21,hb,hbe⟩:=F21
     exact wp_appN rfl (.tmp 21) (.tmp 23) 22 3 (by rfl) Tryz.underlying22 _ 1 8 Tryz.infoInt rfl (by decide) (by decide) iE iE_len one_iE w0.heap.size b e21 hb hbe lo n1 lc e23 d.list HN.out.1 (ints_srcE (sl_ints (HLX.out w' hR).1)) (by omega) hR.size (fun v w'' hx hf=>h v w'' hx hf)
   · -- 15 buildSlice
     intro a' w' hR hF hK K h
     refine wp_value (v:=.slice (some ⟨w'.heap.size,0,none⟩) 0 0) (w':=w'.alloc (.cells #[] 77)) ?_ (h _ _ (Ex.new _ _) ⟨_,rfl,hR.size,heap_alloc_new _ _⟩)
     generalize a'.eval=ev
     go_simp
   · -- 16 fieldAddr
     intro a' w' hR hF hK K h
     have e7:a'.eval (.tmp 7)=.pointer (some ⟨w.heap.size,0,none⟩):=hF.evalB 7 (by kernel_rfl)
     refine wp_value (v:=.pointer (some ⟨w.heap.size,5,none⟩)) ?_ (h _ _ (Ex.refl _ _ _) rfl)
     generalize a'.eval=ev at e7 ⊢
     go_simp
   · -- 17 load
     intro a' w' hR hF hK K h
     have e26:a'.eval (.tmp 26)=.pointer (some ⟨w.heap.size,5,none⟩):=hK { on:=16,ground:=.data } (by simp) rfl (by show(16:Nat) < 21;omega)
     obtain⟨d0,d1,d2,d3,d4,d5⟩:=HQ.out w' hR
     refine wp_value (v:=.slice po n2 pc) ?_ (h _ _ (Ex.refl _ _ _) rfl)
     generalize a'.eval=ev at e26 ⊢
     go_simp
   · -- 18 call
     intro a' w' hR hF hK K h
     have F25:=hK { on:=15,ground:=.data } (by simp) rfl (by show(15:Nat) < 21;omega)
     have e27:a'.eval (.tmp 27)=.slice po n2 pc:=hK { on:=17,ground:=.data } (by simp) rfl (by show(17:Nat) < 21;omega)
     obtain⟨b,e25,hb,hbe⟩:=F25
     exact wp_appN rfl (.tmp 25) (.tmp 27) 33 77 (by rfl) Tryz.underlying33 _ 3 32 Tryz.infoPin rfl (by decide) (by decide) pinE pinE_len one_pinE w0.heap.size b e25 hb hbe po n2 pc e27 d.pins HN.out.2 (pin_src (HLX.out w' hR).2) (by omega) hR.size (fun v w'' hx hf=>h v w'' hx hf)
   · -- 19 build
     intro a' w' hR hF hK K h
     have e10:a'.eval (.tmp 10)=.int .i64 a:=hK { on:=0,ground:=.data } (by simp) rfl (by show(0:Nat) < 21;omega)
     have e11:a'.eval (.tmp 11)=.int .i64 n:=hK { on:=1,ground:=.data } (by simp) rfl (by show(1:Nat) < 21;omega)
     have e12:a'.eval (.tmp 12)=.int .i64 t:=hK { on:=2,ground:=.data } (by simp) rfl (by show(2:Nat) < 21;omega)
     have e14:a'.eval (.tmp 14)=.int .i64 d.kind:=hK { on:=4,ground:=.data } (by simp) rfl (by show(4:Nat) < 21;omega)
     have e16:a'.eval (.tmp 16)=.int .i64 d.a:=hK { on:=6,ground:=.data } (by simp) rfl (by show(6:Nat) < 21;omega)
     have e18:a'.eval (.tmp 18)=.int .i64 d.b:=hK { on:=8,ground:=.data } (by simp) rfl (by show(8:Nat) < 21;omega)
     have e20:a'.eval (.tmp 20)=.int .i64 d.c:=hK { on:=10,ground:=.data } (by simp) rfl (by show(10:Nat) < 21;omega)
     have F24:=hK { on:=14,ground:=.data } (by simp) rfl (by show(14:Nat) < 21;omega)
     have F28:=hK { on:=18,ground:=.data } (by simp) rfl (by show(18:Nat) < 21;omega)
     obtain⟨ao,ac,e24,ho⟩:=F24
     obtain⟨qo,qc,e28,hq⟩:=F28
     replace e24:a'.eval (.tmp 24)=.slice ao n1 ac:=e24
     replace e28:a'.eval (.tmp 28)=.slice qo n2 qc:=e28
     refine wp_value (v:=stV (millU a n t d ⟨#[]⟩,⟨ao,n1,ac⟩,⟨qo,n2,qc⟩)) ?_ (h _ _ (Ex.refl _ _ _) ⟨ao,ac,qo,qc,rfl,ho,hq⟩)
     generalize a'.eval=ev at e10 e11 e12 e14 e16 e18 e20 e24 e28 ⊢
     go_simp
     rfl
   · -- 20 alloc
     intro a' w' hR hF hK K h
     refine wp_value (v:=.pointer (some ⟨w'.heap.size,0,none⟩)) (w':=w'.alloc (.cells #[.int .i64 0,.int .i64 0,.string ⟨#[]⟩,.int .i64 0,.int .i64 0,.int .i64 0,.int .i64 0,.int .i64 0,.slice none 0 0,.slice none 0 0,.string ⟨#[]⟩,.int .i64 0,.string ⟨#[]⟩] 51)) ?_ (h _ _ (Ex.new _ _) ⟨_,rfl,hR.size,heap_alloc_new _ _⟩)
     generalize a'.eval=ev
     go_simp
 · intro a' w' hR hF hI
   obtain⟨g,e9,hg,hgb⟩:=hI 20 (by show(20:Nat) < 21;omega)
   obtain⟨ao,ac,qo,qc,e29,ho,hq⟩:=hI 19 (by show(19:Nat) < 21;omega)
   replace e9:a'.eval (.tmp 9)=.pointer (some ⟨g,0,none⟩):=e9
   replace e29:a'.eval (.tmp 29)=stV (millU a n t d ⟨#[]⟩,⟨ao,n1,ac⟩,⟨qo,n2,qc⟩):=e29
   obtain⟨u21,e21⟩:∃u,a'.eval (.tmp 21)=u:=⟨_,rfl⟩
   obtain⟨u24,e24⟩:∃u,a'.eval (.tmp 24)=u:=⟨_,rfl⟩
   obtain⟨u25,e25⟩:∃u,a'.eval (.tmp 25)=u:=⟨_,rfl⟩
   obtain⟨u28,e28⟩:∃u,a'.eval (.tmp 28)=u:=⟨_,rfl⟩
   have e0:a'.eval (.tmp 0)=.int .i64 a:=hF.evalB 0 (by kernel_rfl)
   have e1:a'.eval (.tmp 1)=.int .i64 n:=hF.evalB 1 (by kernel_rfl)
   have e2:a'.eval (.tmp 2)=.int .i64 t:=hF.evalB 2 (by kernel_rfl)
   have e3:a'.eval (.tmp 3)=drV (d,⟨lo,n1,lc⟩,⟨po,n2,pc⟩):=hF.evalB 3 (by kernel_rfl)
   have e4:a'.eval (.tmp 4)=undef:=hF.evalB 4 (by kernel_rfl)
   have e5:a'.eval (.tmp 5)=undef:=hF.evalB 5 (by kernel_rfl)
   have e6:a'.eval (.tmp 6)=undef:=hF.evalB 6 (by kernel_rfl)
   have e7:a'.eval (.tmp 7)=.pointer (some ⟨w.heap.size,0,none⟩):=hF.evalB 7 (by kernel_rfl)
   have e8:a'.eval (.tmp 8)=.pointer (some ⟨w.heap.size+1,0,none⟩):=hF.evalB 8 (by kernel_rfl)
   have e10:a'.eval (.tmp 10)=.int .i64 a:=hI 0 (by show(0:Nat) < 21;omega)
   have e11:a'.eval (.tmp 11)=.int .i64 n:=hI 1 (by show(1:Nat) < 21;omega)
   have e12:a'.eval (.tmp 12)=.int .i64 t:=hI 2 (by show(2:Nat) < 21;omega)
   have e13:a'.eval (.tmp 13)=.pointer (some ⟨w.heap.size,0,none⟩):=hI 3 (by show(3:Nat) < 21;omega)
   have e14:a'.eval (.tmp 14)=.int .i64 d.kind:=hI 4 (by show(4:Nat) < 21;omega)
   have e15:a'.eval (.tmp 15)=.pointer (some ⟨w.heap.size,1,none⟩):=hI 5 (by show(5:Nat) < 21;omega)
   have e16:a'.eval (.tmp 16)=.int .i64 d.a:=hI 6 (by show(6:Nat) < 21;omega)
   have e17:a'.eval (.tmp 17)=.pointer (some ⟨w.heap.size,2,none⟩):=hI 7 (by show(7:Nat) < 21;omega)
   have e18:a'.eval (.tmp 18)=.int .i64 d.b:=hI 8 (by show(8:Nat) < 21;omega)
   have e19:a'.eval (.tmp 19)=.pointer (some ⟨w.heap.size,3,none⟩):=hI 9 (by show(9:Nat) < 21;omega)
   have e20:a'.eval (.tmp 20)=.int .i64 d.c:=hI 10 (by show(10:Nat) < 21;omega)
   have e22:a'.eval (.tmp 22)=.pointer (some ⟨w.heap.size,4,none⟩):=hI 12 (by show(12:Nat) < 21;omega)
   have e23:a'.eval (.tmp 23)=.slice lo n1 lc:=hI 13 (by show(13:Nat) < 21;omega)
   have e26:a'.eval (.tmp 26)=.pointer (some ⟨w.heap.size,5,none⟩):=hI 16 (by show(16:Nat) < 21;omega)
   have e27:a'.eval (.tmp 27)=.slice po n2 pc:=hI 17 (by show(17:Nat) < 21;omega)
   have e30:a'.eval (.tmp 30)=undef:=hF.evalB 30 (by kernel_rfl)
   have e31:a'.eval (.tmp 31)=undef:=hF.evalB 31 (by kernel_rfl)
   have e32:a'.eval (.tmp 32)=undef:=hF.evalB 32 (by kernel_rfl)
   have e33:a'.eval (.tmp 33)=undef:=hF.evalB 33 (by kernel_rfl)
   have e34:a'.eval (.tmp 34)=undef:=hF.evalB 34 (by kernel_rfl)
   have e35:a'.eval (.tmp 35)=undef:=hF.evalB 35 (by kernel_rfl)
   have e36:a'.eval (.tmp 36)=undef:=hF.evalB 36 (by kernel_rfl)
   have ha:=act_eta a'
   rw [show a'.tmps.size=37 from hF.2.1,show a'.defers=[] from hF.2.2,show List.range 37=[0,1,2,3,4,5,6,7,8,9,10,11,12,13,14,15,16,17,18,19,20,21,22,23,24,25,26,27,28,29,30,31,32,33,34,35,36] from rfl] at ha
   simp only [List.map_cons,List.map_nil,e0,e1,e2,e3,e4,e5,e6,e7,e8,e9,e10,e11,e12,e13,e14,e15,e16,e17,e18,e19,e20,e21,e22,e23,e24,e25,e26,e27,e28,e29,e30,e31,e32,e33,e34,e35,e36] at ha
   rw [ha]
   clear ha hF hI e0 e1 e2 e3 e4 e5 e6 e7 e8 e9 e10 e11 e12 e13 e14 e15 e16 e17 e18 e19 e20 e21 e22 e23 e24 e25 e26 e27 e28 e29 e30 e31 e32 e33 e34 e35 e36
   refine wpAny_drop (n:=21) (by kernel_rfl) ?_
   have hst: (rowStore 51 ⟨g,0,none⟩ (stV (millU a n t d ⟨#[]⟩,⟨ao,n1,ac⟩,⟨qo,n2,qc⟩))).run Tryz.prog w' =.ok () (w'.setRow g (stV (millU a n t d ⟨#[]⟩,⟨ao,n1,ac⟩,⟨qo,n2,qc⟩)).cells):=run_rowStore (P:=Tryz.prog) w' g 51 51 #[.int .i64 0,.int .i64 0,.string ⟨#[]⟩,.int .i64 0,.int .i64 0,.int .i64 0,.int .i64 0,.int .i64 0,.slice none 0 0,.slice none 0 0,.string ⟨#[]⟩,.int .i64 0,.string ⟨#[]⟩] (stV (millU a n t d ⟨#[]⟩,⟨ao,n1,ac⟩,⟨qo,n2,qc⟩)).cells hgb Tryz.sizeStv rfl (stV_one _)
   obtain⟨wc,hwc⟩:∃wc:World,wc=w'.setRow g (stV (millU a n t d ⟨#[]⟩,⟨ao,n1,ac⟩,⟨qo,n2,qc⟩)).cells:=⟨_,rfl⟩
   rw [←hwc] at hst
   have HGC:Hid (wc.heap[g]? =some (.cells (stV (millU a n t d ⟨#[]⟩,⟨ao,n1,ac⟩,⟨qo,n2,qc⟩)).cells 51 (0,0))):=Lib.hid (by rw [hwc];exact setRow_heap _ _ _ _ _ _ hgb)
   have HEC:Hid (Ex w0.heap.size none w0 wc):=Lib.hid (by rw [hwc];exact hR.setRow _ _ (.inr hg))
   have HLC:Hid (Lies (fun b=>b≠g∧w0.heap.size≤b) wc (millU a n t d ⟨#[]⟩,⟨ao,n1,ac⟩,⟨qo,n2,qc⟩)):=Lib.hid (by
    have h1:=own_lies HN.out ho hq hgb (by decide) (by decide)
    rw [hwc]
    exact h1.keep fun b hb _=>setRow_other _ _ _ _ hb.1)
   have hgl:w.heap.size+1 < g:=by omega
   have hgc:g < wc.heap.size:=(Array.getElem?_eq_some_iff.1 HGC.out).1
   clear hgb ho hq hg hwc
   go_upto_region 2 with(fail)
   have hzc:=HEC.out.size
   have HRC:Hid (wc.heap[w.heap.size+1]? =some (.cells #[.int .i64 0,.int .i64 0,.string ⟨#[]⟩,.int .i64 0,.int .i64 0,.int .i64 0,.int .i64 0,.int .i64 0,.slice none 0 0,.slice none 0 0,.string ⟨#[]⟩,.int .i64 0,.string ⟨#[]⟩] 51 (0,0))):=Lib.hid (HB.out wc HEC.out).2
   have HEW:Hid (Ex w.heap.size none w wc):=Lib.hid (HE0.out.trans HEC.out (by omega) (by simp))
   clear hst
   by_cases n0:0 < n
   · have n0d:decide (0 < n)=true:=decide_eq_true n0
     obtain⟨i0,hi,hz0',hz1',hz2'⟩:=info_parts Tryz.infoB
     go_upto_region 4 with(first
      | (at_make
         refine wpList_make_full _ rfl (.const (.int .i64 32)) (.const (.int .i64 32)) _ rfl wc.heap.size 5 i0 _ 1 Tryz.underlying79 hi hz0' hz1' .i64 .i64 _ _ 32 rfl rfl rfl rfl (by rw [hz2'];omega) (by unfold maxLen;omega) (Nat.le_refl _) ?_
         intro w1 hown1 hgr1
         have HO1:Hid (OwnB w1 wc.heap.size (some ⟨wc.heap.size,0,none⟩) 32 (List.replicate 32 0)):=Lib.hid (by
          rw [made32] at hown1;exact hown1)
         have HE1:Hid (Ex wc.heap.size none wc w1):=Lib.hid ((Ex.refl _ _ wc).grown hgr1 (Nat.le_refl _) (by simp))
         have HG1:Hid (w1.heap[g]? =some (.cells (stV (millU a n t d ⟨#[]⟩,⟨ao,n1,ac⟩,⟨qo,n2,qc⟩)).cells 51 (0,0))):=Lib.hid ((HE1.out.block _ hgc (by simp)).trans HGC.out)
         have hz1:wc.heap.size≤w1.heap.size:=HE1.out.size
         have hsl:Sl byRep (fun _=>True) w1 (.slice (some ⟨wc.heap.size,0,none⟩) 32 32) (List.replicate 32 (0:UInt8)):=⟨_,32,rfl,val_sl trivial (by simpa using OwnE.holds byE_len HO1.out)⟩
         obtain⟨z,hz⟩:∃z,z=strOf (List.replicate 32 (0:UInt8)):=⟨_,rfl⟩
         have HZ:Hid (z.size=32∧strOf (List.replicate 32 (0:UInt8))=z):=Lib.hid ⟨by rw [hz,strOf_size];rfl,hz.symm⟩
         have hconv:=run_strOf (P:=Tryz.prog) (src:=79) (dst:=9) hsl Tryz.underlying79 Tryz.underlying5 Tryz.underlying9
         rw [←hz] at hconv
         clear hown1 hgr1 hsl hz
         obtain⟨⟨q0,q1,q2,q3,q4,q5,q6,q7,q8,q9,q10,q11,q12⟩,fz⟩:=st_block HG1.out)
      | fail)
     clear hconv q0 q1 q2 q3 q4 q5 q6 q7 q8 q9 q10 q11 q12 fz
     obtain⟨w2,hw2⟩:∃w2:World,w2=w1.setCell ⟨g,2,none⟩ (.string z):=⟨_,rfl⟩
     have HG2:Hid (w2.heap[g]? =some (.cells (stV (millU a n t d z,⟨ao,n1,ac⟩,⟨qo,n2,qc⟩)).cells 51 (0,0))):=Lib.hid (by rw [hw2,heap_setCell_same _ _ _ _ _ _ HG1.out];rfl)
     have HR2:Hid (w2.heap[w.heap.size+1]? =some (.cells #[.int .i64 0,.int .i64 0,.string ⟨#[]⟩,.int .i64 0,.int .i64 0,.int .i64 0,.int .i64 0,.int .i64 0,.slice none 0 0,.slice none 0 0,.string ⟨#[]⟩,.int .i64 0,.string ⟨#[]⟩] 51 (0,0))):=Lib.hid (by rw [hw2];exact set_far (by omega) ((HE1.out.block _ (by omega) (by simp)).trans HRC.out))
     have HL2:Hid (Lies (fun b=>b≠g∧w0.heap.size≤b) w2 (millU a n t d z,⟨ao,n1,ac⟩,⟨qo,n2,qc⟩)):=Lib.hid (by
      rw [hw2]
      exact Lies.keep (Lies.keep HLC.out fun b _ hb=>HE1.out.block b hb (by simp)) fun b hb _=>set_far hb.1 rfl)
     have HE2:Hid (Ex w.heap.size none w w2):=Lib.hid (by
      rw [hw2]
      refine Ex.setCell ?_ _ none _ (Or.inr (by omega))
      exact HEW.out.trans HE1.out (by omega) (by simp))
     have hz2:w2.heap.size=w1.heap.size:=by rw [hw2];simp
     have HMS:Hid (millS a n t d=sealS (millU a n t d z)):=Lib.hid (by unfold millS;rw [if_pos n0,HZ.out.2])
     have HZS:Hid (z.size≤32):=Lib.hid (by rw [HZ.out.1];exact Nat.le_refl _)
     rw [←hw2]
     clear hw2
     have r9: (rowLoad 51 ⟨g,0,none⟩).run Tryz.prog w2=.ok (stV (millU a n t d z,⟨ao,n1,ac⟩,⟨qo,n2,qc⟩)) w2:=stV_box HG2.out
     go_wp2_with (first
      | (go_at_call 34
         refine(seal03_any (millU a n t d z) ao qo n1 ac n2 qc w2 HL2.out (HTM.out _ HZS.out)).mono ?_
         rintro e w5 ⟨lb,nb,cb,pb,mb,db,he,hl5,hex5⟩
         have he2:e=.returned (stV (sealS (millU a n t d z),⟨lb,nb,cb⟩,⟨pb,mb,db⟩)):=he
         subst he2
         have HL5:Hid (Lies (fun b=>w2.heap.size≤b) w5 (sealS (millU a n t d z),⟨lb,nb,cb⟩,⟨pb,mb,db⟩)):=Lib.hid hl5
         have HE5:Hid (Ex w.heap.size none w w5):=Lib.hid (HE2.out.thenW hex5)
         have HR5:Hid (w5.heap[w.heap.size+1]? =some (.cells #[.int .i64 0,.int .i64 0,.string ⟨#[]⟩,.int .i64 0,.int .i64 0,.int .i64 0,.int .i64 0,.int .i64 0,.slice none 0 0,.slice none 0 0,.string ⟨#[]⟩,.int .i64 0,.string ⟨#[]⟩] 51 (0,0))):=Lib.hid ((hex5.block _ (by omega) (by simp)).trans HR2.out)
         have hst5: (rowStore 51 ⟨w.heap.size+1,0,none⟩ (stV (sealS (millU a n t d z),⟨lb,nb,cb⟩,⟨pb,mb,db⟩))).run Tryz.prog w5=.ok () (w5.setRow (w.heap.size+1) (stE (sealS (millU a n t d z),⟨lb,nb,cb⟩,⟨pb,mb,db⟩)).toArray):=run_rowStore (P:=Tryz.prog) w5 (w.heap.size+1) 51 51 #[.int .i64 0,.int .i64 0,.string ⟨#[]⟩,.int .i64 0,.int .i64 0,.int .i64 0,.int .i64 0,.int .i64 0,.slice none 0 0,.slice none 0 0,.string ⟨#[]⟩,.int .i64 0,.string ⟨#[]⟩] (stV (sealS (millU a n t d z),⟨lb,nb,cb⟩,⟨pb,mb,db⟩)).cells HR5.out Tryz.sizeStv rfl (stV_one _)
         clear he hl5 hex5 r9)
      | fail)
     refine bodyPost_ret (v:=stV (sealS (millU a n t d z),⟨lb,nb,cb⟩,⟨pb,mb,db⟩)) (results_cell_row rfl _ _ (w.heap.size+1) 51 (stE (sealS (millU a n t d z),⟨lb,nb,cb⟩,⟨pb,mb,db⟩)).toArray (0,0) _ (by rfl) (setRow_heap _ _ _ _ _ _ HR5.out) Tryz.underlying51 rfl Tryz.sizeStv) rfl ?_
     exact⟨⟨(sealS (millU a n t d z),⟨lb,nb,cb⟩,⟨pb,mb,db⟩),rfl,by rw [HMS.out],(HL5.out.keep fun b hb _=>setRow_other _ _ _ _ (by omega)).mono fun b hb _=>by omega⟩,HE5.out.setRow _ _ (.inr (by omega))⟩
   · have n0d:decide (0 < n)=false:=decide_eq_false n0
     have HMS:Hid (millS a n t d=sealS (millU a n t d ⟨#[]⟩)):=Lib.hid (by unfold millS;rw [if_neg n0])
     have HZS:Hid ((⟨#[]⟩:ByteArray).size≤32):=Lib.hid (Nat.zero_le 32)
     clear n0
     have r9: (rowLoad 51 ⟨g,0,none⟩).run Tryz.prog wc=.ok (stV (millU a n t d ⟨#[]⟩,⟨ao,n1,ac⟩,⟨qo,n2,qc⟩)) wc:=stV_box HGC.out
     go_wp2_with (first
      | (go_at_call 34
         refine(seal03_any (millU a n t d ⟨#[]⟩) ao qo n1 ac n2 qc wc HLC.out (HTM.out _ HZS.out)).mono ?_
         rintro e w5 ⟨lb,nb,cb,pb,mb,db,he,hl5,hex5⟩
         have he2:e=.returned (stV (sealS (millU a n t d ⟨#[]⟩),⟨lb,nb,cb⟩,⟨pb,mb,db⟩)):=he
         subst he2
         have HL5:Hid (Lies (fun b=>wc.heap.size≤b) w5 (sealS (millU a n t d ⟨#[]⟩),⟨lb,nb,cb⟩,⟨pb,mb,db⟩)):=Lib.hid hl5
         have HE5:Hid (Ex w.heap.size none w w5):=Lib.hid (HEW.out.thenW hex5)
         have HR5:Hid (w5.heap[w.heap.size+1]? =some (.cells #[.int .i64 0,.int .i64 0,.string ⟨#[]⟩,.int .i64 0,.int .i64 0,.int .i64 0,.int .i64 0,.int .i64 0,.slice none 0 0,.slice none 0 0,.string ⟨#[]⟩,.int .i64 0,.string ⟨#[]⟩] 51 (0,0))):=Lib.hid ((hex5.block _ (by omega) (by simp)).trans HRC.out)
         have hst5: (rowStore 51 ⟨w.heap.size+1,0,none⟩ (stV (sealS (millU a n t d ⟨#[]⟩),⟨lb,nb,cb⟩,⟨pb,mb,db⟩))).run Tryz.prog w5=.ok () (w5.setRow (w.heap.size+1) (stE (sealS (millU a n t d ⟨#[]⟩),⟨lb,nb,cb⟩,⟨pb,mb,db⟩)).toArray):=run_rowStore (P:=Tryz.prog) w5 (w.heap.size+1) 51 51 #[.int .i64 0,.int .i64 0,.string ⟨#[]⟩,.int .i64 0,.int .i64 0,.int .i64 0,.int .i64 0,.int .i64 0,.slice none 0 0,.slice none 0 0,.string ⟨#[]⟩,.int .i64 0,.string ⟨#[]⟩] (stV (sealS (millU a n t d ⟨#[]⟩),⟨lb,nb,cb⟩,⟨pb,mb,db⟩)).cells HR5.out Tryz.sizeStv rfl (stV_one _)
         clear he hl5 hex5 r9)
      | fail)
     refine bodyPost_ret (v:=stV (sealS (millU a n t d ⟨#[]⟩),⟨lb,nb,cb⟩,⟨pb,mb,db⟩)) (results_cell_row rfl _ _ (w.heap.size+1) 51 (stE (sealS (millU a n t d ⟨#[]⟩),⟨lb,nb,cb⟩,⟨pb,mb,db⟩)).toArray (0,0) _ (by rfl) (setRow_heap _ _ _ _ _ _ HR5.out) Tryz.underlying51 rfl Tryz.sizeStv) rfl ?_
     exact⟨⟨(sealS (millU a n t d ⟨#[]⟩),⟨lb,nb,cb⟩,⟨pb,mb,db⟩),rfl,by rw [HMS.out],(HL5.out.keep fun b hb _=>setRow_other _ _ _ _ (by omega)).mono fun b hb _=>by omega⟩,HE5.out.setRow _ _ (.inr (by omega))⟩
end
section
attribute [local go_sem ↓] rowLoad_stv rowStore_stv
def LoA (l:List St) (x:St) (i:Nat):Prop:=∀(t:Nat) (y:St),t < i→l[t]? =some y→ltA y x=true
def HiA (l:List St) (x:St) (j:Nat):Prop:=∀(t:Nat) (y:St),j≤t→l[t]? =some y→ltA y x=false
def SearchR (l:List St) (x:St) (k:Nat) (b:Bool):Prop:=k≤l.length∧LoA l x k∧HiA l x k∧(b=true ↔ ∃y,l[k]? =some y∧cmpA y x=0)
end
end Go.Proofs.YtflhidfclfkjlaaGreat
namespace Go.Proofs.YtflhidfclfkjlaaGreat
open Go.RowKit Go.Sort Go.Lib
section
section
variable {P:Program}
end
end
end Go.Proofs.YtflhidfclfkjlaaGreat
namespace Go.Proofs.YtflhidfclfkjlaaGreat
open Go.RowKit Go.Sort
section
section
variable {α:Type} {enc:α→List Value} {k:Nat}
end
end
section
theorem rowBuild_stv (n:Nat) (ps:Array (Nat×Value)):Instr.buildSlice 27 n ps=rowBuild 27 n ps:=rfl
attribute [local go_sem ↓] rowLoad_stv rowStore_stv rowBuild_stv
def putA (l:List St) (x:St) (k:Nat) (b:Bool):List St:=if b then l else l.take k ++ [x] ++ l.drop k
end
theorem lit_slN {P:Nat→Prop} {w:World} {g:Nat} {xs:List (St×Sv×Sv)} {t:TypeId} {fr:Nat×Nat} (hP:P g) (h:w.heap[g]? =some (.cells (flatL stE xs).toArray t fr)) (hl:∀x∈xs,Lies P w x):SlAt stRep P w (some ⟨g,0,none⟩) (xs.map (·.1)):=fun i hi=>by
 have hi' :i < xs.length:=by simpa using hi
 refine⟨g,0,stE xs[i],rfl,hP,fun j v hj=>?_,xs[i].2.1,xs[i].2.2,by simp,by simpa using hl _ (List.getElem_mem hi')⟩
 rw [cell_of_row _ _ _ _ _ _ h]
 have hl:=(List.getElem?_eq_some_iff.1 hj).1
 rw [stE_len] at hl
 show(flatL stE xs).toArray[0+i * 13+j]? =some v
 rw [List.getElem?_toArray,Nat.zero_add,flatL_get stE_len xs i j hi' hl]
 exact hj
theorem stV_litN1 (w:World) (x:St×Sv×Sv): (rowBuild 27 1 #[(0,stV x)]).run Tryz.prog w=.ok (.slice (some ⟨w.heap.size,0,none⟩) 1 1) (w.alloc (.cells (flatL stE [x]).toArray 51)):=by
 obtain⟨i0,hi,hz0,hz1,hz2⟩:=info_parts Tryz.infoSt
 refine run_buildSlice w 27 51 1 _ (flatL stE [x]).toArray i0 _ Tryz.underlying27 hi hz0 (by rw [hz1];omega) (by rw [hz1];omega) ?_
 rw [hz1]
 kernel_rfl
theorem stV_litN2 (w:World) (x y:St×Sv×Sv): (rowBuild 27 2 #[(0,stV x),(1,stV y)]).run Tryz.prog w=.ok (.slice (some ⟨w.heap.size,0,none⟩) 2 2) (w.alloc (.cells (flatL stE [x,y]).toArray 51)):=by
 obtain⟨i0,hi,hz0,hz1,hz2⟩:=info_parts Tryz.infoSt
 refine run_buildSlice w 27 51 2 _ (flatL stE [x,y]).toArray i0 _ Tryz.underlying27 hi hz0 (by rw [hz1];omega) (by rw [hz1];omega) ?_
 rw [hz1]
 kernel_rfl
theorem stV_litN3 (w:World) (x y z:St×Sv×Sv): (rowBuild 27 3 #[(0,stV x),(1,stV y),(2,stV z)]).run Tryz.prog w=.ok (.slice (some ⟨w.heap.size,0,none⟩) 3 3) (w.alloc (.cells (flatL stE [x,y,z]).toArray 51)):=by
 obtain⟨i0,hi,hz0,hz1,hz2⟩:=info_parts Tryz.infoSt
 refine run_buildSlice w 27 51 3 _ (flatL stE [x,y,z]).toArray i0 _ Tryz.underlying27 hi hz0 (by rw [hz1];omega) (by rw [hz1];omega) ?_
 rw [hz1]
 kernel_rfl
end Go.Proofs.YtflhidfclfkjlaaGreat

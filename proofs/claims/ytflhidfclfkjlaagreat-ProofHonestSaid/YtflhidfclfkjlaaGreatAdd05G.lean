/- ref05.Add at a valid store: a contract. No statement of the seat. -/
import Derived.Test.YtflhidfclfkjlaaGreatMg15
import Derived.Test.YtflhidfclfkjlaaGreatPut05G
namespace Go.Proofs.YtflhidfclfkjlaaGreat
open Go.RowKit Go.Sort
theorem sto_store {w:World} {g:Nat} {old:Array Value} (h:w.heap[g]? =some (.cells old 29 (0,0))) (ho:old.size=1) (v:Value) (hv:v.oneCell' =true): (rowStore 29 ⟨g,0,none⟩ (.agg #[v])).run Tryz.prog w=.ok () (w.setRow g #[v]) :=
 run_rowStore (P:=Tryz.prog) w g 29 29 old #[v] h Tryz.sizeSto ho (by simp [hv])
theorem put05_v {P:Nat→Prop} (ro:Option Addr) (n rc:Nat) (acc:List St) (y:St×Sv×Sv) (g0 base:Nat) (w:World) (hn:acc.length=n) (hown:OwnZ g0 base w ro rc acc) (hg0:g0 < w.heap.size) (hls:Lies P w y) (hbase:base≤w.heap.size) (hm:acc.length≤100000) (hla:LightL 1000000 acc) (hm1:y.1.list.length≤1000000∧y.1.pins.length≤1000000) :
 Calls Tryz.prog 84 #[.slice ro n rc,stV y] w fun e w'=>∃ro' rc' b,e=.returned (.tuple #[.slice ro' (put05 acc y.1).length rc',.bool b])∧OwnZ g0 base w' ro' rc' (put05 acc y.1)∧Ex w.heap.size none w w':=by
 subst hn
 obtain⟨s,⟨lo,ln,lc⟩,⟨po,pn,pc⟩⟩:=y
 exact put05_any ro rc acc s lo po ln lc pn pc g0 base w hown hg0 hls hbase hm hla hm1
theorem results_row3 {fn:Func} {p u q:Tmp} {t:TypeId} (h:fn.results=#[.cell p t,.tmp u,.tmp q]) (tmps:Array Value) (w:World) {a:Addr} {v u' q' :Value} (ha:tmps.getD p undef=.pointer (some a)) (hu:tmps.getD u undef=u') (hq:tmps.getD q undef=q') (hr: (loadVar t a).run Tryz.prog w=.ok v w): (results fn tmps).run Tryz.prog w=.ok (.tuple #[v,u',q']) w:=by
 have e: (asAddr (.pointer (some a))).run Tryz.prog w=.ok a w:=rfl
 rw [Array.getD_eq_getD_getElem?] at ha hu hq
 simp only [results,h]
 simp [Sem.run_bind]
 rw [ha,hu,hq,e]
 simp only [Result.andThen_ok,hr]
theorem OwnZ.low {g base:Nat} {w:World} {ao:Option Addr} {cap:Nat} {l:List St} (h:OwnS w base ao cap l) (hg:g < base):OwnZ g base w ao cap l :=
 ⟨OwnG.monoG (G:=fun b=>base≤b) h fun b hb hlt=>⟨hb,by omega⟩,fun e=>by have:=OwnG.row_ge (G:=fun b=>base≤b) h g e;omega⟩
def AddE (l:List St) (s:St) (base:Nat) (e:Ending) (w' :World):Prop:=∃(ro:Option Addr) (k rc:Nat) (b:Bool) (c:Int) (l' :List St),e=.returned (.tuple #[.agg #[.slice ro k rc],.bool b,.int .i64 c])∧(c=0→l' =put05 l s∧checkI s=0∧sealedB s=true∧l'.length=k∧k≤1000∧OwnS w' base ro rc l')
attribute [local go_sem ↓] rowLoad_stv rowStore_stv rowLoad_sto rowStore_sto
set_option maxHeartbeats 16000000 in
set_option maxRecDepth 100000 in
theorem add05_any {P P' :Nat→Prop} (ao:Option Addr) (n cap:Nat) (l:List St) (y:St×Sv×Sv) (w:World) (hn:l.length=n) (hx:SlAt stRep P w ao l) (hvl:validB l=true) (hl:LightL 1000000 l) (hy:Lies P' w y) (hty:Tame y.1) :
 Calls Tryz.prog 51 #[.agg #[.slice ao n cap],stV y] w fun e w'=>AddE l y.1 w.heap.size e w'∧Ex w.heap.size none w w':=by
 have HN:=Lib.hid hn
 have HX:=Lib.hid hx
 have HVL:=Lib.hid hvl
 have HL:=Lib.hid hl
 have HY:=Lib.hid hy
 have HT:=Lib.hid hty
 have hn1:n≤1000:=by rw [←hn];exact validB_len hvl
 have n0:=stV_new (w.alloc (.cells #[.slice ao n cap] 29)) #[.int .i64 0,.int .i64 0,.string ⟨#[]⟩,.int .i64 0,.int .i64 0,.int .i64 0,.int .i64 0,.int .i64 0,.slice none 0 0,.slice none 0 0,.string ⟨#[]⟩,.int .i64 0,.string ⟨#[]⟩] y rfl
 simp only [World.size_alloc] at n0
 obtain⟨ws,hws⟩:∃ws:World,ws= ((w.alloc (.cells #[.slice ao n cap] 29)).alloc (.cells (stV y).cells 51)).alloc (.cells #[.slice none 0 0] 29):=⟨_,rfl⟩
 have HEs:Hid (Ex w.heap.size none w ws):=Lib.hid (by rw [hws];exact((Ex.new w _).alloc (by simp) _).alloc (by simp;omega) _)
 have hzs:ws.heap.size=w.heap.size+1+1+1:=by rw [hws];simp
 have HBs:Hid (ws.heap[w.heap.size]? =some (.cells #[.slice ao n cap] 29 (0,0))∧ws.heap[w.heap.size+1]? =some (.cells (stV y).cells 51 (0,0))∧ws.heap[w.heap.size+1+1]? =some (.cells #[.slice none 0 0] 29 (0,0))):=Lib.hid (by
  rw [hws]
  refine⟨((Ex.new _ _).block _ (by simp;omega) (by simp)).trans (heap_alloc2_old _ _ _),((Ex.new _ _).block _ (by simp) (by simp)).trans (heap_alloc2_new _ _ _),?_⟩
  have e:=heap_alloc_new ((w.alloc (.cells #[.slice ao n cap] 29)).alloc (.cells (stV y).cells 51)) (.cells #[.slice none 0 0] 29)
  simp only [World.size_alloc] at e
  exact e)
 clear hn hx hvl hl hy hty
 go_enter Tryz.func51,Tryz.ntmps51
 go_upto_region 1 with(fail)
 refine wp_world (fun W=>W=ws) (by rw [hws];rfl) (fun W hW=>?_)
 rw [hW]
 clear hW W hws n0
 have l0: (rowLoad 29 ⟨w.heap.size,0,none⟩).run Tryz.prog ws=.ok (.agg #[.slice ao n cap]) ws:=sto_load (box_cell HBs.out.1)
 go_upto_region 2 with(first
  | (go_at_call 79
     refine(copy05_any (P:=P) ao n cap l ws HN.out (HX.out.keep (by decide) fun b _ hb=>HEs.out.block b hb (by simp)) (by rw [HN.out];omega) HL.out).mono ?_
     rintro e w1 ⟨ro,rc,rfl,hown,hex⟩
     have hb1:w1.heap[w.heap.size]? =some (.cells #[.slice ao n cap] 29 (0,0)):=(hex.block _ (by omega) (by simp)).trans HBs.out.1
     have hst1:=sto_store hb1 rfl (.slice ro n rc) rfl
     obtain⟨w2,hw2⟩:∃w2:World,w2=w1.setRow w.heap.size #[.slice ro n rc]:=⟨_,rfl⟩
     rw [←hw2] at hst1
     have hz12:w2.heap.size=w1.heap.size:=by rw [hw2];simp [World.setRow]
     have hz1:=hex.size
     have HO:Hid (OwnS w2 ws.heap.size ro rc l):=Lib.hid (by rw [hw2];exact hown.keepP (p:=some w.heap.size) ((Ex.refl w1.heap.size (some w.heap.size) w1).setRow _ _ (.inl rfl)) (Nat.le_refl _) (fun q h=>by cases h;omega))
     have HE2:Hid (Ex w.heap.size none w w2):=Lib.hid (by rw [hw2];exact(HEs.out.trans hex (by omega) (by simp)).setRow _ _ (.inr (Nat.le_refl _)))
     have HB2:Hid (∀w',Ex w2.heap.size none w2 w'→w'.heap[w.heap.size]? =some (.cells #[.slice ro n rc] 29 (0,0))∧(rowLoad 51 ⟨w.heap.size+1,0,none⟩).run Tryz.prog w' =.ok (stV y) w'∧w'.heap[w.heap.size+1+1]? =some (.cells #[.slice none 0 0] 29 (0,0))):=Lib.hid (fun w' h=>by
      rw [hw2] at h hz12
      refine⟨(h.block _ (by omega) (by simp)).trans (setRow_heap _ _ _ _ _ _ hb1),stV_box ((h.block _ (by omega) (by simp)).trans ((setRow_other _ _ _ _ (by omega)).trans ((hex.block _ (by omega) (by simp)).trans HBs.out.2.1))),(h.block _ (by omega) (by simp)).trans ((setRow_other _ _ _ _ (by omega)).trans ((hex.block _ (by omega) (by simp)).trans HBs.out.2.2))⟩)
     clear hown hex hw2 l0 hb1)
  | fail)
 clear hst1
 have hzw:w.heap.size+1+1 < w2.heap.size:=by omega
 have l2: (rowLoad 29 ⟨w.heap.size,0,none⟩).run Tryz.prog w2=.ok (.agg #[.slice ro n rc]) w2:=sto_load (box_cell (HB2.out w2 (Ex.refl _ _ _)).1)
 go_upto_region 4 with(first
  | (go_at_call 36
     refine(valid05_yes (P:=fun b=>ws.heap.size≤b) (.slice ro n rc) l w2 (by have h:=HO.out.sl;rwa [HN.out] at h) HVL.out).mono ?_
     rintro e w3 ⟨rfl,hex⟩
     have HE3:Hid (Ex w2.heap.size none w2 w3):=Lib.hid hex
     clear hex l2)
  | fail)
 obtain⟨b3,l3,r3⟩:=HB2.out w3 HE3.out
 clear b3 r3
 have HLY:Hid (∀w',Ex w2.heap.size none w2 w'→Lies P' w' y):=Lib.hid (fun w' h=>HY.out.keep fun b _ hb=>(h.block b (by omega) (by simp)).trans (HE2.out.block b hb (by simp)))
 by_cases r2:checkI y.1=0
 · have r2d: (checkI y.1 != 0)=false:=by simp [r2]
   have R2:=Lib.hid r2
   clear r2
   cases r3:sealedB y.1 with
   | false=>
     go_wp2_with (first
      | (go_at_call 45
         refine(check03_v y w3 (HLY.out w3 HE3.out) ⟨by have:=HT.out.list;omega,by have:=HT.out.pins;omega⟩).mono ?_
         rintro e w4 ⟨rfl,hex⟩
         have HE4:Hid (Ex w2.heap.size none w2 w4):=Lib.hid (HE3.out.thenW hex)
         clear hex l3
         obtain⟨b4,l4,r4⟩:=HB2.out w4 HE4.out
         skip)
      | (go_at_call 54
         refine(sealed03_v y w4 (HLY.out w4 HE4.out) HT.out).mono ?_
         rw [r3]
         rintro e w5 ⟨rfl,hex⟩
         have HE5:Hid (Ex w2.heap.size none w2 w5):=Lib.hid (HE4.out.thenW hex)
         clear hex b4 l4 r4
         obtain⟨b5,l5,r5⟩:=HB2.out w5 HE5.out
         have ls5:=sto_load (box_cell b5)
         have hst5:=sto_store r5 rfl (.slice ro n rc) rfl
         have HR5:=Lib.hid r5
         clear b5 l5 r5)
      | fail)
     refine bodyPost_ret (v:=.tuple #[.agg #[.slice ro n rc],.bool false,.int .i64 6]) (results_row3 rfl _ _ (by rfl) (by rfl) (by rfl) (sto_load (box_cell (setRow_heap _ _ _ _ _ _ HR5.out)))) rfl ?_
     exact⟨⟨ro,n,rc,false,6,l,rfl,fun h=>absurd h (by decide)⟩,(HE2.out.thenW HE5.out).setRow _ _ (.inr (by omega))⟩
   | true=>
     obtain⟨pl,hpl⟩:∃pl,pl=put05 l y.1:=⟨_,rfl⟩
     obtain⟨k,hk⟩:∃k,k=pl.length:=⟨_,rfl⟩
     have hkn:k≤n+1:=by rw [hk,hpl,←HN.out];exact put05_len l y.1
     have HPL:Hid (pl=put05 l y.1∧pl.length=k):=Lib.hid ⟨hpl,hk.symm⟩
     have HPC:Hid (∀w',Ex w2.heap.size none w2 w'→Calls Tryz.prog 84 #[.slice ro n rc,stV y] w' fun e w''=>∃ro' rc' b,e=.returned (.tuple #[.slice ro' k rc',.bool b])∧OwnZ (w.heap.size+1+1) ws.heap.size w'' ro' rc' pl∧Ex w'.heap.size none w' w''):=Lib.hid (fun w' h=>by
      rw [hk,hpl]
      exact put05_v ro n rc l y (w.heap.size+1+1) ws.heap.size w' HN.out (OwnZ.low (HO.out.keep h (Nat.le_refl _)) (by omega)) (by have:=h.size;omega) (HLY.out w' h) (by have:=h.size;omega) (by rw [HN.out];omega) HL.out ⟨by have:=HT.out.list;omega,by have:=HT.out.pins;omega⟩)
     clear hpl hk
     by_cases h1k:k≤1000
     · have h1kI : ¬(1000:Int) < (k:Int):=by omega
       go_wp2_with (first
        | (go_at_call 45
           refine(check03_v y w3 (HLY.out w3 HE3.out) ⟨by have:=HT.out.list;omega,by have:=HT.out.pins;omega⟩).mono ?_
           rintro e w4 ⟨rfl,hex⟩
           have HE4:Hid (Ex w2.heap.size none w2 w4):=Lib.hid (HE3.out.thenW hex)
           clear hex l3
           obtain⟨b4,l4,r4⟩:=HB2.out w4 HE4.out
           skip)
        | (go_at_call 54
           refine(sealed03_v y w4 (HLY.out w4 HE4.out) HT.out).mono ?_
           rw [r3]
           rintro e w5 ⟨rfl,hex⟩
           have HE5:Hid (Ex w2.heap.size none w2 w5):=Lib.hid (HE4.out.thenW hex)
           clear hex b4 l4 r4
           obtain⟨b5,l5,r5⟩:=HB2.out w5 HE5.out
           have c5:=box_cell b5)
        | (go_at_call 84
           refine(HPC.out w5 HE5.out).mono ?_
           rintro e w6 ⟨ro',rc',b,rfl,hown,hex⟩
           have HO6:Hid (OwnS w6 ws.heap.size ro' rc' pl):=Lib.hid hown.s
           have HE6:Hid (Ex w2.heap.size none w2 w6):=Lib.hid (HE5.out.thenW hex)
           clear hex hown c5 b5 l5 r5
           obtain⟨b6,l6,r6⟩:=HB2.out w6 HE6.out
           have hst6:=sto_store r6 rfl (.slice ro' k rc') rfl
           have HR6:=Lib.hid r6
           clear b6 l6 r6)
        | fail)
       refine bodyPost_ret (v:=.tuple #[.agg #[.slice ro' k rc'],.bool b,.int .i64 0]) (results_row3 rfl _ _ (by rfl) (by rfl) (by rfl) (sto_load (box_cell (setRow_heap _ _ _ _ _ _ HR6.out)))) rfl ?_
       exact⟨⟨ro',k,rc',b,0,pl,rfl,fun _=>⟨HPL.out.1,R2.out,r3,HPL.out.2,h1k,(HO6.out.keepP (p:=some (w.heap.size+1+1)) ((Ex.refl w6.heap.size (some (w.heap.size+1+1)) w6).setRow _ _ (.inl rfl)) (Nat.le_refl _) (fun q h=>by cases h;omega)).lowerS (by omega)⟩⟩,(HE2.out.thenW HE6.out).setRow _ _ (.inr (by omega))⟩
     · have h1kI: (1000:Int) < (k:Int):=by omega
       go_wp2_with (first
        | (go_at_call 45
           refine(check03_v y w3 (HLY.out w3 HE3.out) ⟨by have:=HT.out.list;omega,by have:=HT.out.pins;omega⟩).mono ?_
           rintro e w4 ⟨rfl,hex⟩
           have HE4:Hid (Ex w2.heap.size none w2 w4):=Lib.hid (HE3.out.thenW hex)
           clear hex l3
           obtain⟨b4,l4,r4⟩:=HB2.out w4 HE4.out
           skip)
        | (go_at_call 54
           refine(sealed03_v y w4 (HLY.out w4 HE4.out) HT.out).mono ?_
           rw [r3]
           rintro e w5 ⟨rfl,hex⟩
           have HE5:Hid (Ex w2.heap.size none w2 w5):=Lib.hid (HE4.out.thenW hex)
           clear hex b4 l4 r4
           obtain⟨b5,l5,r5⟩:=HB2.out w5 HE5.out
           have c5:=box_cell b5)
        | (go_at_call 84
           refine(HPC.out w5 HE5.out).mono ?_
           rintro e w6 ⟨ro',rc',b,rfl,hown,hex⟩
           have HE6:Hid (Ex w2.heap.size none w2 w6):=Lib.hid (HE5.out.thenW hex)
           clear hex hown c5 b5 l5 r5
           obtain⟨b6,l6,r6⟩:=HB2.out w6 HE6.out
           have ls6:=sto_load (box_cell b6)
           have hst6:=sto_store r6 rfl (.slice ro n rc) rfl
           have HR6:=Lib.hid r6
           clear b6 l6 r6)
        | fail)
       refine bodyPost_ret (v:=.tuple #[.agg #[.slice ro n rc],.bool false,.int .i64 3]) (results_row3 rfl _ _ (by rfl) (by rfl) (by rfl) (sto_load (box_cell (setRow_heap _ _ _ _ _ _ HR6.out)))) rfl ?_
       exact⟨⟨ro,n,rc,false,3,l,rfl,fun h=>absurd h (by decide)⟩,(HE2.out.thenW HE6.out).setRow _ _ (.inr (by omega))⟩
 · have r2d: (checkI y.1 != 0)=true:=by simp [r2]
   have R2:=Lib.hid r2
   clear r2
   go_wp2_with (first
    | (go_at_call 45
       refine(check03_v y w3 (HLY.out w3 HE3.out) ⟨by have:=HT.out.list;omega,by have:=HT.out.pins;omega⟩).mono ?_
       rintro e w4 ⟨rfl,hex⟩
       have HE4:Hid (Ex w2.heap.size none w2 w4):=Lib.hid (HE3.out.thenW hex)
       clear hex l3
       obtain⟨b4,l4,r4⟩:=HB2.out w4 HE4.out
       have ls4:=sto_load (box_cell b4)
       have hst4:=sto_store r4 rfl (.slice ro n rc) rfl
       have HR4:=Lib.hid r4
       clear b4 l4 r4)
    | fail)
   refine bodyPost_ret (v:=.tuple #[.agg #[.slice ro n rc],.bool false,.int .i64 (checkI y.1)]) (results_row3 rfl _ _ (by rfl) (by rfl) (by rfl) (sto_load (box_cell (setRow_heap _ _ _ _ _ _ HR4.out)))) rfl ?_
   exact⟨⟨ro,n,rc,false,(checkI y.1),l,rfl,fun h=>absurd h (R2.out)⟩,(HE2.out.thenW HE4.out).setRow _ _ (.inr (by omega))⟩
end Go.Proofs.YtflhidfclfkjlaaGreat

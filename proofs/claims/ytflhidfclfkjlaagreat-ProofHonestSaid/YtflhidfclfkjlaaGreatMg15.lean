/- ref08.Copy: a contract. No statement of the seat. | ref05.Valid, ref08.Valid, sync.Valid at valid stores. No statement of the seat. | proof.Find: a contract. No statement of the seat. | proof.none, fork, votes, Check: contracts. No statement of the seat. | proof.votes: a contract. No statement of the seat. | proof.Check at two right statements of one author: a contract. No statement of the seat. | mill.Draft: a contract. No statement of the seat. -/
import Derived.Test.YtflhidfclfkjlaaGreatMg04
import Derived.Test.YtflhidfclfkjlaaGreatMg14
import Derived.Test.YtflhidfclfkjlaaGreatMg11
import Derived.Test.YtflhidfclfkjlaaGreatMg05
import Derived.Test.YtflhidfclfkjlaaGreatChk03G
import Derived.Test.YtflhidfclfkjlaaGreatSeal03G
import Derived.Test.YtflhidfclfkjlaaGreatMg08
import Derived.Deep.RegionHeld3
import Derived.Laws.EntriesVeiled
import Derived.Test.YtflhidfclfkjlaaGreatMg02
namespace Go.Proofs.YtflhidfclfkjlaaGreat
open Go.RowKit Go.Sort
section
theorem rowLoad_peer2 (a:Addr):loadVar 31 a=rowLoad 31 a:=rfl
theorem rowStore_peer2 (a:Addr) (v:Value):storeVar 31 a v=rowStore 31 a v:=rfl
theorem Tryz.sizePeer2: (Tryz.prog.info? 31).map (·.size)=some 2:=by kernel_rfl
theorem rowLoad_sto (a:Addr):loadVar 29 a=rowLoad 29 a:=rfl
theorem rowStore_sto (a:Addr) (v:Value):storeVar 29 a v=rowStore 29 a v:=rfl
theorem Tryz.sizeSto: (Tryz.prog.info? 29).map (·.size)=some 1:=by kernel_rfl
theorem sto_load {w:World} {b o:Nat} {v:Value} (h:w.cell? ⟨b,o,none⟩=some v): (rowLoad 29 ⟨b,o,none⟩).run Tryz.prog w=.ok (.agg #[v]) w :=
 run_loadVar_mid (P:=Tryz.prog) w b o 29 [v] _ (fun j u hj=>by
  match j,hj with
  | 0,hj=>rw [Nat.add_zero,h];exact hj) Tryz.underlying29 rfl Tryz.sizeSto
theorem peer_load2 {w:World} {g:Nat} {cs:Array Value} (h:w.heap[g]? =some (.cells cs 31 (0,0))) (hs:cs.size=2): (rowLoad 31 ⟨g,0,none⟩).run Tryz.prog w=.ok (.agg cs) w :=
 run_rowLoad (P:=Tryz.prog) w g 31 31 cs (0,0) _ h Tryz.underlying31 rfl (by rw [hs];exact Tryz.sizePeer2)
theorem peer_store2 {w:World} {g:Nat} {old:Array Value} (h:w.heap[g]? =some (.cells old 31 (0,0))) (ho:old.size=2) (me:Int) (ao:Option Addr) (n cap:Nat): (rowStore 31 ⟨g,0,none⟩ (.agg #[.int .i64 me,.slice ao n cap])).run Tryz.prog w=.ok () (w.setRow g #[.int .i64 me,.slice ao n cap]) :=
 run_rowStore (P:=Tryz.prog) w g 31 31 old #[.int .i64 me,.slice ao n cap] h Tryz.sizePeer2 ho (by simp [Value.oneCell'])
def Fact.cp (base n:Nat) (l:List St):Fact:=⟨fun v w=>∃ro rc,v=.agg #[.slice ro n rc]∧OwnS w base ro rc l,fun⟨ro,rc,h1,h2⟩ hx=>⟨ro,rc,h1,h2.keep hx (Nat.le_refl _)⟩⟩
def Fact.cq (base:Nat) (me:Int) (n:Nat) (l:List St):Fact:=⟨fun v w=>∃ro rc,v=.agg #[.int .i64 me,.slice ro n rc]∧OwnS w base ro rc l,fun⟨ro,rc,h1,h2⟩ hx=>⟨ro,rc,h1,h2.keep hx (Nat.le_refl _)⟩⟩
attribute [local go_sem ↓] rowLoad_peer2 rowStore_peer2 rowLoad_sto
set_option maxHeartbeats 8000000 in
set_option maxRecDepth 100000 in
theorem copy08_any {P:Nat→Prop} (me:Int) (ao:Option Addr) (n cap:Nat) (l:List St) (w:World) (hn:l.length=n) (hx:SlAt stRep P w ao l) (hm:l.length≤100000) (hl:LightL 1000000 l) :
 Calls Tryz.prog 46 #[.agg #[.int .i64 me,.slice ao n cap]] w fun e w'=>∃ro rc,e=.returned (.agg #[.int .i64 me,.slice ro n rc])∧OwnS w' w.heap.size ro rc l∧Ex w.heap.size none w w':=by
 have HN:=Lib.hid hn
 have HX:=Lib.hid hx
 have HLL:=Lib.hid hl
 clear hn hx hl
 go_enter Tryz.func46,Tryz.ntmps46
 go_upto_region 1 with(fail)
 obtain⟨ws,hws⟩:∃ws:World,ws= (w.alloc (.cells #[.int .i64 me,.slice ao n cap] 31)).alloc (.cells #[.int .i64 0,.slice none 0 0] 31):=⟨_,rfl⟩
 have HEs:Hid (Ex w.heap.size none w ws):=Lib.hid (by rw [hws];exact(Ex.new w _).alloc (by simp) _)
 have hzs:ws.heap.size=w.heap.size+1+1:=by rw [hws];simp
 have HBs:Hid (ws.heap[w.heap.size]? =some (.cells #[.int .i64 me,.slice ao n cap] 31 (0,0))∧ws.heap[w.heap.size+1]? =some (.cells #[.int .i64 0,.slice none 0 0] 31 (0,0))):=Lib.hid (by rw [hws];exact⟨heap_alloc2_old _ _ _,heap_alloc2_new _ _ _⟩)
 rw [←hws]
 clear hws
 have HC:Hid (∀w',Ex ws.heap.size none ws w'→w'.cell? ⟨w.heap.size,0,none⟩=some (.int .i64 me)∧w'.cell? ⟨w.heap.size,1,none⟩=some (.slice ao n cap)∧(rowLoad 29 ⟨w.heap.size,1,none⟩).run Tryz.prog w' =.ok (.agg #[.slice ao n cap]) w'):=Lib.hid (fun w' h=>by
  have k:=(h.block w.heap.size (by omega) (by simp)).trans HBs.out.1
  have c1:w'.cell? ⟨w.heap.size,1,none⟩=some (.slice ao n cap):=by rw [cell_of_row _ _ _ _ _ _ k];rfl
  exact⟨by rw [cell_of_row _ _ _ _ _ _ k];rfl,c1,sto_load c1⟩)
 have HR:Hid (∀w',Ex ws.heap.size none ws w'→w'.heap[w.heap.size+1]? =some (.cells #[.int .i64 0,.slice none 0 0] 31 (0,0))):=Lib.hid (fun w' h=>(h.block _ (by omega) (by simp)).trans HBs.out.2)
 have HL:Hid (∀w',Ex ws.heap.size none ws w'→SlAt stRep P w' ao l):=Lib.hid (fun w' h=>HX.out.keep (by decide) fun b _ hb=>(h.block b (by omega) (by simp)).trans (HEs.out.block b hb (by simp)))
 refine wp_region_steps 9 [Fact.is (.pointer (some ⟨w.heap.size,0,none⟩)),
  Fact.is (.int .i64 me),
  Fact.is (.pointer (some ⟨w.heap.size,1,none⟩)),
  Fact.is (.agg #[.slice ao n cap]),
  Fact.cp (ws.heap.size) n l,
  Fact.cq (ws.heap.size) me n l] (by kernel_rfl) (by kernel_rfl) rfl ?_ ?_
 · refine⟨?_,?_,?_,?_,?_,?_,trivial⟩
   · -- 0 fieldAddr
     intro a' w' hR hF hK K h
     have e1:a'.eval (.tmp 1)=.pointer (some ⟨w.heap.size,0,none⟩):=hF.evalB 1 (by kernel_rfl)
     refine wp_value (v:=.pointer (some ⟨w.heap.size,0,none⟩)) ?_ (h _ _ (Ex.refl _ _ _) rfl)
     generalize a'.eval=ev at e1 ⊢
     go_simp
   · -- 1 load
     intro a' w' hR hF hK K h
     have e3:a'.eval (.tmp 3)=.pointer (some ⟨w.heap.size,0,none⟩):=hK { on:=0,ground:=.data } (by simp) rfl (by show(0:Nat) < 6;omega)
     obtain⟨c0,c1,l1⟩:=HC.out w' hR
     refine wp_value (v:=.int .i64 me) ?_ (h _ _ (Ex.refl _ _ _) rfl)
     generalize a'.eval=ev at e3 ⊢
     go_simp
   · -- 2 fieldAddr
     intro a' w' hR hF hK K h
     have e1:a'.eval (.tmp 1)=.pointer (some ⟨w.heap.size,0,none⟩):=hF.evalB 1 (by kernel_rfl)
     refine wp_value (v:=.pointer (some ⟨w.heap.size,1,none⟩)) ?_ (h _ _ (Ex.refl _ _ _) rfl)
     generalize a'.eval=ev at e1 ⊢
     go_simp
   · -- 3 load
     intro a' w' hR hF hK K h
     have e5:a'.eval (.tmp 5)=.pointer (some ⟨w.heap.size,1,none⟩):=hK { on:=2,ground:=.data } (by simp) rfl (by show(2:Nat) < 6;omega)
     obtain⟨c0,c1,l1⟩:=HC.out w' hR
     refine wp_value (v:=.agg #[.slice ao n cap]) ?_ (h _ _ (Ex.refl _ _ _) rfl)
     generalize a'.eval=ev at e5 ⊢
     go_simp
   · -- 4 call
     intro a' w' hR hF hK K h
     have e6:a'.eval (.tmp 6)=.agg #[.slice ao n cap]:=hK { on:=3,ground:=.data } (by simp) rfl (by show(3:Nat) < 6;omega)
     refine wp_callG (f:=79) (args:=#[.agg #[.slice ao n cap]]) ?_ ((copy05_any (P:=P) ao n cap l w' HN.out (HL.out w' hR) hm HLL.out).mono ?_)
     · have ef:a'.eval (.func 79)=.func (.func 79) #[] #[]:=rfl
       have en:=enters_of Tryz.func79 (by kernel_rfl) rfl
       generalize a'.eval=ev at e6 ef ⊢
       go_simp
     · rintro e w2 ⟨ro,rc,rfl,hown,hex⟩
       exact⟨_,rfl,h _ _ hex ⟨ro,rc,rfl,hown.lowerS hR.size⟩⟩
   · -- 5 build
     intro a' w' hR hF hK K h
     have e4:a'.eval (.tmp 4)=.int .i64 me:=hK { on:=1,ground:=.data } (by simp) rfl (by show(1:Nat) < 6;omega)
     have F7:=hK { on:=4,ground:=.data } (by simp) rfl (by show(4:Nat) < 6;omega)
     obtain⟨ro,rc,e7,ho⟩:=F7
     replace e7:a'.eval (.tmp 7)=.agg #[.slice ro n rc]:=e7
     refine wp_value (v:=.agg #[.int .i64 me,.slice ro n rc]) ?_ (h _ _ (Ex.refl _ _ _) ⟨ro,rc,rfl,ho⟩)
     generalize a'.eval=ev at e4 e7 ⊢
     go_simp
 · intro a' w' hR hF hI
   obtain⟨ro,rc,e8,ho⟩:=hI 5 (by show(5:Nat) < 6;omega)
   replace e8:a'.eval (.tmp 8)=.agg #[.int .i64 me,.slice ro n rc]:=e8
   obtain⟨u7,e7⟩:∃u,a'.eval (.tmp 7)=u:=⟨_,rfl⟩
   have e0:a'.eval (.tmp 0)=.agg #[.int .i64 me,.slice ao n cap]:=hF.evalB 0 (by kernel_rfl)
   have e1:a'.eval (.tmp 1)=.pointer (some ⟨w.heap.size,0,none⟩):=hF.evalB 1 (by kernel_rfl)
   have e2:a'.eval (.tmp 2)=.pointer (some ⟨w.heap.size+1,0,none⟩):=hF.evalB 2 (by kernel_rfl)
   have e3:a'.eval (.tmp 3)=.pointer (some ⟨w.heap.size,0,none⟩):=hI 0 (by show(0:Nat) < 6;omega)
   have e4:a'.eval (.tmp 4)=.int .i64 me:=hI 1 (by show(1:Nat) < 6;omega)
   have e5:a'.eval (.tmp 5)=.pointer (some ⟨w.heap.size,1,none⟩):=hI 2 (by show(2:Nat) < 6;omega)
   have e6:a'.eval (.tmp 6)=.agg #[.slice ao n cap]:=hI 3 (by show(3:Nat) < 6;omega)
   have ha:=act_eta a'
   rw [show a'.tmps.size=9 from hF.2.1,show a'.defers=[] from hF.2.2,show List.range 9=[0,1,2,3,4,5,6,7,8] from rfl] at ha
   simp only [List.map_cons,List.map_nil,e0,e1,e2,e3,e4,e5,e6,e7,e8] at ha
   rw [ha]
   clear ha hF hI e0 e1 e2 e3 e4 e5 e6 e7 e8
   refine wpAny_drop (n:=6) (by kernel_rfl) ?_
   have hrb:=(HR.out w' hR)
   have hst:=peer_store2 hrb rfl me ro n rc
   have HRB:=Lib.hid hrb
   have HO:=Lib.hid ho
   have HEW:Hid (Ex w.heap.size none w w'):=Lib.hid (HEs.out.trans hR (by omega) (by simp))
   have hz:=hR.size
   clear ho hrb hR
   go_wp2
   refine bodyPost_ret (v:=.agg #[.int .i64 me,.slice ro n rc]) (results_cell_row rfl _ _ (w.heap.size+1) 31 #[.int .i64 me,.slice ro n rc] (0,0) _ (by rfl) (setRow_heap _ _ _ _ _ _ HRB.out) Tryz.underlying31 rfl Tryz.sizePeer2) rfl ?_
   exact⟨_,_,rfl,(HO.out.keepP (p:=some (w.heap.size+1)) ((Ex.refl w'.heap.size (some (w.heap.size+1)) w').setRow _ _ (.inl rfl)) (Nat.le_refl _) (fun q h=>by cases h;omega)).lowerS (by omega),HEW.out.setRow _ _ (.inr (by omega))⟩
end
section
attribute [local go_sem ↓] rowLoad_stv rowStore_stv
theorem check03_v {P:Nat→Prop} (x:St×Sv×Sv) (w:World) (h:Lies P w x) (hm:x.1.list.length≤9223372036854775807∧x.1.pins.length≤9223372036854775807) :
 Calls Tryz.prog 45 #[stV x] w fun e w'=>e=.returned (.int .i64 (checkI x.1))∧Ex w.heap.size none w w':=by
 obtain⟨s,⟨lo,ln,lc⟩,⟨po,pn,pc⟩⟩:=x
 exact check03_any s lo po ln lc pn pc w h hm
theorem sealed03_v {P:Nat→Prop} (x:St×Sv×Sv) (w:World) (h:Lies P w x) (ht:Tame x.1) :
 Calls Tryz.prog 54 #[stV x] w fun e w'=>e=.returned (.bool (sealedB x.1))∧Ex w.heap.size none w w':=by
 obtain⟨s,⟨lo,ln,lc⟩,⟨po,pn,pc⟩⟩:=x
 exact sealed03_any s lo po ln lc pn pc w h ht
theorem before05_v (x y:St×Sv×Sv) (w:World):Calls Tryz.prog 55 #[stV x,stV y] w fun e w'=>e=.returned (.bool (before05B x.1 y.1))∧Ex w.heap.size none w w':=before05_any x y w
theorem before05_ltA {s t:St} (h:ltA s t=true):before05B s t=true:=by
 unfold ltA ltNDs lssS at h
 unfold before05B
 simp only [Bool.or_eq_true,Bool.and_eq_true,decide_eq_true_eq] at h
 rcases h with h | ⟨h,h' | ⟨h',h''⟩⟩
 · rw [if_neg (by omega)];exact decide_eq_true h
 · rw [if_pos h,if_neg (by omega)];exact decide_eq_true h'
 · rw [if_pos h,if_pos h'];exact h''
set_option maxHeartbeats 4000000 in
set_option maxRecDepth 100000 in
theorem valid05_yes {P:Nat→Prop} (v:Value) (l:List St) (w:World) (hv:Sl stRep P w v l) (hvl:validB l=true) :
 Calls Tryz.prog 36 #[.agg #[v]] w fun e w'=>e=.returned (.bool true)∧Ex w.heap.size none w w':=by
 obtain⟨ao,cap,rfl,hx⟩:=hv
 obtain⟨w0,hw0⟩:∃w0:World,w0=w.alloc (.cells #[.slice ao l.length cap] 29):=⟨_,rfl⟩
 have hz0:w0.heap.size=w.heap.size+1:=by rw [hw0];simp
 have HE0:Hid (Ex w.heap.size none w w0):=Lib.hid (by rw [hw0];exact Ex.new w _)
 have HC0:Hid (∀w',Ex w0.heap.size none w0 w'→w'.cell? ⟨w.heap.size,0,none⟩=some (.slice ao l.length cap)):=Lib.hid (fun w' h=>by
  rw [cell_of_row _ _ _ _ _ _ ((h.block w.heap.size (by omega) (by simp)).trans (by rw [hw0];exact heap_alloc_new w _))];rfl)
 have HX:Hid (∀w',Ex w.heap.size none w w'→SlAt stRep P w' ao l):=Lib.hid (fun w' h=>hx.keep (by decide) fun b _ hb=>h.block b hb (by simp))
 have HVL:=Lib.hid hvl
 have hbig:=validB_len hvl
 clear hx hvl
 go_enter Tryz.func36,Tryz.ntmps36
 go_upto_region 2 with(fail)
 rw [←hw0]
 clear hw0
 go_loopw [3] (fun i wr=>∃k:Nat,k≤l.length∧i=.int .i64 k∧Ex w0.heap.size none w0 wr) (fun i _=>l.length - (intOf i).toNat)
 case atStart=>exact⟨0,by omega,rfl,Ex.refl _ _ _⟩
 case round=>
  obtain⟨k,hk,rfl,hex0⟩:=hrel
  have hsz0:=hex0.size
  have HE0W:=Lib.hid hex0
  have HEX:Hid (Ex w.heap.size none w wr):=Lib.hid (HE0.out.trans hex0 (by omega) (by simp))
  have hsz:w.heap.size≤wr.heap.size:=by omega
  have r0:=HC0.out _ HE0W.out
  clear hex0
  by_cases hlt:k < l.length
  · have hltI: (k:Int) < (l.length:Int):=by omega
    obtain⟨b,off,x,hao,hPb,hbl,HXs,hls0,HLD⟩:=stv_get (HX.out wr HEX.out) k hlt
    have HAO:=Lib.hid hao
    subst hao
    have HXC:=Lib.hid (validB_mem HVL.out x.1 (List.mem_of_getElem? HXs.out))
    have HTM:=Lib.hid (checkI_tame HXC.out.1)
    have HLG:Hid (x.1.list.length≤9223372036854775807∧x.1.pins.length≤9223372036854775807):=Lib.hid (by have h1:=HTM.out.list;have h2:=HTM.out.pins;omega)
    have HLS:Hid (∀w',Ex wr.heap.size none wr w'→Lies P w' x):=Lib.hid (fun w' h=>hls0.keep fun b _ hb=>h.block b (by omega) (by simp))
    have HCK:Hid (∀w',Ex wr.heap.size none wr w'→Calls Tryz.prog 45 #[stV x] w' fun e w''=>e=.returned (.int .i64 0)∧Ex w'.heap.size none w' w''):=Lib.hid (fun w' h=>by have:=check03_v x w' (HLS.out w' h) HLG.out;rw [HXC.out.1] at this;exact this)
    have HSL:Hid (∀w',Ex wr.heap.size none wr w'→Calls Tryz.prog 54 #[stV x] w' fun e w''=>e=.returned (.bool true)∧Ex w'.heap.size none w' w''):=Lib.hid (fun w' h=>asB (sealed03_v x w' (HLS.out w' h) HTM.out) HXC.out.2)
    clear hls0
    go_upto_region 4 with(fail)
    by_cases hk0:0 < k
    case neg=>
     have k3:decide (0 < (k:Int))=false:=decide_eq_false (by omega)
     have k4:decide (0 < k)=false:=decide_eq_false (by omega)
     have HQ:Hid (∀w',Ex wr.heap.size none wr w'→(rowLoad 51 ⟨b,off+k * 13,none⟩).run Tryz.prog w' =.ok (stV x) w'∧w'.cell? ⟨w.heap.size,0,none⟩=some (.slice (some ⟨b,off,none⟩) l.length cap)):=Lib.hid (fun w' h=>⟨HLD.out w' (h.block b hbl (by simp)),HC0.out w' (HE0W.out.trans h hsz0 (by simp))⟩)
     clear hk0 r0
     have hq:=fun p0:ExW wr=>HQ.out p0.w' p0.ex
     refine wp_region_quiet_ex (by kernel_rfl) (by kernel_rfl) ?_
     repeat(go_big_quiet_step (first | (go_at_call 45;refine calls_ex_of (HCK.out _ (ExW.ex _))) | (go_at_call 54;refine calls_ex_of (HSL.out _ (ExW.ex _)))))
     refine wpQuiet_nil ?_
     intro _ hw'
     obtain⟨p9,hw''⟩:=hw'
     subst hw''
     have HE9:Hid (Ex wr.heap.size none wr p9.w'):=Lib.hid p9.ex
     clear hq
     go_wp2
     go_roundw
     case rel=>exact⟨k+1,by omega,by go_num,HE0W.out.trans HE9.out hsz0 (by simp)⟩
     case measure=>simp [intOf] <;> omega
    have k3:decide (0 < (k:Int))=true:=decide_eq_true (by omega)
    have k4:decide (0 < k)=true:=decide_eq_true (by omega)
    obtain⟨m,rfl⟩:∃m,k=m+1:=⟨k - 1,by omega⟩
    obtain⟨b',off',y,hao',_,_,HYs,_,HLDy⟩:=stv_get (HX.out wr HEX.out) m (by omega)
    cases hao'
    have HQ:Hid (∀w',Ex wr.heap.size none wr w'→(rowLoad 51 ⟨b,off+ (m+1) * 13,none⟩).run Tryz.prog w' =.ok (stV x) w'∧w'.cell? ⟨w.heap.size,0,none⟩=some (.slice (some ⟨b,off,none⟩) l.length cap)∧(rowLoad 51 ⟨b,off+m * 13,none⟩).run Tryz.prog w' =.ok (stV y) w'):=Lib.hid (fun w' h=>⟨HLD.out w' (h.block b hbl (by simp)),HC0.out w' (HE0W.out.trans h hsz0 (by simp)),HLDy.out w' (h.block b hbl (by simp))⟩)
    have HBF:Hid (∀w',Calls Tryz.prog 55 #[stV y,stV x] w' fun e w''=>e=.returned (.bool true)∧Ex w'.heap.size none w' w''):=Lib.hid (fun w'=>asB (before05_v y x w') (before05_ltA (validB_next HVL.out m y.1 x.1 HYs.out HXs.out)))
    have i1: ((m+1:Nat):Int) - 1= (m:Int):=by omega
    have i2: (m:Int) < (l.length:Int):=by omega
    clear r0
    have hq:=fun p0:ExW wr=>HQ.out p0.w' p0.ex
    refine wp_region_quiet_ex (by kernel_rfl) (by kernel_rfl) ?_
    repeat(go_big_quiet_step (first | (go_at_call 45;refine calls_ex_of (HCK.out _ (ExW.ex _))) | (go_at_call 54;refine calls_ex_of (HSL.out _ (ExW.ex _))) | (go_at_call 55;refine calls_ex_of (HBF.out _))))
    refine wpQuiet_nil ?_
    intro _ hw'
    obtain⟨p9,hw''⟩:=hw'
    subst hw''
    have HE9:Hid (Ex wr.heap.size none wr p9.w'):=Lib.hid p9.ex
    clear hq
    go_wp2
    go_roundw
    case rel=>exact⟨m+1+1,by omega,by go_num,HE0W.out.trans HE9.out hsz0 (by simp)⟩
    case measure=>simp [intOf] <;> omega
  · obtain rfl:k=l.length:=by omega
    have hbI: (l.length:Int)≤1000:=by omega
    go_wp2
    go_ret
    exact⟨rfl,HEX.out⟩
set_option maxHeartbeats 4000000 in
set_option maxRecDepth 100000 in
theorem valid08_yes {P:Nat→Prop} (me:Int) (v:Value) (l:List St) (w:World) (hme:0≤me∧me < 64) (hv:Sl stRep P w v l) (hvl:validB l=true) :
 Calls Tryz.prog 17 #[.agg #[.int .i64 me,v]] w fun e w'=>e=.returned (.bool true)∧Ex w.heap.size none w w':=by
 obtain⟨ao,cap,rfl,hx⟩:=hv
 obtain⟨w0,hw0⟩:∃w0:World,w0=w.alloc (.cells #[.int .i64 me,.slice ao l.length cap] 31):=⟨_,rfl⟩
 have HE0:Hid (Ex w.heap.size none w w0):=Lib.hid (by rw [hw0];exact Ex.new w _)
 have HB0:Hid (w0.heap[w.heap.size]? =some (.cells #[.int .i64 me,.slice ao l.length cap] 31 (0,0))):=Lib.hid (by rw [hw0];exact heap_alloc_new w _)
 have c0:w0.cell? ⟨w.heap.size,0,none⟩=some (.int .i64 me):=by rw [cell_of_row _ _ _ _ _ _ HB0.out];rfl
 have c1:w0.cell? ⟨w.heap.size,1,none⟩=some (.slice ao l.length cap):=by rw [cell_of_row _ _ _ _ _ _ HB0.out];rfl
 have HVL:=Lib.hid hvl
 have HX:=Lib.hid hx
 obtain⟨h1,h2⟩:=hme
 clear hvl hx
 go_enter Tryz.func17,Tryz.ntmps17
 go_upto_region 1 with(fail)
 rw [←hw0]
 clear hw0
 go_wp2_with (first
  | (go_at_call 36
     refine(valid05_yes (P:=P) (.slice ao l.length cap) l w0 ⟨ao,cap,rfl,HX.out.keep (by decide) fun b _ hb=>HE0.out.block b hb (by simp)⟩ HVL.out).mono ?_
     rintro e w1 ⟨rfl,hex⟩
     have HE1:=Lib.hid hex
     clear hex)
  | fail)
 go_ret
 exact⟨rfl,HE0.out.trans HE1.out HE0.out.size (by simp)⟩
end
theorem accKeepP {w w' :World} {ao ao' :Option Addr} {x:PrX} (h:LiesP (fun b=>rowOf ao≠some b) w x) (hk:∀b,b < w.heap.size→rowOf ao≠some b→w'.heap[b]? =w.heap[b]?) (hr:rowOf ao' =rowOf ao∨rowOf ao' =some w.heap.size):LiesP (fun b=>rowOf ao'≠some b) w' x:=by
 have h1:LiesP (fun b=>rowOf ao'≠some b∧rowOf ao≠some b) w x:=h.mono fun b hb hlt=>⟨by
  rcases hr with e | e
  · rw [e];exact hb
  · rw [e];intro e2;have:=Option.some.inj e2;omega,hb⟩
 have h2:=h1.keep (w':=w') fun b hb hlt=>hk b hlt hb.2
 exact h2.mono fun b hb _=>hb.1
theorem FindR.le {l:List St} {k:Nat} {ps:List PrD} (h:FindR l k ps) (hk:k≤63) (hl:l.length≤100000):ps.length≤6300063:=by
 have h1:=h.len
 have h2:=Nat.mul_le_mul hk (show l.length+1≤100001 by omega)
 omega
def FindE (l:List St) (e:Ending) (w' :World):Prop:=∃(ro:Option Addr) (rc:Nat) (ps:List PrD),e=.returned (.slice ro ps.length rc)∧FindR l 64 ps∧SlAt prRep (fun _=>True) w' ro ps
set_option maxHeartbeats 16000000 in
set_option maxRecDepth 100000 in
theorem findV_any {P:Nat→Prop} (v:Value) (l:List St) (w:World) (hv:Sl stRep P w v l) (hm:l.length≤100000) (hL:∀s∈l,LightS s) :
 Calls Tryz.prog 18 #[v] w fun e w'=>FindE l e w'∧Ex w.heap.size none w w':=by
 obtain⟨ao,cap,rfl,hx⟩:=hv
 have HX:Hid (∀w',Ex w.heap.size none w w'→SlAt stRep (fun b=>P b∧b < w.heap.size) w' ao l):=Lib.hid (fun w' h=>(hx.mono (P':=fun b=>P b∧b < w.heap.size) (by decide) fun b hb hlt=>⟨hb,hlt⟩).keep (by decide) fun b hb _=>h.block b hb.2 (by simp))
 have HLL:Hid ((∀s∈l,LightS s)∧LightL 9223372036854775807 l):=Lib.hid ⟨hL,fun s hs=>by have:=hL s hs;exact⟨by have:=this.1;omega,by have:=this.2;omega⟩⟩
 obtain⟨n,hn⟩:∃n,n=l.length:=⟨_,rfl⟩
 have HN:=Lib.hid hn
 rw [←hn] at hm ⊢
 clear hn hx hL
 obtain⟨zp,hz⟩:=Tryz.infoPrf
 have HZ:=Lib.hid hz
 clear hz
 go_enter Tryz.func18,Tryz.ntmps18
 go_wp2
 go_loopw [3,6] (fun v i wr=>∃(k q:Nat) (ro:Option Addr) (rc:Nat) (acc:List PrX),k≤64∧i=.int .i64 k∧v=.slice ro q rc∧Hid (acc.length=q∧FindR l k (acc.map PrX.d)∧∀x∈acc,LiesP (fun b=>rowOf ro≠some b) wr x)∧OwnE prE 27 63 wr w.heap.size ro rc acc∧Ex w.heap.size none w wr) (fun _ i _=>64 - (intOf i).toNat)
 case atStart=>exact⟨0,0,none,0,[],by omega,rfl,rfl,Lib.hid ⟨rfl,.zero,by simp⟩,OwnE.nil _ _ _ _ _,Ex.refl _ _ _⟩
 case round=>
  obtain⟨k,q,ro,rc,acc,hk,rfl,rfl,HA,hown,hex⟩:=hrel
  have hsz:=hex.size
  have HEX:=Lib.hid hex
  have HO:=Lib.hid hown
  have HAL:Hid (acc.length=q):=Lib.hid HA.out.1
  have HRO:Hid (∀b,rowOf ro=some b→w.heap.size≤b∧b < wr.heap.size):=Lib.hid (fun b e=>by
   cases ro with
   | none=>cases e
   | some ad=>have h:=hown.lt ad rfl;have e2:ad.block=b:=Option.some.inj e;omega)
  clear hown hex
  by_cases hlt:k < 64
  · have hltI: (k:Int) < 64:=by omega
    have hq:q≤6300063:=by have h:=HA.out.2.1.le (by omega) (by rw [←HN.out];exact hm);rwa [List.length_map,HAL.out] at h
    go_upto_region 6 with(first
     | (go_at_call 37
        refine(own_any (P:=fun b=>P b∧b < w.heap.size) (.slice ao n cap) l ((k:Nat):Int) wr ⟨ao,cap,by rw [HN.out],HX.out wr HEX.out⟩ (by rw [←HN.out];exact hm) HLL.out.2).mono ?_
        rintro e w1 ⟨u,ls,rfl,hor,⟨mo,mc,rfl,hms⟩,hle,hex1⟩
        have H1:Hid (OwnR ((k:Nat):Int) l ls∧SlAt stRep (fun b=>((P b∧b < w.heap.size)∨wr.heap.size≤b)∧b < w1.heap.size) w1 mo ls∧Ex wr.heap.size none wr w1):=Lib.hid ⟨hor,hms.mono (by decide) fun b hb hlt=>⟨hb,hlt⟩,hex1⟩
        have hz1:wr.heap.size≤w1.heap.size:=hex1.size
        clear hor hms hex1)
     | fail)
    obtain⟨m,hmc⟩:∃m,m=ls.length:=⟨_,rfl⟩
    have HM:=Lib.hid hmc
    rw [←hmc] at hle ⊢
    rw [←HN.out] at hle
    clear hmc
    by_cases h2:1 < m
    · have h2I: (1:Int) < (m:Int):=by omega
      have HLS:Hid ((∀s∈ls,LightS s)∧∀s∈ls,s.author= ((k:Nat):Int)):=Lib.hid ⟨fun s hs=>HLL.out.1 s (H1.out.1.mem s hs),fun s hs=>(okB_parts (H1.out.1.ok s hs)).1⟩
      have HP2:Hid (∀b,(((P b∧b < w.heap.size)∨wr.heap.size≤b)∧b < w1.heap.size)→rowOf ro≠some b):=Lib.hid (fun b hb e=>by have:=HRO.out b e;rcases hb.1 with h | h <;> omega)
      go_wp2_with (first
       | (go_at_call 38
          refine(forks_any (P:=fun b=>((P b∧b < w.heap.size)∨wr.heap.size≤b)∧b < w1.heap.size) (.slice mo m mc) ls w1 ⟨mo,mc,by rw [HM.out],H1.out.2.1⟩ (by rw [←HM.out];omega)).mono ?_
          rintro e w2 ⟨⟨fo,fm,fc,fs,rfl,hfl,hfr,hfs,hfL⟩,hex2⟩
          have H2:Hid (fs.length=fm∧ForksR ls (fs.map PrX.d)∧SrcP w2 fo fs∧(∀y∈fs,LiesP (fun b=>((P b∧b < w.heap.size)∨wr.heap.size≤b)∧b < w1.heap.size) w2 y)∧Ex w1.heap.size none w1 w2):=Lib.hid ⟨hfl,hfr,hfs,hfL,hex2⟩
          have hz2:w1.heap.size≤w2.heap.size:=hex2.size
          have hfm:fm≤1:=by have:=hfr.len;rwa [List.length_map,hfl] at this
          have HE2:Hid (Ex wr.heap.size none wr w2):=Lib.hid (H1.out.2.2.trans hex2 hz1 (by simp))
          clear hfl hfr hfs hfL hex2)
       | (go_at_call 39
          refine(doubles_any (P:=fun b=>((P b∧b < w.heap.size)∨wr.heap.size≤b)∧b < w1.heap.size) (.slice mo m mc) ls ((k:Nat):Int) w3 ⟨mo,mc,by rw [HM.out],H3.out.2.2.2.1⟩ (by rw [←HM.out];omega) HLS.out.1 HLS.out.2).mono ?_
          rintro e w4 ⟨⟨go,gm,gc,ds,rfl,hdl,hdr,hds,hdL⟩,hex4⟩
          have H4:Hid (ds.length=gm∧DoublesR ls (ds.map PrX.d)∧SrcP w4 go ds∧(∀y∈ds,LiesP (fun b=>((P b∧b < w.heap.size)∨wr.heap.size≤b)∧b < w1.heap.size) w4 y)∧Ex w3.heap.size none w3 w4):=Lib.hid ⟨hdl,hdr,hds,hdL,hex4⟩
          have hz4:w3.heap.size≤w4.heap.size:=hex4.size
          have hgm:gm≤m:=by have:=hdr.1;rwa [List.length_map,hdl,←HM.out] at this
          clear hdl hdr hds hdL hex4)
       | (at_builtin
          refine wpList_appE2 rfl (.tmp 18) (.tmp 20) _ 63 (by rfl) Tryz.underlying58 zp 27 328 HZ.out.1 HZ.out.2 (by decide) (by decide) prE prE_len one_prE w.heap.size ro2 rc2 (q+fm) (acc ++ fs) (by rw [List.length_append,HAL.out,H2.out.1]) (by rfl) go gm gc (by rfl) ds H4.out.1 (H3.out.1.keep H4.out.2.2.2.2 (Nat.le_refl _) (by simp)) H4.out.2.2.1 (by omega) (by omega) (q+fm+gm) rfl ?_
          intro ro3 rc3 w5 hown5 hex5 hk5 hr5
          have H5:Hid (OwnE prE 27 63 w5 w.heap.size ro3 rc3 (acc ++ fs ++ ds)∧Ex w.heap.size none w4 w5∧∀x∈acc ++ fs ++ ds,LiesP (fun b=>rowOf ro3≠some b) w5 x):=Lib.hid ⟨hown5,hex5,fun x hx=>by
           refine accKeepP (ao:=ro2) (w:=w4) ?_ hk5 hr5
           rcases List.mem_append.1 hx with h | h
           · exact(H3.out.2.2.1 x h).keep fun b _ hb=>H4.out.2.2.2.2.block b hb (by simp)
           · exact(H4.out.2.2.2.1 x h).mono fun b hb _=>H3.out.2.2.2.2 b hb⟩
          clear hown5 hex5 hk5 hr5)
       | (at_builtin
          refine wpList_appE2 rfl (.tmp 15) (.tmp 17) _ 63 (by rfl) Tryz.underlying58 zp 27 328 HZ.out.1 HZ.out.2 (by decide) (by decide) prE prE_len one_prE w.heap.size ro rc q acc HAL.out (by rfl) fo fm fc (by rfl) fs H2.out.1 (HO.out.keep HE2.out (Nat.le_refl _) (by simp)) H2.out.2.2.1 (by omega) (by omega) (q+fm) rfl ?_
          intro ro2 rc2 w3 hown3 hex3 hk3 hr3
          have H3:Hid (OwnE prE 27 63 w3 w.heap.size ro2 rc2 (acc ++ fs)∧Ex w.heap.size none w2 w3∧(∀x∈acc ++ fs,LiesP (fun b=>rowOf ro2≠some b) w3 x)∧SlAt stRep (fun b=>((P b∧b < w.heap.size)∨wr.heap.size≤b)∧b < w1.heap.size) w3 mo ls∧(∀b,(((P b∧b < w.heap.size)∨wr.heap.size≤b)∧b < w1.heap.size)→rowOf ro2≠some b)):=Lib.hid ⟨hown3,hex3,fun x hx=>by
           refine accKeepP (ao:=ro) (w:=w2) ?_ hk3 hr3
           rcases List.mem_append.1 hx with h | h
           · exact(HA.out.2.2 x h).keep fun b _ hb=>HE2.out.block b hb (by simp)
           · exact(H2.out.2.2.2.1 x h).mono fun b hb _=>HP2.out b hb,(H1.out.2.1.keep (by decide) fun b _ hb=>H2.out.2.2.2.2.block b hb (by simp)).keep (by decide) fun b hb hlt=>hk3 b hlt (HP2.out b hb),fun b hb=>by
           rcases hr3 with e | e
           · rw [e];exact HP2.out b hb
           · rw [e];intro e2;have:=Option.some.inj e2;omega⟩
          have hz3:w2.heap.size≤w3.heap.size:=hex3.size
          clear hown3 hex3 hk3 hr3)
       | fail)
      go_roundw
      case rel=>exact⟨k+1,q+fm+gm,ro3,rc3,acc ++ fs ++ ds,by omega,by go_num,rfl,Lib.hid ⟨by rw [List.length_append,List.length_append,HAL.out,H2.out.1,H4.out.1],by rw [List.map_append,List.map_append];exact .more HA.out.2.1 H1.out.1 H2.out.2.1 H4.out.2.1,H5.out.2.2⟩,H5.out.1,((((HEX.out.trans HE2.out hsz (by simp)).thenBX H3.out.2.1).trans H4.out.2.2.2.2 (by omega) (by simp)).thenBX H5.out.2.1)⟩
      case measure=>simp [intOf] <;> omega
    · have h2I : ¬(1:Int) < (m:Int):=by omega
      go_wp2
      go_roundw
      case rel=>exact⟨k+1,q,ro,rc,acc,by omega,by go_num,rfl,Lib.hid ⟨HA.out.1,.few HA.out.2.1 H1.out.1 (by rw [←HM.out];omega),fun x hx=>(HA.out.2.2 x hx).keep fun b _ hb=>H1.out.2.2.block b hb (by simp)⟩,HO.out.keep H1.out.2.2 (Nat.le_refl _) (by simp),HEX.out.trans H1.out.2.2 hsz (by simp)⟩
      case measure=>simp [intOf] <;> omega
  · have hltI : ¬(k:Int) < 64:=by omega
    have HK:Hid (k=64):=Lib.hid (by omega)
    have HF:Hid (FindR l 64 (acc.map PrX.d)):=Lib.hid (by have:=HA.out.2.1;rwa [HK.out] at this)
    go_wp2
    go_ret
    exact⟨⟨ro,rc,acc.map PrX.d,by rw [List.length_map,HAL.out];rfl,HF.out,own_pr HO.out (fun _ _=>trivial) fun x hx=>(HA.out.2.2 x hx).mono fun _ _ _=>trivial⟩,HEX.out⟩
section
def kindB1 (s t:St):Bool:=decide (s.number=t.number) && decide (strC (sha (stB s)) (sha (stB t)) < 0)
def kindB2 (s t:St):Bool:=voteB s && (voteB t && (caseB t.a (t.b % 16) t.c (t.b / 16) s && decide (ordC s t < 0)))
theorem strC_lessD (a b:ByteArray):Op.bytesLess a.toList b.toList=decide (strC a b < 0):=by
 unfold strC
 rw [compareB_eq,ByteArray.toList_eq,ByteArray.toList_eq]
 have h:=ordB_less a.data.toList b.data.toList
 cases hb:Op.bytesLess a.data.toList b.data.toList with
 | true=>exact(decide_eq_true (h.2 hb)).symm
 | false=>exact(decide_eq_false (fun e=>by have:=h.1 e;rw [hb] at this;cases this)).symm
attribute [local go_sem ↓] rowLoad_stv rowStore_stv rowLoad_vo rowStore_vo
def TwoSt (w ws:World) (x y:St×Sv×Sv):Prop:=Ex w.heap.size none w ws∧ws.heap.size=w.heap.size+1+1∧ws.heap[w.heap.size]? =some (.cells (stV x).cells 51 (0,0))∧ws.heap[w.heap.size+1]? =some (.cells (stV y).cells 51 (0,0))
theorem twoSt_of (w:World) (x y:St×Sv×Sv):TwoSt w ((w.alloc (.cells (stV x).cells 51)).alloc (.cells (stV y).cells 51)) x y :=
 ⟨(Ex.new w _).alloc (by simp) _,by simp,heap_alloc2_old _ _ _,heap_alloc2_new _ _ _⟩
set_option maxHeartbeats 8000000 in
set_option maxRecDepth 100000 in
theorem forkV_any {P Q:Nat→Prop} (x y:St×Sv×Sv) (w:World) (hx:Lies P w x) (hy:Lies Q w y) (hm:Tame x.1) (hk:Tame y.1) :
 Calls Tryz.prog 43 #[stV x,stV y] w fun e w'=>e=.returned (.bool (kindB1 x.1 y.1))∧Ex w.heap.size none w w':=by
 have HM:=Lib.hid (And.intro hm hk)
 obtain⟨ws,hws⟩:∃ws:World,ws= (w.alloc (.cells (stV x).cells 51)).alloc (.cells (stV y).cells 51):=⟨_,rfl⟩
 have HT:Hid (TwoSt w ws x y):=Lib.hid (by rw [hws];exact twoSt_of w x y)
 have hzs:ws.heap.size=w.heap.size+1+1:=HT.out.2.1
 have HS:Hid (∀w',Ex ws.heap.size none ws w'→w'.cell? ⟨w.heap.size,1,none⟩=some (.int .i64 x.1.number)∧w'.cell? ⟨w.heap.size+1,1,none⟩=some (.int .i64 y.1.number)∧(rowLoad 51 ⟨w.heap.size,0,none⟩).run Tryz.prog w' =.ok (stV x) w'∧(rowLoad 51 ⟨w.heap.size+1,0,none⟩).run Tryz.prog w' =.ok (stV y) w'):=Lib.hid (fun w' h=>by
  have b0:=h.at2 (Nat.le_refl _) HT.out.2.2.1
  have b1:=h.at2 (Nat.le_refl _) HT.out.2.2.2
  exact⟨by rw [cell_of_row _ _ _ _ _ _ b0];rfl,by rw [cell_of_row _ _ _ _ _ _ b1];rfl,stV_box b0,stV_box b1⟩)
 have HL:Hid (∀w',Ex ws.heap.size none ws w'→Lies P w' x∧Lies Q w' y):=Lib.hid (fun w' h=>by
  have h2:Ex w.heap.size none w w':=HT.out.1.trans h (by omega) (by simp)
  exact⟨hx.keep fun b _ hb=>h2.block b hb (by simp),hy.keep fun b _ hb=>h2.block b hb (by simp)⟩)
 have n0:=stV_new w #[.int .i64 0,.int .i64 0,.string ⟨#[]⟩,.int .i64 0,.int .i64 0,.int .i64 0,.int .i64 0,.int .i64 0,.slice none 0 0,.slice none 0 0,.string ⟨#[]⟩,.int .i64 0,.string ⟨#[]⟩] x rfl
 have n1:=stV_new (w.alloc (.cells (stV x).cells 51)) #[.int .i64 0,.int .i64 0,.string ⟨#[]⟩,.int .i64 0,.int .i64 0,.int .i64 0,.int .i64 0,.int .i64 0,.slice none 0 0,.slice none 0 0,.string ⟨#[]⟩,.int .i64 0,.string ⟨#[]⟩] y rfl
 clear hx hy hm hk
 obtain⟨dx,hdx⟩:∃dx,dx=sha (stB x.1):=⟨_,rfl⟩
 obtain⟨dy,hdy⟩:∃dy,dy=sha (stB y.1):=⟨_,rfl⟩
 have HD:Hid (sha (stB x.1)=dx∧sha (stB y.1)=dy):=Lib.hid ⟨hdx.symm,hdy.symm⟩
 obtain⟨lb,hlb⟩:∃lb,lb=Op.bytesLess dx.toList dy.toList:=⟨_,rfl⟩
 have HB:Hid (decide (strC dx dy < 0)=lb):=Lib.hid (by rw [hlb];exact(strC_lessD dx dy).symm)
 have hbl:Op.bytesLess dx.toList dy.toList=lb:=hlb.symm
 clear hdx hdy hlb
 have HK:Hid (kindB1 x.1 y.1= (decide (x.1.number=y.1.number) && lb)):=Lib.hid (by unfold kindB1;rw [HD.out.1,HD.out.2,HB.out])
 go_enter Tryz.func43,Tryz.ntmps43
 go_upto_region 1 with(fail)
 refine wp_world (fun W=>W=ws) (by rw [hws];rfl) (fun W hW=>?_)
 rw [hW]
 clear hW W hws n0 n1
 by_cases te:x.1.number=y.1.number
 · have k1: (x.1.number == y.1.number)=true:=by simpa using te
   have HK2:Hid (kindB1 x.1 y.1=lb):=Lib.hid (by rw [HK.out,decide_eq_true te];rfl)
   clear te
   obtain⟨c0,c1,r0,r1⟩:=HS.out _ (Ex.refl _ _ ws)
   go_region_held3 (fun w'=>w'.cell? ⟨w.heap.size,1,none⟩=some (.int .i64 x.1.number)∧w'.cell? ⟨w.heap.size+1,1,none⟩=some (.int .i64 y.1.number)∧(rowLoad 51 ⟨w.heap.size,0,none⟩).run Tryz.prog w' =.ok (stV x) w'∧(rowLoad 51 ⟨w.heap.size+1,0,none⟩).run Tryz.prog w' =.ok (stV y) w') (exact HS.out _ (by repeat(first | with_reducible exact HE2.out | with_reducible exact HE1.out | with_reducible exact Ex.refl _ _ _ | with_reducible refine Ex.drew ?_)))
    (first
      | (go_at_call 72
         fail_if_success (have _x:=HE1)
         refine(digest_v (P:=P) x _ (HL.out _ (by repeat(first | with_reducible exact Ex.refl _ _ _ | with_reducible refine Ex.drew ?_))).1 HM.out.1).mono ?_
         rw [HD.out.1]
         rintro e w1 ⟨rfl,hex⟩
         have HE1:Hid (Ex ws.heap.size none ws w1):=Lib.hid (Ex.thenW (by repeat(first | with_reducible exact Ex.refl _ _ _ | with_reducible refine Ex.drew ?_)) hex)
         clear hex)
      | (go_at_call 72
         refine(digest_v (P:=Q) y _ (HL.out _ (by repeat(first | with_reducible exact HE1.out | with_reducible refine Ex.drew ?_))).2 HM.out.2).mono ?_
         rw [HD.out.2]
         rintro e w2 ⟨rfl,hex⟩
         have HE2:Hid (Ex ws.heap.size none ws w2):=Lib.hid (Ex.thenW (by repeat(first | with_reducible exact HE1.out | with_reducible refine Ex.drew ?_)) hex)
         clear hex)
      | fail)
   all_goals go_wp2
   all_goals go_ret
   all_goals exact⟨by rw [HK2.out];rfl,HT.out.1.trans (by repeat(first | with_reducible exact HE2.out | with_reducible refine Ex.drew ?_):Ex ws.heap.size none ws _) (by omega) (by simp)⟩
 · have k1: (x.1.number == y.1.number)=false:=by simpa using te
   have HK2:Hid (kindB1 x.1 y.1=false):=Lib.hid (by rw [HK.out,decide_eq_false te];rfl)
   clear te
   obtain⟨c0,c1,r0,r1⟩:=HS.out _ (Ex.refl _ _ ws).drew
   go_region_with (fail)
   all_goals go_wp2
   all_goals go_ret
   all_goals exact⟨by rw [HK2.out];rfl,HT.out.1.trans (by repeat(first | with_reducible exact Ex.refl _ _ _ | with_reducible refine Ex.drew ?_):Ex ws.heap.size none ws _) (by omega) (by simp)⟩
end
section
attribute [local go_sem ↓] rowLoad_stv rowStore_stv rowLoad_vo rowStore_vo
set_option maxHeartbeats 16000000 in
set_option maxRecDepth 100000 in
theorem votesX_any {P Q:Nat→Prop} (x y:St×Sv×Sv) (w:World) (hx:Lies P w x) (hy:Lies Q w y) (hm:LightS x.1) (hk:LightS y.1) :
 Calls Tryz.prog 44 #[stV x,stV y] w fun e w'=>e=.returned (.bool (kindB2 x.1 y.1))∧Ex w.heap.size none w w':=by
 have HM:=Lib.hid (And.intro hm hk)
 obtain⟨ws,hws⟩:∃ws:World,ws= (w.alloc (.cells (stV x).cells 51)).alloc (.cells (stV y).cells 51):=⟨_,rfl⟩
 have HT:Hid (TwoSt w ws x y):=Lib.hid (by rw [hws];exact twoSt_of w x y)
 have hzs:ws.heap.size=w.heap.size+1+1:=HT.out.2.1
 have HS:Hid (∀w',Ex ws.heap.size none ws w'→(rowLoad 51 ⟨w.heap.size,0,none⟩).run Tryz.prog w' =.ok (stV x) w'∧(rowLoad 51 ⟨w.heap.size+1,0,none⟩).run Tryz.prog w' =.ok (stV y) w'):=Lib.hid (fun w' h=>by
  have b0:=h.at2 (Nat.le_refl _) HT.out.2.2.1
  have b1:=h.at2 (Nat.le_refl _) HT.out.2.2.2
  exact⟨stV_box b0,stV_box b1⟩)
 have HL:Hid (∀w',Ex ws.heap.size none ws w'→Lies P w' x∧Lies Q w' y):=Lib.hid (fun w' h=>by
  have h2:Ex w.heap.size none w w':=HT.out.1.trans h (by omega) (by simp)
  exact⟨hx.keep fun b _ hb=>h2.block b hb (by simp),hy.keep fun b _ hb=>h2.block b hb (by simp)⟩)
 have n0:=stV_new w #[.int .i64 0,.int .i64 0,.string ⟨#[]⟩,.int .i64 0,.int .i64 0,.int .i64 0,.int .i64 0,.int .i64 0,.slice none 0 0,.slice none 0 0,.string ⟨#[]⟩,.int .i64 0,.string ⟨#[]⟩] x rfl
 have n1:=stV_new (w.alloc (.cells (stV x).cells 51)) #[.int .i64 0,.int .i64 0,.string ⟨#[]⟩,.int .i64 0,.int .i64 0,.int .i64 0,.int .i64 0,.int .i64 0,.slice none 0 0,.slice none 0 0,.string ⟨#[]⟩,.int .i64 0,.string ⟨#[]⟩] y rfl
 clear hx hy hm hk
 obtain⟨va,hva⟩:∃va,va=voteB x.1:=⟨_,rfl⟩
 obtain⟨vb,hvb⟩:∃vb,vb=voteB y.1:=⟨_,rfl⟩
 have HVA:Hid (voteB x.1=va):=Lib.hid hva.symm
 have HVB:Hid (voteB y.1=vb):=Lib.hid hvb.symm
 clear hva hvb
 go_enter Tryz.func44,Tryz.ntmps44
 go_upto_region 1 with(fail)
 refine wp_world (fun W=>W=ws) (by rw [hws];rfl) (fun W hW=>?_)
 rw [hW]
 clear hW W hws n0 n1
 obtain⟨r0,r1⟩:=HS.out _ (Ex.refl _ _ ws)
 go_upto_region 2 with(first
  | (go_at_call 73
     refine(ofV_any (P:=P) x ws (HL.out ws (Ex.refl _ _ _)).1 HM.out.1).mono ?_
     rintro e w1 ⟨hof,hex⟩
     obtain⟨x',q,rfl,hor,hly⟩:=hof.parts
     have HOX:Hid ((voteB x.1=true∧q=0∧x'.1=x.1)∨(voteB x.1=false∧q≠0∧x' =zeroVo)):=Lib.hid hor
     have HLX:Hid (Lies (fun k=>ws.heap.size≤k) w1 x'):=Lib.hid hly
     have HE1:Hid (Ex ws.heap.size none ws w1):=Lib.hid hex
     clear hof hor hly hex r0 r1
     have hn1: (rowStore 106 ⟨w1.heap.size,0,none⟩ (voV x')).run Tryz.prog (w1.alloc (.cells #[.int .i64 0,.int .i64 0,.int .i64 0,.int .i64 0,.int .i64 0,.slice none 0 0,.slice none 0 0] 106))=.ok () (w1.alloc (.cells (voE x').toArray 106)):=vo_new w1 _ rfl (voE x').toArray rfl (voV_one x'))
  | fail)
 refine wp_world (fun W=>W=w1.alloc (.cells (voE x').toArray 106)) rfl (fun W hW=>?_)
 obtain⟨w2,hw2⟩:∃w2:World,w2=W:=⟨_,rfl⟩
 rw [←hw2] at hW ⊢
 clear hw2 W hn1
 have HE2:Hid (Ex ws.heap.size none ws w2):=Lib.hid (by rw [hW];exact HE1.out.allocX _)
 have HL2:Hid (Lies (fun k=>ws.heap.size≤k) w2 x'):=Lib.hid (HLX.out.keep fun b _ hb=>by rw [hW];exact at_oldX _ _ _ hb)
 have HBX:Hid (w2.heap[w1.heap.size]? =some (.cells (voE x').toArray 106 (0,0))):=Lib.hid (by rw [hW];exact heap_alloc_new _ _)
 have hz2:w2.heap.size=w1.heap.size+1:=by rw [hW];simp
 have hz1:ws.heap.size≤w1.heap.size:=HE1.out.size
 clear hW
 obtain⟨r0,r1⟩:=HS.out _ HE2.out
 go_upto_region 3 with(first
  | (go_at_call 73
     refine(ofV_any (P:=Q) y w2 (HL.out w2 HE2.out).2 HM.out.2).mono ?_
     rintro e w3 ⟨hof,hex⟩
     obtain⟨y',r,rfl,hor,hly⟩:=hof.parts
     have HOY:Hid ((voteB y.1=true∧r=0∧y'.1=y.1)∨(voteB y.1=false∧r≠0∧y' =zeroVo)):=Lib.hid hor
     have HLY:Hid (Lies (fun k=>w2.heap.size≤k) w3 y'):=Lib.hid hly
     have HE3:Hid (Ex w2.heap.size none w2 w3):=Lib.hid hex
     clear hof hor hly hex r0 r1
     have hn1: (rowStore 106 ⟨w3.heap.size,0,none⟩ (voV y')).run Tryz.prog (w3.alloc (.cells #[.int .i64 0,.int .i64 0,.int .i64 0,.int .i64 0,.int .i64 0,.slice none 0 0,.slice none 0 0] 106))=.ok () (w3.alloc (.cells (voE y').toArray 106)):=vo_new w3 _ rfl (voE y').toArray rfl (voV_one y'))
  | fail)
 refine wp_world (fun W=>W=w3.alloc (.cells (voE y').toArray 106)) rfl (fun W hW=>?_)
 obtain⟨w4,hw4⟩:∃w4:World,w4=W:=⟨_,rfl⟩
 rw [←hw4] at hW ⊢
 clear hw4 W hn1
 have HE4:Hid (Ex w2.heap.size none w2 w4):=Lib.hid (by rw [hW];exact HE3.out.allocX _)
 have HL4:Hid (Lies (fun k=>w2.heap.size≤k) w4 y'):=Lib.hid (HLY.out.keep fun b _ hb=>by rw [hW];exact at_oldX _ _ _ hb)
 have HBY:Hid (w4.heap[w3.heap.size]? =some (.cells (voE y').toArray 106 (0,0))):=Lib.hid (by rw [hW];exact heap_alloc_new _ _)
 have hz3:w2.heap.size≤w3.heap.size:=HE3.out.size
 have HEE:Hid (Ex w.heap.size none w w4):=Lib.hid (HT.out.1.trans (HE2.out.trans HE4.out HE2.out.size (by simp)) (by omega) (by simp))
 clear hW
 cases va with
 | false=>
   obtain⟨hv,hq,hy'⟩:=HOX.out.resolve_left (fun h=>by rw [HVA.out] at h;cases h.1)
   have kq: (q == 0)=false:=by simpa using hq
   clear hv hq hy'
   go_wp2
   go_ret
   exact⟨by unfold kindB2;rw [HVA.out];rfl,HEE.out⟩
 | true=>
   obtain⟨hv,hq,hx'⟩:=HOX.out.resolve_right (fun h=>by rw [HVA.out] at h;cases h.1)
   subst hq
   have HX':=Lib.hid hx'
   clear hv hx'
   cases vb with
   | false=>
     obtain⟨hv,hq,hy'⟩:=HOY.out.resolve_left (fun h=>by rw [HVB.out] at h;cases h.1)
     have kq: (r == 0)=false:=by simpa using hq
     clear hv hq hy'
     go_wp2
     go_ret
     exact⟨by unfold kindB2;rw [HVA.out,HVB.out];rfl,HEE.out⟩
   | true=>
     obtain⟨hv,hq,hy'⟩:=HOY.out.resolve_right (fun h=>by rw [HVB.out] at h;cases h.1)
     subst hq
     have HY':=Lib.hid hy'
     clear hv hy'
     obtain⟨m1,m2,m3,m4,m5,m6⟩:=vo_cells (HE4.out.at2 (Nat.le_refl _) HBX.out)
     obtain⟨d1,d2,d3,d4,d5,d6⟩:=vo_cells HBY.out
     rw [HX'.out] at m1 m2 m3 m4
     rw [HY'.out] at d1 d2 d3 d4
     obtain⟨z,hz⟩:∃z,z=ordC x.1 y.1:=⟨_,rfl⟩
     have HO:Hid (Calls Tryz.prog 74 #[.agg #[x'.2.1.v,x'.2.2.v],.agg #[y'.2.1.v,y'.2.2.v]] w4 fun e w''=>e=.returned (.int .i64 z)∧Gr w4 w''):=Lib.hid (by
      rw [hz,←HX'.out,←HY'.out]
      exact orderV_any x' y' w4 (HL2.out.keep fun b _ hb=>HE4.out.block b hb (by simp)) HL4.out (by rw [HX'.out];exact HM.out.1) (by rw [HY'.out];exact HM.out.2))
     have HF:Hid (kindB2 x.1 y.1= (caseB y.1.a (y.1.b % 16) y.1.c (y.1.b / 16) x.1 && decide (z < 0))):=Lib.hid (by unfold kindB2;rw [HVA.out,HVB.out,hz];rfl)
     clear hz
     go_wp2_with (first
      | (go_at_call 74
         refine HO.out.mono ?_
         rintro e w5 ⟨rfl,hg⟩
         have HG5:=Lib.hid hg
         clear hg)
      | fail)
     all_goals go_ret
     all_goals first
      | exact⟨by rw [HF.out,show caseB y.1.a (y.1.b % 16) y.1.c (y.1.b / 16) x.1=true from by unfold caseB;simp [*]];rfl,HEE.out.trans HG5.out.ex HEE.out.size (by simp)⟩
      | exact⟨by rw [HF.out,show caseB y.1.a (y.1.b % 16) y.1.c (y.1.b / 16) x.1=false from by unfold caseB;simp [*]];rfl,HEE.out⟩
end
section
attribute [local go_sem ↓] rowLoad_stv rowStore_stv rowLoad_prf rowStore_prf
def chkX (p:PrD):Int:=if sealedB p.2.1 && sealedB p.2.2 then(if (decide (p.1=1) && kindB1 p.2.1 p.2.2) || (decide (p.1=2) && kindB2 p.2.1 p.2.2) then 0 else 48) else 6
def BoxPr (g:Nat) (x:PrX) (w' :World):Prop:=(rowLoad 51 ⟨g,1,none⟩).run Tryz.prog w' =.ok (stV x.2.1) w'∧(rowLoad 51 ⟨g,14,none⟩).run Tryz.prog w' =.ok (stV x.2.2) w'∧w'.cell? ⟨g,0,none⟩=some (.int .i64 x.1)∧w'.cell? ⟨g,1,none⟩=some (.int .i64 x.2.1.1.author)∧w'.cell? ⟨g,14,none⟩=some (.int .i64 x.2.2.1.author)
theorem boxPr_of {g:Nat} {x:PrX} {w' :World} (h:w'.heap[g]? =some (.cells (prE x).toArray 63 (0,0))):BoxPr g x w':=⟨prV_first h,prV_second h,by rw [prV_cell h];rfl,by rw [prV_cell h];rfl,by rw [prV_cell h];rfl⟩
set_option maxHeartbeats 16000000 in
set_option maxRecDepth 100000 in
theorem checkX_any {P:Nat→Prop} (x:PrX) (kn:Nat) (w:World) (hx:LiesP P w x) (hm:LightS x.2.1.1) (hk:LightS x.2.2.1) (h1:checkI x.2.1.1=0) (h2:checkI x.2.2.1=0) (ha:x.2.1.1.author=x.2.2.1.author) (hkn:x.1= (kn:Nat)) (hkr:kn=1∨kn=2∨kn=3) :
 Calls Tryz.prog 20 #[prV x] w fun e w'=>e=.returned (.int .i64 (chkX x.d))∧Ex w.heap.size none w w':=by
 obtain⟨ws,hws⟩:∃ws:World,ws=w.alloc (.cells (prE x).toArray 63):=⟨_,rfl⟩
 have HEs:Hid (Ex w.heap.size none w ws):=Lib.hid (by rw [hws];exact Ex.new w _)
 have hzs:ws.heap.size=w.heap.size+1:=by rw [hws];simp
 have HB:Hid (∀w',Ex ws.heap.size none ws w'→BoxPr w.heap.size x w'):=Lib.hid (fun w' h=>boxPr_of (h.at2 (Nat.le_refl _) (by rw [hws];exact heap_alloc_new w _)))
 have HL:Hid (∀w',Ex ws.heap.size none ws w'→Lies P w' x.2.1∧Lies P w' x.2.2):=Lib.hid (fun w' h=>by
  have h2:Ex w.heap.size none w w':=HEs.out.trans h (by omega) (by simp)
  exact⟨hx.1.keep fun b _ hb=>h2.block b hb (by simp),hx.2.keep fun b _ hb=>h2.block b hb (by simp)⟩)
 have HM:Hid ((LightS x.2.1.1∧LightS x.2.2.1)∧checkI x.2.1.1=0∧checkI x.2.2.1=0):=Lib.hid ⟨⟨hm,hk⟩,h1,h2⟩
 have HTM:Hid (Tame x.2.1.1∧Tame x.2.2.1):=Lib.hid ⟨checkI_tame h1,checkI_tame h2⟩
 have HLT:Hid ((x.2.1.1.list.length≤9223372036854775807∧x.2.1.1.pins.length≤9223372036854775807)∧(x.2.2.1.list.length≤9223372036854775807∧x.2.2.1.pins.length≤9223372036854775807)):=Lib.hid (by
  have a1:=hm.1;have a2:=hm.2;have a3:=hk.1;have a4:=hk.2
  exact⟨⟨by omega,by omega⟩,⟨by omega,by omega⟩⟩)
 have n0:=prV_new w #[.int .i64 0,.int .i64 0,.int .i64 0,.string ⟨#[]⟩,.int .i64 0,.int .i64 0,.int .i64 0,.int .i64 0,.int .i64 0,.slice none 0 0,.slice none 0 0,.string ⟨#[]⟩,.int .i64 0,.string ⟨#[]⟩,.int .i64 0,.int .i64 0,.string ⟨#[]⟩,.int .i64 0,.int .i64 0,.int .i64 0,.int .i64 0,.int .i64 0,.slice none 0 0,.slice none 0 0,.string ⟨#[]⟩,.int .i64 0,.string ⟨#[]⟩] x rfl
 obtain⟨sa,hsa⟩:∃sa,sa=sealedB x.2.1.1:=⟨_,rfl⟩
 obtain⟨sb,hsb⟩:∃sb,sb=sealedB x.2.2.1:=⟨_,rfl⟩
 have HSA:Hid (sealedB x.2.1.1=sa):=Lib.hid hsa.symm
 have HSB:Hid (sealedB x.2.2.1=sb):=Lib.hid hsb.symm
 have HKN:=Lib.hid hkn
 have HAU:=Lib.hid ha
 have kau: (x.2.1.1.author == x.2.2.1.author)=true:=by simpa using ha
 have kne: (x.2.1.1.author != x.2.2.1.author)=false:=by simpa using ha
 clear hx hm hk h1 h2 hsa hsb ha hkn
 go_enter Tryz.func20,Tryz.ntmps20
 go_upto_region 1 with(fail)
 refine wp_world (fun W=>W=ws) (by rw [hws];rfl) (fun W hW=>?_)
 rw [hW]
 clear hW W hws n0
 obtain⟨r0,r1,c0,c1,c2⟩:=HB.out _ (Ex.refl _ _ ws)
 go_upto_region 4 with(first
  | (go_at_call 40
     refine(check_v (P:=P) x.2.1 ws (HL.out ws (Ex.refl _ _ _)).1 HLT.out.1).mono ?_
     rw [HM.out.2.1]
     rintro e w1 ⟨rfl,hex⟩
     have HE1:Hid (Ex ws.heap.size none ws w1):=Lib.hid hex
     clear hex r0 r1 c0 c1 c2)
  | fail)
 obtain⟨r0,r1,c0,c1,c2⟩:=HB.out _ HE1.out
 go_upto_region 7 with(first
  | (go_at_call 40
     refine(check_v (P:=P) x.2.2 w1 (HL.out w1 HE1.out).2 HLT.out.2).mono ?_
     rw [HM.out.2.2]
     rintro e w2 ⟨rfl,hex⟩
     have HE2:Hid (Ex ws.heap.size none ws w2):=Lib.hid (HE1.out.thenW hex)
     clear hex r0 r1 c0 c1 c2)
  | fail)
 obtain⟨r0,r1,c0,c1,c2⟩:=HB.out _ HE2.out
 cases sa with
 | false=>
   go_wp2_with (first
    | (go_at_call 41
       refine(sealed_v (P:=P) x.2.1 w2 (HL.out w2 HE2.out).1 HTM.out.1).mono ?_
       rw [HSA.out]
       rintro e w3 ⟨rfl,hex⟩
       have HE3:Hid (Ex ws.heap.size none ws w3):=Lib.hid (HE2.out.thenW hex)
       clear hex r0 r1 c0 c1 c2)
    | fail)
   go_ret
   exact⟨by show _=Ending.returned (.int .i64 (chkX (x.1,x.2.1.1,x.2.2.1)));unfold chkX;simp only [HSA.out];rfl,HEs.out.trans HE3.out (by omega) (by simp)⟩
 | true=>
   cases sb with
   | false=>
     go_wp2_with (first
      | (go_at_call 41
         fail_if_success (have _x:=HE3)
         refine(sealed_v (P:=P) x.2.1 w2 (HL.out w2 HE2.out).1 HTM.out.1).mono ?_
         rw [HSA.out]
         rintro e w3 ⟨rfl,hex⟩
         have HE3:Hid (Ex ws.heap.size none ws w3):=Lib.hid (HE2.out.thenW hex)
         clear hex r0 r1 c0 c1 c2
         obtain⟨r0,r1,c0,c1,c2⟩:=HB.out _ HE3.out)
      | (go_at_call 41
         refine(sealed_v (P:=P) x.2.2 w3 (HL.out w3 HE3.out).2 HTM.out.2).mono ?_
         rw [HSB.out]
         rintro e w4 ⟨rfl,hex⟩
         have HE4:Hid (Ex ws.heap.size none ws w4):=Lib.hid (HE3.out.thenW hex)
         clear hex r0 r1 c0 c1 c2)
      | fail)
     go_ret
     exact⟨by show _=Ending.returned (.int .i64 (chkX (x.1,x.2.1.1,x.2.2.1)));unfold chkX;simp only [HSA.out,HSB.out];rfl,HEs.out.trans HE4.out (by omega) (by simp)⟩
   | true=>
     go_upto_region 10 with(first
      | (go_at_call 41
         fail_if_success (have _x:=HE3)
         refine(sealed_v (P:=P) x.2.1 w2 (HL.out w2 HE2.out).1 HTM.out.1).mono ?_
         rw [HSA.out]
         rintro e w3 ⟨rfl,hex⟩
         have HE3:Hid (Ex ws.heap.size none ws w3):=Lib.hid (HE2.out.thenW hex)
         clear hex r0 r1 c0 c1 c2
         obtain⟨r0,r1,c0,c1,c2⟩:=HB.out _ HE3.out)
      | (go_at_call 41
         refine(sealed_v (P:=P) x.2.2 w3 (HL.out w3 HE3.out).2 HTM.out.2).mono ?_
         rw [HSB.out]
         rintro e w4 ⟨rfl,hex⟩
         have HE4:Hid (Ex ws.heap.size none ws w4):=Lib.hid (HE3.out.thenW hex)
         clear hex r0 r1 c0 c1 c2)
      | fail)
     obtain⟨w5,hw5⟩:∃w5:World,w5=w4.alloc (.cells #[.func (.func 42) #[] #[],.func (.func 43) #[] #[],.func (.func 44) #[] #[]] 87):=⟨_,rfl⟩
     have HA5:Hid (w5.heap[w4.heap.size]? =some (.cells #[.func (.func 42) #[] #[],.func (.func 43) #[] #[],.func (.func 44) #[] #[]] 87 (0,0))):=Lib.hid (by rw [hw5];exact heap_alloc_new _ _)
     have HE5:Hid (Ex ws.heap.size none ws w5):=Lib.hid (by rw [hw5];exact HE4.out.allocX _)
     refine wp_world (fun W=>W=w5) (by rw [hw5]) (fun W hW=>?_)
     rw [hW]
     clear hW W hw5
     rcases hkr with rfl | rfl | rfl
     · have HQ:Hid (∀w',Ex w5.heap.size none w5 w'→(rowLoad 51 ⟨w.heap.size,1,none⟩).run Tryz.prog w' =.ok (stV x.2.1) w'∧(rowLoad 51 ⟨w.heap.size,14,none⟩).run Tryz.prog w' =.ok (stV x.2.2) w'∧w'.cell? ⟨w.heap.size,0,none⟩=some (.int .i64 1)∧w'.cell? ⟨w.heap.size,1,none⟩=some (.int .i64 x.2.1.1.author)∧w'.cell? ⟨w.heap.size,14,none⟩=some (.int .i64 x.2.2.1.author)∧w'.cell? ⟨w4.heap.size,1,none⟩=some (.func (.func 43) #[] #[])):=Lib.hid (fun w' h=>by
        obtain⟨b0,b1,b2,b3,b4⟩:=HB.out w' (HE5.out.thenW h)
        rw [HKN.out] at b2
        exact⟨b0,b1,b2,b3,b4,by rw [cell_of_row _ _ _ _ _ _ (h.at2 (Nat.le_refl _) HA5.out)];rfl⟩)
       obtain⟨kb,hkb⟩:∃kb,kb=kindB1 x.2.1.1 x.2.2.1:=⟨_,rfl⟩
       have HKB:Hid (kindB1 x.2.1.1 x.2.2.1=kb):=Lib.hid hkb.symm
       have HCX:Hid (chkX x.d=if kb then 0 else 48):=Lib.hid (by
        show chkX (x.1,x.2.1.1,x.2.2.1)=_
        unfold chkX
        simp only [HSA.out,HSB.out,HKN.out,HKB.out]
        cases kb <;> rfl)
       clear hkb
       cases kb with
       | false=>
         obtain⟨r0,r1,c0,c1,c2,c3⟩:=HQ.out _ (Ex.refl _ _ w5)
         go_region_held3 (fun w'=>(rowLoad 51 ⟨w.heap.size,1,none⟩).run Tryz.prog w' =.ok (stV x.2.1) w'∧(rowLoad 51 ⟨w.heap.size,14,none⟩).run Tryz.prog w' =.ok (stV x.2.2) w'∧w'.cell? ⟨w.heap.size,0,none⟩=some (.int .i64 1)∧w'.cell? ⟨w.heap.size,1,none⟩=some (.int .i64 x.2.1.1.author)∧w'.cell? ⟨w.heap.size,14,none⟩=some (.int .i64 x.2.2.1.author)∧w'.cell? ⟨w4.heap.size,1,none⟩=some (.func (.func 43) #[] #[])) (exact HQ.out _ (by repeat(first | with_reducible exact HE6.out | with_reducible exact Ex.refl _ _ _ | with_reducible refine Ex.drew ?_)))
          (first
            | ((first | go_at_call 43 | go_at_fn 43)
               refine(forkV_any (P:=P) (Q:=P) x.2.1 x.2.2 _ (HL.out _ (HE5.out.thenW (by repeat(first | with_reducible exact Ex.refl _ _ _ | with_reducible refine Ex.drew ?_)))).1 (HL.out _ (HE5.out.thenW (by repeat(first | with_reducible exact Ex.refl _ _ _ | with_reducible refine Ex.drew ?_)))).2 HTM.out.1 HTM.out.2).mono ?_
               rw [HKB.out]
               rintro e w6 ⟨rfl,hex⟩
               have HE6:Hid (Ex w5.heap.size none w5 w6):=Lib.hid (Ex.thenW (by repeat(first | with_reducible exact Ex.refl _ _ _ | with_reducible refine Ex.drew ?_)) hex)
               clear hex)
            | fail)
         all_goals go_wp2
         all_goals go_ret
         all_goals exact⟨by rw [HCX.out];rfl,HEs.out.trans (HE5.out.thenW (by repeat(first | with_reducible exact HE6.out | with_reducible exact Ex.refl _ _ _ | with_reducible refine Ex.drew ?_))) (by omega) (by simp)⟩
       | true=>
         obtain⟨r0,r1,c0,c1,c2,c3⟩:=HQ.out _ (Ex.refl _ _ w5)
         go_region_held3 (fun w'=>(rowLoad 51 ⟨w.heap.size,1,none⟩).run Tryz.prog w' =.ok (stV x.2.1) w'∧(rowLoad 51 ⟨w.heap.size,14,none⟩).run Tryz.prog w' =.ok (stV x.2.2) w'∧w'.cell? ⟨w.heap.size,0,none⟩=some (.int .i64 1)∧w'.cell? ⟨w.heap.size,1,none⟩=some (.int .i64 x.2.1.1.author)∧w'.cell? ⟨w.heap.size,14,none⟩=some (.int .i64 x.2.2.1.author)∧w'.cell? ⟨w4.heap.size,1,none⟩=some (.func (.func 43) #[] #[])) (exact HQ.out _ (by repeat(first | with_reducible exact HE6.out | with_reducible exact Ex.refl _ _ _ | with_reducible refine Ex.drew ?_)))
          (first
            | ((first | go_at_call 43 | go_at_fn 43)
               refine(forkV_any (P:=P) (Q:=P) x.2.1 x.2.2 _ (HL.out _ (HE5.out.thenW (by repeat(first | with_reducible exact Ex.refl _ _ _ | with_reducible refine Ex.drew ?_)))).1 (HL.out _ (HE5.out.thenW (by repeat(first | with_reducible exact Ex.refl _ _ _ | with_reducible refine Ex.drew ?_)))).2 HTM.out.1 HTM.out.2).mono ?_
               rw [HKB.out]
               rintro e w6 ⟨rfl,hex⟩
               have HE6:Hid (Ex w5.heap.size none w5 w6):=Lib.hid (Ex.thenW (by repeat(first | with_reducible exact Ex.refl _ _ _ | with_reducible refine Ex.drew ?_)) hex)
               clear hex)
            | fail)
         all_goals go_wp2
         all_goals go_ret
         all_goals exact⟨by rw [HCX.out];rfl,HEs.out.trans (HE5.out.thenW (by repeat(first | with_reducible exact HE6.out | with_reducible exact Ex.refl _ _ _ | with_reducible refine Ex.drew ?_))) (by omega) (by simp)⟩
     · have HQ:Hid (∀w',Ex w5.heap.size none w5 w'→(rowLoad 51 ⟨w.heap.size,1,none⟩).run Tryz.prog w' =.ok (stV x.2.1) w'∧(rowLoad 51 ⟨w.heap.size,14,none⟩).run Tryz.prog w' =.ok (stV x.2.2) w'∧w'.cell? ⟨w.heap.size,0,none⟩=some (.int .i64 2)∧w'.cell? ⟨w.heap.size,1,none⟩=some (.int .i64 x.2.1.1.author)∧w'.cell? ⟨w.heap.size,14,none⟩=some (.int .i64 x.2.2.1.author)∧w'.cell? ⟨w4.heap.size,2,none⟩=some (.func (.func 44) #[] #[])):=Lib.hid (fun w' h=>by
        obtain⟨b0,b1,b2,b3,b4⟩:=HB.out w' (HE5.out.thenW h)
        rw [HKN.out] at b2
        exact⟨b0,b1,b2,b3,b4,by rw [cell_of_row _ _ _ _ _ _ (h.at2 (Nat.le_refl _) HA5.out)];rfl⟩)
       obtain⟨kb,hkb⟩:∃kb,kb=kindB2 x.2.1.1 x.2.2.1:=⟨_,rfl⟩
       have HKB:Hid (kindB2 x.2.1.1 x.2.2.1=kb):=Lib.hid hkb.symm
       have HCX:Hid (chkX x.d=if kb then 0 else 48):=Lib.hid (by
        show chkX (x.1,x.2.1.1,x.2.2.1)=_
        unfold chkX
        simp only [HSA.out,HSB.out,HKN.out,HKB.out]
        cases kb <;> rfl)
       clear hkb
       cases kb with
       | false=>
         obtain⟨r0,r1,c0,c1,c2,c3⟩:=HQ.out _ (Ex.refl _ _ w5)
         go_region_held3 (fun w'=>(rowLoad 51 ⟨w.heap.size,1,none⟩).run Tryz.prog w' =.ok (stV x.2.1) w'∧(rowLoad 51 ⟨w.heap.size,14,none⟩).run Tryz.prog w' =.ok (stV x.2.2) w'∧w'.cell? ⟨w.heap.size,0,none⟩=some (.int .i64 2)∧w'.cell? ⟨w.heap.size,1,none⟩=some (.int .i64 x.2.1.1.author)∧w'.cell? ⟨w.heap.size,14,none⟩=some (.int .i64 x.2.2.1.author)∧w'.cell? ⟨w4.heap.size,2,none⟩=some (.func (.func 44) #[] #[])) (exact HQ.out _ (by repeat(first | with_reducible exact HE6.out | with_reducible exact Ex.refl _ _ _ | with_reducible refine Ex.drew ?_)))
          (first
            | ((first | go_at_call 44 | go_at_fn 44)
               refine(votesX_any (P:=P) (Q:=P) x.2.1 x.2.2 _ (HL.out _ (HE5.out.thenW (by repeat(first | with_reducible exact Ex.refl _ _ _ | with_reducible refine Ex.drew ?_)))).1 (HL.out _ (HE5.out.thenW (by repeat(first | with_reducible exact Ex.refl _ _ _ | with_reducible refine Ex.drew ?_)))).2 HM.out.1.1 HM.out.1.2).mono ?_
               rw [HKB.out]
               rintro e w6 ⟨rfl,hex⟩
               have HE6:Hid (Ex w5.heap.size none w5 w6):=Lib.hid (Ex.thenW (by repeat(first | with_reducible exact Ex.refl _ _ _ | with_reducible refine Ex.drew ?_)) hex)
               clear hex)
            | fail)
         all_goals go_wp2
         all_goals go_ret
         all_goals exact⟨by rw [HCX.out];rfl,HEs.out.trans (HE5.out.thenW (by repeat(first | with_reducible exact HE6.out | with_reducible exact Ex.refl _ _ _ | with_reducible refine Ex.drew ?_))) (by omega) (by simp)⟩
       | true=>
         obtain⟨r0,r1,c0,c1,c2,c3⟩:=HQ.out _ (Ex.refl _ _ w5)
         go_region_held3 (fun w'=>(rowLoad 51 ⟨w.heap.size,1,none⟩).run Tryz.prog w' =.ok (stV x.2.1) w'∧(rowLoad 51 ⟨w.heap.size,14,none⟩).run Tryz.prog w' =.ok (stV x.2.2) w'∧w'.cell? ⟨w.heap.size,0,none⟩=some (.int .i64 2)∧w'.cell? ⟨w.heap.size,1,none⟩=some (.int .i64 x.2.1.1.author)∧w'.cell? ⟨w.heap.size,14,none⟩=some (.int .i64 x.2.2.1.author)∧w'.cell? ⟨w4.heap.size,2,none⟩=some (.func (.func 44) #[] #[])) (exact HQ.out _ (by repeat(first | with_reducible exact HE6.out | with_reducible exact Ex.refl _ _ _ | with_reducible refine Ex.drew ?_)))
          (first
            | ((first | go_at_call 44 | go_at_fn 44)
               refine(votesX_any (P:=P) (Q:=P) x.2.1 x.2.2 _ (HL.out _ (HE5.out.thenW (by repeat(first | with_reducible exact Ex.refl _ _ _ | with_reducible refine Ex.drew ?_)))).1 (HL.out _ (HE5.out.thenW (by repeat(first | with_reducible exact Ex.refl _ _ _ | with_reducible refine Ex.drew ?_)))).2 HM.out.1.1 HM.out.1.2).mono ?_
               rw [HKB.out]
               rintro e w6 ⟨rfl,hex⟩
               have HE6:Hid (Ex w5.heap.size none w5 w6):=Lib.hid (Ex.thenW (by repeat(first | with_reducible exact Ex.refl _ _ _ | with_reducible refine Ex.drew ?_)) hex)
               clear hex)
            | fail)
         all_goals go_wp2
         all_goals go_ret
         all_goals exact⟨by rw [HCX.out];rfl,HEs.out.trans (HE5.out.thenW (by repeat(first | with_reducible exact HE6.out | with_reducible exact Ex.refl _ _ _ | with_reducible refine Ex.drew ?_))) (by omega) (by simp)⟩
     · have HQ:Hid (∀w',Ex w5.heap.size none w5 w'→(rowLoad 51 ⟨w.heap.size,1,none⟩).run Tryz.prog w' =.ok (stV x.2.1) w'∧(rowLoad 51 ⟨w.heap.size,14,none⟩).run Tryz.prog w' =.ok (stV x.2.2) w'∧w'.cell? ⟨w.heap.size,0,none⟩=some (.int .i64 3)∧w'.cell? ⟨w.heap.size,1,none⟩=some (.int .i64 x.2.1.1.author)∧w'.cell? ⟨w.heap.size,14,none⟩=some (.int .i64 x.2.2.1.author)):=Lib.hid (fun w' h=>by
        obtain⟨b0,b1,b2,b3,b4⟩:=HB.out w' (HE5.out.thenW h)
        rw [HKN.out] at b2
        exact⟨b0,b1,b2,b3,b4⟩)
       have HCX:Hid (chkX x.d=48):=Lib.hid (by
        show chkX (x.1,x.2.1.1,x.2.2.1)=_
        unfold chkX
        simp only [HSA.out,HSB.out,HKN.out]
        rfl)
       have hq:=fun p:ExW w5=>HQ.out p.w' p.ex
       refine wp_region_quiet_ex (by kernel_rfl) (by kernel_rfl) ?_
       repeat(go_big_quiet_step (fail))
       refine wpQuiet_nil ?_
       intro _ hw'
       obtain⟨p9,hw''⟩:=hw'
       subst hw''
       clear hq
       go_wp2
       go_ret
       exact⟨by rw [HCX.out];rfl,HEs.out.trans (HE5.out.thenW p9.ex) (by omega) (by simp)⟩
end
section
theorem someTo_lenV (d:List Int):∀k,(someTo d k).1.length≤k
 | 0=>by simp [someTo]
 | k+1=>by
   have h:=someTo_lenV d k
   by_cases c:dVal (someTo d k).2 3=0
   · rw [someTo_yes c,List.length_append];simp;omega
   · rw [someTo_no c];omega
theorem keysD_lenV (d:List Int) (n:Int) (h:1≤n) (hm:n≤100): (keysD d n).1.length≤100:=by
 unfold keysD
 have:=someTo_lenV d n.toNat
 split
 · simp
 · omega
theorem keysV_w (N p:Nat) (n:Int) (w:World) (hd:DiceOK N w p) (hN:N≤w.heap.size) (h0:1≤n) (hn:n≤100) :
 Calls Tryz.prog 25 #[.pointer (some ⟨p,0,none⟩),.int .i64 n] w fun e w'=>∃ro rc ks m,e=.returned (.slice ro m rc)∧ks.length=m∧OwnI w' w.heap.size ro rc ks∧ks.length≤100∧DiceOK N w' p∧Ex w.heap.size (some p) w w':=by
 obtain⟨d,hd⟩:=hd
 exact(keys_any N p d n w hd hN (by omega) (by omega)).mono fun e w' ⟨ro,rc,h1,h2,h3,h4⟩=>⟨ro,rc,_,_,h1,rfl,h2,keysD_lenV d n h0 hn,⟨_,h3⟩,h4⟩
theorem someV_w (N p:Nat) (n:Int) (w:World) (hd:DiceOK N w p) (hN:N≤w.heap.size) (h0:1≤n) (hn:n≤100) :
 Calls Tryz.prog 26 #[.pointer (some ⟨p,0,none⟩),.int .i64 n] w fun e w'=>∃ro rc ks m,e=.returned (.slice ro m rc)∧ks.length=m∧OwnI w' w.heap.size ro rc ks∧ks.length≤100∧DiceOK N w' p∧Ex w.heap.size (some p) w w':=by
 obtain⟨d,hd⟩:=hd
 exact(some_any N p d n w hd hN (by omega) (by omega)).mono fun e w' ⟨ro,rc,h1,h2,h3,h4⟩=>⟨ro,rc,_,_,h1,rfl,h2,by have:=someTo_lenV d n.toNat;omega,⟨_,h3⟩,h4⟩
def drD (k a b c:Int) (l:List Int):St:={ author:=0,number:=0,prev:=⟨#[]⟩,time:=0,kind:=k,a:=a,b:=b,c:=c,list:=l,pins:=[],body:=⟨#[]⟩,key:=0,dig:=⟨#[]⟩ }
def DrE (b:Nat) (e:Ending) (w' :World):Prop:=∃y:St×Sv×Sv,e=.returned (drV y)∧y.1.kind≠10∧y.1.list.length≤100∧y.1.pins=[]∧Lies (fun c=>b≤c) w' y
attribute [local go_sem ↓] rowLoad_dr rowStore_dr
set_option maxHeartbeats 16000000 in
set_option maxRecDepth 100000 in
theorem draftM_w (N p:Nat) (me t:Int) (w:World) (hd:DiceOK N w p) (hN:N≤w.heap.size) (hme:0≤me∧me≤63) (ht:0≤t∧t≤1000000) :
 Calls Tryz.prog 7 #[.pointer (some ⟨p,0,none⟩),.int .i64 me,.int .i64 5,.int .i64 t] w fun e w'=>DrE w.heap.size e w'∧DiceOK N w' p∧Ex w.heap.size (some p) w w':=by
 have hpN:=hd.lt
 obtain⟨w1,hw1⟩:∃w1:World,w1=w.alloc (.cells #[.int .i64 0,.int .i64 0,.int .i64 0,.int .i64 0,.slice none 0 0,.slice none 0 0] 35):=⟨_,rfl⟩
 have HE0:Hid (Ex w.heap.size none w w1):=Lib.hid (by rw [hw1];exact Ex.new w _)
 have HD1:Hid (DiceOK N w1 p):=Lib.hid (hd.keep HE0.out hN)
 have hz1:w1.heap.size=w.heap.size+1:=by rw [hw1];simp
 have HR1:Hid (∀w',Ex w1.heap.size (some p) w1 w'→w'.heap[w.heap.size]? =some (.cells #[.int .i64 0,.int .i64 0,.int .i64 0,.int .i64 0,.slice none 0 0,.slice none 0 0] 35 (0,0))):=Lib.hid (fun w' h=>(h.block _ (by omega) (by simp;omega)).trans (by rw [hw1];exact heap_alloc_new _ _))
 clear hd
 have hwm:IntKind.i64.wrap (me+1)=me+1:=by rw [IntKind.wrap_i64];omega
 go_enter Tryz.func7,Tryz.ntmps7
 go_upto_region 1 with(fail)
 refine wp_world (fun W=>W=w1) (by rw [hw1]) (fun W hW=>?_)
 rw [hW]
 clear hW W hw1
 go_upto_region 2 with(first
  | (go_at_call 9
     refine(next_w N p 4 w1 HD1.out (by omega) (by omega)).mono ?_
     rintro e w2 ⟨k0,rfl,hk0,hd2,hex2⟩
     have H2:Hid (DiceOK N w2 p):=Lib.hid hd2
     have HE2:Hid (Ex w1.heap.size (some p) w1 w2):=Lib.hid hex2
     have hz2:w1.heap.size≤w2.heap.size:=hex2.size
     have hwk:IntKind.i64.wrap (me+1+ (k0:Int))=me+1+ (k0:Int):=by rw [IntKind.wrap_i64];omega
     clear hd2 hex2)
  | (go_at_call 23
     refine(millMod_any (me+1+ (k0:Int)) 5 w2 (by omega)).mono ?_
     rintro e w' ⟨rfl,rfl⟩
     obtain⟨o,ho⟩:∃o,o=modI (me+1+ (k0:Int)) 5:=⟨_,rfl⟩
     rw [←ho]
     clear ho)
  | fail)
 go_upto_region 3 with(first
  | (go_at_call 9
     refine(next_w N p 10 w2 H2.out (by omega) (by omega)).mono ?_
     rintro e w3 ⟨k,rfl,hk,hd3,hex3⟩
     have H3:Hid (DiceOK N w3 p):=Lib.hid hd3
     have HE3:Hid (Ex w1.heap.size (some p) w1 w3):=Lib.hid (HE2.out.trans hex3 (by omega) (fun q h _=>h))
     have hz3:w2.heap.size≤w3.heap.size:=hex3.size
     clear hd3 hex3)
  | fail)
 have hk' :k=0∨k=1∨k=2∨k=3∨k=4∨k=5∨k=6∨k=7∨k=8∨k=9:=by omega
 clear hk
 rcases hk' with rfl | rfl | rfl | rfl | rfl | rfl | rfl | rfl | rfl | rfl
 · go_wp2_with (first
    | (go_at_call 9
       refine(next_w N p 4 w3 H3.out (by omega) (by omega)).mono ?_
       rintro e w4 ⟨a,rfl,ha,hd4,hex4⟩
       have H4:Hid (DiceOK N w4 p):=Lib.hid hd4
       have HE4:Hid (Ex w1.heap.size (some p) w1 w4):=Lib.hid (HE3.out.trans hex4 (by omega) (fun q h _=>h))
       have hz4:w3.heap.size≤w4.heap.size:=hex4.size
       have hst: (rowStore 35 ⟨w.heap.size,0,none⟩ (.agg #[.int .i64 2,.int .i64 (a:Int),.int .i64 0,.int .i64 0,.slice none 0 0,.slice none 0 0])).run Tryz.prog w4=.ok () (w4.setRow w.heap.size (drE (drD 2 (a:Int) 0 0 [],⟨none,0,0⟩,⟨none,0,0⟩)).toArray):=drV_set (drD 2 (a:Int) 0 0 [],⟨none,0,0⟩,⟨none,0,0⟩) (HR1.out w4 HE4.out) rfl
       clear hd4 hex4)
    | fail)
   refine bodyPost_ret (v:=drV (drD 2 (a:Int) 0 0 [],⟨none,0,0⟩,⟨none,0,0⟩)) (results_cell_row rfl _ _ w.heap.size 35 (drE (drD 2 (a:Int) 0 0 [],⟨none,0,0⟩,⟨none,0,0⟩)).toArray (0,0) _ (by rfl) (setRow_heap _ _ _ _ _ _ (HR1.out w4 HE4.out)) Tryz.underlying35 rfl Tryz.sizeDr) rfl ?_
   exact⟨⟨(drD 2 (a:Int) 0 0 [],⟨none,0,0⟩,⟨none,0,0⟩),rfl,by show(2:Int)≠10;decide,Nat.zero_le _,rfl,⟨Sl.nil _ _,Sl.nil _ _⟩⟩,DiceOK.keep H4.out ((Ex.refl N none w4).setRow _ _ (.inr hN)) (Nat.le_refl _),((HE0.out.weaken (some p)).trans HE4.out (by omega) (fun q h _=>h)).setRow _ _ (.inr (Nat.le_refl _))⟩
 · have hst: (rowStore 35 ⟨w.heap.size,0,none⟩ (.agg #[.int .i64 11,.int .i64 0,.int .i64 0,.int .i64 0,.slice none 0 0,.slice none 0 0])).run Tryz.prog w3=.ok () (w3.setRow w.heap.size (drE (drD 11 0 0 0 [],⟨none,0,0⟩,⟨none,0,0⟩)).toArray):=drV_set (drD 11 0 0 0 [],⟨none,0,0⟩,⟨none,0,0⟩) (HR1.out w3 HE3.out) rfl
   go_wp2
   refine bodyPost_ret (v:=drV (drD 11 0 0 0 [],⟨none,0,0⟩,⟨none,0,0⟩)) (results_cell_row rfl _ _ w.heap.size 35 (drE (drD 11 0 0 0 [],⟨none,0,0⟩,⟨none,0,0⟩)).toArray (0,0) _ (by rfl) (setRow_heap _ _ _ _ _ _ (HR1.out w3 HE3.out)) Tryz.underlying35 rfl Tryz.sizeDr) rfl ?_
   exact⟨⟨(drD 11 0 0 0 [],⟨none,0,0⟩,⟨none,0,0⟩),rfl,by show(11:Int)≠10;decide,Nat.zero_le _,rfl,⟨Sl.nil _ _,Sl.nil _ _⟩⟩,DiceOK.keep H3.out ((Ex.refl N none w3).setRow _ _ (.inr hN)) (Nat.le_refl _),((HE0.out.weaken (some p)).trans HE3.out (by omega) (fun q h _=>h)).setRow _ _ (.inr (Nat.le_refl _))⟩
 · have hst: (rowStore 35 ⟨w.heap.size,0,none⟩ (.agg #[.int .i64 11,.int .i64 0,.int .i64 0,.int .i64 0,.slice none 0 0,.slice none 0 0])).run Tryz.prog w3=.ok () (w3.setRow w.heap.size (drE (drD 11 0 0 0 [],⟨none,0,0⟩,⟨none,0,0⟩)).toArray):=drV_set (drD 11 0 0 0 [],⟨none,0,0⟩,⟨none,0,0⟩) (HR1.out w3 HE3.out) rfl
   go_wp2
   refine bodyPost_ret (v:=drV (drD 11 0 0 0 [],⟨none,0,0⟩,⟨none,0,0⟩)) (results_cell_row rfl _ _ w.heap.size 35 (drE (drD 11 0 0 0 [],⟨none,0,0⟩,⟨none,0,0⟩)).toArray (0,0) _ (by rfl) (setRow_heap _ _ _ _ _ _ (HR1.out w3 HE3.out)) Tryz.underlying35 rfl Tryz.sizeDr) rfl ?_
   exact⟨⟨(drD 11 0 0 0 [],⟨none,0,0⟩,⟨none,0,0⟩),rfl,by show(11:Int)≠10;decide,Nat.zero_le _,rfl,⟨Sl.nil _ _,Sl.nil _ _⟩⟩,DiceOK.keep H3.out ((Ex.refl N none w3).setRow _ _ (.inr hN)) (Nat.le_refl _),((HE0.out.weaken (some p)).trans HE3.out (by omega) (fun q h _=>h)).setRow _ _ (.inr (Nat.le_refl _))⟩
 · go_wp2_with (first
    | (go_at_call 25
       refine(keysV_w N p 5 w3 H3.out (by omega) (by omega) (by omega)).mono ?_
       rintro e w4 ⟨ko,kc,ks,km,rfl,hkm,hown,hks,hd4,hex4⟩
       have H4:Hid (DiceOK N w4 p):=Lib.hid hd4
       have HE4:Hid (Ex w1.heap.size (some p) w1 w4):=Lib.hid (HE3.out.trans hex4 (by omega) (fun q h _=>h))
       have hz4:w3.heap.size≤w4.heap.size:=hex4.size
       have HI4:Hid (Ints w4 (.slice ko km kc) ks):=Lib.hid (by rw [←hkm];exact hown.v)
       have HK4:Hid (ks.length≤100):=Lib.hid hks
       clear hkm hown hks
       clear hd4 hex4)
    | (go_at_call 24
       refine(minus_any (.slice ko km kc) (.slice (some ⟨w4.heap.size,0,none⟩) 1 1) ks [me] _ (HI4.out.keep (Ex.new w4 _) (Nat.le_refl _)) ⟨_,1,rfl,IntsAt.lit w4 [me]⟩ (by have:=HK4.out;omega) (by simp)).mono ?_
       rintro e w5 ⟨ga,gc,rfl,hown,hex⟩
       obtain⟨gs,hgs⟩:∃gs,gs=minusI ks [me]:=⟨_,rfl⟩
       have hgl:gs.length≤64:=by rw [hgs];exact keysTo_le _ 64
       rw [←hgs] at hown ⊢
       obtain⟨gl,hgln⟩:∃gl,gl=gs.length:=⟨_,rfl⟩
       have HG5:Hid (Ints w5 (.slice ga gs.length gc) gs∧gl=gs.length):=Lib.hid ⟨hown.v,hgln⟩
       have HGO:Hid (∀a,ga=some a→w4.heap.size≤a.block):=Lib.hid (fun a h=>by have:=(hown.lt a h).1;simp at this;omega)
       rw [←hgln] at hgl ⊢
       have HX5:Hid (Ex w4.heap.size none w4 w5):=Lib.hid ((Ex.new w4 _).trans hex (by simp) (by simp))
       have H5:Hid (DiceOK N w5 p):=Lib.hid (H4.out.keep HX5.out (by omega))
       have HE5:Hid (Ex w1.heap.size (some p) w1 w5):=Lib.hid (HE4.out.trans HX5.out (by omega) (by simp))
       have hz5:w4.heap.size≤w5.heap.size:=HX5.out.size
       clear hown hex hgs hgln)
    | (go_at_call 9
       refine(next_w N p _ w5 H5.out (by first | omega | (split <;> omega) | (simp;omega)) (by first | omega | (split <;> omega) | (simp;omega))).mono ?_
       rintro e w6 ⟨a,rfl,ha,hd6,hex6⟩
       have H6:Hid (DiceOK N w6 p):=Lib.hid hd6
       have HE6:Hid (Ex w1.heap.size (some p) w1 w6):=Lib.hid (HE5.out.trans hex6 (by omega) (fun q h _=>h))
       have hz6:w5.heap.size≤w6.heap.size:=hex6.size
       have hwp:IntKind.i64.wrap (1+ (a:Int))=1+ (a:Int):=by rw [IntKind.wrap_i64];have ha2: (a:Int) < 100:=(by first | omega | (split at ha <;> omega) | (simp at ha;omega));omega
       have HL6:Hid (Sl intRep (fun b=>w1.heap.size≤b) w6 (.slice ga gl gc) gs):=Lib.hid (by rw [HG5.out.2];exact(ints_sl (P:=fun b=>w1.heap.size≤b) HG5.out.1 (fun ao n c he hne ad had=>by cases he;have:=HGO.out ad had;omega)).keep (by decide) fun b hb hlt=>hex6.block b hlt (by simp;omega))
       have hst: (rowStore 35 ⟨w.heap.size,0,none⟩ (.agg #[.int .i64 12,.int .i64 (1+ (a:Int)),.int .i64 0,.int .i64 0,.slice ga gl gc,.slice none 0 0])).run Tryz.prog w6=.ok () (w6.setRow w.heap.size (drE (drD 12 (1+ (a:Int)) 0 0 gs,⟨ga,gl,gc⟩,⟨none,0,0⟩)).toArray):=drV_set (drD 12 (1+ (a:Int)) 0 0 gs,⟨ga,gl,gc⟩,⟨none,0,0⟩) (HR1.out w6 HE6.out) rfl
       clear hd6 hex6)
    | fail)
   refine bodyPost_ret (v:=drV (drD 12 (1+ (a:Int)) 0 0 gs,⟨ga,gl,gc⟩,⟨none,0,0⟩)) (results_cell_row rfl _ _ w.heap.size 35 (drE (drD 12 (1+ (a:Int)) 0 0 gs,⟨ga,gl,gc⟩,⟨none,0,0⟩)).toArray (0,0) _ (by rfl) (setRow_heap _ _ _ _ _ _ (HR1.out w6 HE6.out)) Tryz.underlying35 rfl Tryz.sizeDr) rfl ?_
   exact⟨⟨(drD 12 (1+ (a:Int)) 0 0 gs,⟨ga,gl,gc⟩,⟨none,0,0⟩),rfl,by show(12:Int)≠10;decide,by show gs.length≤_;rw [←HG5.out.2];omega,rfl,⟨((HL6.out.keep (by decide) fun b hb _=>setRow_other _ _ _ _ (by omega)).mono (by decide) fun b hb _=>by omega),Sl.nil _ _⟩⟩,DiceOK.keep H6.out ((Ex.refl N none w6).setRow _ _ (.inr hN)) (Nat.le_refl _),((HE0.out.weaken (some p)).trans HE6.out (by omega) (fun q h _=>h)).setRow _ _ (.inr (Nat.le_refl _))⟩
 · go_wp2_with (first
    | (go_at_call 9
       refine(next_w N p 5 w3 H3.out (by omega) (by omega)).mono ?_
       rintro e w4 ⟨a,rfl,ha,hd4,hex4⟩
       have H4:Hid (DiceOK N w4 p):=Lib.hid hd4
       have HE4:Hid (Ex w1.heap.size (some p) w1 w4):=Lib.hid (HE3.out.trans hex4 (by omega) (fun q h _=>h))
       have hz4:w3.heap.size≤w4.heap.size:=hex4.size
       have hst: (rowStore 35 ⟨w.heap.size,0,none⟩ (.agg #[.int .i64 13,.int .i64 o,.int .i64 (a:Int),.int .i64 0,.slice none 0 0,.slice none 0 0])).run Tryz.prog w4=.ok () (w4.setRow w.heap.size (drE (drD 13 o (a:Int) 0 [],⟨none,0,0⟩,⟨none,0,0⟩)).toArray):=drV_set (drD 13 o (a:Int) 0 [],⟨none,0,0⟩,⟨none,0,0⟩) (HR1.out w4 HE4.out) rfl
       clear hd4 hex4)
    | fail)
   refine bodyPost_ret (v:=drV (drD 13 o (a:Int) 0 [],⟨none,0,0⟩,⟨none,0,0⟩)) (results_cell_row rfl _ _ w.heap.size 35 (drE (drD 13 o (a:Int) 0 [],⟨none,0,0⟩,⟨none,0,0⟩)).toArray (0,0) _ (by rfl) (setRow_heap _ _ _ _ _ _ (HR1.out w4 HE4.out)) Tryz.underlying35 rfl Tryz.sizeDr) rfl ?_
   exact⟨⟨(drD 13 o (a:Int) 0 [],⟨none,0,0⟩,⟨none,0,0⟩),rfl,by show(13:Int)≠10;decide,Nat.zero_le _,rfl,⟨Sl.nil _ _,Sl.nil _ _⟩⟩,DiceOK.keep H4.out ((Ex.refl N none w4).setRow _ _ (.inr hN)) (Nat.le_refl _),((HE0.out.weaken (some p)).trans HE4.out (by omega) (fun q h _=>h)).setRow _ _ (.inr (Nat.le_refl _))⟩
 · go_wp2_with (first
    | (go_at_call 9
       refine(next_w N p 2 w3 H3.out (by omega) (by omega)).mono ?_
       rintro e w4 ⟨a,rfl,ha,hd4,hex4⟩
       have H4:Hid (DiceOK N w4 p):=Lib.hid hd4
       have HE4:Hid (Ex w1.heap.size (some p) w1 w4):=Lib.hid (HE3.out.trans hex4 (by omega) (fun q h _=>h))
       have hz4:w3.heap.size≤w4.heap.size:=hex4.size
       clear hd4 hex4)
    | (go_at_call 26
       refine(someV_w N p 5 w4 H4.out (by omega) (by omega) (by omega)).mono ?_
       rintro e w5 ⟨ko,kc,ks,km,rfl,hkm,hown,hks,hd5,hex5⟩
       have H5:Hid (DiceOK N w5 p):=Lib.hid hd5
       have HE5:Hid (Ex w1.heap.size (some p) w1 w5):=Lib.hid (HE4.out.trans hex5 (by omega) (fun q h _=>h))
       have hz5:w4.heap.size≤w5.heap.size:=hex5.size
       have HL5:Hid (Sl intRep (fun b=>w1.heap.size≤b) w5 (.slice ko km kc) ks):=Lib.hid (by rw [←hkm];exact ints_sl (P:=fun b=>w1.heap.size≤b) hown.v (fun ao n c he hne ad had=>by cases he;have:=(hown.lt ad had).1;omega))
       have HK5:Hid (ks.length≤100):=Lib.hid hks
       clear hkm hown hks
       have hst: (rowStore 35 ⟨w.heap.size,0,none⟩ (.agg #[.int .i64 14,.int .i64 (a:Int),.int .i64 0,.int .i64 0,.slice ko km kc,.slice none 0 0])).run Tryz.prog w5=.ok () (w5.setRow w.heap.size (drE (drD 14 (a:Int) 0 0 ks,⟨ko,km,kc⟩,⟨none,0,0⟩)).toArray):=drV_set (drD 14 (a:Int) 0 0 ks,⟨ko,km,kc⟩,⟨none,0,0⟩) (HR1.out w5 HE5.out) rfl
       clear hd5 hex5)
    | fail)
   refine bodyPost_ret (v:=drV (drD 14 (a:Int) 0 0 ks,⟨ko,km,kc⟩,⟨none,0,0⟩)) (results_cell_row rfl _ _ w.heap.size 35 (drE (drD 14 (a:Int) 0 0 ks,⟨ko,km,kc⟩,⟨none,0,0⟩)).toArray (0,0) _ (by rfl) (setRow_heap _ _ _ _ _ _ (HR1.out w5 HE5.out)) Tryz.underlying35 rfl Tryz.sizeDr) rfl ?_
   exact⟨⟨(drD 14 (a:Int) 0 0 ks,⟨ko,km,kc⟩,⟨none,0,0⟩),rfl,by show(14:Int)≠10;decide,HK5.out,rfl,⟨((HL5.out.keep (by decide) fun b hb _=>setRow_other _ _ _ _ (by omega)).mono (by decide) fun b hb _=>by omega),Sl.nil _ _⟩⟩,DiceOK.keep H5.out ((Ex.refl N none w5).setRow _ _ (.inr hN)) (Nat.le_refl _),((HE0.out.weaken (some p)).trans HE5.out (by omega) (fun q h _=>h)).setRow _ _ (.inr (Nat.le_refl _))⟩
 · go_wp2_with (first
    | (go_at_call 9
       fail_if_success (have _x:=H4)
       refine(next_w N p 2 w3 H3.out (by omega) (by omega)).mono ?_
       rintro e w4 ⟨a,rfl,ha,hd4,hex4⟩
       have H4:Hid (DiceOK N w4 p):=Lib.hid hd4
       have HE4:Hid (Ex w1.heap.size (some p) w1 w4):=Lib.hid (HE3.out.trans hex4 (by omega) (fun q h _=>h))
       have hz4:w3.heap.size≤w4.heap.size:=hex4.size
       have hwp:IntKind.i64.wrap (2+ (a:Int))=2+ (a:Int):=by rw [IntKind.wrap_i64];omega
       clear hd4 hex4)
    | (go_at_call 9
       refine(next_w N p 5 w4 H4.out (by omega) (by omega)).mono ?_
       rintro e w5 ⟨b,rfl,hb,hd5,hex5⟩
       have H5:Hid (DiceOK N w5 p):=Lib.hid hd5
       have HE5:Hid (Ex w1.heap.size (some p) w1 w5):=Lib.hid (HE4.out.trans hex5 (by omega) (fun q h _=>h))
       have hz5:w4.heap.size≤w5.heap.size:=hex5.size
       have hst: (rowStore 35 ⟨w.heap.size,0,none⟩ (.agg #[.int .i64 15,.int .i64 0,.int .i64 (2+ (a:Int)),.int .i64 (b:Int),.slice none 0 0,.slice none 0 0])).run Tryz.prog w5=.ok () (w5.setRow w.heap.size (drE (drD 15 0 (2+ (a:Int)) (b:Int) [],⟨none,0,0⟩,⟨none,0,0⟩)).toArray):=drV_set (drD 15 0 (2+ (a:Int)) (b:Int) [],⟨none,0,0⟩,⟨none,0,0⟩) (HR1.out w5 HE5.out) rfl
       clear hd5 hex5)
    | fail)
   refine bodyPost_ret (v:=drV (drD 15 0 (2+ (a:Int)) (b:Int) [],⟨none,0,0⟩,⟨none,0,0⟩)) (results_cell_row rfl _ _ w.heap.size 35 (drE (drD 15 0 (2+ (a:Int)) (b:Int) [],⟨none,0,0⟩,⟨none,0,0⟩)).toArray (0,0) _ (by rfl) (setRow_heap _ _ _ _ _ _ (HR1.out w5 HE5.out)) Tryz.underlying35 rfl Tryz.sizeDr) rfl ?_
   exact⟨⟨(drD 15 0 (2+ (a:Int)) (b:Int) [],⟨none,0,0⟩,⟨none,0,0⟩),rfl,by show(15:Int)≠10;decide,Nat.zero_le _,rfl,⟨Sl.nil _ _,Sl.nil _ _⟩⟩,DiceOK.keep H5.out ((Ex.refl N none w5).setRow _ _ (.inr hN)) (Nat.le_refl _),((HE0.out.weaken (some p)).trans HE5.out (by omega) (fun q h _=>h)).setRow _ _ (.inr (Nat.le_refl _))⟩
 · go_wp2_with (first
    | (go_at_call 9
       refine(next_w N p 3 w3 H3.out (by omega) (by omega)).mono ?_
       rintro e w4 ⟨a,rfl,ha,hd4,hex4⟩
       have H4:Hid (DiceOK N w4 p):=Lib.hid hd4
       have HE4:Hid (Ex w1.heap.size (some p) w1 w4):=Lib.hid (HE3.out.trans hex4 (by omega) (fun q h _=>h))
       have hz4:w3.heap.size≤w4.heap.size:=hex4.size
       have hwp:IntKind.i64.wrap (1+ (a:Int))=1+ (a:Int):=by rw [IntKind.wrap_i64];omega
       clear hd4 hex4)
    | (go_at_call 27
       refine(of_w N p (.slice (some ⟨w4.heap.size,0,none⟩) 3 3) [100,30,5] _ (H4.out.keep (Ex.new w4 _) (by omega)) (IntsO.lit [100,30,5] rfl rfl (by omega)) (by decide) (by decide)).mono ?_
       rintro e w5 ⟨v,rfl,hv,hd5,hex5⟩
       have hv2:v=100∨v=30∨v=5:=by simpa using hv
       have hwp2:IntKind.i64.wrap (t+v)=t+v:=by rw [IntKind.wrap_i64];rcases hv2 with rfl | rfl | rfl <;> omega
       have H5:Hid (DiceOK N w5 p):=Lib.hid hd5
       have HE5:Hid (Ex w1.heap.size (some p) w1 w5):=Lib.hid ((HE4.out.alloc (by omega) _).trans hex5 (by simp;omega) (fun q h _=>h))
       have hst: (rowStore 35 ⟨w.heap.size,0,none⟩ (.agg #[.int .i64 1,.int .i64 o,.int .i64 (1+ (a:Int)),.int .i64 (t+v),.slice none 0 0,.slice none 0 0])).run Tryz.prog w5=.ok () (w5.setRow w.heap.size (drE (drD 1 o (1+ (a:Int)) (t+v) [],⟨none,0,0⟩,⟨none,0,0⟩)).toArray):=drV_set (drD 1 o (1+ (a:Int)) (t+v) [],⟨none,0,0⟩,⟨none,0,0⟩) (HR1.out w5 HE5.out) rfl
       clear hd5 hex5 hv hv2)
    | fail)
   refine bodyPost_ret (v:=drV (drD 1 o (1+ (a:Int)) (t+v) [],⟨none,0,0⟩,⟨none,0,0⟩)) (results_cell_row rfl _ _ w.heap.size 35 (drE (drD 1 o (1+ (a:Int)) (t+v) [],⟨none,0,0⟩,⟨none,0,0⟩)).toArray (0,0) _ (by rfl) (setRow_heap _ _ _ _ _ _ (HR1.out w5 HE5.out)) Tryz.underlying35 rfl Tryz.sizeDr) rfl ?_
   exact⟨⟨(drD 1 o (1+ (a:Int)) (t+v) [],⟨none,0,0⟩,⟨none,0,0⟩),rfl,by show(1:Int)≠10;decide,Nat.zero_le _,rfl,⟨Sl.nil _ _,Sl.nil _ _⟩⟩,DiceOK.keep H5.out ((Ex.refl N none w5).setRow _ _ (.inr hN)) (Nat.le_refl _),((HE0.out.weaken (some p)).trans HE5.out (by omega) (fun q h _=>h)).setRow _ _ (.inr (Nat.le_refl _))⟩
 · go_wp2_with (first
    | (go_at_call 9
       refine(next_w N p 3 w3 H3.out (by omega) (by omega)).mono ?_
       rintro e w4 ⟨a,rfl,ha,hd4,hex4⟩
       have H4:Hid (DiceOK N w4 p):=Lib.hid hd4
       have HE4:Hid (Ex w1.heap.size (some p) w1 w4):=Lib.hid (HE3.out.trans hex4 (by omega) (fun q h _=>h))
       have hz4:w3.heap.size≤w4.heap.size:=hex4.size
       have hwp:IntKind.i64.wrap (1+ (a:Int))=1+ (a:Int):=by rw [IntKind.wrap_i64];omega
       clear hd4 hex4)
    | (go_at_call 27
       refine(of_w N p (.slice (some ⟨w4.heap.size,0,none⟩) 3 3) [100,30,5] _ (H4.out.keep (Ex.new w4 _) (by omega)) (IntsO.lit [100,30,5] rfl rfl (by omega)) (by decide) (by decide)).mono ?_
       rintro e w5 ⟨v,rfl,hv,hd5,hex5⟩
       have hv2:v=100∨v=30∨v=5:=by simpa using hv
       have hwp2:IntKind.i64.wrap (t+v)=t+v:=by rw [IntKind.wrap_i64];rcases hv2 with rfl | rfl | rfl <;> omega
       have H5:Hid (DiceOK N w5 p):=Lib.hid hd5
       have HE5:Hid (Ex w1.heap.size (some p) w1 w5):=Lib.hid ((HE4.out.alloc (by omega) _).trans hex5 (by simp;omega) (fun q h _=>h))
       have hst: (rowStore 35 ⟨w.heap.size,0,none⟩ (.agg #[.int .i64 1,.int .i64 o,.int .i64 (1+ (a:Int)),.int .i64 (t+v),.slice none 0 0,.slice none 0 0])).run Tryz.prog w5=.ok () (w5.setRow w.heap.size (drE (drD 1 o (1+ (a:Int)) (t+v) [],⟨none,0,0⟩,⟨none,0,0⟩)).toArray):=drV_set (drD 1 o (1+ (a:Int)) (t+v) [],⟨none,0,0⟩,⟨none,0,0⟩) (HR1.out w5 HE5.out) rfl
       clear hd5 hex5 hv hv2)
    | fail)
   refine bodyPost_ret (v:=drV (drD 1 o (1+ (a:Int)) (t+v) [],⟨none,0,0⟩,⟨none,0,0⟩)) (results_cell_row rfl _ _ w.heap.size 35 (drE (drD 1 o (1+ (a:Int)) (t+v) [],⟨none,0,0⟩,⟨none,0,0⟩)).toArray (0,0) _ (by rfl) (setRow_heap _ _ _ _ _ _ (HR1.out w5 HE5.out)) Tryz.underlying35 rfl Tryz.sizeDr) rfl ?_
   exact⟨⟨(drD 1 o (1+ (a:Int)) (t+v) [],⟨none,0,0⟩,⟨none,0,0⟩),rfl,by show(1:Int)≠10;decide,Nat.zero_le _,rfl,⟨Sl.nil _ _,Sl.nil _ _⟩⟩,DiceOK.keep H5.out ((Ex.refl N none w5).setRow _ _ (.inr hN)) (Nat.le_refl _),((HE0.out.weaken (some p)).trans HE5.out (by omega) (fun q h _=>h)).setRow _ _ (.inr (Nat.le_refl _))⟩
 · go_wp2_with (first
    | (go_at_call 9
       refine(next_w N p 3 w3 H3.out (by omega) (by omega)).mono ?_
       rintro e w4 ⟨a,rfl,ha,hd4,hex4⟩
       have H4:Hid (DiceOK N w4 p):=Lib.hid hd4
       have HE4:Hid (Ex w1.heap.size (some p) w1 w4):=Lib.hid (HE3.out.trans hex4 (by omega) (fun q h _=>h))
       have hz4:w3.heap.size≤w4.heap.size:=hex4.size
       have hwp:IntKind.i64.wrap (1+ (a:Int))=1+ (a:Int):=by rw [IntKind.wrap_i64];omega
       clear hd4 hex4)
    | (go_at_call 27
       refine(of_w N p (.slice (some ⟨w4.heap.size,0,none⟩) 3 3) [100,30,5] _ (H4.out.keep (Ex.new w4 _) (by omega)) (IntsO.lit [100,30,5] rfl rfl (by omega)) (by decide) (by decide)).mono ?_
       rintro e w5 ⟨v,rfl,hv,hd5,hex5⟩
       have hv2:v=100∨v=30∨v=5:=by simpa using hv
       have hwp2:IntKind.i64.wrap (t+v)=t+v:=by rw [IntKind.wrap_i64];rcases hv2 with rfl | rfl | rfl <;> omega
       have H5:Hid (DiceOK N w5 p):=Lib.hid hd5
       have HE5:Hid (Ex w1.heap.size (some p) w1 w5):=Lib.hid ((HE4.out.alloc (by omega) _).trans hex5 (by simp;omega) (fun q h _=>h))
       have hst: (rowStore 35 ⟨w.heap.size,0,none⟩ (.agg #[.int .i64 1,.int .i64 o,.int .i64 (1+ (a:Int)),.int .i64 (t+v),.slice none 0 0,.slice none 0 0])).run Tryz.prog w5=.ok () (w5.setRow w.heap.size (drE (drD 1 o (1+ (a:Int)) (t+v) [],⟨none,0,0⟩,⟨none,0,0⟩)).toArray):=drV_set (drD 1 o (1+ (a:Int)) (t+v) [],⟨none,0,0⟩,⟨none,0,0⟩) (HR1.out w5 HE5.out) rfl
       clear hd5 hex5 hv hv2)
    | fail)
   refine bodyPost_ret (v:=drV (drD 1 o (1+ (a:Int)) (t+v) [],⟨none,0,0⟩,⟨none,0,0⟩)) (results_cell_row rfl _ _ w.heap.size 35 (drE (drD 1 o (1+ (a:Int)) (t+v) [],⟨none,0,0⟩,⟨none,0,0⟩)).toArray (0,0) _ (by rfl) (setRow_heap _ _ _ _ _ _ (HR1.out w5 HE5.out)) Tryz.underlying35 rfl Tryz.sizeDr) rfl ?_
   exact⟨⟨(drD 1 o (1+ (a:Int)) (t+v) [],⟨none,0,0⟩,⟨none,0,0⟩),rfl,by show(1:Int)≠10;decide,Nat.zero_le _,rfl,⟨Sl.nil _ _,Sl.nil _ _⟩⟩,DiceOK.keep H5.out ((Ex.refl N none w5).setRow _ _ (.inr hN)) (Nat.le_refl _),((HE0.out.weaken (some p)).trans HE5.out (by omega) (fun q h _=>h)).setRow _ _ (.inr (Nat.le_refl _))⟩
end
end Go.Proofs.YtflhidfclfkjlaaGreat

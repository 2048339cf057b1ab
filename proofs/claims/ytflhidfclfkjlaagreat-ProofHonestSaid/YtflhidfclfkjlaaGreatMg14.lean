/- Proofs as values that the walk does not open; rows of them. No statement of the seat. | proof.forks: a contract. No statement of the seat. | ballot.Cases: a contract. No statement of the seat. | proof.doubles: a contract. No statement of the seat. | mill.Case: a contract. No statement of the seat. | ref23.Code, ref23.Right at a valid case and a content that fits but for its pins: contracts. No statement of the seat. | ref23.Draft at a valid case and a content that fits: a contract. No statement of the seat. -/
import Derived.Test.YtflhidfclfkjlaaGreatMg13
import Derived.Test.YtflhidfclfkjlaaGreatMg12
import Derived.Test.YtflhidfclfkjlaaGreatMg05
import Derived.Test.YtflhidfclfkjlaaGreatMg00
import Derived.Test.YtflhidfclfkjlaaGreatMg02
import Derived.Deep.RegionHeld3
import Derived.Test.YtflhidfclfkjlaaGreatDiceWG
import Derived.Test.YtflhidfclfkjlaaGreatMg11
import Derived.Test.YtflhidfclfkjlaaGreatChk03G
namespace Go.Proofs.YtflhidfclfkjlaaGreat
open Go.RowKit Go.Sort
def prV (x:PrX):Value:=.agg (prE x).toArray
theorem prV_cells (x:PrX): (prV x).cells= (prE x).toArray:=rfl
theorem prV_one (x:PrX): (prV x).cells.all (·.oneCell')=true:=by
 rw [Array.all_eq_true_iff_forall_mem]
 intro v hv
 exact one_prE x v (by simpa [prV_cells] using hv)
theorem rowStore_prf (a:Addr) (v:Value):storeVar 63 a v=rowStore 63 a v:=rfl
theorem rowLoad_prf (a:Addr):loadVar 63 a=rowLoad 63 a:=rfl
def prMake (t:TypeId) (ps:Array (Nat×Value)):Sem Value:=Instr.build t ps
theorem make_prf (ps:Array (Nat×Value)):Instr.build 63 ps=prMake 63 ps:=rfl
theorem make_prs (n:Nat) (ps:Array (Nat×Value)):Instr.buildSlice 58 n ps=rowBuild 58 n ps:=rfl
set_option maxRecDepth 100000 in
theorem build_prf (w:World) (kn:Int) (x y:St×Sv×Sv): (prMake 63 #[(0,.int .i64 kn),(1,stV x),(2,stV y)]).run Tryz.prog w=.ok (prV (kn,x,y)) w:=run_build w _ _ _ (by kernel_rfl)
theorem Tryz.sizePrf: (Tryz.prog.info? 63).map (·.size)=some 27:=by kernel_rfl
theorem Tryz.infoPrf:∃z,(Tryz.prog.info? 63).map (fun i=>(i.zero,i.size,i.bytes))=some (some z,27,328)∧z.cells.size=27:=⟨.agg #[.int .i64 0,.int .i64 0,.int .i64 0,.string ⟨#[]⟩,.int .i64 0,.int .i64 0,.int .i64 0,.int .i64 0,.int .i64 0,.slice none 0 0,.slice none 0 0,.string ⟨#[]⟩,.int .i64 0,.string ⟨#[]⟩,.int .i64 0,.int .i64 0,.string ⟨#[]⟩,.int .i64 0,.int .i64 0,.int .i64 0,.int .i64 0,.int .i64 0,.slice none 0 0,.slice none 0 0,.string ⟨#[]⟩,.int .i64 0,.string ⟨#[]⟩],by kernel_rfl,rfl⟩
theorem rows_prf (w:World) (x:PrX): (rowBuild 58 1 #[(0,prV x)]).run Tryz.prog w=.ok (.slice (some ⟨w.heap.size,0,none⟩) 1 1) (w.alloc (.cells (prE x).toArray 63)):=by
 obtain⟨z,hz,hc⟩:=Tryz.infoPrf
 exact run_rowBuild w 58 63 (prE x).toArray 27 328 z Tryz.underlying58 hz (by decide) (by decide) rfl
theorem prV_load {w:World} {b o:Nat} {x:PrX} (h:w.rangeAt b o (prE x)): (rowLoad 63 ⟨b,o,none⟩).run Tryz.prog w=.ok (prV x) w :=
 run_loadVar_mid w b o 63 (prE x) _ h Tryz.underlying63 rfl Tryz.sizePrf
theorem prV_box {w:World} {g:Nat} {x:PrX} {t:TypeId} {fr:Nat×Nat} (h:w.heap[g]? =some (.cells (prV x).cells t fr)): (rowLoad 63 ⟨g,0,none⟩).run Tryz.prog w=.ok (prV x) w :=
 run_rowLoad (P:=Tryz.prog) w g t 63 (prE x).toArray fr _ h Tryz.underlying63 rfl Tryz.sizePrf
theorem prV_set {w:World} {g:Nat} {old:Array Value} (x:PrX) (h:w.heap[g]? =some (.cells old 63 (0,0))) (ho:old.size=27): (rowStore 63 ⟨g,0,none⟩ (prV x)).run Tryz.prog w=.ok () (w.setRow g (prE x).toArray) :=
 run_rowStore (P:=Tryz.prog) w g 63 63 old (prV x).cells h Tryz.sizePrf (by rw [ho];rfl) (prV_one x)
theorem prV_new (w:World) (old:Array Value) (x:PrX) (ho:old.size=27): (rowStore 63 ⟨w.heap.size,0,none⟩ (prV x)).run Tryz.prog (w.alloc (.cells old 63))=.ok () (w.alloc (.cells (prE x).toArray 63)):=by
 have h:=prV_set (w:=w.alloc (.cells old 63)) (g:=w.heap.size) (old:=old) x (heap_alloc_new w _) ho
 rw [alloc_setRow] at h
 exact h
theorem prV_cell {w:World} {g:Nat} {x:PrX} {t:TypeId} {fr:Nat×Nat} (h:w.heap[g]? =some (.cells (prE x).toArray t fr)) (j:Nat):w.cell? ⟨g,j,none⟩= (prE x)[j]? :=by
 rw [cell_of_row _ _ _ _ _ _ h]
 simp
theorem prV_first {w:World} {g:Nat} {x:PrX} {t:TypeId} {fr:Nat×Nat} (h:w.heap[g]? =some (.cells (prE x).toArray t fr)): (rowLoad 51 ⟨g,1,none⟩).run Tryz.prog w=.ok (stV x.2.1) w :=
 stV_load fun j v hj=>by
  show w.cell? ⟨g,1+j,none⟩=_
  rw [prV_cell h,Nat.add_comm]
  have hl:=(List.getElem?_eq_some_iff.1 hj).1
  show(stE x.2.1 ++ stE x.2.2)[j]? =_
  rw [List.getElem?_append_left hl]
  exact hj
theorem prV_second {w:World} {g:Nat} {x:PrX} {t:TypeId} {fr:Nat×Nat} (h:w.heap[g]? =some (.cells (prE x).toArray t fr)): (rowLoad 51 ⟨g,14,none⟩).run Tryz.prog w=.ok (stV x.2.2) w :=
 stV_load fun j v hj=>by
  show w.cell? ⟨g,14+j,none⟩=_
  rw [prV_cell h,show 14+j= (13+j)+1 by omega]
  show(stE x.2.1 ++ stE x.2.2)[13+j]? =_
  rw [List.getElem?_append_right (by rw [stE_len];omega),stE_len,Nat.add_sub_cancel_left]
  exact hj
def SrcP (w:World) (so:Option Addr) (ys:List PrX):Prop:=ys.length=0∨∃ad,so=some ad∧∀(j:Nat) (v:Value),(flatL prE ys)[j]? =some v→w.cell? (ad.add j)=some v
theorem pr_sl {P:Nat→Prop} {w:World} {g:Nat} {xs:List PrX} (hP:P g) (h:HoldsK prE 27 w g 0 xs.toArray) (hl:∀x∈xs,LiesP P w x):SlAt prRep P w (some ⟨g,0,none⟩) (xs.map PrX.d):=fun i hi=>by
 have hi' :i < xs.length:=by simpa using hi
 refine⟨g,0,prE xs[i],rfl,hP,?_,xs[i],by simp,rfl,by simpa using hl _ (List.getElem_mem hi')⟩
 have:=holdsK_range prE_len h i (by simpa using hi')
 rwa [getElem!_pos xs.toArray i hi',List.getElem_toArray] at this
theorem own_pr {P:Nat→Prop} {w:World} {base cap:Nat} {ao:Option Addr} {xs:List PrX} (h:OwnE prE 27 63 w base ao cap xs) (hP:∀g,base≤g→P g) (hl:∀x∈xs,LiesP P w x):SlAt prRep P w ao (xs.map PrX.d):=by
 rcases h.cases with⟨_,_,rfl⟩ | ⟨g,rfl,hg,_,_⟩
 · exact SlAt.nil _ _ _
 · exact pr_sl (hP g hg) (h.holds prE_len) hl
theorem own_src {w:World} {base cap:Nat} {ao:Option Addr} {xs:List PrX} (h:OwnE prE 27 63 w base ao cap xs):SrcP w ao xs:=by
 rcases h.cases with⟨_,_,rfl⟩ | ⟨g,rfl,hg,_,_⟩
 · exact .inl rfl
 · refine .inr ⟨_,rfl,fun i v hv=>?_⟩
   obtain⟨_,_,_,_,hc,_⟩:=own_there h
   rw [Addr.add_lit,Nat.zero_add]
   exact hc i v hv
theorem prv_get {P:Nat→Prop} {w:World} {ao:Option Addr} {l:List PrD} (h:SlAt prRep P w ao l) (k:Nat) (hk:k < l.length) :
 ∃b off x,ao=some ⟨b,off,none⟩∧P b∧b < w.heap.size∧Hid (l[k]? =some x.d)∧LiesP P w x∧Hid (∀w',w'.heap[b]? =w.heap[b]?→(rowLoad 63 ⟨b,off+k * 27,none⟩).run Tryz.prog w' =.ok (prV x) w'):=by
 obtain⟨b,off,cs,p,e,hp,hr,⟨x,hx,rfl,hl⟩,hk2⟩:=h.get k hk
 subst hx
 exact⟨b,off,x,e,hp,rangeAt_lt hr (by rw [prE_len];decide),hk2,hl,Lib.hid fun w' hw=>prV_load (rangeAt_keep hr hw)⟩
section
attribute [local go_sem ↓] rowLoad_stv rowStore_stv rowLoad_prf rowStore_prf
attribute [local go_sem ↓ high] make_prf make_prs
def PsE (R:List PrD→Prop) (P:Nat→Prop) (e:Ending) (w' :World):Prop:=∃(ro:Option Addr) (m rc:Nat) (ys:List PrX),e=.returned (.slice ro m rc)∧ys.length=m∧R (ys.map PrX.d)∧SrcP w' ro ys∧∀y∈ys,LiesP P w' y
theorem forkF_hd {ls:List St} {k:Nat} {s t:St} (hno:∀j x y,j < k→ls[j]? =some x→ls[j+1]? =some y→ ¬x.number=y.number) (hs:ls[k]? =some s) (ht:ls[k+1]? =some t) (h : ¬s.number=t.number):∀j x y,j < k+1→ls[j]? =some x→ls[j+1]? =some y→ ¬x.number=y.number:=fun j x y hj hx hy=>by
 by_cases e:j=k
 · subst e
   rw [hs] at hx;rw [ht] at hy
   cases hx;cases hy
   exact h
 · exact hno j x y (by omega) hx hy
theorem num_cell {w:World} {b o:Nat} {x:St×Sv×Sv} (h:w.rangeAt b o (stE x)):w.cell? ⟨b,o+1,none⟩=some (.int .i64 x.1.number):=h 1 _ rfl
set_option maxHeartbeats 16000000 in
set_option maxRecDepth 100000 in
theorem forks_any {P:Nat→Prop} (v:Value) (ls:List St) (w:World) (hv:Sl stRep P w v ls) (hm:ls.length≤100000) :
 Calls Tryz.prog 38 #[v] w fun e w'=>PsE (ForksR ls) P e w'∧Ex w.heap.size none w w':=by
 obtain⟨ao,cap,rfl,hx⟩:=hv
 have HX:=Lib.hid hx
 clear hx
 obtain⟨n,hn⟩:∃n,n=ls.length:=⟨_,rfl⟩
 have HN:=Lib.hid hn
 rw [←hn] at hm ⊢
 clear hn
 go_enter Tryz.func38,Tryz.ntmps38
 go_wp2
 go_loopw [3] (fun i wr=>∃kp:Nat,i=.int .i64 ((kp:Int)+1)∧(kp+1≤n∨kp=0)∧Hid (∀j x y,j < kp→ls[j]? =some x→ls[j+1]? =some y→ ¬x.number=y.number)∧Ex w.heap.size none w wr) (fun i _=>n+1 - (intOf i).toNat)
 case atStart=>exact⟨0,by go_num,.inr rfl,Lib.hid (fun j x y hj=>by omega),Ex.refl _ _ _⟩
 case round=>
  obtain⟨kp,rfl,hkp,HNO,hex⟩:=hrel
  have hsz:=hex.size
  have HRX:=Lib.hid hex
  clear hex
  by_cases hlt:kp+1 < n
  · have hltI: (kp:Int)+1 < (n:Int):=by omega
    have p0: (0:Int)≤(kp:Int)+1:=by omega
    have e0: ((kp:Int)+1).toNat=kp+1:=by omega
    have hwp:IntKind.i64.wrap ((kp:Int)+1 - 1)= (kp:Int):=by rw [IntKind.wrap_i64];omega
    have hwp2:IntKind.i64.wrap ((kp:Int)+1+1)= (kp:Int)+1+1:=by rw [IntKind.wrap_i64];omega
    have hkl: (kp:Int) < (n:Int):=by omega
    have hk0: (0:Int)≤(kp:Int):=by omega
    have hwp3:IntKind.i64.wrap (kp:Int)= (kp:Int):=by rw [IntKind.wrap_i64];omega
    have hkn:kp < n:=by omega
    obtain⟨b,off,s,l1,p1,hao,hPb,hls,hrs,HXs⟩:=st_get HX.out kp (by rw [←HN.out];omega)
    have HAO:=Lib.hid hao
    subst hao
    obtain⟨b',off',t,l2,p2,hao,_,hlt',hrt,HXt⟩:=st_get HX.out (kp+1) (by rw [←HN.out];omega)
    cases hao
    have hbl:=rangeAt_lt hrs (by rw [stE_len];omega)
    have HQ:Hid (∀w',Ex w.heap.size none w w'→w'.cell? ⟨b,off+kp * 13+1,none⟩=some (.int .i64 s.number)∧w'.cell? ⟨b,off+ (kp+1) * 13+1,none⟩=some (.int .i64 t.number)):=Lib.hid (fun w' h=>
     ⟨num_cell (x:=(s,l1,p1)) (rangeAt_keep hrs (h.block b hbl (by simp))),num_cell (x:=(t,l2,p2)) (rangeAt_keep hrt (h.block b hbl (by simp)))⟩)
    have HLD:Hid (∀w',Ex w.heap.size none w w'→(rowLoad 51 ⟨b,off+kp * 13,none⟩).run Tryz.prog w' =.ok (stV (s,l1,p1)) w'∧(rowLoad 51 ⟨b,off+ (kp+1) * 13,none⟩).run Tryz.prog w' =.ok (stV (t,l2,p2)) w'):=Lib.hid (fun w' h=>
     ⟨stV_load (rangeAt_keep hrs (h.block b hbl (by simp))),stV_load (rangeAt_keep hrt (h.block b hbl (by simp)))⟩)
    have HLS:Hid (Lies P w (s,l1,p1)∧Lies P w (t,l2,p2)):=Lib.hid ⟨hls,hlt'⟩
    clear hls hrs hlt' hrt hPb
    by_cases te:s.number=t.number
    · have k1: (t.number == s.number)=true:=by simp [te]
      have HF:Hid (forkF ls=some (s,t)):=Lib.hid (forkF_some HNO.out HXs.out HXt.out te)
      clear te
      have hq:=fun p:ExW wr=>HQ.out p.w' (HRX.out.trans p.ex hsz (by simp))
      go_upto_region 4 with(fail)
      refine wp_region_quiet_ex (by kernel_rfl) (by kernel_rfl) ?_
      repeat(go_big_quiet_step (fail))
      refine wpQuiet_nil ?_
      intro _ hw'
      obtain⟨p9,hw''⟩:=hw'
      subst hw''
      clear hq
      obtain⟨w4,hw4⟩:∃w4,w4=p9.w':=⟨_,rfl⟩
      have HX4:Hid (Ex w.heap.size none w w4):=Lib.hid (by rw [hw4];exact HRX.out.trans p9.ex hsz (by simp))
      have hz4:w.heap.size≤w4.heap.size:=HX4.out.size
      rw [←hw4]
      clear hw4
      obtain⟨q1,q2⟩:=HLD.out w4.drew HX4.out.drew
      have hb:=fun W=>build_prf W 1 (s,l1,p1) (t,l2,p2)
      have hr:=fun W=>rows_prf W (1,(s,l1,p1),(t,l2,p2))
      go_upto_region 5 with(fail)
      go_region_with (fail)
      all_goals go_wp2
      all_goals go_ret
      all_goals exact⟨⟨_,1,1,[(1,(s,l1,p1),(t,l2,p2))],rfl,rfl,.inr ⟨s,t,HF.out,rfl⟩,lit_cells (by rfl),fun y hy=>by
       rw [List.mem_singleton.1 hy]
       exact LiesP.keep HLS.out fun c _ hc=>(HX4.out.drew.thenW (Ex.new w4.drew _)).block c hc (by simp)⟩,HX4.out.drew.thenW (Ex.new w4.drew _)⟩
    · have k1: (t.number == s.number)=false:=by simpa using fun e=>te e.symm
      have HNN:Hid (∀j x y,j < kp+1→ls[j]? =some x→ls[j+1]? =some y→ ¬x.number=y.number):=Lib.hid (forkF_hd HNO.out HXs.out HXt.out te)
      clear te
      have hq:=fun p:ExW wr=>HQ.out p.w' (HRX.out.trans p.ex hsz (by simp))
      go_upto_region 4 with(fail)
      refine wp_region_quiet_ex (by kernel_rfl) (by kernel_rfl) ?_
      repeat(go_big_quiet_step (fail))
      refine wpQuiet_nil ?_
      intro _ hw'
      obtain⟨p9,hw''⟩:=hw'
      subst hw''
      clear hq
      go_wp2
      go_roundw
      case rel=>exact⟨kp+1,by go_num,.inl (by omega),HNN,HRX.out.trans p9.ex hsz (by simp)⟩
      case measure=>simp [intOf] <;> omega
  · have hltI : ¬((kp:Int)+1 < (n:Int)):=by omega
    have HF:Hid (forkF ls=none):=Lib.hid (forkF_none fun j x y hx hy=>by
     have:=(List.getElem?_eq_some_iff.1 hy).1
     have hn:=HN.out
     exact HNO.out j x y (by omega) hx hy)
    go_wp2
    go_ret
    exact⟨⟨none,0,0,[],rfl,rfl,.inl ⟨HF.out,rfl⟩,.inl rfl,fun y hy=>by cases hy⟩,HRX.out⟩
end
section
attribute [local go_sem ↓] rowLoad_stv rowStore_stv
def caRep:Rep CaD:=valRep caE 4 caE_len one_caE
theorem case_eql (x y:CaD):∀w,(binOp .eql 38 (.agg (caE x).toArray) (.agg (caE y).toArray)).run Tryz.prog w=.ok (.bool (decide (x=y))) w:=fun w=>by
 obtain⟨a,b,c,d⟩:=x
 obtain⟨e,f,g,h⟩:=y
 simp [go_sem,caE]
 by_cases h1:a=e <;> by_cases h2:b=f <;> by_cases h3:c=g <;> by_cases h4:d=h <;> simp [h1,h2,h3,h4]
theorem case_neq (x y:CaD):∀w,(binOp .neq 38 (.agg (caE x).toArray) (.agg (caE y).toArray)).run Tryz.prog w=.ok (.bool (!decide (x=y))) w:=fun w=>by
 obtain⟨a,b,c,d⟩:=x
 obtain⟨e,f,g,h⟩:=y
 simp [go_sem,caE]
 by_cases h1:a=e <;> by_cases h2:b=f <;> by_cases h3:c=g <;> by_cases h4:d=h <;> simp [h1,h2,h3,h4]
theorem Tryz.infoCa: (Tryz.prog.info? 38).map (fun i=>(i.zero,i.size,i.bytes))=some (some (.agg #[.int .i64 0,.int .i64 0,.int .i64 0,.int .i64 0]),4,32):=by kernel_rfl
theorem compactCases_none (p:Option Addr) (cap:Nat) (w:World):Calls Tryz.prog 94 #[.slice p 0 cap] w fun e w'=>e=.returned (.slice p 0 cap)∧w' =w:=by
 go_enter Tryz.func94,Tryz.ntmps94
 go_wp2
 go_ret
 exact⟨rfl,rfl⟩
theorem compactCases_any (g off cap s:Nat) (d:Array CaD) (w:World) (hH:HoldsK caE 4 w g off d) (hg:g < w.heap.size) (hsz:d.size < 1000000000000) (hcap:d.size≤cap) (hs:d.size=s) :
 Calls Tryz.prog 94 #[.slice (some ⟨g,off,none⟩) s cap] w fun e w'=>
  e=.returned (.slice (some ⟨g,off,none⟩) (cpt (fun x y:CaD=>decide (x=y)) d s).length cap)∧HoldsK caE 4 w' g off (cpt (fun x y:CaD=>decide (x=y)) d s).toArray∧Ex w.heap.size (some g) w w' :=
 compactECs_any clayCs caE caE_len one_caE (fun x y:CaD=>decide (x=y)) (fun w x y=>case_eql x y w) (fun w x y=>case_neq x y w) (by kernel_rfl) (by kernel_rfl) #[.int .i64 0,.int .i64 0,.int .i64 0,.int .i64 0] Tryz.zeroValue38 rfl (by intro v hv;simp at hv;subst hv;rfl) g off cap s d w hH hg hsz hcap hs
set_option maxHeartbeats 16000000 in
set_option maxRecDepth 100000 in
theorem cases_any {P:Nat→Prop} (v:Value) (l:List St) (w:World) (hv:Sl stRep P w v l) (hm:l.length≤100000) (hL:∀s∈l,LightS s) :
 Calls Tryz.prog 63 #[v] w fun q w'=>∃u cs,q=.returned u∧Sl caRep (fun b=>w.heap.size≤b) w' u cs∧cs.length≤l.length∧Ex w.heap.size none w w':=by
 obtain⟨ao,cap,rfl,hx⟩:=hv
 have HLL:=Lib.hid hL
 have HX:=Lib.hid hx
 have HXB:Hid (∀w',Ex w.heap.size none w w'→SlAt stRep P w' ao l):=Lib.hid (fun w' h=>hx.keep (by decide) fun b _ hb=>h.block b hb (by simp))
 clear hx hL
 go_enter Tryz.func63,Tryz.ntmps63
 go_wp2
 go_loopw [3,10] (fun v i wr=>∃(k n:Nat) (ro:Option Addr) (rc:Nat) (acc:List CaD),k≤l.length∧i=.int .i64 k∧v=.slice ro n rc∧Hid (acc.length=n∧n≤k)∧OwnE caE 4 38 wr w.heap.size ro rc acc∧Ex w.heap.size none w wr) (fun _ i _=>l.length - (intOf i).toNat)
 case atStart=>exact⟨0,0,none,0,[],by omega,rfl,rfl,Lib.hid ⟨rfl,by omega⟩,OwnE.nil _ _ _ _ _,Ex.refl _ _ _⟩
 case round=>
  obtain⟨k,n,ro,rc,acc,hk,rfl,rfl,HA,hown,hex⟩:=hrel
  have hsz:=hex.size
  have HEX:=Lib.hid hex
  have HO:=Lib.hid hown
  clear hown
  by_cases hlt:k < l.length
  · have hltI: (k:Int) < (l.length:Int):=by omega
    have hnk:n≤k:=HA.out.2
    have HAL:Hid (acc.length=n):=Lib.hid HA.out.1
    obtain⟨b,off,x,rfl,_,hbl,HXs,hlx,HR⟩:=stv_get (HXB.out wr HEX.out) k hlt
    have HLG:Hid (x.1.list.length≤100000∧x.1.pins.length≤100000):=Lib.hid (HLL.out x.1 (List.mem_of_getElem? HXs.out))
    have r0:=HR.out wr rfl
    have hn1:=stV_new wr #[.int .i64 0,.int .i64 0,.string ⟨#[]⟩,.int .i64 0,.int .i64 0,.int .i64 0,.int .i64 0,.int .i64 0,.slice none 0 0,.slice none 0 0,.string ⟨#[]⟩,.int .i64 0,.string ⟨#[]⟩] x rfl
    go_upto_region 5 with(fail)
    obtain⟨ws,hws⟩:∃ws:World,ws=wr.alloc (.cells (stV x).cells 51):=⟨_,rfl⟩
    have HEs:Hid (Ex wr.heap.size none wr ws):=Lib.hid (by rw [hws];exact Ex.new wr _)
    have hzs:ws.heap.size=wr.heap.size+1:=by rw [hws];simp
    have r1: (rowLoad 51 ⟨wr.heap.size,0,none⟩).run Tryz.prog ws=.ok (stV x) ws:=stV_box (by rw [hws];exact heap_alloc_new wr _)
    have HLS:Hid (∀w',Ex ws.heap.size none ws w'→Lies P w' x):=Lib.hid (fun w' h=>hlx.keep fun b _ hb=>(h.block b (by omega) (by simp)).trans (HEs.out.block b hb (by simp)))
    clear r0 hn1 hlx HR hex
    refine wp_world (fun W=>W=ws) (by rw [hws];rfl) (fun W hW=>?_)
    rw [hW]
    clear hW W hws
    obtain⟨sb,hsb⟩:∃sb,sb=voteSB x.1:=⟨_,rfl⟩
    have HB:Hid (voteSB x.1=sb):=Lib.hid hsb.symm
    clear hsb
    cases sb with
    | false=>
      go_wp2_with (first
       | (go_at_call 91
          refine(vote_any (P:=P) x ws (HLS.out ws (Ex.refl _ _ ws)) HLG.out).mono ?_
          rintro e4 w4 ⟨⟨⟨t,⟨la,n1,ca⟩,⟨pa,n2,cp⟩⟩,he4,hy1,hy2,hly⟩,hex4⟩
          rw [HB.out] at he4
          have he5:e4=.returned (.tuple #[.agg #[.int .i64 t.author,.int .i64 t.a,.int .i64 (t.b % 16),.int .i64 t.c,.int .i64 (t.b / 16),.slice la n1 ca,.slice pa n2 cp],.bool false]):=he4
          subst he5
          have HE4:Hid (Ex ws.heap.size none ws w4):=Lib.hid hex4
          clear he4 hy1 hy2 hly hex4 r1)
       | fail)
      have HEY:Hid (Ex wr.heap.size none wr (w4.alloc (.cells #[.int .i64 t.author,.int .i64 t.a,.int .i64 (t.b % 16),.int .i64 t.c,.int .i64 (t.b / 16),.slice la n1 ca,.slice pa n2 cp] 106))):=Lib.hid ((HEs.out.trans HE4.out (by omega) (by simp)).trans (Ex.new w4 _) (by have:=HE4.out.size;omega) (by simp))
      go_roundw
      case rel=>exact⟨k+1,n,ro,rc,acc,by omega,by go_num,rfl,Lib.hid ⟨HA.out.1,by omega⟩,HO.out.keep HEY.out (Nat.le_refl _) (by simp),HEX.out.trans HEY.out hsz (by simp)⟩
      case measure=>simp [intOf] <;> omega
    | true=>
      go_upto_region 7 with(first
       | (go_at_call 91
          refine(vote_any (P:=P) x ws (HLS.out ws (Ex.refl _ _ ws)) HLG.out).mono ?_
          rintro e4 w4 ⟨⟨⟨t,⟨la,n1,ca⟩,⟨pa,n2,cp⟩⟩,he4,hy1,hy2,hly⟩,hex4⟩
          rw [HB.out] at he4
          have he5:e4=.returned (.tuple #[.agg #[.int .i64 t.author,.int .i64 t.a,.int .i64 (t.b % 16),.int .i64 t.c,.int .i64 (t.b / 16),.slice la n1 ca,.slice pa n2 cp],.bool true]):=he4
          subst he5
          have HE4:Hid (Ex ws.heap.size none ws w4):=Lib.hid hex4
          clear he4 hy1 hy2 hly hex4 r1)
       | fail)
      obtain⟨w5,hw5⟩:∃w5:World,w5=w4.alloc (.cells #[.int .i64 t.author,.int .i64 t.a,.int .i64 (t.b % 16),.int .i64 t.c,.int .i64 (t.b / 16),.slice la n1 ca,.slice pa n2 cp] 106):=⟨_,rfl⟩
      have HEY:Hid (Ex wr.heap.size none wr w5):=Lib.hid (by rw [hw5];exact(HEs.out.trans HE4.out (by omega) (by simp)).trans (Ex.new w4 _) (by have:=HE4.out.size;omega) (by simp))
      have hz5:wr.heap.size < w5.heap.size:=by rw [hw5];have:=HE4.out.size;simp;omega
      have hb5:w5.heap[w4.heap.size]? =some (.cells #[.int .i64 t.author,.int .i64 t.a,.int .i64 (t.b % 16),.int .i64 t.c,.int .i64 (t.b / 16),.slice la n1 ca,.slice pa n2 cp] 106 (0,0)):=by rw [hw5];exact heap_alloc_new _ _
      have m1:w5.cell? ⟨w4.heap.size,1,none⟩=some (.int .i64 t.a):=by rw [cell_of_row _ _ _ _ _ _ hb5];rfl
      have m2:w5.cell? ⟨w4.heap.size,2,none⟩=some (.int .i64 (t.b % 16)):=by rw [cell_of_row _ _ _ _ _ _ hb5];rfl
      have m3:w5.cell? ⟨w4.heap.size,3,none⟩=some (.int .i64 t.c):=by rw [cell_of_row _ _ _ _ _ _ hb5];rfl
      have m4:w5.cell? ⟨w4.heap.size,4,none⟩=some (.int .i64 (t.b / 16)):=by rw [cell_of_row _ _ _ _ _ _ hb5];rfl
      refine wp_world (fun W=>W=w5) (by rw [hw5]) (fun W hW=>?_)
      rw [hW]
      clear hW W hw5 hb5
      go_wp2_with (first
       | (at_builtin;refine wpList_appE2 rfl (.tmp 20) (.tmp 23) _ 38 (by rfl) Tryz.underlying32 _ 4 32 Tryz.infoCa rfl (by decide) (by decide) caE caE_len one_caE w.heap.size ro rc n acc HAL.out (by rfl) (some ⟨w5.heap.size,0,none⟩) 1 1 (by rfl) [(t.a,t.b % 16,t.c,t.b / 16)] rfl ((HO.out.keep HEY.out (Nat.le_refl _) (by simp)).keep (Ex.new w5 _) (Nat.le_refl _) (by simp)) (lit_cells (by rfl)) (by omega) (by simp;omega) (n+1) rfl ?_;intro ro2 rc2 w6 hown6 hex6 hk6 hr6)
       | fail)
      have HO6:=Lib.hid hown6
      have HE6:Hid (Ex w.heap.size none w w6):=Lib.hid (((HEX.out.trans HEY.out hsz (by simp)).trans (Ex.new w5 _) (by omega) (by simp)).trans hex6 (Nat.le_refl _) (by simp))
      clear hown6 hex6 hk6 hr6
      go_roundw
      case rel=>exact⟨k+1,n+1,ro2,rc2,acc ++ [(t.a,t.b % 16,t.c,t.b / 16)],by omega,by go_num,rfl,Lib.hid ⟨by rw [List.length_append,HAL.out];rfl,by omega⟩,HO6.out,HE6.out⟩
      case measure=>simp [intOf] <;> omega
  · obtain rfl:k=l.length:=by omega
    have hnk:n≤l.length:=HA.out.2
    have HAL:Hid (acc.length=n):=Lib.hid HA.out.1
    clear hex
    rcases HO.out.cases with⟨e1,e2,e3⟩ | ⟨g,e1,hg1,hg2,hg3⟩
    · subst e1 e2
      have hn0:n=0:=by rw [←HAL.out,e3];rfl
      clear e3
      subst hn0
      go_wp2_with (first
       | (go_at_call 92;refine(sortCases_none _ _ _ _).mono ?_;rintro e w' ⟨rfl,rfl⟩)
       | (go_at_call 94;refine(compactCases_none _ _ _).mono ?_;rintro e w' ⟨rfl,rfl⟩)
       | fail)
      go_ret
      exact⟨_,[],rfl,Sl.nil _ _,by simp,HEX.out⟩
    · subst e1
      have HH:Hid (HoldsK caE 4 wr g 0 (acc.toArray:Array CaD)):=Lib.hid (HO.out.holds caE_len)
      have hcap:n≤rc:=by rw [←HAL.out];exact hg3
      have HSZ:Hid ((acc.toArray:Array CaD).size=n):=Lib.hid (by rw [←HAL.out];simp)
      go_wp2_with (first
       | (go_at_call 92
          refine(sortCases_any g 0 rc n acc.toArray wr HH.out (by omega) HSZ.out (by omega)).mono ?_
          rintro e w1 ⟨rfl,d',hH1,hd1,hp1,hex1⟩
          have HD:Hid (HoldsK caE 4 w1 g 0 d'∧d'.size=n∧Ex wr.heap.size (some g) wr w1):=Lib.hid ⟨hH1,hd1,hex1⟩
          have hz1:wr.heap.size≤w1.heap.size:=hex1.size
          clear hH1 hd1 hp1 hex1)
       | (go_at_call 94
          refine(compactCases_any g 0 rc n d' w1 HD.out.1 (by omega) (by rw [HD.out.2.1];omega) (by rw [HD.out.2.1];exact hcap) HD.out.2.1).mono ?_
          rintro e w2 ⟨rfl,hH2,hex2⟩
          have HC:Hid (HoldsK caE 4 w2 g 0 (cpt (fun x y:CaD=>decide (x=y)) d' n).toArray∧Ex w1.heap.size (some g) w1 w2):=Lib.hid ⟨hH2,hex2⟩
          clear hH2 hex2)
       | fail)
      go_ret
      have hE1:Ex wr.heap.size (some g) wr w2:=HD.out.2.2.trans HC.out.2 hz1 (fun q h _=>h)
      have hE:Ex w.heap.size none w w2:=HEX.out.trans hE1 hsz (fun q h hq=>by cases h;omega)
      have hlen: (cpt (fun x y:CaD=>decide (x=y)) d' n).length≤n:=cpt_le _ d' n
      exact⟨_,cpt (fun x y:CaD=>decide (x=y)) d' n,rfl,⟨some ⟨g,0,none⟩,rc,rfl,val_sl hg1 HC.out.1⟩,by omega,hE⟩
end
section
theorem rowStore_ca (a:Addr) (v:Value):storeVar 38 a v=rowStore 38 a v:=rfl
theorem rowLoad_ca (a:Addr):loadVar 38 a=rowLoad 38 a:=rfl
theorem Tryz.sizeCa: (Tryz.prog.info? 38).map (·.size)=some 4:=by kernel_rfl
def caV (x:CaD):Value:=.agg (caE x).toArray
theorem caV_one (x:CaD): (caE x).toArray.all (·.oneCell')=true:=by
 rw [Array.all_eq_true_iff_forall_mem]
 intro v hv
 exact one_caE x v (by simpa using hv)
theorem caV_load {w:World} {b o:Nat} {x:CaD} (h:w.rangeAt b o (caE x)): (rowLoad 38 ⟨b,o,none⟩).run Tryz.prog w=.ok (caV x) w :=
 run_loadVar_mid w b o 38 (caE x) _ h Tryz.underlying38 rfl Tryz.sizeCa
theorem caV_box {w:World} {g:Nat} {x:CaD} {t:TypeId} {fr:Nat×Nat} (h:w.heap[g]? =some (.cells (caE x).toArray t fr)): (rowLoad 38 ⟨g,0,none⟩).run Tryz.prog w=.ok (caV x) w :=
 run_rowLoad (P:=Tryz.prog) w g t 38 (caE x).toArray fr _ h Tryz.underlying38 rfl Tryz.sizeCa
theorem caV_set {w:World} {g:Nat} {old:Array Value} (x:CaD) (h:w.heap[g]? =some (.cells old 38 (0,0))) (ho:old.size=4): (rowStore 38 ⟨g,0,none⟩ (caV x)).run Tryz.prog w=.ok () (w.setRow g (caE x).toArray) :=
 run_rowStore (P:=Tryz.prog) w g 38 38 old (caE x).toArray h Tryz.sizeCa (by rw [ho];rfl) (caV_one x)
theorem caV_new (w:World) (old:Array Value) (x:CaD) (ho:old.size=4): (rowStore 38 ⟨w.heap.size,0,none⟩ (caV x)).run Tryz.prog (w.alloc (.cells old 38))=.ok () (w.alloc (.cells (caE x).toArray 38)):=by
 have h:=caV_set (w:=w.alloc (.cells old 38)) (g:=w.heap.size) (old:=old) x (heap_alloc_new w _) ho
 rw [alloc_setRow] at h
 exact h
theorem vo_load {w:World} {b o:Nat} {x:St×Sv×Sv} (h:w.rangeAt b o (voE x)): (rowLoad 106 ⟨b,o,none⟩).run Tryz.prog w=.ok (voV x) w :=
 run_loadVar_mid w b o 106 (voE x) _ h Tryz.underlying106 rfl Tryz.sizeVo
theorem case_parts {e kd sl rd:Int} {s:St} (h:caseB e kd sl rd s=true):s.a=e∧s.b % 16=kd∧s.c=sl∧s.b / 16=rd:=by
 unfold caseB at h
 simp only [Bool.and_eq_true,decide_eq_true_eq] at h
 exact⟨h.1.1.1,h.1.1.2,h.1.2,h.2⟩
theorem first_parts {t s:St} (h:firstB t s=true):voteB s=true∧(s.a=t.a∧s.b % 16=t.b % 16∧s.c=t.c∧s.b / 16=t.b / 16)∧ordC s t=0:=by
 unfold firstB at h
 simp only [Bool.and_eq_true,decide_eq_true_eq] at h
 exact⟨h.1.1,case_parts h.1.2,h.2⟩
theorem in_parts {e kd sl rd:Int} {s:St} (h:inCase e kd sl rd s=true):voteB s=true∧sealedB s=true∧s.a=e∧s.b % 16=kd∧s.c=sl∧s.b / 16=rd:=by
 unfold inCase voteSB at h
 simp only [Bool.and_eq_true] at h
 exact⟨h.1.1,h.1.2,case_parts h.2⟩
theorem first_self {e kd sl rd:Int} {s:St} (h:inCase e kd sl rd s=true):firstB s s=true:=by
 obtain⟨h1,_⟩:=in_parts h
 unfold firstB caseB
 rw [h1,good_ordC.refl]
 simp
theorem double_of {l:List St} {e kd sl rd:Int} {y0 y1 x1 x2:St} (ha:y0.author=y1.author) (i0:inCase e kd sl rd y0=true) (i1:inCase e kd sl rd y1=true) (hlt:ordV y0 y1 < 0) (m1:x1∈l) (m2:x2∈l) (f1:firstB y0 x1=true) (f2:firstB y1 x2=true):DoubleOf l (2,x1,x2):=by
 obtain⟨v1,⟨a1,b1,c1,d1⟩,o1⟩:=first_parts f1
 obtain⟨v2,⟨a2,b2,c2,d2⟩,o2⟩:=first_parts f2
 obtain⟨_,_,p0,p1,p2,p3⟩:=in_parts i0
 obtain⟨_,_,q0,q1,q2,q3⟩:=in_parts i1
 refine⟨rfl,m1,m2,v1,v2,?_,?_⟩
 · show caseB x1.a (x1.b % 16) x1.c (x1.b / 16) x2=true
   unfold caseB
   simp only [Bool.and_eq_true,decide_eq_true_eq]
   exact⟨⟨⟨by rw [a2,a1,p0,q0],by rw [b2,b1,p1,q1]⟩,by rw [c2,c1,p2,q2]⟩,by rw [d2,d1,p3,q3]⟩
 · show ordC x1 x2 < 0
   have h0:cmpI y0.author y1.author=0:=by rw [ha];exact good_cmpI.refl _
   unfold ordV lexC at hlt
   rw [if_neg (by simp only [ne_eq,Decidable.not_not];exact h0)] at hlt
   have h3:ordC x1 y1 < 0:=good_ordC.le_lt (by rw [o1];exact Int.le_refl _) hlt
   exact good_ordC.lt_le h3 (by rw [good_ordC.zero o2];exact Int.le_refl _)
attribute [local go_sem ↓] rowLoad_stv rowStore_stv rowLoad_prf rowStore_prf rowLoad_ca rowStore_ca rowLoad_vo rowStore_vo
attribute [local go_sem ↓ high] make_prf make_prs
set_option maxHeartbeats 16000000 in
set_option maxRecDepth 100000 in
theorem doubles_any {P:Nat→Prop} (v:Value) (ls:List St) (a:Int) (w:World) (hv:Sl stRep P w v ls) (hm:ls.length≤100000) (hL:∀s∈ls,LightS s) (ha:∀s∈ls,s.author=a) :
 Calls Tryz.prog 39 #[v] w fun e w'=>PsE (DoublesR ls) P e w'∧Ex w.heap.size none w w':=by
 obtain⟨ao,cap,rfl,hx⟩:=hv
 have HX:Hid (∀w',Ex w.heap.size none w w'→SlAt stRep (fun b=>P b∧b < w.heap.size) w' ao ls):=Lib.hid (fun w' h=>(hx.mono (P':=fun b=>P b∧b < w.heap.size) (by decide) fun b hb hlt=>⟨hb,hlt⟩).keep (by decide) fun b hb _=>h.block b hb.2 (by simp))
 have HLL:=Lib.hid hL
 have HAU:=Lib.hid ha
 obtain⟨n,hn⟩:∃n,n=ls.length:=⟨_,rfl⟩
 have HN:=Lib.hid hn
 rw [←hn] at hm ⊢
 clear hn hx hL ha
 obtain⟨zp,hz⟩:=Tryz.infoPrf
 have HZ:=Lib.hid hz
 clear hz
 go_enter Tryz.func39,Tryz.ntmps39
 go_wp2_with (first
  | (go_at_call 63
     refine(cases_any (P:=fun b=>P b∧b < w.heap.size) (.slice ao n cap) ls w ⟨ao,cap,by rw [HN.out],HX.out w (Ex.refl _ _ _)⟩ (by rw [←HN.out];exact hm) HLL.out).mono ?_
     rintro e w1 ⟨u,cs,rfl,⟨ca,cc,rfl,hcs⟩,hll,hex1⟩
     have H1:Hid (SlAt caRep (fun b=>w.heap.size≤b) w1 ca cs∧Ex w.heap.size none w w1):=Lib.hid ⟨hcs,hex1⟩
     have hz1:w.heap.size≤w1.heap.size:=hex1.size
     clear hcs hex1)
  | fail)
 obtain⟨m,hmc⟩:∃m,m=cs.length:=⟨_,rfl⟩
 have HM:=Lib.hid hmc
 rw [←hmc] at hll ⊢
 rw [←HN.out] at hll
 clear hmc
 go_loopw [3,10] (fun v i wr=>∃(k q:Nat) (ro:Option Addr) (rc:Nat) (acc:List PrX),k≤m∧i=.int .i64 k∧v=.slice ro q rc∧Hid (acc.length=q∧q≤k∧(∀p∈acc.map PrX.d,DoubleOf ls p)∧∀x∈acc,LiesP (fun b=>P b∧b < w.heap.size) wr x)∧OwnE prE 27 63 wr w1.heap.size ro rc acc∧Ex w1.heap.size none w1 wr) (fun _ i _=>m - (intOf i).toNat)
 case atStart=>exact⟨0,0,none,0,[],by omega,rfl,rfl,Lib.hid ⟨rfl,by omega,by simp,by simp⟩,OwnE.nil _ _ _ _ _,Ex.refl _ _ _⟩
 case round=>
  obtain⟨k,q,ro,rc,acc,hk,rfl,rfl,HA,hown,hex⟩:=hrel
  have hsz:=hex.size
  have HEX:=Lib.hid hex
  have HO:=Lib.hid hown
  have hqk:q≤k:=HA.out.2.1
  have HAL:Hid (acc.length=q):=Lib.hid HA.out.1
  have HEW:Hid (Ex w.heap.size none w wr):=Lib.hid (H1.out.2.trans HEX.out hz1 (by simp))
  have HRO:Hid (∀b,rowOf ro=some b→b < wr.heap.size):=Lib.hid (fun b e=>by
   cases ro with
   | none=>cases e
   | some ad=>have h:=hown.lt ad rfl;have e2:ad.block=b:=Option.some.inj e;omega)
  clear hown hex
  by_cases hlt:k < m
  · have hltI: (k:Int) < (m:Int):=by omega
    obtain⟨b,off,cells,c,rfl,hPb,hr,hR,HXc⟩:=H1.out.1.get k (by rw [←HM.out];exact hlt)
    have hR' :cells=caE c:=hR
    subst hR'
    have hbl:b < w1.heap.size:=rangeAt_lt hr (by rw [caE_len];omega)
    have r0: (rowLoad 38 ⟨b,off+k * 4,none⟩).run Tryz.prog wr=.ok (caV c) wr:=caV_load (rangeAt_keep hr (HEX.out.block b hbl (by simp)))
    have hn1:=caV_new wr #[.int .i64 0,.int .i64 0,.int .i64 0,.int .i64 0] c rfl
    clear hr hR
    go_upto_region 5 with(fail)
    obtain⟨ws,hws⟩:∃ws:World,ws=wr.alloc (.cells (caE c).toArray 38):=⟨_,rfl⟩
    have HEs:Hid (Ex wr.heap.size none wr ws):=Lib.hid (by rw [hws];exact Ex.new wr _)
    have hzs:ws.heap.size=wr.heap.size+1:=by rw [hws];simp
    have r1: (rowLoad 38 ⟨wr.heap.size,0,none⟩).run Tryz.prog ws=.ok (caV c) ws:=caV_box (by rw [hws];exact heap_alloc_new wr _)
    clear r0 hn1
    refine wp_world (fun W=>W=ws) (by rw [hws]) (fun W hW=>?_)
    rw [hW]
    clear hW W hws
    go_upto_region 6 with(first
     | (go_at_call 64
        refine(votes_any (P:=fun b=>P b∧b < w.heap.size) (.slice ao n cap) ls c.1 c.2.1 c.2.2.1 c.2.2.2 ws ⟨ao,cap,by rw [HN.out],HX.out ws (HEW.out.thenW HEs.out)⟩ (by rw [←HN.out];exact hm) HLL.out).mono ?_
        rintro e2 w2 ⟨u2,vs,rfl,hvr,⟨va,vc,rfl,hvs⟩,hvl,hex2⟩
        have H2:Hid (VotesR ls c.1 c.2.1 c.2.2.1 c.2.2.2 vs∧SlAt voRep (fun b=>ws.heap.size≤b) w2 va vs∧Ex ws.heap.size none ws w2):=Lib.hid ⟨hvr,hvs,hex2⟩
        have hz2:ws.heap.size≤w2.heap.size:=hex2.size
        clear hvr hvs hvl hex2 r1)
     | fail)
    have HE2:Hid (Ex wr.heap.size none wr w2):=Lib.hid (HEs.out.trans H2.out.2.2 (by omega) (by simp))
    obtain⟨lv,hlv⟩:∃lv,lv=vs.length:=⟨_,rfl⟩
    have HLV:=Lib.hid hlv
    rw [←hlv]
    clear hlv
    by_cases h2:1 < lv
    · have h2I: (1:Int) < (lv:Int):=by omega
      have h0:0 < lv:=by omega
      have h0I: (0:Int) < (lv:Int):=by omega
      obtain⟨vb,vo,cs0,y0,rfl,hvP,hr0,⟨l0,p0,rfl,hl0⟩,HY0⟩:=H2.out.2.1.get 0 (by rw [←HLV.out];omega)
      obtain⟨vb',vo',cs1,y1,hva,_,hr1,⟨l1,p1,rfl,hl1⟩,HY1⟩:=H2.out.2.1.get 1 (by rw [←HLV.out];omega)
      cases hva
      have hvb:vb < w2.heap.size:=rangeAt_lt hr0 (by rw [voE_len];omega)
      have HLO:Hid (∀w',w'.heap[vb]? =w2.heap[vb]?→(rowLoad 106 ⟨vb,vo,none⟩).run Tryz.prog w' =.ok (voV (y0,l0,p0)) w'∧(rowLoad 106 ⟨vb,vo+7,none⟩).run Tryz.prog w' =.ok (voV (y1,l1,p1)) w'):=Lib.hid (fun w' e=>by
       have g0:=vo_load (rangeAt_keep hr0 e)
       have g1:=vo_load (rangeAt_keep hr1 e)
       rw [show vo+0 * voRep.k=vo by omega] at g0
       rw [show vo+1 * voRep.k=vo+7 from rfl] at g1
       exact⟨g0,g1⟩)
      have HLS:Hid (∀w',Ex w2.heap.size none w2 w'→SlAt stRep (fun b=>P b∧b < w.heap.size) w' ao ls∧Lies (fun b=>ws.heap.size≤b) w' (y0,l0,p0)∧Lies (fun b=>ws.heap.size≤b) w' (y1,l1,p1)):=Lib.hid (fun w' h=>
       ⟨HX.out w' ((HEW.out.thenW HE2.out).trans h (HEW.out.thenW HE2.out).size (by simp)),hl0.keep fun b _ hb=>h.block b hb (by simp),hl1.keep fun b _ hb=>h.block b hb (by simp)⟩)
      have HYM:Hid ((y0∈ls∧inCase c.1 c.2.1 c.2.2.1 c.2.2.2 y0=true)∧(y1∈ls∧inCase c.1 c.2.1 c.2.2.1 c.2.2.2 y1=true)∧ordV y0 y1 < 0):=Lib.hid (by
       have hp:=H2.out.1
       obtain⟨i0,e0⟩:=List.getElem?_eq_some_iff.1 HY0.out
       obtain⟨i1,e1⟩:=List.getElem?_eq_some_iff.1 HY1.out
       exact⟨hp.1 y0 (List.mem_of_getElem? HY0.out),hp.1 y1 (List.mem_of_getElem? HY1.out),by have:=List.pairwise_iff_getElem.1 hp.2 0 1 i0 i1 (by omega);rwa [e0,e1] at this⟩)
      clear hr0 hr1 hl0 hl1
      go_upto_region 7 with(fail)
      obtain⟨q0,q1⟩:=HLO.out w2 rfl
      go_region_held3 (fun w'=>(rowLoad 106 ⟨vb,vo,none⟩).run Tryz.prog w' =.ok (voV (y0,l0,p0)) w'∧(rowLoad 106 ⟨vb,vo+7,none⟩).run Tryz.prog w' =.ok (voV (y1,l1,p1)) w') (exact HLO.out _ (by first | with_reducible exact HS5.out | exact(by repeat(first | with_reducible exact HE4.out | with_reducible exact HE3.out | with_reducible exact Ex.refl _ _ _ | with_reducible refine Ex.allocX ?_ _ | with_reducible refine Ex.drew ?_):Ex w2.heap.size none w2 _).block vb hvb (by simp)))
       (first
         | (go_at_call 65
            fail_if_success (have _x:=HF3)
            refine(first_any (P:=fun b=>P b∧b < w.heap.size) (Q:=fun b=>ws.heap.size≤b) ao n cap ls (y0,l0,p0) _ HN.out.symm (HLS.out _ (by repeat(first | with_reducible exact Ex.refl _ _ _ | with_reducible refine Ex.drew ?_))).1 hm HLL.out (HLS.out _ (by repeat(first | with_reducible exact Ex.refl _ _ _ | with_reducible refine Ex.drew ?_))).2.1 (HLL.out y0 HYM.out.1.1) ⟨y0,HYM.out.1.1,first_self HYM.out.1.2⟩).mono ?_
            rintro e w3 ⟨⟨x1,rfl,hm1,hf1,hl1⟩,hex3⟩
            have HE3:Hid (Ex w2.heap.size none w2 w3):=Lib.hid ((by repeat(first | with_reducible exact Ex.refl _ _ _ | with_reducible refine Ex.drew ?_):Ex w2.heap.size none w2 _).thenW hex3)
            have HF3:Hid (x1.1∈ls∧firstB y0 x1.1=true∧Lies (fun b=>P b∧b < w.heap.size) w3 x1):=Lib.hid ⟨hm1,hf1,hl1⟩
            clear hm1 hf1 hl1 hex3)
         | (go_at_call 65
            refine(first_any (P:=fun b=>P b∧b < w.heap.size) (Q:=fun b=>ws.heap.size≤b) ao n cap ls (y1,l1,p1) _ HN.out.symm (HLS.out _ (by repeat(first | with_reducible exact HE3.out | with_reducible refine Ex.drew ?_))).1 hm HLL.out (HLS.out _ (by repeat(first | with_reducible exact HE3.out | with_reducible refine Ex.drew ?_))).2.2 (HLL.out y1 HYM.out.2.1.1) ⟨y1,HYM.out.2.1.1,first_self HYM.out.2.1.2⟩).mono ?_
            rintro e w4 ⟨⟨x2,rfl,hm2,hf2,hl2⟩,hex4⟩
            have HE4:Hid (Ex w2.heap.size none w2 w4):=Lib.hid ((by repeat(first | with_reducible exact HE3.out | with_reducible refine Ex.drew ?_):Ex w2.heap.size none w2 _).thenW hex4)
            have HF4:Hid (x2.1∈ls∧firstB y1 x2.1=true∧Lies (fun b=>P b∧b < w.heap.size) w4 x2):=Lib.hid ⟨hm2,hf2,hl2⟩
            have hz4:w2.heap.size≤w4.heap.size:=HE4.out.size
            have HX34:Hid (Ex w3.heap.size none w3 w4):=Lib.hid (Ex.thenW (by repeat(first | with_reducible exact Ex.refl _ _ _ | with_reducible refine Ex.drew ?_)) hex4)
            clear hm2 hf2 hl2 hex4
            have hbd:=fun W=>build_prf W 2 x1 x2
            have hrs:=fun W=>rows_prf W (2,x1,x2))
         | (refine step_appE rfl (.tmp 20) (.tmp 32) _ 63 (by rfl) Tryz.underlying58 zp 27 328 HZ.out.1 HZ.out.2 (by decide) (by decide) prE prE_len one_prE w1.heap.size ro rc q acc HAL.out (by rfl) _ 1 1 (by rfl) [(2,x1,x2)] rfl (HO.out.keep (HE2.out.thenW (by repeat(first | with_reducible exact HE4.out | with_reducible refine Ex.allocX ?_ _ | with_reducible refine Ex.drew ?_):Ex w2.heap.size none w2 _)) (Nat.le_refl _) (by simp)) (lit_cells (by rfl)) (by omega) (by first | omega | (simp;omega)) (q+1) rfl ?_
            intro ro2 rc2 w5 hown5 hex5 hk5 hr5
            have HO5:=Lib.hid hown5
            have HX5:Hid (Ex w1.heap.size none wr w5):=Lib.hid ((HE2.out.mono hsz).thenBX (((by repeat(first | with_reducible exact HE4.out | with_reducible refine Ex.allocX ?_ _ | with_reducible refine Ex.drew ?_):Ex w2.heap.size none w2 _).mono (by omega)).thenBX hex5))
            have HS5:Hid (w5.heap[vb]? =w2.heap[vb]?):=Lib.hid ((hk5 vb (by first | omega | (simp only [World.size_alloc];omega) | (simp;omega)) (fun e=>by have:=HRO.out vb e;omega)).trans ((by repeat(first | with_reducible exact HE4.out | with_reducible refine Ex.allocX ?_ _ | with_reducible refine Ex.drew ?_):Ex w2.heap.size none w2 _).block vb hvb (by simp)))
            have HL5:Hid (LiesP (fun b=>P b∧b < w.heap.size) w5 (2,x1,x2)):=Lib.hid (by
             have h4:LiesP (fun b=>P b∧b < w.heap.size) w4 (2,x1,x2):=⟨HF3.out.2.2.keep fun b _ hb=>HX34.out.block b hb (by simp),HF4.out.2.2⟩
             exact(h4.keep fun b _ hb=>(by repeat(first | with_reducible exact Ex.refl _ _ _ | with_reducible refine Ex.allocX ?_ _ | with_reducible refine Ex.drew ?_):Ex w4.heap.size none w4 _).block b hb (by simp)).keep fun b hb _=>hex5.block b (by have:=hb.2;omega) (by simp))
            clear hown5 hex5 hk5 hr5)
         | fail)
      have HDB:Hid (DoubleOf ls (2,x1.1,x2.1)):=Lib.hid (double_of (by rw [HAU.out y0 HYM.out.1.1,HAU.out y1 HYM.out.2.1.1]) HYM.out.1.2 HYM.out.2.1.2 HYM.out.2.2 HF3.out.1 HF4.out.1 HF3.out.2.1 HF4.out.2.1)
      go_wp2
      go_roundw
      case rel=>exact⟨k+1,q+1,ro2,rc2,acc ++ [(2,x1,x2)],by omega,by go_num,rfl,Lib.hid ⟨by rw [List.length_append,HAL.out];rfl,by omega,fun p hp=>by
       rw [List.map_append] at hp
       rcases List.mem_append.1 hp with h | h
       · exact HA.out.2.2.1 p h
       · rw [List.mem_singleton.1 h];exact HDB.out,fun x hx=>by
       rcases List.mem_append.1 hx with h | h
       · exact(HA.out.2.2.2 x h).keep fun b hb _=>HX5.out.block b (by have:=hb.2;omega) (by simp)
       · rw [List.mem_singleton.1 h];exact HL5.out⟩,HO5.out,HEX.out.thenBX HX5.out⟩
      case measure=>simp [intOf] <;> omega
    · have h2I : ¬(1:Int) < (lv:Int):=by omega
      go_wp2
      go_roundw
      case rel=>exact⟨k+1,q,ro,rc,acc,by omega,by go_num,rfl,Lib.hid ⟨HA.out.1,by omega,HA.out.2.2.1,fun x hx=>(HA.out.2.2.2 x hx).keep fun b hb hlt=>HE2.out.block b hlt (by simp)⟩,HO.out.keep HE2.out (Nat.le_refl _) (by simp),HEX.out.trans HE2.out hsz (by simp)⟩
      case measure=>simp [intOf] <;> omega
  · obtain rfl:k=m:=by omega
    go_wp2
    go_ret
    exact⟨⟨ro,q,rc,acc,rfl,HAL.out,⟨by rw [List.length_map,HAL.out,←HN.out];omega,HA.out.2.2.1⟩,own_src HO.out,fun y hy=>(HA.out.2.2.2 y hy).mono fun b hb _=>hb.1⟩,HEW.out⟩
end
section
attribute [local go_sem ↓] rowLoad_ca rowStore_ca
def CaOK (ep:Int) (c:CaD):Prop:=c.1=ep∧1≤c.2.1∧c.2.1≤3∧0≤c.2.2.1∧c.2.2.1≤6∧0≤c.2.2.2∧c.2.2.2≤1∧(c.2.1=1→c.2.2.1=0∧c.2.2.2=0)
theorem CaOK.valid {ep:Int} {c:CaD} (h:CaOK ep c) (h0:0≤ep) (h1:ep < 40):validC c.1 c.2.1 c.2.2.1 c.2.2.2=true:=by
 obtain⟨a1,a2,a3,a4,a5,a6,a7,a8⟩:=h
 unfold validC
 simp only [Bool.and_eq_true,decide_eq_true_eq]
 refine⟨⟨⟨⟨⟨⟨by omega,by omega⟩,a4⟩,by omega⟩,a6⟩,a7⟩,?_⟩
 split
 · rename_i hk
   simp only [Bool.and_eq_true,decide_eq_true_eq]
   exact a8 hk
 · simp only [Bool.or_eq_true,decide_eq_true_eq]
   omega
def CaseE (ep:Int) (e:Ending):Prop:=∃c:CaD,e=.returned (caV c)∧CaOK ep c
set_option maxHeartbeats 8000000 in
set_option maxRecDepth 100000 in
theorem caseM_w (N p:Nat) (ep:Int) (w:World) (hd:DiceOK N w p) (hN:N≤w.heap.size) :
 Calls Tryz.prog 8 #[.pointer (some ⟨p,0,none⟩),.int .i64 ep] w fun e w'=>CaseE ep e∧DiceOK N w' p∧Ex w.heap.size (some p) w w':=by
 have hpN:=hd.lt
 obtain⟨w1,hw1⟩:∃w1:World,w1=w.alloc (.cells #[.int .i64 0,.int .i64 0,.int .i64 0,.int .i64 0] 38):=⟨_,rfl⟩
 have HE1:Hid (Ex w.heap.size none w w1):=Lib.hid (by rw [hw1];exact Ex.new w _)
 have HD1:Hid (DiceOK N w1 p):=Lib.hid (hd.keep HE1.out hN)
 have hz1:w1.heap.size=w.heap.size+1:=by rw [hw1];simp
 have HR1:Hid (w1.heap[w.heap.size]? =some (.cells #[.int .i64 0,.int .i64 0,.int .i64 0,.int .i64 0] 38 (0,0))):=Lib.hid (by rw [hw1];exact heap_alloc_new _ _)
 clear hd
 go_enter Tryz.func8,Tryz.ntmps8
 go_upto_region 1 with(fail)
 refine wp_world (fun W=>W=w1) (by rw [hw1]) (fun W hW=>?_)
 rw [hW]
 clear hW W hw1
 go_upto_region 2 with(first
  | (go_at_call 9
     refine(next_w N p 3 w1 HD1.out (by omega) (by omega)).mono ?_
     rintro e w2 ⟨k,rfl,hk,hd2,hex2⟩
     have H2:Hid (DiceOK N w2 p∧Ex w1.heap.size (some p) w1 w2):=Lib.hid ⟨hd2,hex2⟩
     have hz2:w1.heap.size≤w2.heap.size:=hex2.size
     have hwp:IntKind.i64.wrap (1+ (k:Int))=1+ (k:Int):=by rw [IntKind.wrap_i64];omega
     have hn2: (rowStore 38 ⟨w2.heap.size,0,none⟩ (.agg #[.int .i64 ep,.int .i64 (1+ (k:Int)),.int .i64 0,.int .i64 0])).run Tryz.prog (w2.alloc (.cells #[.int .i64 0,.int .i64 0,.int .i64 0,.int .i64 0] 38))=.ok () (w2.alloc (.cells (caE (ep,1+ (k:Int),0,0)).toArray 38)):=caV_new w2 _ (ep,1+ (k:Int),0,0) rfl
     clear hd2 hex2)
  | fail)
 obtain⟨w3,hw3⟩:∃w3:World,w3=w2.alloc (.cells (caE (ep,1+ (k:Int),0,0)).toArray 38):=⟨_,rfl⟩
 have HE3:Hid (Ex w1.heap.size (some p) w1 w3):=Lib.hid (by rw [hw3];exact H2.out.2.alloc hz2 _)
 have HD3:Hid (DiceOK N w3 p):=Lib.hid (by rw [hw3];exact H2.out.1.keep (Ex.new w2 _) (by omega))
 have HB3:Hid (w3.heap[w2.heap.size]? =some (.cells (caE (ep,1+ (k:Int),0,0)).toArray 38 (0,0))):=Lib.hid (by rw [hw3];exact heap_alloc_new _ _)
 have hz3:w3.heap.size=w2.heap.size+1:=by rw [hw3];simp
 refine wp_world (fun W=>W=w3) (by rw [hw3]) (fun W hW=>?_)
 rw [hW]
 clear hW W hw3 hn2
 have c1:w3.cell? ⟨w2.heap.size,1,none⟩=some (.int .i64 (1+ (k:Int))):=by rw [cell_of_row _ _ _ _ _ _ HB3.out];rfl
 by_cases k0:k=0
 · have kc: (1+ (k:Int) != 1)=false:=by simp [k0]
   have HOK:Hid (CaOK ep (ep,1+ (k:Int),0,0)):=Lib.hid ⟨rfl,by show 1≤1+ (k:Int);omega,by show 1+ (k:Int)≤3;omega,by show(0:Int)≤0;omega,by show(0:Int)≤6;omega,by show(0:Int)≤0;omega,by show(0:Int)≤1;omega,fun _=>⟨rfl,rfl⟩⟩
   have HR3:Hid (w3.heap[w.heap.size]? =some (.cells #[.int .i64 0,.int .i64 0,.int .i64 0,.int .i64 0] 38 (0,0))):=Lib.hid ((HE3.out.block _ (by omega) (by simp;omega)).trans HR1.out)
   have r3: (rowLoad 38 ⟨w2.heap.size,0,none⟩).run Tryz.prog w3=.ok (caV (ep,1+ (k:Int),0,0)) w3:=caV_box HB3.out
   have st3:=caV_set (ep,1+ (k:Int),0,0) HR3.out rfl
   clear k0
   go_wp2
   refine bodyPost_ret (v:=caV (ep,1+ (k:Int),0,0)) (results_cell_row rfl _ _ w.heap.size 38 (caE (ep,1+ (k:Int),0,0)).toArray (0,0) _ (by rfl) (setRow_heap _ _ _ _ _ _ HR3.out) Tryz.underlying38 rfl Tryz.sizeCa) rfl ?_
   exact⟨⟨_,rfl,HOK.out⟩,DiceOK.keep HD3.out ((Ex.refl N none w3).setRow _ _ (.inr hN)) (Nat.le_refl _),((HE1.out.weaken (some p)).trans HE3.out (by omega) (fun q h _=>h)).setRow _ _ (.inr (Nat.le_refl _))⟩
 · have kc: (1+ (k:Int) != 1)=true:=by simp;omega
   have hk1:1≤k:=by omega
   clear k0
   go_upto_region 4 with(first
    | (go_at_call 9
       fail_if_success (have _x:=H4)
       refine(next_w N p 7 w3 HD3.out (by omega) (by omega)).mono ?_
       rintro e w4 ⟨s,rfl,hs,hd4,hex4⟩
       have H4:Hid (DiceOK N w4 p∧Ex w3.heap.size (some p) w3 w4):=Lib.hid ⟨hd4,hex4⟩
       have hz4:w3.heap.size≤w4.heap.size:=hex4.size
       clear hd4 hex4)
    | (go_at_call 9
       refine(next_w N p 2 w4 H4.out.1 (by omega) (by omega)).mono ?_
       rintro e w5 ⟨r,rfl,hr,hd5,hex5⟩
       have H5:Hid (DiceOK N w5 p∧Ex w3.heap.size (some p) w3 w5):=Lib.hid ⟨hd5,H4.out.2.trans hex5 hz4 (fun q h _=>h)⟩
       have hz5:w4.heap.size≤w5.heap.size:=hex5.size
       have hb5:w5.heap[w2.heap.size]? =some (.cells #[.int .i64 ep,.int .i64 (1+ (k:Int)),.int .i64 0,.int .i64 0] 38 (0,0)):=(H5.out.2.block _ (by omega) (by simp;omega)).trans HB3.out
       have c2:w5.cell? ⟨w2.heap.size,2,none⟩=some (.int .i64 0):=by rw [cell_of_row _ _ _ _ _ _ hb5];rfl
       have c3:w5.cell? ⟨w2.heap.size,3,none⟩=some (.int .i64 0):=by rw [cell_of_row _ _ _ _ _ _ hb5];rfl
       have f2:w5.frozen? ⟨w2.heap.size,2,none⟩=false:=row_frozen_g hb5
       have f3:w5.frozen? ⟨w2.heap.size,3,none⟩=false:=row_frozen_g hb5
       have HB5:=Lib.hid hb5
       clear hd5 hex5 hb5)
    | fail)
   obtain⟨w6,hw6⟩:∃w6:World,w6= (w5.setCell ⟨w2.heap.size,2,none⟩ (.int .i64 s)).setCell ⟨w2.heap.size,3,none⟩ (.int .i64 r):=⟨_,rfl⟩
   have HB6:Hid (w6.heap[w2.heap.size]? =some (.cells (caE (ep,1+ (k:Int),(s:Int),(r:Int))).toArray 38 (0,0))):=Lib.hid (by rw [hw6,heap_setCell_same _ _ _ _ _ _ (heap_setCell_same _ _ _ _ _ _ HB5.out)];rfl)
   have HX6:Hid (Ex w.heap.size none w5 w6):=Lib.hid (by rw [hw6];exact((Ex.refl _ _ w5).setCell _ _ _ (.inr (by omega))).setCell _ _ _ (.inr (by omega)))
   have HE6:Hid (Ex w.heap.size (some p) w w6):=Lib.hid ((((HE1.out.weaken (some p)).trans HE3.out (by omega) (fun q h _=>h)).trans H5.out.2 (by omega) (fun q h _=>h)).trans HX6.out (Nat.le_refl _) (by simp))
   have HD6:Hid (DiceOK N w6 p):=Lib.hid (H5.out.1.keep HX6.out hN)
   have HR6:Hid (w6.heap[w.heap.size]? =some (.cells #[.int .i64 0,.int .i64 0,.int .i64 0,.int .i64 0] 38 (0,0))):=Lib.hid (by
    rw [hw6]
    exact set_far (by omega) (set_far (by omega) ((H5.out.2.block _ (by omega) (by simp;omega)).trans ((HE3.out.block _ (by omega) (by simp;omega)).trans HR1.out))))
   have HOK:Hid (CaOK ep (ep,1+ (k:Int),(s:Int),(r:Int))):=Lib.hid ⟨rfl,by show 1≤1+ (k:Int);omega,by show 1+ (k:Int)≤3;omega,by show(0:Int)≤(s:Int);omega,by show(s:Int)≤6;omega,by show(0:Int)≤(r:Int);omega,by show(r:Int)≤1;omega,fun h=>by have h' :1+ (k:Int)=1:=h;omega⟩
   have r6: (rowLoad 38 ⟨w2.heap.size,0,none⟩).run Tryz.prog w6=.ok (caV (ep,1+ (k:Int),(s:Int),(r:Int))) w6:=caV_box HB6.out
   have st6:=caV_set (ep,1+ (k:Int),(s:Int),(r:Int)) HR6.out rfl
   clear c2 c3 f2 f3
   refine wp_world (fun W=>W=w6) (by rw [hw6]) (fun W hW=>?_)
   rw [hW]
   clear hW W hw6
   go_wp2
   refine bodyPost_ret (v:=caV (ep,1+ (k:Int),(s:Int),(r:Int))) (results_cell_row rfl _ _ w.heap.size 38 (caE (ep,1+ (k:Int),(s:Int),(r:Int))).toArray (0,0) _ (by rfl) (setRow_heap _ _ _ _ _ _ HR6.out) Tryz.underlying38 rfl Tryz.sizeCa) rfl ?_
   exact⟨⟨_,rfl,HOK.out⟩,DiceOK.keep HD6.out ((Ex.refl N none w6).setRow _ _ (.inr hN)) (Nat.le_refl _),HE6.out.setRow _ _ (.inr (Nat.le_refl _))⟩
end
section
attribute [local go_sem ↓] rowLoad_ca rowStore_ca rowLoad_stv rowStore_stv
theorem valid_parts {c:CaD} (h:validC c.1 c.2.1 c.2.2.1 c.2.2.2=true):0≤c.1∧c.1 < 40∧0≤c.2.2.1∧c.2.2.1 < 64∧0≤c.2.2.2∧c.2.2.2≤1∧1≤c.2.1∧c.2.1≤3:=by
 unfold validC at h
 simp only [Bool.and_eq_true,decide_eq_true_eq] at h
 obtain⟨⟨⟨⟨⟨⟨h1,h2⟩,h3⟩,h4⟩,h5⟩,h6⟩,h7⟩:=h
 refine⟨h1,h2,h3,h4,h5,h6,?_⟩
 split at h7
 · omega
 · simp only [Bool.or_eq_true,decide_eq_true_eq] at h7
   omega
set_option maxHeartbeats 4000000 in
set_option maxRecDepth 100000 in
theorem code23_any (c:CaD) (w:World) (hv:validC c.1 c.2.1 c.2.2.1 c.2.2.2=true):Calls Tryz.prog 31 #[caV c] w fun e w'=>e=.returned (.int .i64 (c.2.1+16 * c.2.2.2))∧Ex w.heap.size none w w':=by
 obtain⟨_,_,_,_,hr0,hr1,hk0,hk1⟩:=valid_parts hv
 have HV:=Lib.hid hv
 clear hv
 obtain⟨w1,hw1⟩:∃w1:World,w1=w.alloc (.cells (caE c).toArray 38):=⟨_,rfl⟩
 have HE1:Hid (Ex w.heap.size none w w1):=Lib.hid (by rw [hw1];exact Ex.new w _)
 have HB:Hid (∀w',Ex w1.heap.size none w1 w'→(rowLoad 38 ⟨w.heap.size,0,none⟩).run Tryz.prog w' =.ok (caV c) w'∧w'.cell? ⟨w.heap.size,1,none⟩=some (.int .i64 c.2.1)∧w'.cell? ⟨w.heap.size,3,none⟩=some (.int .i64 c.2.2.2)):=Lib.hid (fun w' h=>by
  have k:=h.at2 (Nat.le_refl _) (show w1.heap[w.heap.size]? =some (.cells (caE c).toArray 38 (0,0)) by rw [hw1];exact heap_alloc_new _ _)
  exact⟨caV_box k,by rw [cell_of_row _ _ _ _ _ _ k];rfl,by rw [cell_of_row _ _ _ _ _ _ k];rfl⟩)
 have hwp:IntKind.i64.wrap (16 * c.2.2.2)=16 * c.2.2.2:=by rw [IntKind.wrap_i64];omega
 have hwp2:IntKind.i64.wrap (c.2.1+16 * c.2.2.2)=c.2.1+16 * c.2.2.2:=by rw [IntKind.wrap_i64];omega
 have n0:=caV_new w #[.int .i64 0,.int .i64 0,.int .i64 0,.int .i64 0] c rfl
 go_enter Tryz.func31,Tryz.ntmps31
 go_upto_region 1 with(fail)
 refine wp_world (fun W=>W=w1) (by rw [hw1];rfl) (fun W hW=>?_)
 rw [hW]
 clear hW W hw1 n0
 obtain⟨r0,c1,c3⟩:=HB.out _ (Ex.refl _ _ w1)
 go_wp2_with (first
  | (go_at_call 29
     refine(valid23_any c.1 c.2.1 c.2.2.1 c.2.2.2 w1).mono ?_
     rw [HV.out]
     rintro e w2 ⟨rfl,hg⟩
     have HE2:Hid (Ex w1.heap.size none w1 w2):=Lib.hid hg.ex
     clear r0 c1 c3 hg
     obtain⟨r0,c1,c3⟩:=HB.out _ HE2.out)
  | fail)
 go_ret
 exact⟨rfl,HE1.out.thenW HE2.out⟩
def ContOK (k:Int) (l:List Int):Prop:=(k=1∧∃y0 y1,l=[y0,y1]∧0≤y0∧y0 < 4294967296∧0≤y1∧y1 < 4294967296)∨(k≠1∧∃y0,l=[y0]∧(y0=0∨y0=1))
def coE (x:St×Sv×Sv):List Value:=[x.2.1.v,x.2.2.v]
set_option maxHeartbeats 8000000 in
set_option maxRecDepth 100000 in
theorem right23_any {P:Nat→Prop} (c:CaD) (x:St×Sv×Sv) (w:World) (hv:validC c.1 c.2.1 c.2.2.1 c.2.2.2=true) (hx:Lies P w x) (hc:ContOK c.2.1 x.1.list) (hp:x.1.pins.length≤100000) :
 Calls Tryz.prog 30 #[caV c,coV x] w fun e w'=>e=.returned (.bool (pinsOK x.1.pins))∧Ex w.heap.size none w w':=by
 obtain⟨hln1,hln2⟩:=lies_len hx
 obtain⟨s,⟨lo,n1,lc⟩,⟨po,n2,pc⟩⟩:=x
 have e1:n1=s.list.length:=hln1
 have e2:n2=s.pins.length:=hln2
 have HV:=Lib.hid hv
 have HN:Hid (s.list.length=n1∧s.pins.length=n2):=Lib.hid ⟨e1.symm,e2.symm⟩
 have HC:Hid (ContOK c.2.1 s.list):=Lib.hid hc
 have hpl:n2≤100000:=by rw [e2];exact hp
 clear hv hln1 hln2 e1 e2 hc hp
 obtain⟨q,hq⟩:∃q,q=checkI (pinSt s.pins):=⟨_,rfl⟩
 have HQ:Hid (pinsOK s.pins= (q == 0)):=Lib.hid (by unfold pinsOK;rw [←hq];rfl)
 have HQ2:Hid (checkI (pinSt s.pins)=q):=Lib.hid hq.symm
 clear hq
 obtain⟨w1,hw1⟩:∃w1:World,w1= (w.alloc (.cells (caE c).toArray 38)).alloc (.cells #[.slice lo n1 lc,.slice po n2 pc] 46):=⟨_,rfl⟩
 have HE1:Hid (Ex w.heap.size none w w1):=Lib.hid (by rw [hw1];exact(Ex.new w _).alloc (by simp) _)
 have hz1:w1.heap.size=w.heap.size+1+1:=by rw [hw1];simp
 have HB:Hid (∀w',Ex w1.heap.size none w1 w'→(rowLoad 38 ⟨w.heap.size,0,none⟩).run Tryz.prog w' =.ok (caV c) w'∧w'.cell? ⟨w.heap.size,1,none⟩=some (.int .i64 c.2.1)∧w'.cell? ⟨w.heap.size+1,0,none⟩=some (.slice lo n1 lc)∧w'.cell? ⟨w.heap.size+1,1,none⟩=some (.slice po n2 pc)):=Lib.hid (fun w' h=>by
  have k:=h.at2 (Nat.le_refl _) (show w1.heap[w.heap.size]? =some (.cells (caE c).toArray 38 (0,0)) by rw [hw1];exact heap_alloc2_old _ _ _)
  have k2:=h.at2 (Nat.le_refl _) (show w1.heap[w.heap.size+1]? =some (.cells #[.slice lo n1 lc,.slice po n2 pc] 46 (0,0)) by rw [hw1];exact heap_alloc2_new _ _ _)
  exact⟨caV_box k,by rw [cell_of_row _ _ _ _ _ _ k];rfl,by rw [cell_of_row _ _ _ _ _ _ k2];rfl,by rw [cell_of_row _ _ _ _ _ _ k2];rfl⟩)
 have HL:Hid (∀w',Ex w1.heap.size none w1 w'→Lies P w' (s,⟨lo,n1,lc⟩,⟨po,n2,pc⟩)):=Lib.hid (fun w' h=>hx.keep fun b _ hb=>(h.block b (by omega) (by simp)).trans (HE1.out.block b hb (by simp)))
 clear hx
 have n0:=caV_new w #[.int .i64 0,.int .i64 0,.int .i64 0,.int .i64 0] c rfl
 go_enter Tryz.func30,Tryz.ntmps30
 go_upto_region 1 with(fail)
 refine wp_world (fun W=>W=w1) (by rw [hw1];rfl) (fun W hW=>?_)
 rw [hW]
 clear hW W hw1 n0
 obtain⟨r0,c1,c2,c3⟩:=HB.out _ (Ex.refl _ _ w1)
 go_upto_region 4 with(first
  | (go_at_call 29
     refine(valid23_any c.1 c.2.1 c.2.2.1 c.2.2.2 w1).mono ?_
     rw [HV.out]
     rintro e w2 ⟨rfl,hg⟩
     have HE2:Hid (Ex w1.heap.size none w1 w2):=Lib.hid hg.ex
     clear r0 c1 c2 c3 hg
     obtain⟨r0,c1,c2,c3⟩:=HB.out _ HE2.out
     have hn2: (rowStore 51 ⟨w2.heap.size,0,none⟩ (.agg #[.int .i64 0,.int .i64 0,.string ⟨#[]⟩,.int .i64 0,.int .i64 10,.int .i64 0,.int .i64 0,.int .i64 0,.slice none 0 0,.slice po n2 pc,.string ⟨#[]⟩,.int .i64 0,.string ⟨#[]⟩])).run Tryz.prog (w2.alloc (.cells #[.int .i64 0,.int .i64 0,.string ⟨#[]⟩,.int .i64 0,.int .i64 0,.int .i64 0,.int .i64 0,.int .i64 0,.slice none 0 0,.slice none 0 0,.string ⟨#[]⟩,.int .i64 0,.string ⟨#[]⟩] 51))=.ok () (w2.alloc (.cells (stE (pinSt s.pins,⟨none,0,0⟩,⟨po,n2,pc⟩)).toArray 51)):=stV_new w2 _ (pinSt s.pins,⟨none,0,0⟩,⟨po,n2,pc⟩) rfl)
  | fail)
 obtain⟨w3,hw3⟩:∃w3:World,w3=w2.alloc (.cells (stE (pinSt s.pins,⟨none,0,0⟩,⟨po,n2,pc⟩)).toArray 51):=⟨_,rfl⟩
 have HE3:Hid (Ex w1.heap.size none w1 w3):=Lib.hid (by rw [hw3];exact HE2.out.allocX _)
 have r3: (rowLoad 51 ⟨w2.heap.size,0,none⟩).run Tryz.prog w3=.ok (stV (pinSt s.pins,⟨none,0,0⟩,⟨po,n2,pc⟩)) w3:=stV_box (by rw [hw3];exact heap_alloc_new _ _)
 refine wp_world (fun W=>W=w3) (by rw [hw3]) (fun W hW=>?_)
 rw [hW]
 clear hW W hw3 hn2 r0 c1 c2 c3
 have HLP:Hid (Lies P w3 (pinSt s.pins,⟨none,0,0⟩,⟨po,n2,pc⟩)):=Lib.hid ⟨Sl.nil _ _,(HL.out w3 HE3.out).2⟩
 by_cases q0:q=0
 case neg=>
  have kq: (q == 0)=false:=by simpa using q0
  have kq2: (q != 0)=true:=by simpa using q0
  clear q0
  go_wp2_with (first
   | (go_at_call 45
      refine(check03_any (pinSt s.pins) none po 0 0 n2 pc w3 HLP.out ⟨Nat.zero_le _,by show s.pins.length≤_;rw [HN.out.2];omega⟩).mono ?_
      rw [HQ2.out]
      rintro e w4 ⟨rfl,hex⟩
      have HE4:Hid (Ex w1.heap.size none w1 w4):=Lib.hid (HE3.out.thenW hex)
      clear hex r3)
   | fail)
  go_ret
  exact⟨by rw [HQ.out,kq];rfl,HE1.out.thenW HE4.out⟩
 have kq: (q == 0)=true:=by simpa using q0
 have kq2: (q != 0)=false:=by simpa using q0
 clear q0
 go_upto_region 6 with(first
  | (go_at_call 45
     refine(check03_any (pinSt s.pins) none po 0 0 n2 pc w3 HLP.out ⟨Nat.zero_le _,by show s.pins.length≤_;rw [HN.out.2];omega⟩).mono ?_
     rw [HQ2.out]
     rintro e w4 ⟨rfl,hex⟩
     have HE4:Hid (Ex w1.heap.size none w1 w4):=Lib.hid (HE3.out.thenW hex)
     clear hex r3)
  | fail)
 obtain⟨r0,c1,c2,c3⟩:=HB.out _ HE4.out
 have HI:Hid (IntsAt w4 lo s.list):=Lib.hid (sl_ints (HL.out w4 HE4.out).1).at'
 rcases HC.out with⟨hk,y0,y1,hl,a1,a2,a3,a4⟩ | ⟨hk,y0,hl,hy⟩
 · have kk: (c.2.1 == 1)=true:=by simpa using hk
   have h2:n1=2:=by rw [←HN.out.1,hl];rfl
   subst h2
   obtain⟨b,off,z0,hao,hc0,HZ0⟩:=HI.out.get 0 (by rw [hl];simp)
   obtain⟨b',off',z1,hao',hc1,HZ1⟩:=HI.out.get 1 (by rw [hl];simp)
   subst hao
   cases hao'
   obtain rfl:z0=y0:=by have:=HZ0.out;rw [hl] at this;exact this.symm
   obtain rfl:z1=y1:=by have:=HZ1.out;rw [hl] at this;exact this.symm
   have d1:decide (0≤z0)=true:=decide_eq_true a1
   have d2:decide (z0 < 4294967296)=true:=decide_eq_true a2
   have d3:decide (0≤z1)=true:=decide_eq_true a3
   have d4:decide (z1 < 4294967296)=true:=decide_eq_true a4
   simp only [Nat.add_zero] at hc0
   clear hk hl
   go_wp2
   go_ret
   exact⟨by rw [HQ.out,kq];rfl,HE1.out.thenW HE4.out⟩
 · have kk: (c.2.1 == 1)=false:=by simpa using hk
   have h2:n1=1:=by rw [←HN.out.1,hl];rfl
   subst h2
   obtain⟨b,off,z0,hao,hc0,HZ0⟩:=HI.out.get 0 (by rw [hl];simp)
   subst hao
   obtain rfl:z0=y0:=by have:=HZ0.out;rw [hl] at this;exact this.symm
   simp only [Nat.add_zero] at hc0
   clear hk hl
   rcases hy with rfl | rfl
   · go_wp2
     go_ret
     exact⟨by rw [HQ.out,kq];rfl,HE1.out.thenW HE4.out⟩
   · go_wp2
     go_ret
     exact⟨by rw [HQ.out,kq];rfl,HE1.out.thenW HE4.out⟩
end
section
theorem rowStore_dr (a:Addr) (v:Value):storeVar 35 a v=rowStore 35 a v:=rfl
theorem rowLoad_dr (a:Addr):loadVar 35 a=rowLoad 35 a:=rfl
theorem Tryz.sizeDr: (Tryz.prog.info? 35).map (·.size)=some 6:=by kernel_rfl
theorem one_drE (x:St×Sv×Sv): (drE x).toArray.all (·.oneCell')=true:=by simp [drE,Value.oneCell',Sv.v]
theorem drV_box {w:World} {g:Nat} {x:St×Sv×Sv} {t:TypeId} {fr:Nat×Nat} (h:w.heap[g]? =some (.cells (drE x).toArray t fr)): (rowLoad 35 ⟨g,0,none⟩).run Tryz.prog w=.ok (drV x) w :=
 run_rowLoad (P:=Tryz.prog) w g t 35 (drE x).toArray fr _ h Tryz.underlying35 rfl Tryz.sizeDr
theorem drV_set {w:World} {g:Nat} {old:Array Value} (x:St×Sv×Sv) (h:w.heap[g]? =some (.cells old 35 (0,0))) (ho:old.size=6): (rowStore 35 ⟨g,0,none⟩ (drV x)).run Tryz.prog w=.ok () (w.setRow g (drE x).toArray) :=
 run_rowStore (P:=Tryz.prog) w g 35 35 old (drE x).toArray h Tryz.sizeDr (by rw [ho];rfl) (one_drE x)
theorem drV_new (w:World) (old:Array Value) (x:St×Sv×Sv) (ho:old.size=6): (rowStore 35 ⟨w.heap.size,0,none⟩ (drV x)).run Tryz.prog (w.alloc (.cells old 35))=.ok () (w.alloc (.cells (drE x).toArray 35)):=by
 have h:=drV_set (w:=w.alloc (.cells old 35)) (g:=w.heap.size) (old:=old) x (heap_alloc_new w _) ho
 rw [alloc_setRow] at h
 exact h
theorem wp_callG {P:Program} {o:Oper} {a:Act} {w w' :World} {f:FuncId} {args:Array Value} {K:Act→World→Prop} {Q:Exit→Act→World→Prop} (h: (execOp a.eval o).run P w=.ok (.enter f args) w') (hc:Calls P f args w' fun e w''=>∃v,e=.returned v∧K (a.put o.dst v) w''):o.wp P a w K Q:=by
 unfold Oper.wp
 rw [h]
 exact hc.mono fun e w'' ⟨v,he,hk⟩=>by subst he;exact hk
def drS (c:CaD) (s:St):St:={ author:=0,number:=0,prev:=⟨#[]⟩,time:=0,kind:=10,a:=c.1,b:=c.2.1+16 * c.2.2.2,c:=c.2.2.1,list:=s.list,pins:=s.pins,body:=⟨#[]⟩,key:=0,dig:=⟨#[]⟩ }
def Fact.dr2 (base n1 n2:Nat) (s:St):Fact:=⟨fun v w=>∃ao ac qo qc,v=drV (s,⟨ao,n1,ac⟩,⟨qo,n2,qc⟩)∧OwnE iE 1 3 w base ao ac s.list∧OwnE pinE 3 77 w base qo qc s.pins,fun⟨ao,ac,qo,qc,h1,h2,h3⟩ hx=>⟨ao,ac,qo,qc,h1,h2.keep hx (Nat.le_refl _) (by simp),h3.keep hx (Nat.le_refl _) (by simp)⟩⟩
theorem own_lies2 {w:World} {base n1 n2:Nat} {ao qo:Option Addr} {ac qc:Nat} {s t:St} (hn:s.list.length=n1∧s.pins.length=n2) (h1:OwnE iE 1 3 w base ao ac s.list) (h2:OwnE pinE 3 77 w base qo qc s.pins) (e1:t.list=s.list:=by rfl) (e2:t.pins=s.pins:=by rfl):Lies (fun b=>base≤b) w (t,⟨ao,n1,ac⟩,⟨qo,n2,qc⟩):=by
 refine⟨?_,?_⟩
 · show Sl intRep _ _ _ t.list
   rw [e1]
   exact iE_slE hn.1 h1
 · show Sl pinRep _ _ _ t.pins
   rw [e2]
   exact own_slK hn.2 h2
def DraftE (c:CaD) (s:St) (b:Nat) (e:Ending) (w' :World):Prop:=∃(y:St×Sv×Sv) (q:Int),e=.returned (.tuple #[drV y,.int .i64 q])∧((pinsOK s.pins=false∧y=zeroVo)∨(q=0∧pinsOK s.pins=true∧y.1=drS c s))∧Lies (fun k=>b≤k) w' y
attribute [local go_sem ↓] rowLoad_ca rowStore_ca rowLoad_dr rowStore_dr
set_option maxHeartbeats 16000000 in
set_option maxRecDepth 100000 in
theorem draft23_any {P:Nat→Prop} (c:CaD) (x:St×Sv×Sv) (w:World) (hv:validC c.1 c.2.1 c.2.2.1 c.2.2.2=true) (hx:Lies P w x) (hc:ContOK c.2.1 x.1.list) (hp:x.1.pins.length≤1000) :
 Calls Tryz.prog 11 #[caV c,coV x] w fun e w'=>DraftE c x.1 w.heap.size e w'∧Ex w.heap.size none w w':=by
 obtain⟨hln1,hln2⟩:=lies_len hx
 obtain⟨d,⟨lo,n1,lc⟩,⟨po,n2,pc⟩⟩:=x
 have e1:n1=d.list.length:=hln1
 have e2:n2=d.pins.length:=hln2
 have HV:=Lib.hid hv
 have HN:Hid (d.list.length=n1∧d.pins.length=n2):=Lib.hid ⟨e1.symm,e2.symm⟩
 have HC:Hid (ContOK c.2.1 d.list∧d.pins.length≤100000):=Lib.hid ⟨hc,by have h:d.pins.length≤1000:=hp;omega⟩
 have hm1:n1≤2:=by
  rw [e1]
  rcases hc with⟨_,y0,y1,hl,_⟩ | ⟨_,y0,hl,_⟩
  · have hl' :d.list=[y0,y1]:=hl
    rw [hl'];simp
  · have hl' :d.list=[y0]:=hl
    rw [hl'];simp
 have hm2:n2≤1000:=by rw [e2];exact hp
 clear hv hln1 hln2 e1 e2 hc hp
 obtain⟨w1,hw1⟩:∃w1:World,w1= ((w.alloc (.cells (caE c).toArray 38)).alloc (.cells #[.slice lo n1 lc,.slice po n2 pc] 46)).alloc (.cells #[.int .i64 0,.int .i64 0,.int .i64 0,.int .i64 0,.slice none 0 0,.slice none 0 0] 35):=⟨_,rfl⟩
 have HE1:Hid (Ex w.heap.size none w w1):=Lib.hid (by rw [hw1];exact((Ex.new w _).alloc (by simp) _).alloc (by simp;omega) _)
 have hz1:w1.heap.size=w.heap.size+1+1+1:=by rw [hw1];simp
 have HA1:Hid (w1.heap[w.heap.size]? =some (.cells (caE c).toArray 38 (0,0))∧w1.heap[w.heap.size+1]? =some (.cells #[.slice lo n1 lc,.slice po n2 pc] 46 (0,0))∧w1.heap[w.heap.size+1+1]? =some (.cells #[.int .i64 0,.int .i64 0,.int .i64 0,.int .i64 0,.slice none 0 0,.slice none 0 0] 35 (0,0))):=Lib.hid (by
  rw [hw1]
  refine⟨(at_oldX _ _ _ (by simp;omega)).trans (heap_alloc2_old _ _ _),(at_oldX _ _ _ (by simp)).trans (heap_alloc2_new _ _ _),?_⟩
  have e:=heap_alloc_new ((w.alloc (.cells (caE c).toArray 38)).alloc (.cells #[.slice lo n1 lc,.slice po n2 pc] 46)) (.cells #[.int .i64 0,.int .i64 0,.int .i64 0,.int .i64 0,.slice none 0 0,.slice none 0 0] 35)
  simp only [World.size_alloc] at e
  exact e)
 have HB:Hid (∀w',Ex w1.heap.size none w1 w'→(rowLoad 38 ⟨w.heap.size,0,none⟩).run Tryz.prog w' =.ok (caV c) w'∧w'.cell? ⟨w.heap.size,0,none⟩=some (.int .i64 c.1)∧w'.cell? ⟨w.heap.size,2,none⟩=some (.int .i64 c.2.2.1)∧w'.cell? ⟨w.heap.size+1,0,none⟩=some (.slice lo n1 lc)∧w'.cell? ⟨w.heap.size+1,1,none⟩=some (.slice po n2 pc)):=Lib.hid (fun w' h=>by
  have k:=h.at2 (Nat.le_refl _) HA1.out.1
  have k2:=h.at2 (Nat.le_refl _) HA1.out.2.1
  exact⟨caV_box k,by rw [cell_of_row _ _ _ _ _ _ k];rfl,by rw [cell_of_row _ _ _ _ _ _ k];rfl,by rw [cell_of_row _ _ _ _ _ _ k2];rfl,by rw [cell_of_row _ _ _ _ _ _ k2];rfl⟩)
 have HR:Hid (∀w',Ex w1.heap.size none w1 w'→w'.heap[w.heap.size+1+1]? =some (.cells #[.int .i64 0,.int .i64 0,.int .i64 0,.int .i64 0,.slice none 0 0,.slice none 0 0] 35 (0,0))):=Lib.hid (fun w' h=>h.at2 (Nat.le_refl _) HA1.out.2.2)
 have HL:Hid (∀w',Ex w1.heap.size none w1 w'→Lies P w' (d,⟨lo,n1,lc⟩,⟨po,n2,pc⟩)):=Lib.hid (fun w' h=>hx.keep fun b _ hb=>(h.block b (by omega) (by simp)).trans (HE1.out.block b hb (by simp)))
 clear hx
 have n0:=caV_new w #[.int .i64 0,.int .i64 0,.int .i64 0,.int .i64 0] c rfl
 go_enter Tryz.func11,Tryz.ntmps11
 go_upto_region 1 with(fail)
 refine wp_world (fun W=>W=w1) (by rw [hw1];rfl) (fun W hW=>?_)
 rw [hW]
 clear hW W hw1 n0
 obtain⟨r0,c0,c2,k0,k1⟩:=HB.out _ (Ex.refl _ _ w1)
 obtain⟨pb,hpb⟩:∃pb,pb=pinsOK d.pins:=⟨_,rfl⟩
 have HPB:Hid (pinsOK d.pins=pb):=Lib.hid hpb.symm
 clear hpb
 go_upto_region 3 with(first
  | (go_at_call 29
     refine(valid23_any c.1 c.2.1 c.2.2.1 c.2.2.2 w1).mono ?_
     rw [HV.out]
     rintro e w2 ⟨rfl,hg⟩
     have HE2:Hid (Ex w1.heap.size none w1 w2):=Lib.hid hg.ex
     clear r0 c0 c2 k0 k1 hg)
  | fail)
 obtain⟨r0,c0,c2,k0,k1⟩:=HB.out _ HE2.out
 cases pb with
 | false=>
   go_wp2_with (first
    | (go_at_call 30
       refine(right23_any (P:=P) c (d,⟨lo,n1,lc⟩,⟨po,n2,pc⟩) w2 HV.out (HL.out w2 HE2.out) HC.out.1 HC.out.2).mono ?_
       rw [HPB.out]
       rintro e w3 ⟨rfl,hex⟩
       have HE3:Hid (Ex w1.heap.size none w1 w3):=Lib.hid (HE2.out.thenW hex)
       have hst: (rowStore 35 ⟨w.heap.size+1+1,0,none⟩ (.agg #[.int .i64 0,.int .i64 0,.int .i64 0,.int .i64 0,.slice none 0 0,.slice none 0 0])).run Tryz.prog w3=.ok () (w3.setRow (w.heap.size+1+1) (drE zeroVo).toArray):=drV_set zeroVo (HR.out w3 HE3.out) rfl
       clear hex r0 c0 c2 k0 k1)
    | fail)
   refine bodyPost_ret (v:=.tuple #[drV zeroVo,.int .i64 42]) ?_ rfl ?_
   · rw [results_cell_tmp Tryz.results11]
     show((loadVar 35 ⟨w.heap.size+1+1,0,none⟩).run Tryz.prog _).andThen _=_
     rw [rowLoad_dr,drV_box (setRow_heap _ _ _ _ _ _ (HR.out w3 HE3.out))]
     rfl
   exact⟨⟨zeroVo,42,rfl,.inl ⟨HPB.out,rfl⟩,zeroVo_lies _ _⟩,(HE1.out.thenW HE3.out).setRow _ _ (.inr (by omega))⟩
 | true=>
   go_upto_region 5 with(first
    | (go_at_call 30
       refine(right23_any (P:=P) c (d,⟨lo,n1,lc⟩,⟨po,n2,pc⟩) w2 HV.out (HL.out w2 HE2.out) HC.out.1 HC.out.2).mono ?_
       rw [HPB.out]
       rintro e w3 ⟨rfl,hex⟩
       have HE3:Hid (Ex w1.heap.size none w1 w3):=Lib.hid (HE2.out.thenW hex)
       clear hex r0 c0 c2 k0 k1)
    | fail)
   refine wp_region_steps 30 [Fact.is (.pointer (some ⟨w.heap.size,0,none⟩)),
    Fact.is (.int .i64 c.1),
    Fact.is (caV c),
    Fact.is (.int .i64 (c.2.1+16 * c.2.2.2)),
    Fact.is (.pointer (some ⟨w.heap.size,2,none⟩)),
    Fact.is (.int .i64 c.2.2.1),
    Fact.emp w3.heap.size 3,
    Fact.is (.pointer (some ⟨w.heap.size+1,0,none⟩)),
    Fact.is (.slice lo n1 lc),
    Fact.own iE 1 3 w3.heap.size n1 d.list,
    Fact.emp w3.heap.size 77,
    Fact.is (.pointer (some ⟨w.heap.size+1,1,none⟩)),
    Fact.is (.slice po n2 pc),
    Fact.own pinE 3 77 w3.heap.size n2 d.pins,
    Fact.dr2 w3.heap.size n1 n2 (drS c d)] (by kernel_rfl) (by kernel_rfl) rfl ?_ ?_
   · refine⟨?_,?_,?_,?_,?_,?_,?_,?_,?_,?_,?_,?_,?_,?_,?_,trivial⟩
     · -- 0 fieldAddr
       intro a' w' hR hF hK K h
       have e2:a'.eval (.tmp 2)=.pointer (some ⟨w.heap.size,0,none⟩):=hF.evalB 2 (by kernel_rfl)
       refine wp_value (v:=.pointer (some ⟨w.heap.size,0,none⟩)) ?_ (h _ _ (Ex.refl _ _ _) rfl)
       generalize a'.eval=ev at e2 ⊢
       go_simp
     · -- 1 load
       intro a' w' hR hF hK K h
       have e15:a'.eval (.tmp 15)=.pointer (some ⟨w.heap.size,0,none⟩):=hK { on:=0,ground:=.data } (by simp) rfl (by show(0:Nat) < 15;omega)
       obtain⟨r0,c0,c2,k0,k1⟩:=HB.out w' (HE3.out.thenW hR)
       refine wp_value (v:=.int .i64 c.1) ?_ (h _ _ (Ex.refl _ _ _) rfl)
       generalize a'.eval=ev at e15 ⊢
       go_simp
     · -- 2 load
       intro a' w' hR hF hK K h
       have e2:a'.eval (.tmp 2)=.pointer (some ⟨w.heap.size,0,none⟩):=hF.evalB 2 (by kernel_rfl)
       obtain⟨r0,c0,c2,k0,k1⟩:=HB.out w' (HE3.out.thenW hR)
       refine wp_value (v:=caV c) ?_ (h _ _ (Ex.refl _ _ _) rfl)
       generalize a'.eval=ev at e2 ⊢
       go_simp
     · -- 3 call
       intro a' w' hR hF hK K h
       have e17:a'.eval (.tmp 17)=caV c:=hK { on:=2,ground:=.data } (by simp) rfl (by show(2:Nat) < 15;omega)
       refine wp_callG (f:=31) (args:=#[caV c]) ?_ ((code23_any c w' HV.out).mono ?_)
       · have ef:a'.eval (.func 31)=.func (.func 31) #[] #[]:=rfl
         have en:=enters_of Tryz.func31 (by kernel_rfl) rfl
         generalize a'.eval=ev at e17 ef ⊢
         go_simp
       · rintro e w2 ⟨rfl,hex⟩
         exact⟨_,rfl,h _ _ hex rfl⟩
     · -- 4 fieldAddr
       intro a' w' hR hF hK K h
       have e2:a'.eval (.tmp 2)=.pointer (some ⟨w.heap.size,0,none⟩):=hF.evalB 2 (by kernel_rfl)
       refine wp_value (v:=.pointer (some ⟨w.heap.size,2,none⟩)) ?_ (h _ _ (Ex.refl _ _ _) rfl)
       generalize a'.eval=ev at e2 ⊢
       go_simp
     · -- 5 load
       intro a' w' hR hF hK K h
       have e19:a'.eval (.tmp 19)=.pointer (some ⟨w.heap.size,2,none⟩):=hK { on:=4,ground:=.data } (by simp) rfl (by show(4:Nat) < 15;omega)
       obtain⟨r0,c0,c2,k0,k1⟩:=HB.out w' (HE3.out.thenW hR)
       refine wp_value (v:=.int .i64 c.2.2.1) ?_ (h _ _ (Ex.refl _ _ _) rfl)
       generalize a'.eval=ev at e19 ⊢
       go_simp
     · -- 6 buildSlice
       intro a' w' hR hF hK K h
       refine wp_value (v:=.slice (some ⟨w'.heap.size,0,none⟩) 0 0) (w':=w'.alloc (.cells #[] 3)) ?_ (h _ _ (Ex.new _ _) ⟨_,rfl,hR.size,heap_alloc_new _ _⟩)
       generalize a'.eval=ev
       go_simp
     · -- 7 fieldAddr
       intro a' w' hR hF hK K h
       have e3:a'.eval (.tmp 3)=.pointer (some ⟨w.heap.size+1,0,none⟩):=hF.evalB 3 (by kernel_rfl)
       refine wp_value (v:=.pointer (some ⟨w.heap.size+1,0,none⟩)) ?_ (h _ _ (Ex.refl _ _ _) rfl)
       generalize a'.eval=ev at e3 ⊢
       go_simp
     · -- 8 load
       intro a' w' hR hF hK K h
       have e22:a'.eval (.tmp 22)=.pointer (some ⟨w.heap.size+1,0,none⟩):=hK { on:=7,ground:=.data } (by simp) rfl (by show(7:Nat) < 15;omega)
       obtain⟨r0,c0,c2,k0,k1⟩:=HB.out w' (HE3.out.thenW hR)
       refine wp_value (v:=.slice lo n1 lc) ?_ (h _ _ (Ex.refl _ _ _) rfl)
       generalize a'.eval=ev at e22 ⊢
       go_simp
     · -- 9 call
       intro a' w' hR hF hK K h
       have F21:=hK { on:=6,ground:=.data } (by simp) rfl (by show(6:Nat) < 15;omega)
       have e23:a'.eval (.tmp 23)=.slice lo n1 lc:=hK { on:=8,ground:=.data } (by simp) rfl (by show(8:Nat) < 15;omega)
       obtain⟨b,e21,hb,hbe⟩:=F21
       exact wp_appN rfl (.tmp 21) (.tmp 23) 22 3 (by rfl) Tryz.underlying22 _ 1 8 Tryz.infoInt rfl (by decide) (by decide) iE iE_len one_iE w3.heap.size b e21 hb hbe lo n1 lc e23 d.list HN.out.1 (ints_srcE (sl_ints (HL.out w' (HE3.out.thenW hR)).1)) (by omega) hR.size (fun v w'' hx hf=>h v w'' hx hf)
     · -- 10 buildSlice
       intro a' w' hR hF hK K h
       refine wp_value (v:=.slice (some ⟨w'.heap.size,0,none⟩) 0 0) (w':=w'.alloc (.cells #[] 77)) ?_ (h _ _ (Ex.new _ _) ⟨_,rfl,hR.size,heap_alloc_new _ _⟩)
       generalize a'.eval=ev
       go_simp
     · -- 11 fieldAddr
       intro a' w' hR hF hK K h
       have e3:a'.eval (.tmp 3)=.pointer (some ⟨w.heap.size+1,0,none⟩):=hF.evalB 3 (by kernel_rfl)
       refine wp_value (v:=.pointer (some ⟨w.heap.size+1,1,none⟩)) ?_ (h _ _ (Ex.refl _ _ _) rfl)
       generalize a'.eval=ev at e3 ⊢
       go_simp
     · -- 12 load
       intro a' w' hR hF hK K h
       have e26:a'.eval (.tmp 26)=.pointer (some ⟨w.heap.size+1,1,none⟩):=hK { on:=11,ground:=.data } (by simp) rfl (by show(11:Nat) < 15;omega)
       obtain⟨r0,c0,c2,k0,k1⟩:=HB.out w' (HE3.out.thenW hR)
       refine wp_value (v:=.slice po n2 pc) ?_ (h _ _ (Ex.refl _ _ _) rfl)
       generalize a'.eval=ev at e26 ⊢
       go_simp
     · -- 13 call
       intro a' w' hR hF hK K h
       have F25:=hK { on:=10,ground:=.data } (by simp) rfl (by show(10:Nat) < 15;omega)
       have e27:a'.eval (.tmp 27)=.slice po n2 pc:=hK { on:=12,ground:=.data } (by simp) rfl (by show(12:Nat) < 15;omega)
       obtain⟨b,e25,hb,hbe⟩:=F25
       exact wp_appN rfl (.tmp 25) (.tmp 27) 33 77 (by rfl) Tryz.underlying33 _ 3 32 Tryz.infoPin rfl (by decide) (by decide) pinE pinE_len one_pinE w3.heap.size b e25 hb hbe po n2 pc e27 d.pins HN.out.2 (pin_src (HL.out w' (HE3.out.thenW hR)).2) (by omega) hR.size (fun v w'' hx hf=>h v w'' hx hf)
     · -- 14 build
       intro a' w' hR hF hK K h
       have e16:a'.eval (.tmp 16)=.int .i64 c.1:=hK { on:=1,ground:=.data } (by simp) rfl (by show(1:Nat) < 15;omega)
       have e18:a'.eval (.tmp 18)=.int .i64 (c.2.1+16 * c.2.2.2):=hK { on:=3,ground:=.data } (by simp) rfl (by show(3:Nat) < 15;omega)
       have e20:a'.eval (.tmp 20)=.int .i64 c.2.2.1:=hK { on:=5,ground:=.data } (by simp) rfl (by show(5:Nat) < 15;omega)
       have F24:=hK { on:=9,ground:=.data } (by simp) rfl (by show(9:Nat) < 15;omega)
       have F28:=hK { on:=13,ground:=.data } (by simp) rfl (by show(13:Nat) < 15;omega)
       obtain⟨ao,ac,e24,ho⟩:=F24
       obtain⟨qo,qc,e28,hq⟩:=F28
       replace e24:a'.eval (.tmp 24)=.slice ao n1 ac:=e24
       replace e28:a'.eval (.tmp 28)=.slice qo n2 qc:=e28
       refine wp_value (v:=drV (drS c d,⟨ao,n1,ac⟩,⟨qo,n2,qc⟩)) ?_ (h _ _ (Ex.refl _ _ _) ⟨ao,ac,qo,qc,rfl,ho,hq⟩)
       have ec:∀v,a'.eval (.const v)=v:=fun _=>rfl
       generalize a'.eval=ev at e16 e18 e20 e24 e28 ec ⊢
       go_simp
       rfl
   · intro a' w' hR hF hI
     obtain⟨ao,ac,qo,qc,e29,ho,hq⟩:=hI 14 (by show(14:Nat) < 15;omega)
     replace e29:a'.eval (.tmp 29)=drV (drS c d,⟨ao,n1,ac⟩,⟨qo,n2,qc⟩):=e29
     obtain⟨u21,e21⟩:∃u,a'.eval (.tmp 21)=u:=⟨_,rfl⟩
     obtain⟨u24,e24⟩:∃u,a'.eval (.tmp 24)=u:=⟨_,rfl⟩
     obtain⟨u25,e25⟩:∃u,a'.eval (.tmp 25)=u:=⟨_,rfl⟩
     obtain⟨u28,e28⟩:∃u,a'.eval (.tmp 28)=u:=⟨_,rfl⟩
     have e0:a'.eval (.tmp 0)=caV c:=hF.evalB 0 (by kernel_rfl)
     have e1:a'.eval (.tmp 1)=coV (d,⟨lo,n1,lc⟩,⟨po,n2,pc⟩):=hF.evalB 1 (by kernel_rfl)
     have e2:a'.eval (.tmp 2)=.pointer (some ⟨w.heap.size,0,none⟩):=hF.evalB 2 (by kernel_rfl)
     have e3:a'.eval (.tmp 3)=.pointer (some ⟨w.heap.size+1,0,none⟩):=hF.evalB 3 (by kernel_rfl)
     have e4:a'.eval (.tmp 4)=.pointer (some ⟨w.heap.size+1+1,0,none⟩):=hF.evalB 4 (by kernel_rfl)
     have e5:a'.eval (.tmp 5)=.int .i64 0:=hF.evalB 5 (by kernel_rfl)
     have e6:a'.eval (.tmp 6)=caV c:=hF.evalB 6 (by kernel_rfl)
     have e7:a'.eval (.tmp 7)=.bool true:=hF.evalB 7 (by kernel_rfl)
     have e8:a'.eval (.tmp 8)=.bool false:=hF.evalB 8 (by kernel_rfl)
     have e9:a'.eval (.tmp 9)=undef:=hF.evalB 9 (by kernel_rfl)
     have e10:a'.eval (.tmp 10)=caV c:=hF.evalB 10 (by kernel_rfl)
     have e11:a'.eval (.tmp 11)=.agg #[.slice lo n1 lc,.slice po n2 pc]:=hF.evalB 11 (by kernel_rfl)
     have e12:a'.eval (.tmp 12)=.bool true:=hF.evalB 12 (by kernel_rfl)
     have e13:a'.eval (.tmp 13)=.bool false:=hF.evalB 13 (by kernel_rfl)
     have e14:a'.eval (.tmp 14)=undef:=hF.evalB 14 (by kernel_rfl)
     have e15:a'.eval (.tmp 15)=.pointer (some ⟨w.heap.size,0,none⟩):=hI 0 (by show(0:Nat) < 15;omega)
     have e16:a'.eval (.tmp 16)=.int .i64 c.1:=hI 1 (by show(1:Nat) < 15;omega)
     have e17:a'.eval (.tmp 17)=caV c:=hI 2 (by show(2:Nat) < 15;omega)
     have e18:a'.eval (.tmp 18)=.int .i64 (c.2.1+16 * c.2.2.2):=hI 3 (by show(3:Nat) < 15;omega)
     have e19:a'.eval (.tmp 19)=.pointer (some ⟨w.heap.size,2,none⟩):=hI 4 (by show(4:Nat) < 15;omega)
     have e20:a'.eval (.tmp 20)=.int .i64 c.2.2.1:=hI 5 (by show(5:Nat) < 15;omega)
     have e22:a'.eval (.tmp 22)=.pointer (some ⟨w.heap.size+1,0,none⟩):=hI 7 (by show(7:Nat) < 15;omega)
     have e23:a'.eval (.tmp 23)=.slice lo n1 lc:=hI 8 (by show(8:Nat) < 15;omega)
     have e26:a'.eval (.tmp 26)=.pointer (some ⟨w.heap.size+1,1,none⟩):=hI 11 (by show(11:Nat) < 15;omega)
     have e27:a'.eval (.tmp 27)=.slice po n2 pc:=hI 12 (by show(12:Nat) < 15;omega)
     have ha:=act_eta a'
     rw [show a'.tmps.size=30 from hF.2.1,show a'.defers=[] from hF.2.2,show List.range 30=[0,1,2,3,4,5,6,7,8,9,10,11,12,13,14,15,16,17,18,19,20,21,22,23,24,25,26,27,28,29] from rfl] at ha
     simp only [List.map_cons,List.map_nil,e0,e1,e2,e3,e4,e5,e6,e7,e8,e9,e10,e11,e12,e13,e14,e15,e16,e17,e18,e19,e20,e21,e22,e23,e24,e25,e26,e27,e28,e29] at ha
     rw [ha]
     clear ha hF hI e0 e1 e2 e3 e4 e5 e6 e7 e8 e9 e10 e11 e12 e13 e14 e15 e16 e17 e18 e19 e20 e21 e22 e23 e24 e25 e26 e27 e28 e29
     refine wpAny_drop (n:=15) (by kernel_rfl) ?_
     have hrb:=HR.out w' (HE3.out.thenW hR)
     have hst:=drV_set (drS c d,⟨ao,n1,ac⟩,⟨qo,n2,qc⟩) hrb rfl
     have HLW:Hid (Lies (fun b=>w.heap.size+1+1 < b) w' (drS c d,⟨ao,n1,ac⟩,⟨qo,n2,qc⟩)):=Lib.hid ((own_lies2 HN.out ho hq).mono fun b hb _=>by have:=HE3.out.size;omega)
     have HEW:Hid (Ex w.heap.size none w w'):=Lib.hid (HE1.out.thenW (HE3.out.thenW hR))
     have HRB:=Lib.hid hrb
     clear ho hq hrb
     go_wp2
     refine bodyPost_ret (v:=.tuple #[drV (drS c d,⟨ao,n1,ac⟩,⟨qo,n2,qc⟩),.int .i64 0]) ?_ rfl ?_
     · rw [results_cell_tmp Tryz.results11]
       show((loadVar 35 ⟨w.heap.size+1+1,0,none⟩).run Tryz.prog _).andThen _=_
       rw [rowLoad_dr,drV_box (setRow_heap _ _ _ _ _ _ HRB.out)]
       rfl
     exact⟨⟨_,0,rfl,.inr ⟨rfl,by rw [HPB.out],rfl⟩,(HLW.out.keep fun b hb _=>setRow_other _ _ _ _ (by omega)).mono fun b hb _=>by omega⟩,HEW.out.setRow _ _ (.inr (by omega))⟩
end
end Go.Proofs.YtflhidfclfkjlaaGreat

/- What ProofHonest's walk holds on to. No statement of the seat. -/
import Derived.Test.YtflhidfclfkjlaaGreatMg21
import Derived.Test.YtflhidfclfkjlaaGreatMg16
import Derived.Test.YtflhidfclfkjlaaGreatMg15
import Derived.Test.YtflhidfclfkjlaaGreatMg12
import Derived.Test.YtflhidfclfkjlaaGreatMg05
import Derived.Test.YtflhidfclfkjlaaGreatMg02
import Derived.Test.YtflhidfclfkjlaaGreatMg03
namespace Go.Proofs.YtflhidfclfkjlaaGreat
open Go.RowKit Go.Sort
theorem case_eqV (x y:CaD) (W:World): (eqlCs (caV x) (caV y)).run Tryz.prog W=.ok (.bool (decide (x=y))) W:=case_eql x y W
theorem case_guard (x y:CaD) (a b:Operand) (W:World): (eqGuard .eql 38 a b (caV x) (caV y)).run Tryz.prog W=.ok () W:=run_eqGuard_agg W .eql 38 a b (caE x).toArray (caE y).toArray (by kernel_rfl)
theorem rowBuild_ca (n:Nat) (ps:Array (Nat×Value)):Instr.buildSlice 32 n ps=rowBuild 32 n ps:=rfl
theorem caV_lit (w:World) (x:CaD): (rowBuild 32 1 #[(0,caV x)]).run Tryz.prog w=.ok (.slice (some ⟨w.heap.size,0,none⟩) 1 1) (w.alloc (.cells (caE x).toArray 38)):=by
 obtain⟨i0,hi,hz0,hz1,hz2⟩:=info_parts Tryz.infoCa
 refine run_buildSlice w 32 38 1 _ (caE x).toArray i0 _ Tryz.underlying32 hi hz0 (by rw [hz1];omega) (by rw [hz1];omega) ?_
 rw [hz1]
 kernel_rfl
theorem cas_get {w:World} {base cap:Nat} {ao:Option Addr} {V:List CaD} (h:OwnE caE 4 38 w base ao cap V) (k:Nat) (hk:k < V.length) :
 ∃b off,ao=some ⟨b,off,none⟩∧base≤b∧b < w.heap.size∧Hid (∀w' :World,w'.heap[b]? =w.heap[b]?→(rowLoad 38 ⟨b,off+k * 4,none⟩).run Tryz.prog w' =.ok (caV V[k]) w'):=by
 have hs:=(own_slK (hk:=caE_len) (h1:=one_caE) rfl h).at'
 obtain⟨b,off,cs,x,e,hp,hr,hx,hk2⟩:=hs.get k hk
 have hx' :cs=caE x:=hx
 subst hx'
 have hxk:V[k]=x:=by
  have:=hk2.out
  rw [List.getElem?_eq_getElem hk] at this
  exact Option.some.inj this
 refine⟨b,off,e,hp,rangeAt_lt hr (by rw [caE_len];decide),Lib.hid fun w' hw=>?_⟩
 rw [hxk]
 exact caV_load (rangeAt_keep hr hw)
theorem has_none (ro:Option Addr) (rc:Nat) (x:Int) (w:World):Calls Tryz.prog 15 #[.slice ro 0 rc,.int .i64 x] w fun e w'=>e=.returned (.bool false)∧w=w' :=
 (refHas_any (.slice ro 0 rc) [] x w ⟨ro,rc,rfl,fun i h=>absurd h (by simp)⟩ (by decide)).mono fun _ _ h=>h
theorem own_srcT {w:World} {base rc:Nat} {ro:Option Addr} {l:List St} (h:OwnS w base ro rc l):∃ys:List (St×Sv×Sv),ys.map (·.1)=l∧Src w ro ys∧∀x∈ys,Lies (fun b=>base≤b) w x:=by
 obtain⟨xs,e,h1,h2⟩:=h
 exact⟨xs,e,val_cells (hk:=stE_len) (h1:=one_stE) (by decide) (own_slK rfl h1).at',fun x hx=>(h2 x hx).mono fun b hb _=>hb.1⟩
theorem own_empT {w:World} {rb base g:Nat} (h:w.heap[g]? =some (.cells #[] 51 (0,0))) (hb:rb≤g):OwnT w rb base (some ⟨g,0,none⟩) 0 []:=⟨[],rfl,own_empty h hb,fun x hx=>by simp at hx⟩
theorem OwnZ.lowB {r b2 B:Nat} {w:World} {ao:Option Addr} {cap:Nat} {l:List St} (h:OwnS w b2 ao cap l) (hb:B≤b2) (hr:r < b2):OwnZ r B w ao cap l :=
 ⟨OwnG.lowG (OwnG.monoG (G:=fun b=>b2≤b) h fun b hb' _=>⟨by omega,by omega⟩) hb,fun e=>by have:=OwnG.row_ge (G:=fun b=>b2≤b) h r e;omega⟩
theorem own_row_lt {α:Type} {enc:α→List Value} {k:Nat} {e:TypeId} {w:World} {base cap:Nat} {ao:Option Addr} {xs:List α} (h:OwnE enc k e w base ao cap xs) (r:Nat) (hr:rowOf ao=some r):r < w.heap.size:=by
 cases ao with
 | none=>cases hr
 | some ad=>simp [rowOf] at hr;subst hr;exact(h.lt _ rfl).2
theorem OwnE.keepB {α:Type} {enc:α→List Value} {k:Nat} {e:TypeId} {w w' :World} {base cap:Nat} {ao:Option Addr} {xs:List α} (h:OwnE enc k e w base ao cap xs) (hr:∀b,rowOf ao=some b→b < w.heap.size→w'.heap[b]? =w.heap[b]?):OwnE enc k e w' base ao cap xs:=by
 obtain⟨k1,k2⟩:=h
 refine⟨k1,?_⟩
 rcases k2 with k2 | ⟨g,c,cur,hv,hg,hh,r⟩
 · exact .inl k2
 · refine .inr ⟨g,c,cur,hv,hg,?_,r⟩
   have hlt:=(Array.getElem?_eq_some_iff.1 hh).1
   rw [hr g ?_ hlt]
   · exact hh
   · simp only [Value.slice.injEq] at hv
     rw [hv.1];rfl
theorem own_row_ge {α:Type} {enc:α→List Value} {k:Nat} {e:TypeId} {w:World} {base cap:Nat} {ao:Option Addr} {xs:List α} (h:OwnE enc k e w base ao cap xs) (r:Nat) (hr:rowOf ao=some r):base≤r:=by
 cases ao with
 | none=>cases hr
 | some ad=>simp [rowOf] at hr;subst hr;exact(h.lt _ rfl).1
structure HonI (N p g B i k n vc sc:Nat) (vo so:Option Addr) (V:List CaD) (l:List St) (w:World):Prop where
 vlen:V.length=k
 llen:l.length=n
 ni:n≤i
 own:OwnE caE 4 38 w B vo vc V
 row:OwnS w B so sc l
 away:∀r,rowOf vo=some r→OwnZ r B w so sc l
 hon:HonL V l
 box:w.heap[g]? =some (.cells #[.int .i64 1,.slice so n sc] 31 (0,0))
 dice:DiceOK N w p
 size:B≤w.heap.size
structure HonX (p B gx gc:Nat) (z:St×Sv×Sv) (c:CaD) (w:World):Prop where
 h1:B≤gx
 h2:gx < gc
 h3:gc < w.heap.size
 bx:w.heap[gx]? =some (.cells (drE z).toArray 35 (0,0))
 bc:w.heap[gc]? =some (.cells (caE c).toArray 38 (0,0))
 lies:Lies (fun b=>p < b∧b≠gx) w z
section
variable {N p g B i k n vc sc:Nat} {vo so:Option Addr} {V:List CaD} {l:List St} {w w' :World}
theorem HonI.keep (h:HonI N p g B i k n vc sc vo so V l w) (hx:Ex w.heap.size (some p) w w') (hd:DiceOK N w' p) (hp:p < g) (hg:g < B):HonI N p g B i k n vc sc vo so V l w' :=
 ⟨h.vlen,h.llen,h.ni,h.own.keep hx (Nat.le_refl _) (fun q e=>by cases e;omega),h.row.keepP hx (Nat.le_refl _) (fun q e=>by cases e;omega),fun r hr=>(h.away r hr).keep fun b hb _ hl=>hx.block b hl (by simp;omega),h.hon,(hx.block g (by have:=h.size;omega) (by simp;omega)).trans h.box,hd,Nat.le_trans h.size hx.size⟩
theorem HonI.keep0 (h:HonI N p g B i k n vc sc vo so V l w) (hx:Ex w.heap.size none w w') (hN:N≤B) (hg:g < B):HonI N p g B i k n vc sc vo so V l w' :=
 ⟨h.vlen,h.llen,h.ni,h.own.keep hx (Nat.le_refl _) (by simp),h.row.keep hx (Nat.le_refl _),fun r hr=>(h.away r hr).keep fun b _ _ hl=>hx.block b hl (by simp),h.hon,(hx.block g (by have:=h.size;omega) (by simp)).trans h.box,h.dice.keep hx (Nat.le_trans hN h.size),Nat.le_trans h.size hx.size⟩
theorem HonI.next (h:HonI N p g B i k n vc sc vo so V l w):HonI N p g B (i+1) k n vc sc vo so V l w :=
 ⟨h.vlen,h.llen,by have:=h.ni;omega,h.own,h.row,h.away,h.hon,h.box,h.dice,h.size⟩
theorem HonI.round {c:CaD} {vo2:Option Addr} {vc2:Nat} (h:HonI N p g B i k n vc sc vo so V l w) (hp:p < g) (hg:g < B) (ho:OwnE caE 4 38 w' B vo2 vc2 (V ++ [c])) (hd:DiceOK N w' p) (hz:w.heap.size≤w'.heap.size) (hk:∀b,b < w.heap.size→b≠p→rowOf vo≠some b→w'.heap[b]? =w.heap[b]?) (hr:∀r,rowOf vo2=some r→rowOf vo=some r∨w.heap.size≤r):HonI N p g B i (k+1) n vc2 sc vo2 so (V ++ [c]) l w':=by
 have hsz:=h.size
 have hvo:∀r,rowOf vo=some r→B≤r∧r < w.heap.size:=fun r hr=>⟨own_row_ge h.own r hr,own_row_lt h.own r hr⟩
 have hG:OwnG w B (fun b=>B≤b∧rowOf vo≠some b∧b < w.heap.size) so sc l∧∀b,rowOf so=some b→rowOf vo≠some b∧b < w.heap.size:=by
  cases e:rowOf vo with
  | none=>
    have q:=(OwnZ.of h.row (Nat.le_refl w.heap.size)).1
    exact⟨OwnG.monoG q fun b hb hl=>⟨hb.1,by simp,hl⟩,fun b hb=>⟨by simp,OwnG.row q b hb⟩⟩
  | some r=>
    have q:=h.away r e
    refine⟨OwnG.monoG q.1 fun b hb hl=>⟨hb.1,by simp only [ne_eq,Option.some.injEq];exact fun e2=>hb.2 e2.symm,hl⟩,fun b hb=>⟨by simp only [ne_eq,Option.some.injEq];intro e2;subst e2;exact q.2 hb,OwnG.row q.1 b hb⟩⟩
 have hK:=OwnG.keepG (w':=w') hG.1 (fun b hb hl=>hk b hl (by have:=OwnG.row_ge hG.1 b hb;omega) (hG.2 b hb).1) (fun b hb hl=>hk b hl (by omega) hb.2.1)
 have hS:OwnS w' B so sc l:=OwnG.monoG (G':=fun b=>B≤b) hK fun b hb _=>hb.1
 refine⟨by rw [List.length_append,h.vlen];rfl,h.llen,h.ni,ho,hS,fun r hr2=>?_,h.hon.more c,(hk g (by omega) (by omega) (fun e=>by have:=(hvo g e).1;omega)).trans h.box,hd,Nat.le_trans h.size hz⟩
 refine⟨OwnG.monoG hK fun b hb _=>⟨hb.1,fun e=>?_⟩,fun e=>?_⟩
 · subst e
   rcases hr b hr2 with h1 | h1
   · exact hb.2.1 h1
   · omega
 · have q:=hG.2 r e
   rcases hr r hr2 with h1 | h1
   · exact q.1 h1
   · omega
theorem HonI.put {l2:List St} {so2:Option Addr} {sc2 n2 b2:Nat} (h:HonI N p g B i k n vc sc vo so V l w) (hN:N≤g) (hg:g < B) (hw:w' =w.setRow g #[.int .i64 1,.slice so2 n2 sc2]) (hl:l2.length=n2) (hn:n2≤i+1) (ho:OwnS w b2 so2 sc2 l2) (hb:B≤b2) (hv:∀r,rowOf vo=some r→r < b2) (hh:HonL V l2):HonI N p g B (i+1) k n2 vc sc2 vo so2 V l2 w':=by
 have hx:Ex w.heap.size (some g) w w':=by rw [hw];exact(Ex.refl _ _ _).setRow _ _ (.inl rfl)
 have hx2:Ex N none w w':=by rw [hw];exact(Ex.refl _ _ _).setRow _ _ (.inr hN)
 have hO:OwnS w' b2 so2 sc2 l2:=ho.keepP hx (Nat.le_refl _) (fun q e=>by cases e;omega)
 refine⟨h.vlen,hl,hn,h.own.keep hx (Nat.le_refl _) (fun q e=>by cases e;exact hg),hO.lowerS hb,fun r hr=>?_,hh,by rw [hw];exact setRow_heap _ _ _ _ _ _ h.box,h.dice.keep hx2 (Nat.le_refl _),Nat.le_trans h.size hx.size⟩
 have hrb:=hv r hr
 exact OwnZ.lowB hO hb hrb
theorem HonI.next0 (h:HonI N p g B i k n vc sc vo so V l w):∀r,rowOf vo=some r→r < w.heap.size:=fun r hr=>own_row_lt h.own r hr
variable {gx gc:Nat} {z:St×Sv×Sv} {c:CaD}
theorem HonX.keep (h:HonX p B gx gc z c w) (hx:Ex w.heap.size (some p) w w') (hp:p < B):HonX p B gx gc z c w' :=
 ⟨h.h1,h.h2,Nat.lt_of_lt_of_le h.h3 hx.size,(hx.block gx (by have:=h.h2;have:=h.h3;omega) (by have:=h.h1;simp;omega)).trans h.bx,(hx.block gc h.h3 (by have:=h.h1;have:=h.h2;simp;omega)).trans h.bc,h.lies.keep fun b hb hl=>hx.block b hl (by have:=hb.1;simp;omega)⟩
theorem HonX.keep0 (h:HonX p B gx gc z c w) (hx:Ex w.heap.size none w w'):HonX p B gx gc z c w' :=
 ⟨h.h1,h.h2,Nat.lt_of_lt_of_le h.h3 hx.size,(hx.block gx (by have:=h.h2;have:=h.h3;omega) (by simp)).trans h.bx,(hx.block gc h.h3 (by simp)).trans h.bc,h.lies.keep fun b _ hl=>hx.block b hl (by simp)⟩
end
def DrOK (z:St):Prop:=z.list.length≤10000∧z.pins.length≤1000∧(pinsL z.pins).length≤1200000
def FreshD (V:List CaD) (l:List St) (z:St):Prop:=z.kind≠10∨(caseS z∈V∧∀s∈l,s.kind=10→caseS s≠caseS z)
theorem FreshD.new {V:List CaD} {l:List St} (h:HonL V l) {c:CaD} (hc:c∉V) {z:St} (hz:caseS z=c):FreshD (V ++ [c]) l z :=
 .inr ⟨by rw [hz];simp,fun s hs hk e=>hc (by rw [←hz,←e];exact h.vote s hs hk)⟩
theorem HonL.said {V:List CaD} {l:List St} {z:St} {t:Int} (h:HonL V l) (hf:FreshD V l z) (h1: (chS 1 l).length= (ownS 1 l).length) (h2:checkI (nextS 1 (chS 1 l) (millU 0 0 t z ⟨#[]⟩))=0) (h3:sealedB (nextS 1 (chS 1 l) (millU 0 0 t z ⟨#[]⟩))=true) :
 put05 l (nextS 1 (chS 1 l) (millU 0 0 t z ⟨#[]⟩))=l ++ [nextS 1 (chS 1 l) (millU 0 0 t z ⟨#[]⟩)]∧HonL V (l ++ [nextS 1 (chS 1 l) (millU 0 0 t z ⟨#[]⟩)]) :=
 h.put rfl (by rw [num_next,h1];unfold ownS;rw [h.auth]) h2 h3 hf
theorem key_open (a n t k:Int) (d:St) (hk:k≠a):sealedB (keyS (millS a n t d) k)=false:=by
 unfold sealedB
 rw [decide_eq_false (show ¬(keyS (millS a n t d) k).key= (keyS (millS a n t d) k).author from hk),Bool.false_and]
theorem peer_new2 (w:World) (me:Int) (ao:Option Addr) (n cap:Nat): (rowStore 31 ⟨w.heap.size,0,none⟩ (.agg #[.int .i64 me,.slice ao n cap])).run Tryz.prog (w.alloc (.cells #[.int .i64 0,.slice none 0 0] 31))=.ok () (w.alloc (.cells #[.int .i64 me,.slice ao n cap] 31)):=by
 have h:=peer_store2 (heap_alloc_new w (.cells #[.int .i64 0,.slice none 0 0] 31)) rfl me ao n cap
 rw [alloc_setRow] at h
 exact h
theorem lit_srcT (w:World) (x:St×Sv×Sv):Src (w.alloc (.cells (flatL stE [x]).toArray 51)) (some ⟨w.heap.size,0,none⟩) [x]:=.inr ⟨_,rfl,fun j v hj=>by
 rw [Addr.add_lit,Nat.zero_add,cell_of_row _ _ _ _ _ _ (heap_alloc_new w _),←hj]
 simp⟩
theorem OwnT.keepQ {w w' :World} {rb base p cap:Nat} {ao:Option Addr} {l:List St} (h:OwnT w rb base ao cap l) (hx:Ex w.heap.size (some p) w w') (h1:p < rb) (h2:p < base):OwnT w' rb base ao cap l :=
 OwnG.keepG (G:=fun b=>base≤b) h (fun b hb hl=>hx.block b hl (by have:=OwnG.row_ge (G:=fun b=>base≤b) h b hb;simp;omega)) (fun b hb hl=>hx.block b hl (by simp;omega))
theorem OwnT.keepS {w w' :World} {rb base g cap:Nat} {ao:Option Addr} {l:List St} (_h:OwnT w rb base ao cap l) (hx:Ex w.heap.size (some g) w w') (h1:rowOf ao≠some g) (h2:OwnG w rb (fun b=>base≤b∧b≠g) ao cap l):OwnT w' rb base ao cap l :=
 OwnG.monoG (OwnG.keepG h2 (fun b hb hl=>hx.block b hl (fun e=>by cases e;exact h1 hb)) (fun b hb hl=>hx.block b hl (fun e=>by cases e;exact hb.2 rfl))) fun b hb _=>hb.1
theorem rowBuild_st1 (ps:Array (Nat×Value)):Instr.buildSlice 27 1 ps=rowBuild 27 1 ps:=rfl
theorem light_tame {s:St} (h:Tame s):LightS s:=⟨by have:=h.list;omega,by have:=h.pins;omega⟩
theorem light_key (a n t k:Int) (d:St) (h1:d.list.length≤100) (h2:d.pins=[]):LightS (keyS (millS a n t d) k):=⟨by show d.list.length≤_;omega,by show d.pins.length≤_;rw [h2];exact Nat.zero_le _⟩
theorem hon_none {V:List CaD} {l fs:List St} (h:HonL V l) (hf:∀s∈fs,sealedB s=false) {e:Ending} {w' :World} (hg:GuiltyE (l ++ fs) e w'):∃ro rc,e=.returned (.slice ro 0 rc):=by
 obtain⟨ro,rc,ps,hp,he,_⟩:=hg
 rw [h.none hf hp] at he
 exact⟨ro,rc,he⟩
end Go.Proofs.YtflhidfclfkjlaaGreat

/- Statements as values that the walk does not open; contracts in these words. No statement of the seat. | store.Valid: a contract, no statement of the seat. | attacker.row's order, and the library's MinFunc by it at statements. No statement of the seat. | Orders that ask one thing after the other, and orders of lists: plain. No program in sight; no statement of the seat. | cases.pin, cases.order, cases.Order: contracts. No statement of the seat. | Votes as data, in memory; cases.Order at contents. No statement of the seat. | cases.Copy, cases.Valid, cases.pins: contracts. No statement of the seat. | cases.Valid, ref23.Valid, cases.pins, cases.Right: contracts. No statement of the seat. | cases.Right: a contract. No statement of the seat. | Statements as closed values: statement.Seal; a result that is a statement's cell; a statement without lists lies anywhere. No statement of the seat. | chain.links: a contract, no statement of the seat. -/
import Derived.Test.YtflhidfclfkjlaaGreatMg00
import Derived.Test.YtflhidfclfkjlaaGreatCheckPG
import Derived.Test.YtflhidfclfkjlaaGreatMg10
import Derived.Test.YtflhidfclfkjlaaGreatMg07
import Derived.Test.YtflhidfclfkjlaaGreatMg08
import Derived.Deep.MidRow
import Derived.Test.YtflhidfclfkjlaaGreatMg01
import Derived.Deep.RegionHeld3
import Derived.Lib.Bytealg
import Derived.BigQuiet
import Derived.Test.YtflhidfclfkjlaaGreatMg05
import Derived.Test.YtflhidfclfkjlaaGreatMg04
import Derived.Laws.ResultCell
import Derived.Deep.Cut
import Derived.Deep.CutRange
namespace Go.Proofs.YtflhidfclfkjlaaGreat
open Go.RowKit Go.Sort
theorem rowStore_stv (a:Addr) (v:Value):storeVar 51 a v=rowStore 51 a v:=rfl
theorem rowLoad_stv (a:Addr):loadVar 51 a=rowLoad 51 a:=rfl
theorem Tryz.sizeStv: (Tryz.prog.info? 51).map (·.size)=some 13:=by kernel_rfl
theorem wp_world {P:Program} {c:Code} {Q:Exit→Act→World→Prop} {a:Act} {W:World} (p:World→Prop) (hW:p W) (h:∀wq,p wq→c.wp P Q a wq):c.wp P Q a W:=h W hW
def stV (x:St×Sv×Sv):Value:=.agg (stE x).toArray
theorem stV_cells (x:St×Sv×Sv): (stV x).cells= (stE x).toArray:=rfl
theorem stV_one (x:St×Sv×Sv): (stV x).cells.all (·.oneCell')=true:=by
 rw [Array.all_eq_true_iff_forall_mem]
 intro v hv
 exact one_stE x v (by simpa [stV_cells] using hv)
theorem stV_load {w:World} {b o:Nat} {x:St×Sv×Sv} (h:w.rangeAt b o (stE x)): (rowLoad 51 ⟨b,o,none⟩).run Tryz.prog w=.ok (stV x) w :=
 run_loadVar_mid w b o 51 (stE x) _ h Tryz.underlying51 rfl Tryz.sizeStv
theorem stV_box {w:World} {g:Nat} {x:St×Sv×Sv} {t:TypeId} {fr:Nat×Nat} (h:w.heap[g]? =some (.cells (stV x).cells t fr)): (rowLoad 51 ⟨g,0,none⟩).run Tryz.prog w=.ok (stV x) w :=
 run_rowLoad (P:=Tryz.prog) w g t 51 (stE x).toArray fr _ h Tryz.underlying51 rfl Tryz.sizeStv
theorem alloc_setRow (w:World) (old cs:Array Value) (t:TypeId): (w.alloc (.cells old t)).setRow w.heap.size cs=w.alloc (.cells cs t):=by
 unfold World.alloc World.setRow
 congr 1
 apply Array.ext
 · simp
 · intro i h1 h2
   simp only [Array.getElem_modify]
   by_cases e:w.heap.size=i
   · subst e;simp
   · have:i < w.heap.size:=by simp at h2;omega
     rw [if_neg e,Array.getElem_push_lt this,Array.getElem_push_lt this]
theorem stV_new (w:World) (old:Array Value) (x:St×Sv×Sv) (ho:old.size=13): (rowStore 51 ⟨w.heap.size,0,none⟩ (stV x)).run Tryz.prog (w.alloc (.cells old 51))=.ok () (w.alloc (.cells (stV x).cells 51)):=by
 have h:=run_rowStore (P:=Tryz.prog) (w.alloc (.cells old 51)) w.heap.size 51 51 old (stV x).cells (heap_alloc_new w _) Tryz.sizeStv (by rw [ho];rfl) (stV_one x)
 rw [alloc_setRow] at h
 exact h
theorem stv_get {P:Nat→Prop} {w:World} {ao:Option Addr} {l:List St} (h:SlAt stRep P w ao l) (k:Nat) (hk:k < l.length) :
 ∃b off x,ao=some ⟨b,off,none⟩∧P b∧b < w.heap.size∧Hid (l[k]? =some x.1)∧Lies P w x∧Hid (∀w',w'.heap[b]? =w.heap[b]?→(rowLoad 51 ⟨b,off+k * 13,none⟩).run Tryz.prog w' =.ok (stV x) w'):=by
 obtain⟨b,off,s,l',p,e,hp,hl,hr,hx⟩:=st_get h k hk
 exact⟨b,off,(s,l',p),e,hp,rangeAt_lt hr (by rw [stE_len];decide),hx,hl,Lib.hid fun w' hw=>stV_load (rangeAt_keep hr hw)⟩
theorem lies_len {P:Nat→Prop} {w:World} {x:St×Sv×Sv} (h:Lies P w x):x.2.1.n=x.1.list.length∧x.2.2.n=x.1.pins.length:=by
 obtain⟨⟨_,_,e,_⟩,⟨_,_,e',_⟩⟩:=h
 simp only [Sv.v,Value.slice.injEq] at e e'
 exact⟨e.2.1,e'.2.1⟩
theorem check_v {P:Nat→Prop} (x:St×Sv×Sv) (w:World) (h:Lies P w x) (hm:x.1.list.length≤9223372036854775807∧x.1.pins.length≤9223372036854775807) :
 Calls Tryz.prog 40 #[stV x] w fun e w'=>e=.returned (.int .i64 (checkI x.1))∧Ex w.heap.size none w w':=by
 have hl:=lies_len h
 obtain⟨s,⟨lo,ln,lc⟩,⟨po,pn,pc⟩⟩:=x
 exact checkP_any s lo po ln lc pn pc w h (by have h1:=hl.1;have h2:=hl.2;simp only at h1 h2 hm;omega)
theorem sealed_v {P:Nat→Prop} (x:St×Sv×Sv) (w:World) (h:Lies P w x) (ht:Tame x.1) :
 Calls Tryz.prog 41 #[stV x] w fun e w'=>e=.returned (.bool (sealedB x.1))∧Ex w.heap.size none w w':=by
 obtain⟨s,⟨lo,ln,lc⟩,⟨po,pn,pc⟩⟩:=x
 exact sealedP_any s lo po ln lc pn pc w h ht
theorem digest_v {P:Nat→Prop} (x:St×Sv×Sv) (w:World) (h:Lies P w x) (ht:Tame x.1) :
 Calls Tryz.prog 72 #[stV x] w fun e w'=>e=.returned (.string (sha (stB x.1)))∧Ex w.heap.size none w w':=by
 obtain⟨s,⟨lo,ln,lc⟩,⟨po,pn,pc⟩⟩:=x
 exact digestP_any s lo po ln lc pn pc w h ht
section
attribute [local go_sem ↓] rowLoad_stv rowStore_stv
def behindAt (l:List St) (s:St):Nat→Bool
 | 0=>true
 | j+1=>match l[j]? with
   | none=>true
   | some t=>ltA t s
def rightAt (l:List St) (k:Nat):Bool:=match l[k]? with
 | none=>true
 | some s=>decide (checkI s=0) && sealedB s && behindAt l s k
theorem behindAt_succ {l:List St} {s t:St} {j:Nat} (h:l[j]? =some t):behindAt l s (j+1)=ltA t s:=by simp only [behindAt,h]
def validB (l:List St):Bool:=decide (l.length≤1000) && (List.range l.length).all fun k=>rightAt l k
def Goods (l:List St) (k:Nat):Prop:=∀j,j < k→rightAt l j=true
theorem validB_yes {l:List St} (h1:l.length≤1000) (h:Goods l l.length):validB l=true:=by
 unfold validB
 rw [Bool.and_eq_true]
 refine⟨decide_eq_true h1,?_⟩
 rw [List.all_eq_true]
 intro k hk
 exact h k (List.mem_range.1 hk)
theorem validB_len {l:List St} (h:validB l=true):l.length≤1000:=by
 unfold validB at h
 rw [Bool.and_eq_true] at h
 exact of_decide_eq_true h.1
theorem validB_goods {l:List St} (h:validB l=true):Goods l l.length:=by
 unfold validB at h
 rw [Bool.and_eq_true,List.all_eq_true] at h
 exact fun j hj=>h.2 j (List.mem_range.2 hj)
theorem rightAt_eq {l:List St} {k:Nat} {s:St} (h:l[k]? =some s):rightAt l k= (decide (checkI s=0) && sealedB s && behindAt l s k):=by
 simp only [rightAt,h]
theorem goods_of {l:List St} (h:∀s∈l,checkI s=0∧sealedB s=true) (hs:∀(j:Nat) (s t:St),l[j]? =some s→l[j+1]? =some t→ltA s t=true):Goods l l.length:=fun k hk=>by
 obtain⟨s,hs1⟩:∃s,l[k]? =some s:=⟨_,List.getElem?_eq_getElem hk⟩
 have hm:=h s (List.mem_of_getElem? hs1)
 rw [rightAt_eq hs1,hm.2]
 simp only [hm.1,decide_true,Bool.true_and,Bool.and_true]
 cases k with
 | zero=>rfl
 | succ j=>
   obtain⟨t,ht⟩:∃t,l[j]? =some t:=⟨_,List.getElem?_eq_getElem (by omega)⟩
   rw [behindAt_succ ht]
   exact hs j t s ht hs1
theorem validB_mem {l:List St} (h:validB l=true):∀s∈l,checkI s=0∧sealedB s=true:=fun s hs=>by
 obtain⟨k,hk⟩:=List.mem_iff_getElem?.1 hs
 have:=validB_goods h k (List.getElem?_eq_some_iff.1 hk).1
 rw [rightAt_eq hk,Bool.and_eq_true,Bool.and_eq_true] at this
 exact⟨of_decide_eq_true this.1.1,this.1.2⟩
theorem validB_next {l:List St} (h:validB l=true) (j:Nat) (s t:St) (h1:l[j]? =some s) (h2:l[j+1]? =some t):ltA s t=true:=by
 have:=validB_goods h (j+1) (List.getElem?_eq_some_iff.1 h2).1
 rw [rightAt_eq h2,Bool.and_eq_true,behindAt_succ h1] at this
 exact this.2
def RisingA (l:List St):Prop:=∀(i j:Nat) (s t:St),i < j→l[i]? =some s→l[j]? =some t→ltA s t=true
end
section
attribute [local go_sem ↓] rowLoad_stv rowStore_stv
def strC (a b:ByteArray):Int:=Lib.compareBytes a.data.toList b.data.toList
set_option maxRecDepth 100000 in
theorem cmpString_any (a b:ByteArray) (w:World):Calls Tryz.prog 88 #[.string a,.string b] w fun e w'=>e=.returned (.int .i64 (strC a b))∧w=w':=by
 go_enter Tryz.func88,Tryz.ntmps88
 go_wp2
 rw [run_callFunc_extern Tryz.func116 (by kernel_rfl) (by kernel_rfl) (by kernel_rfl) (e:=Extern.BytealgCompare.compare) (by kernel_rfl),Lib.run_compareString]
 simp only [Result.andThen]
 rw [Oper.upon_value]
 go_wp2
 go_ret
 exact⟨rfl,rfl⟩
set_option maxRecDepth 100000 in
theorem strCompare_any (a b:ByteArray) (w:World):Calls Tryz.prog 59 #[.string a,.string b] w fun e w'=>e=.returned (.int .i64 (strC a b))∧w=w':=by
 go_enter Tryz.func59,Tryz.ntmps59
 go_wp2_with (go_at_call 88;refine(cmpString_any _ _ _).mono ?_;rintro e w' ⟨rfl,hw⟩;subst hw)
 go_ret
 exact⟨rfl,rfl⟩
def cmpRow (s t:St):Int:=(([cmpI t.number s.number,strC (sha (stB s)) (sha (stB t))]).find? (· != 0)).getD 0
def minN (l:List St):Nat→St
 | 0=>l.headD default
 | k+1=>match l[k+1]? with
   | none=>minN l k
   | some x=>if cmpRow x (minN l k) < 0 then x else minN l k
end
section
structure GoodC {α:Type} (c:α→α→Int):Prop where
 anti:∀x y,c x y < 0 ↔ 0 < c y x
 le:∀x y z,c x y≤0→c y z≤0→c x z≤0
section
variable {α β:Type} {c d:α→α→Int}
theorem GoodC.zero (h:GoodC c) {x y:α} (e:c x y=0):c y x=0:=by
 have h1:=h.anti x y
 have h2:=h.anti y x
 omega
theorem GoodC.refl (h:GoodC c) (x:α):c x x=0:=by
 have h1:=h.anti x x
 omega
theorem GoodC.lt_le (h:GoodC c) {x y z:α} (h1:c x y < 0) (h2:c y z≤0):c x z < 0:=by
 have a1:=h.anti x y
 have a2:=h.anti x z
 have a3:=h.anti z x
 by_cases hz:c x z < 0
 · exact hz
 · have:c z x≤0:=by omega
   have:=h.le y z x h2 this
   omega
theorem GoodC.le_lt (h:GoodC c) {x y z:α} (h1:c x y≤0) (h2:c y z < 0):c x z < 0:=by
 have a1:=h.anti y z
 have a2:=h.anti x z
 have a3:=h.anti z x
 by_cases hz:c x z < 0
 · exact hz
 · have:c z x≤0:=by omega
   have:=h.le z x y this h1
   omega
theorem GoodC.swo (h:GoodC c):SWO (ltOf c):=by
 refine⟨fun x=>?_,fun x y z h1 h2=>?_,fun x y z h1 h2=>?_⟩
 · unfold ltOf
   exact decide_eq_false (by have:=h.refl x;omega)
 · unfold ltOf at *
   simp only [decide_eq_true_eq] at *
   exact h.lt_le h1 (by omega)
 · unfold ltOf at *
   simp only [decide_eq_false_iff_not] at *
   intro h3
   have a1:=h.anti y x
   have a2:=h.anti x y
   have a3:=h.anti z y
   have a4:=h.anti y z
   have a5:=h.anti x z
   have:=h.le z y x (by omega) (by omega)
   omega
theorem GoodC.on (f:β→α) (h:GoodC c):GoodC fun x y=>c (f x) (f y):=⟨fun _x _y=>h.anti _ _,fun _x _y _z=>h.le _ _ _⟩
def lexC (c d:α→α→Int) (x y:α):Int:=if c x y≠0 then c x y else d x y
theorem GoodC.lex (h:GoodC c) (k:GoodC d):GoodC (lexC c d):=by
 refine⟨fun x y=>?_,fun x y z h1 h2=>?_⟩
 · unfold lexC
   by_cases e:c x y=0
   · rw [if_neg (by omega),if_neg (by have:=h.zero e;omega)]
     exact k.anti x y
   · rw [if_pos e,if_pos (fun e2=>e (h.zero e2))]
     exact h.anti x y
 · unfold lexC at *
   by_cases e1:c x y=0
   · rw [if_neg (by omega)] at h1
     by_cases e2:c y z=0
     · rw [if_neg (by omega)] at h2
       have a:=h.le x y z (by omega) (by omega)
       have b:=h.le z y x (by have:=h.zero e2;omega) (by have:=h.zero e1;omega)
       have e3:c x z=0:=by have:=h.anti x z;have:=h.anti z x;omega
       rw [if_neg (by omega)]
       exact k.le x y z h1 h2
     · rw [if_pos e2] at h2
       have:=h.le_lt (x:=x) (y:=y) (z:=z) (by omega) (by omega)
       rw [if_pos (by omega)];omega
   · rw [if_pos e1] at h1
     have h2' :c y z≤0:=by
      by_cases e2:c y z=0
      · omega
      · rw [if_pos e2] at h2;exact h2
     have:=h.lt_le (x:=x) (y:=y) (z:=z) (by omega) h2'
     rw [if_pos (by omega)];omega
def ordL (c:α→α→Int):List α→List α→Int
 | [],[]=>0
 | [],_ :: _=> -1
 | _ :: _,[]=>1
 | x :: xs,y :: ys=>if c x y≠0 then c x y else ordL c xs ys
theorem ordL_cons (c:α→α→Int) (x y:α) (xs ys:List α):ordL c (x :: xs) (y :: ys)=if c x y≠0 then c x y else ordL c xs ys:=rfl
theorem GoodC.list (h:GoodC c):GoodC (ordL c):=by
 have anti:∀xs ys:List α,ordL c xs ys < 0 ↔ 0 < ordL c ys xs:=by
  intro xs
  induction xs with
  | nil=>intro ys;cases ys with
    | nil=>simp [ordL]
    | cons y ys=>simp [ordL]
  | cons x xs ih=>intro ys;cases ys with
    | nil=>simp [ordL]
    | cons y ys=>
      rw [ordL_cons,ordL_cons]
      by_cases e:c x y=0
      · rw [if_neg (by omega),if_neg (by have:=h.zero e;omega)];exact ih ys
      · rw [if_pos e,if_pos (fun e2=>e (h.zero e2))];exact h.anti x y
 refine⟨anti,?_⟩
 intro xs
 induction xs with
 | nil=>intro ys zs h1 h2;cases ys with
   | nil=>exact h2
   | cons y ys=>cases zs with
     | nil=>simp [ordL] at h2
     | cons z zs=>simp [ordL]
 | cons x xs ih=>intro ys zs h1 h2;cases ys with
   | nil=>simp [ordL] at h1
   | cons y ys=>cases zs with
     | nil=>simp [ordL] at h2
     | cons z zs=>
       rw [ordL_cons] at h1 h2 ⊢
       by_cases e1:c x y=0
       · rw [if_neg (by omega)] at h1
         by_cases e2:c y z=0
         · rw [if_neg (by omega)] at h2
           have a:=h.le x y z (by omega) (by omega)
           have b:=h.le z y x (by have:=h.zero e2;omega) (by have:=h.zero e1;omega)
           have e3:c x z=0:=by have:=h.anti x z;have:=h.anti z x;omega
           rw [if_neg (by omega)]
           exact ih ys zs h1 h2
         · rw [if_pos e2] at h2
           have:=h.le_lt (x:=x) (y:=y) (z:=z) (by omega) (by omega)
           rw [if_pos (by omega)];omega
       · rw [if_pos e1] at h1
         have h2' :c y z≤0:=by
          by_cases e2:c y z=0
          · omega
          · rw [if_pos e2] at h2;exact h2
         have:=h.lt_le (x:=x) (y:=y) (z:=z) (by omega) h2'
         rw [if_pos (by omega)];omega
theorem ordL_drop:∀(k:Nat) (xs ys:List α),(∀j x y,j < k→xs[j]? =some x→ys[j]? =some y→c x y=0)→k≤xs.length→k≤ys.length→ordL c xs ys=ordL c (xs.drop k) (ys.drop k)
 | 0,xs,ys,_,_,_=>rfl
 | k+1,[],ys,_,h1,_=>by simp at h1
 | k+1,x :: xs,[],_,_,h2=>by simp at h2
 | k+1,x :: xs,y :: ys,h,h1,h2=>by
   rw [List.drop_succ_cons,List.drop_succ_cons]
   rw [←ordL_drop k xs ys (fun j a b hj ha hb=>h (j+1) a b (by omega) ha hb) (by simpa using h1) (by simpa using h2)]
   rw [ordL,if_neg (by have:=h 0 x y (by omega) rfl rfl;omega)]
theorem ordL_at {k:Nat} {xs ys:List α} {x y:α} (h:∀j x y,j < k→xs[j]? =some x→ys[j]? =some y→c x y=0) (hx:xs[k]? =some x) (hy:ys[k]? =some y) (hne:c x y≠0):ordL c xs ys=c x y:=by
 have hk1:=(List.getElem?_eq_some_iff.1 hx).1
 have hk2:=(List.getElem?_eq_some_iff.1 hy).1
 rw [ordL_drop k xs ys h (by omega) (by omega)]
 rw [List.drop_eq_getElem_cons hk1,List.drop_eq_getElem_cons hk2,(List.getElem?_eq_some_iff.1 hx).2,(List.getElem?_eq_some_iff.1 hy).2,ordL,if_pos hne]
theorem ordL_end {k:Nat} {xs ys:List α} (h:∀j x y,j < k→xs[j]? =some x→ys[j]? =some y→c x y=0) (h1:k=xs.length∨k=ys.length) (h2:k≤xs.length) (h3:k≤ys.length):ordL c xs ys=cmpI (xs.length:Int) (ys.length:Int):=by
 rw [ordL_drop k xs ys h h2 h3]
 have e1: (xs.drop k).length=xs.length - k:=List.length_drop
 have e2: (ys.drop k).length=ys.length - k:=List.length_drop
 unfold cmpI
 cases hx:xs.drop k with
 | nil=>cases hy:ys.drop k with
   | nil=>
     rw [hx] at e1;rw [hy] at e2
     simp at e1 e2
     simp only [ordL]
     rw [if_neg (by omega)]
     split <;> omega
   | cons y t=>
     rw [hx] at e1;rw [hy] at e2
     simp at e1 e2
     simp only [ordL]
     rw [if_pos (by omega)]
 | cons x s=>cases hy:ys.drop k with
   | nil=>
     rw [hx] at e1;rw [hy] at e2
     simp at e1 e2
     simp only [ordL]
     rw [if_neg (by omega)]
     split <;> omega
   | cons y t=>
     rw [hx] at e1;rw [hy] at e2
     simp at e1 e2
     omega
end
theorem good_cmpI:GoodC cmpI:=by
 refine⟨fun x y=>?_,fun x y z=>?_⟩
 · unfold cmpI;repeat' split
   all_goals omega
 · unfold cmpI;repeat' split
   all_goals omega
theorem find2 (a b:Int): ([a,b].find? (· != 0)).getD 0=if a≠0 then a else b:=by
 by_cases h:a=0
 · subst h
   by_cases h2:b=0
   · subst h2;rfl
   · simp [h2]
 · rw [List.find?_cons_of_pos (by simpa using h),if_pos h];rfl
theorem find3 (a b c:Int): ([a,b,c].find? (· != 0)).getD 0=if a≠0 then a else if b≠0 then b else c:=by
 by_cases h:a=0
 · subst h
   rw [List.find?_cons_of_neg (by simp),find2];simp
 · rw [List.find?_cons_of_pos (by simpa using h),if_pos h];rfl
theorem find4 (a b c d:Int): ([a,b,c,d].find? (· != 0)).getD 0=if a≠0 then a else if b≠0 then b else if c≠0 then c else d:=by
 by_cases h:a=0
 · subst h
   rw [List.find?_cons_of_neg (by simp),find3];simp
 · rw [List.find?_cons_of_pos (by simpa using h),if_pos h];rfl
def cmpB (a b:UInt8):Int:=cmpI (a.toNat:Int) (b.toNat:Int)
theorem cmpB_lt {a b:UInt8} (h:a < b):cmpB a b = -1:=by
 have:=UInt8.lt_iff_toNat_lt.1 h
 unfold cmpB cmpI
 rw [if_pos (by omega)]
theorem cmpB_gt {a b:UInt8} (h:b < a):cmpB a b=1:=by
 have:=UInt8.lt_iff_toNat_lt.1 h
 unfold cmpB cmpI
 rw [if_neg (by omega),if_pos (by omega)]
theorem cmpB_eq {a b:UInt8} (h1 : ¬a < b) (h2 : ¬b < a):cmpB a b=0:=by
 have k1 : ¬a.toNat < b.toNat:=fun h=>h1 (UInt8.lt_iff_toNat_lt.2 h)
 have k2 : ¬b.toNat < a.toNat:=fun h=>h2 (UInt8.lt_iff_toNat_lt.2 h)
 unfold cmpB cmpI
 rw [if_neg (by omega),if_neg (by omega)]
theorem compareB_eq:∀x y:List UInt8,Lib.compareBytes x y=ordL cmpB x y
 | [],[]=>rfl
 | [],_ :: _=>rfl
 | _ :: _,[]=>rfl
 | a :: x,b :: y=>by
   unfold Lib.compareBytes
   rw [compareB_eq x y,ordL_cons]
   by_cases h1:a < b
   · rw [if_pos h1,cmpB_lt h1];rfl
   · by_cases h2:b < a
     · rw [if_neg h1,if_pos h2,cmpB_gt h2];rfl
     · rw [if_neg h1,if_neg h2,cmpB_eq h1 h2];rfl
theorem strC_eq (a b:ByteArray):strC a b=ordL cmpB a.data.toList b.data.toList:=compareB_eq _ _
theorem good_strC:GoodC strC:=by
 have h:GoodC fun a b:ByteArray=>ordL cmpB a.data.toList b.data.toList:=GoodC.on (fun a:ByteArray=>a.data.toList) (GoodC.list (GoodC.on (fun a:UInt8=>(a.toNat:Int)) good_cmpI))
 refine⟨fun x y=>?_,fun x y z=>?_⟩
 · rw [strC_eq,strC_eq];exact h.anti x y
 · rw [strC_eq,strC_eq,strC_eq];exact h.le x y z
theorem ordB_less:∀x y:List UInt8,ordL cmpB x y < 0 ↔ Op.bytesLess x y=true
 | [],[]=>by simp [ordL,Op.bytesLess]
 | [],_ :: _=>by simp [ordL,Op.bytesLess]
 | _ :: _,[]=>by simp [ordL,Op.bytesLess]
 | a :: x,b :: y=>by
   rw [ordL_cons]
   unfold Op.bytesLess
   by_cases h1:a < b
   · rw [cmpB_lt h1]
     simp [h1]
   · by_cases h2:b < a
     · have h3:a≠b:=fun e=>by subst e;exact h1 h2
       rw [cmpB_gt h2]
       simp [h1,h3]
     · have k1 : ¬a.toNat < b.toNat:=fun h=>h1 (UInt8.lt_iff_toNat_lt.2 h)
       have k2 : ¬b.toNat < a.toNat:=fun h=>h2 (UInt8.lt_iff_toNat_lt.2 h)
       have h3:a=b:=UInt8.toNat_inj.1 (by omega)
       subst h3
       rw [cmpB_eq h1 h1,if_neg (by omega),ordB_less x y]
       simp
theorem strC_zero {a b:ByteArray} (h:strC a b=0):a=b:=by
 have key:∀x y:List UInt8,ordL cmpB x y=0→x=y:=by
  intro x
  induction x with
  | nil=>intro y h;cases y with
    | nil=>rfl
    | cons b y=>simp [ordL] at h
  | cons a x ih=>intro y h;cases y with
    | nil=>simp [ordL] at h
    | cons b y=>
      rw [ordL_cons] at h
      by_cases e:cmpB a b=0
      · rw [if_neg (by omega)] at h
        have e2:a=b:=UInt8.toNat_inj.1 (by have:=cmpI_zero.1 e;omega)
        rw [e2,ih y h]
      · rw [if_pos e] at h;exact absurd h e
 rw [strC_eq] at h
 have h1:=key _ _ h
 cases a;cases b
 simp only at h1
 congr 1
 exact Array.toList_inj.1 h1
end
section
def cmpPin (p q:PinD):Int:=lexC (fun a b:PinD=>cmpI a.1 b.1) (lexC (fun a b:PinD=>cmpI a.2.1 b.2.1) fun a b:PinD=>strC a.2.2 b.2.2) p q
theorem good_cmpPin:GoodC cmpPin:=GoodC.lex (GoodC.on (fun p:PinD=>p.1) good_cmpI) (GoodC.lex (GoodC.on (fun p:PinD=>p.2.1) good_cmpI) (GoodC.on (fun p:PinD=>p.2.2) good_strC))
theorem cmpPin_find (p q:PinD): ([cmpI p.1 q.1,cmpI p.2.1 q.2.1,strC p.2.2 q.2.2].find? (· != 0)).getD 0=cmpPin p q:=by rw [find3];rfl
set_option maxHeartbeats 4000000 in
set_option maxRecDepth 100000 in
theorem pinCmp_any (p q:PinD) (w:World):Calls Tryz.prog 108 #[.agg #[.int .i64 p.1,.int .i64 p.2.1,.string p.2.2],.agg #[.int .i64 q.1,.int .i64 q.2.1,.string q.2.2]] w fun e w'=>e=.returned (.int .i64 (cmpPin p q))∧Gr w w':=by
 obtain⟨a,h,d⟩:=p
 obtain⟨b,k,c⟩:=q
 rw [←cmpPin_find]
 simp only
 go_enter Tryz.func108,Tryz.ntmps108
 go_wp2_with fail
 go_region_held3 (fun w'=>w'.cell? ⟨w.heap.size,0,none⟩=some (.int .i64 a)∧w'.cell? ⟨w.heap.size+1,0,none⟩=some (.int .i64 b)∧w'.cell? ⟨w.heap.size,1,none⟩=some (.int .i64 h)∧w'.cell? ⟨w.heap.size+1,1,none⟩=some (.int .i64 k)∧w'.cell? ⟨w.heap.size,2,none⟩=some (.string d)∧w'.cell? ⟨w.heap.size+1,2,none⟩=some (.string c)) (go_keep)
  (first
    | (go_at_call 58;refine(compare_any _ _ _).mono ?_;rintro e w' ⟨rfl,rfl⟩)
    | (go_at_call 59;refine(strCompare_any _ _ _).mono ?_;rintro e w' ⟨rfl,rfl⟩)
    | (go_at_call 57;refine(cmpOr_any _ [cmpI a b,cmpI h k,strC d c] _ (Ints.keep (Ints.lit [cmpI a b,cmpI h k,strC d c] (by simp) rfl) (Ex.refl _ none _).drew (Nat.le_refl _)) (by simp)).mono ?_;rintro e w' ⟨rfl,rfl⟩))
 go_wp2
 go_ret
 exact⟨rfl,by repeat(first | exact Gr.refl _ | refine Gr.alloc ?_ _ | refine Gr.drew ?_)⟩
set_option maxHeartbeats 4000000 in
set_option maxRecDepth 100000 in
theorem orderInts_any {P Q:Nat→Prop} (ao bo:Option Addr) (n m ca cb:Nat) (xs ys:List Int) (w:World) (hn:xs.length=n) (hm:ys.length=m) (hx:SlAt intRep P w ao xs) (hy:SlAt intRep Q w bo ys) (h1:n≤100000) (_h2:m≤100000) :
 Calls Tryz.prog 106 #[.slice ao n ca,.slice bo m cb,.func (.func 58) #[] #[]] w fun e w'=>e=.returned (.int .i64 (ordL cmpI xs ys))∧Gr w w':=by
 have HX:Hid (∀w',Gr w w'→SlAt intRep P w' ao xs):=Lib.hid (fun w' h=>hx.keep (by decide) fun b _ hb=>h.ex.block b hb (by simp))
 have HY:Hid (∀w',Gr w w'→SlAt intRep Q w' bo ys):=Lib.hid (fun w' h=>hy.keep (by decide) fun b _ hb=>h.ex.block b hb (by simp))
 have HN:=Lib.hid hn
 have HM:=Lib.hid hm
 obtain⟨u,hu⟩:∃u:Nat,u=min n m:=⟨_,rfl⟩
 have HU:Hid (u=min n m):=Lib.hid hu
 have hun:u≤n:=by omega
 have hum:u≤m:=by omega
 have hmin:min (n:Int) (m:Int)= (u:Int):=by omega
 clear hx hy hn hm hu
 go_enter Tryz.func106,Tryz.ntmps106
 go_wp2
 go_loopw [14] (fun i wr=>∃k:Nat,k≤u∧i=.int .i64 k∧Hid (∀(j:Nat) (x y:Int),j < k→xs[j]? =some x→ys[j]? =some y→cmpI x y=0)∧Hid (Gr w wr)) (fun i _=>u - (intOf i).toNat)
 case atStart=>exact⟨0,Nat.zero_le _,rfl,Lib.hid (fun j x y hj=>by omega),Lib.hid (Gr.refl _)⟩
 case round=>
  obtain⟨k,hk,rfl,HE,HG⟩:=hrel
  by_cases hlt:k < u
  · have hltI: (k:Int) < (u:Int):=by omega
    have hkn: (k:Int) < (n:Int):=by omega
    have hkm: (k:Int) < (m:Int):=by omega
    have hkN:k < n:=by omega
    have hkM:k < m:=by omega
    obtain⟨b,off,cx,x,hao,_,hrx,hRx,HXs⟩:=(HX.out wr HG.out).get k (by rw [HN.out];omega)
    obtain⟨b',off',cy,y,hbo,_,hry,hRy,HYs⟩:=(HY.out wr HG.out).get k (by rw [HM.out];omega)
    obtain rfl:cx=_:=hRx
    obtain rfl:cy=_:=hRy
    subst hao hbo
    have hbl:=rangeAt_lt hrx (by simp)
    have hbl':=rangeAt_lt hry (by simp)
    have HQ:Hid (∀w',Gr wr w'→w'.cell? ⟨b,off+k,none⟩=some (.int .i64 x)∧w'.cell? ⟨b',off' +k,none⟩=some (.int .i64 y)):=Lib.hid (fun w' h=>by
     have k1:=rangeAt_keep hrx (h.ex.block b hbl (by simp))
     have k2:=rangeAt_keep hry (h.ex.block b' hbl' (by simp))
     exact⟨by have:=k1 0 _ rfl;simpa [intRep] using this,by have:=k2 0 _ rfl;simpa [intRep] using this⟩)
    clear hrx hry
    obtain⟨c,hc⟩:∃c,c=cmpI x y:=⟨_,rfl⟩
    have HC:=Lib.hid hc
    clear hc
    have _h:=hltI
    go_upto_region 4 with(fail)
    go_region_held3 (fun w'=>w'.cell? ⟨b,off+k,none⟩=some (.int .i64 x)∧w'.cell? ⟨b',off' +k,none⟩=some (.int .i64 y)) (exact HQ.out _ (by repeat(first | with_reducible exact HG5.out | with_reducible exact Gr.refl _ | with_reducible refine Gr.drew ?_)))
     (first
       | (go_at_call 58
          refine(compare_any x y _).mono ?_
          rw [←HC.out]
          rintro e w5 ⟨rfl,hw⟩
          have HG5:Hid (Gr wr w5):=Lib.hid (by rw [←hw];repeat(first | exact Gr.refl _ | refine Gr.drew ?_))
          clear hw)
       | fail)
    have HG5' :Hid (Gr w w5):=Lib.hid (HG.out.trans HG5.out)
    by_cases he:c=0
    · have hb: (c != 0)=false:=by simpa using he
      have HR:Hid (∀(j:Nat) (x y:Int),j < k+1→xs[j]? =some x→ys[j]? =some y→cmpI x y=0):=Lib.hid (fun j x' y' hj hx hy=>by
       by_cases e:j=k
       · subst e
         rw [HXs.out] at hx;rw [HYs.out] at hy
         cases hx;cases hy
         rw [←HC.out];exact he
       · exact HE.out j x' y' (by omega) hx hy)
      clear he
      go_wp2
      go_roundw
      case rel=>exact⟨k+1,by omega,by go_num,HR,HG5'⟩
      case measure=>simp [intOf] <;> omega
    · have hb: (c != 0)=true:=by simpa using he
      have HR:Hid (ordL cmpI xs ys=c):=Lib.hid (by rw [HC.out];exact ordL_at HE.out HXs.out HYs.out (by rw [←HC.out];exact he))
      clear he
      go_wp2
      go_ret
      exact⟨by rw [HR.out];rfl,HG5'.out⟩
  · obtain rfl:k=u:=by omega
    have HR:Hid (ordL cmpI xs ys=cmpI (n:Int) (m:Int)):=Lib.hid (by
     have h:=HU.out
     rw [ordL_end HE.out (by rw [HN.out,HM.out];omega) (by rw [HN.out];omega) (by rw [HM.out];omega),HN.out,HM.out])
    go_wp2_with (first
     | (go_at_call 58;refine(compare_any _ _ _).mono ?_;rintro e w' ⟨rfl,rfl⟩)
     | fail)
    go_ret
    exact⟨by rw [HR.out];rfl,HG.out⟩
theorem Tryz.sizePin: (Tryz.prog.info? 77).map (·.size)=some 3:=by kernel_rfl
theorem rowLoad_pin (a:Addr):loadVar 77 a=rowLoad 77 a:=rfl
attribute [local go_sem ↓] rowLoad_pin
set_option maxHeartbeats 4000000 in
set_option maxRecDepth 100000 in
theorem orderPins_any {P Q:Nat→Prop} (ao bo:Option Addr) (n m ca cb:Nat) (xs ys:List PinD) (w:World) (hn:xs.length=n) (hm:ys.length=m) (hx:SlAt pinRep P w ao xs) (hy:SlAt pinRep Q w bo ys) (h1:n≤100000) (_h2:m≤100000) :
 Calls Tryz.prog 107 #[.slice ao n ca,.slice bo m cb,.func (.func 108) #[] #[]] w fun e w'=>e=.returned (.int .i64 (ordL cmpPin xs ys))∧Gr w w':=by
 have HX:Hid (∀w',Gr w w'→SlAt pinRep P w' ao xs):=Lib.hid (fun w' h=>hx.keep (by decide) fun b _ hb=>h.ex.block b hb (by simp))
 have HY:Hid (∀w',Gr w w'→SlAt pinRep Q w' bo ys):=Lib.hid (fun w' h=>hy.keep (by decide) fun b _ hb=>h.ex.block b hb (by simp))
 have HN:=Lib.hid hn
 have HM:=Lib.hid hm
 obtain⟨u,hu⟩:∃u:Nat,u=min n m:=⟨_,rfl⟩
 have HU:Hid (u=min n m):=Lib.hid hu
 have hun:u≤n:=by omega
 have hum:u≤m:=by omega
 have hmin:min (n:Int) (m:Int)= (u:Int):=by omega
 clear hx hy hn hm hu
 go_enter Tryz.func107,Tryz.ntmps107
 go_wp2
 go_loopw [14] (fun i wr=>∃k:Nat,k≤u∧i=.int .i64 k∧Hid (∀(j:Nat) (x y:PinD),j < k→xs[j]? =some x→ys[j]? =some y→cmpPin x y=0)∧Hid (Gr w wr)) (fun i _=>u - (intOf i).toNat)
 case atStart=>exact⟨0,Nat.zero_le _,rfl,Lib.hid (fun j x y hj=>by omega),Lib.hid (Gr.refl _)⟩
 case round=>
  obtain⟨k,hk,rfl,HE,HG⟩:=hrel
  by_cases hlt:k < u
  · have hltI: (k:Int) < (u:Int):=by omega
    have hkn: (k:Int) < (n:Int):=by omega
    have hkm: (k:Int) < (m:Int):=by omega
    have hkN:k < n:=by omega
    have hkM:k < m:=by omega
    obtain⟨b,off,cx,x,hao,_,hrx,hRx,HXs⟩:=(HX.out wr HG.out).get k (by rw [HN.out];omega)
    obtain⟨b',off',cy,y,hbo,_,hry,hRy,HYs⟩:=(HY.out wr HG.out).get k (by rw [HM.out];omega)
    obtain rfl:cx=_:=hRx
    obtain rfl:cy=_:=hRy
    subst hao hbo
    have hbl:=rangeAt_lt hrx (by simp [pinE])
    have hbl':=rangeAt_lt hry (by simp [pinE])
    have HQ:Hid (∀w',Gr wr w'→(rowLoad 77 ⟨b,off+k * 3,none⟩).run Tryz.prog w' =.ok (.agg (pinE x).toArray) w'∧(rowLoad 77 ⟨b',off' +k * 3,none⟩).run Tryz.prog w' =.ok (.agg (pinE y).toArray) w'):=Lib.hid (fun w' h=>by
     have k1:=rangeAt_keep hrx (h.ex.block b hbl (by simp))
     have k2:=rangeAt_keep hry (h.ex.block b' hbl' (by simp))
     exact⟨run_loadVar_mid _ _ _ _ _ _ k1 Tryz.underlying77 rfl Tryz.sizePin,run_loadVar_mid _ _ _ _ _ _ k2 Tryz.underlying77 rfl Tryz.sizePin⟩)
    clear hrx hry
    obtain⟨c,hc⟩:∃c,c=cmpPin x y:=⟨_,rfl⟩
    have HC:=Lib.hid hc
    clear hc
    have _h:=hltI
    go_upto_region 4 with(fail)
    go_region_held3 (fun w'=>(rowLoad 77 ⟨b,off+k * 3,none⟩).run Tryz.prog w' =.ok (.agg (pinE x).toArray) w'∧(rowLoad 77 ⟨b',off' +k * 3,none⟩).run Tryz.prog w' =.ok (.agg (pinE y).toArray) w') (exact HQ.out _ (by repeat(first | with_reducible exact HG5.out | with_reducible exact Gr.refl _ | with_reducible refine Gr.drew ?_)))
     (first
       | (go_at_call 108
          refine(pinCmp_any x y _).mono ?_
          rw [←HC.out]
          rintro e w5 ⟨rfl,hw⟩
          have HG5:Hid (Gr wr w5):=Lib.hid (Gr.trans (by repeat(first | exact Gr.refl _ | refine Gr.drew ?_)) hw)
          clear hw)
       | fail)
    have HG5' :Hid (Gr w w5):=Lib.hid (HG.out.trans HG5.out)
    by_cases he:c=0
    · have hb: (c != 0)=false:=by simpa using he
      have HR:Hid (∀(j:Nat) (x y:PinD),j < k+1→xs[j]? =some x→ys[j]? =some y→cmpPin x y=0):=Lib.hid (fun j x' y' hj hx hy=>by
       by_cases e:j=k
       · subst e
         rw [HXs.out] at hx;rw [HYs.out] at hy
         cases hx;cases hy
         rw [←HC.out];exact he
       · exact HE.out j x' y' (by omega) hx hy)
      clear he
      go_wp2
      go_roundw
      case rel=>exact⟨k+1,by omega,by go_num,HR,HG5'⟩
      case measure=>simp [intOf] <;> omega
    · have hb: (c != 0)=true:=by simpa using he
      have HR:Hid (ordL cmpPin xs ys=c):=Lib.hid (by rw [HC.out];exact ordL_at HE.out HXs.out HYs.out (by rw [←HC.out];exact he))
      clear he
      go_wp2
      go_ret
      exact⟨by rw [HR.out];rfl,HG5'.out⟩
  · obtain rfl:k=u:=by omega
    have HR:Hid (ordL cmpPin xs ys=cmpI (n:Int) (m:Int)):=Lib.hid (by
     have h:=HU.out
     rw [ordL_end HE.out (by rw [HN.out,HM.out];omega) (by rw [HN.out];omega) (by rw [HM.out];omega),HN.out,HM.out])
    go_wp2_with (first
     | (go_at_call 58;refine(compare_any _ _ _).mono ?_;rintro e w' ⟨rfl,rfl⟩)
     | fail)
    go_ret
    exact⟨by rw [HR.out];rfl,HG.out⟩
end
def ordC (s t:St):Int:=lexC (fun a b:St=>ordL cmpI a.list b.list) (fun a b:St=>ordL cmpPin a.pins b.pins) s t
theorem good_ordC:GoodC ordC:=GoodC.lex (GoodC.on (fun s:St=>s.list) good_cmpI.list) (GoodC.on (fun s:St=>s.pins) good_cmpPin.list)
theorem ordC_find (s t:St): ([ordL cmpI s.list t.list,ordL cmpPin s.pins t.pins].find? (· != 0)).getD 0=ordC s t:=by rw [find2];rfl
def coV (x:St×Sv×Sv):Value:=.agg #[x.2.1.v,x.2.2.v]
def voE (x:St×Sv×Sv):List Value:=[.int .i64 x.1.author,.int .i64 x.1.a,.int .i64 (x.1.b % 16),.int .i64 x.1.c,.int .i64 (x.1.b / 16),x.2.1.v,x.2.2.v]
theorem voE_len (x:St×Sv×Sv): (voE x).length=7:=rfl
theorem one_voE:∀x,∀v∈voE x,v.oneCell' =true:=fun x v hv=>by
 simp only [voE,Sv.v,List.mem_cons,List.not_mem_nil,or_false] at hv
 rcases hv with rfl | rfl | rfl | rfl | rfl | rfl | rfl <;> rfl
def voV (x:St×Sv×Sv):Value:=.agg (voE x).toArray
theorem lies_parts {P:Nat→Prop} {w:World} {x:St×Sv×Sv} (h:Lies P w x):∃(lo po:Option Addr) (lc pc:Nat),x.2= (⟨lo,x.1.list.length,lc⟩,⟨po,x.1.pins.length,pc⟩)∧SlAt intRep P w lo x.1.list∧SlAt pinRep P w po x.1.pins:=by
 obtain⟨⟨lo,lc,e1,h1⟩,⟨po,pc,e2,h2⟩⟩:=h
 obtain⟨s,⟨a,b,c⟩,⟨d,e,f⟩⟩:=x
 simp only [Sv.v,Value.slice.injEq] at e1 e2
 obtain⟨rfl,rfl,rfl⟩:=e1
 obtain⟨rfl,rfl,rfl⟩:=e2
 exact⟨_,_,_,_,rfl,h1,h2⟩
set_option maxHeartbeats 4000000 in
set_option maxRecDepth 100000 in
theorem orderV_any {P Q:Nat→Prop} (x y:St×Sv×Sv) (w:World) (hx:Lies P w x) (hy:Lies Q w y) (hm:x.1.list.length≤100000∧x.1.pins.length≤100000) (hk:y.1.list.length≤100000∧y.1.pins.length≤100000) :
 Calls Tryz.prog 74 #[coV x,coV y] w fun e w'=>e=.returned (.int .i64 (ordC x.1 y.1))∧Gr w w':=by
 obtain⟨lo,po,lc,pc,ex,hl,hp⟩:=lies_parts hx
 obtain⟨lo',po',lc',pc',ey,hl',hp'⟩:=lies_parts hy
 rw [←ordC_find]
 obtain⟨s,sv⟩:=x
 obtain⟨t,tv⟩:=y
 simp only at ex ey hl hp hl' hp' hm hk
 subst ex ey
 have HL:Hid (∀w',Gr w w'→SlAt intRep P w' lo s.list∧SlAt pinRep P w' po s.pins∧SlAt intRep Q w' lo' t.list∧SlAt pinRep Q w' po' t.pins):=Lib.hid (fun w' h=>
  ⟨hl.keep (by decide) fun b _ hb=>h.ex.block b hb (by simp),hp.keep (by decide) fun b _ hb=>h.ex.block b hb (by simp),hl'.keep (by decide) fun b _ hb=>h.ex.block b hb (by simp),hp'.keep (by decide) fun b _ hb=>h.ex.block b hb (by simp)⟩)
 have HM:=Lib.hid (And.intro hm hk)
 obtain⟨n1,e1⟩:∃n,n=s.list.length:=⟨_,rfl⟩
 obtain⟨n2,e2⟩:∃n,n=s.pins.length:=⟨_,rfl⟩
 obtain⟨n3,e3⟩:∃n,n=t.list.length:=⟨_,rfl⟩
 obtain⟨n4,e4⟩:∃n,n=t.pins.length:=⟨_,rfl⟩
 have HN:Hid (s.list.length=n1∧s.pins.length=n2∧t.list.length=n3∧t.pins.length=n4):=Lib.hid ⟨e1.symm,e2.symm,e3.symm,e4.symm⟩
 have HB:Hid (n1≤100000∧n2≤100000∧n3≤100000∧n4≤100000):=Lib.hid (by omega)
 simp only [coV,Sv.v]
 rw [←e1,←e2,←e3,←e4]
 obtain⟨a,ha⟩:∃a,a=ordL cmpI s.list t.list:=⟨_,rfl⟩
 obtain⟨c,hc⟩:∃c,c=ordL cmpPin s.pins t.pins:=⟨_,rfl⟩
 have HA:=Lib.hid ha
 have HC:=Lib.hid hc
 rw [←ha,←hc]
 clear hx hy hl hp hl' hp' hm hk e1 e2 e3 e4 ha hc
 obtain⟨w2,hw2⟩:∃w2:World,w2= (w.alloc (.cells #[.slice lo n1 lc,.slice po n2 pc] 46)).alloc (.cells #[.slice lo' n3 lc',.slice po' n4 pc'] 46):=⟨_,rfl⟩
 have HG2:Hid (Gr w w2):=Lib.hid (by rw [hw2];exact((Gr.refl w).alloc _).alloc _)
 have HB1:Hid (w2.heap[w.heap.size]? =some (.cells #[.slice lo n1 lc,.slice po n2 pc] 46 (0,0))):=Lib.hid (by rw [hw2];exact heap_alloc2_old _ _ _)
 have HB2:Hid (w2.heap[w.heap.size+1]? =some (.cells #[.slice lo' n3 lc',.slice po' n4 pc'] 46 (0,0))):=Lib.hid (by rw [hw2];exact heap_alloc2_new _ _ _)
 have HQ:Hid (∀w',Gr w2 w'→w'.cell? ⟨w.heap.size,0,none⟩=some (.slice lo n1 lc)∧w'.cell? ⟨w.heap.size,1,none⟩=some (.slice po n2 pc)∧w'.cell? ⟨w.heap.size+1,0,none⟩=some (.slice lo' n3 lc')∧w'.cell? ⟨w.heap.size+1,1,none⟩=some (.slice po' n4 pc')):=Lib.hid (fun w' h=>by
  have k1:=h.ex.at2 (Nat.le_refl _) HB1.out
  have k2:=h.ex.at2 (Nat.le_refl _) HB2.out
  refine⟨?_,?_,?_,?_⟩
  · rw [cell_of_row _ _ _ _ _ _ k1];rfl
  · rw [cell_of_row _ _ _ _ _ _ k1];rfl
  · rw [cell_of_row _ _ _ _ _ _ k2];rfl
  · rw [cell_of_row _ _ _ _ _ _ k2];rfl)
 go_enter Tryz.func74,Tryz.ntmps74
 go_upto_region 1 with(fail)
 refine wp_world (fun W=>W=w2) (by rw [hw2]) (fun W hW=>?_)
 rw [hW]
 clear hW W hw2
 obtain⟨c0,c1,c2,c3⟩:=HQ.out w2 (Gr.refl _)
 go_region_held3 (fun w'=>w'.cell? ⟨w.heap.size,0,none⟩=some (.slice lo n1 lc)∧w'.cell? ⟨w.heap.size,1,none⟩=some (.slice po n2 pc)∧w'.cell? ⟨w.heap.size+1,0,none⟩=some (.slice lo' n3 lc')∧w'.cell? ⟨w.heap.size+1,1,none⟩=some (.slice po' n4 pc')) (exact HQ.out _ (by repeat(first | with_reducible exact HG6.out | with_reducible exact HG5.out | with_reducible exact HG4.out | with_reducible exact Gr.refl _ | with_reducible refine Gr.alloc ?_ _ | with_reducible refine Gr.drew ?_)))
  (first
    | (go_at_call 106
       refine(orderInts_any (P:=P) (Q:=Q) lo lo' n1 n3 lc lc' s.list t.list _ HN.out.1 HN.out.2.2.1 (HL.out _ (HG2.out.trans (by repeat(first | with_reducible exact HG6.out | with_reducible exact HG5.out | with_reducible exact HG4.out | with_reducible exact Gr.refl _ | with_reducible refine Gr.alloc ?_ _ | with_reducible refine Gr.drew ?_)))).1 (HL.out _ (HG2.out.trans (by repeat(first | with_reducible exact HG6.out | with_reducible exact HG5.out | with_reducible exact HG4.out | with_reducible exact Gr.refl _ | with_reducible refine Gr.alloc ?_ _ | with_reducible refine Gr.drew ?_)))).2.2.1 HB.out.1 HB.out.2.2.1).mono ?_
       rw [←HA.out]
       rintro e w4 ⟨rfl,hg⟩
       have HG4:Hid (Gr w2 w4):=Lib.hid (Gr.trans (by repeat(first | with_reducible exact HG6.out | with_reducible exact HG5.out | with_reducible exact HG4.out | with_reducible exact Gr.refl _ | with_reducible refine Gr.alloc ?_ _ | with_reducible refine Gr.drew ?_)) hg)
       clear hg)
    | (go_at_call 107
       refine(orderPins_any (P:=P) (Q:=Q) po po' n2 n4 pc pc' s.pins t.pins _ HN.out.2.1 HN.out.2.2.2 (HL.out _ (HG2.out.trans (by repeat(first | with_reducible exact HG6.out | with_reducible exact HG5.out | with_reducible exact HG4.out | with_reducible exact Gr.refl _ | with_reducible refine Gr.alloc ?_ _ | with_reducible refine Gr.drew ?_)))).2.1 (HL.out _ (HG2.out.trans (by repeat(first | with_reducible exact HG6.out | with_reducible exact HG5.out | with_reducible exact HG4.out | with_reducible exact Gr.refl _ | with_reducible refine Gr.alloc ?_ _ | with_reducible refine Gr.drew ?_)))).2.2.2 HB.out.2.1 HB.out.2.2.2).mono ?_
       rw [←HC.out]
       rintro e w5 ⟨rfl,hg⟩
       have HG5:Hid (Gr w2 w5):=Lib.hid (Gr.trans (by repeat(first | with_reducible exact HG6.out | with_reducible exact HG5.out | with_reducible exact HG4.out | with_reducible exact Gr.refl _ | with_reducible refine Gr.alloc ?_ _ | with_reducible refine Gr.drew ?_)) hg)
       clear hg)
    | (go_at_call 57
       refine(cmpOr_any _ [a,c] _ (by first | exact Ints.keep (Ints.lit [a,c] (by simp) rfl) (Ex.refl _ none _).drew (Nat.le_refl _) | exact Ints.lit [a,c] (by simp) rfl) (by simp)).mono ?_
       rintro e w6 ⟨rfl,hw⟩
       have HG6:Hid (Gr w2 w6):=Lib.hid (by rw [←hw];exact(by repeat(first | with_reducible exact HG6.out | with_reducible exact HG5.out | with_reducible exact HG4.out | with_reducible exact Gr.refl _ | with_reducible refine Gr.alloc ?_ _ | with_reducible refine Gr.drew ?_)))
       clear hw)
    | fail)
 go_wp2
 go_ret
 exact⟨rfl,HG2.out.trans HG6.out⟩
theorem Ex.allocX {a w:World} (h:Ex a.heap.size none a w) (o:Obj):Ex a.heap.size none a (w.alloc o):=h.alloc h.size o
theorem exNew {base:Nat} {w w' :World} (h:Ex base none w w') (hb:∀b,b < w.heap.size→rowOf none≠some b→w'.heap[b]? =w.heap[b]?):Ex w.heap.size none w w':=⟨h.os,h.tape,h.output,h.size,fun k hk _=>hb k hk (by simp [rowOf])⟩
set_option maxHeartbeats 4000000 in
set_option maxRecDepth 100000 in
theorem copyV_any {P:Nat→Prop} (x:St×Sv×Sv) (w:World) (hx:Lies P w x) (hm:x.1.list.length≤100000∧x.1.pins.length≤100000) :
 Calls Tryz.prog 104 #[coV x] w fun e w'=>∃l p:Sv,e=.returned (coV (x.1,l,p))∧Lies (fun b=>w.heap.size≤b) w' (x.1,l,p)∧Ex w.heap.size none w w':=by
 obtain⟨lo,po,lc,pc,ex,hl,hp⟩:=lies_parts hx
 obtain⟨s,sv⟩:=x
 simp only at ex hl hp hm
 subst ex
 obtain⟨n1,e1⟩:∃n,n=s.list.length:=⟨_,rfl⟩
 obtain⟨n2,e2⟩:∃n,n=s.pins.length:=⟨_,rfl⟩
 have HN:Hid (s.list.length=n1∧s.pins.length=n2):=Lib.hid ⟨e1.symm,e2.symm⟩
 have hn1:n1≤100000:=by omega
 have hn2:n2≤100000:=by omega
 simp only [coV,Sv.v]
 rw [←e1,←e2]
 obtain⟨w2,hw2⟩:∃w2:World,w2= (w.alloc (.cells #[.slice lo n1 lc,.slice po n2 pc] 46)).alloc (.cells #[.slice none 0 0,.slice none 0 0] 46):=⟨_,rfl⟩
 have HE2:Hid (Ex w.heap.size none w w2):=Lib.hid (by rw [hw2];exact(Ex.new w _).alloc (by simp) _)
 have hz2:w2.heap.size=w.heap.size+2:=by rw [hw2];simp
 have HB1:Hid (w2.heap[w.heap.size]? =some (.cells #[.slice lo n1 lc,.slice po n2 pc] 46 (0,0))):=Lib.hid (by rw [hw2];exact heap_alloc2_old _ _ _)
 have HB2:Hid (w2.heap[w.heap.size+1]? =some (.cells #[.slice none 0 0,.slice none 0 0] 46 (0,0))):=Lib.hid (by rw [hw2];exact heap_alloc2_new _ _ _)
 have HL:Hid (∀w',Ex w2.heap.size none w2 w'→Ints w' (.slice lo n1 lc) s.list∧SlAt pinRep P w' po s.pins):=Lib.hid (fun w' h=>by
  have h2:Ex w.heap.size none w w':=HE2.out.trans h (by omega) (by simp)
  exact⟨sl_ints (P:=P) ⟨lo,lc,by rw [e1],hl.keep (by decide) fun b _ hb=>h2.block b hb (by simp)⟩,hp.keep (by decide) fun b _ hb=>h2.block b hb (by simp)⟩)
 have HQ:Hid (∀w',Ex w2.heap.size none w2 w'→(w'.cell? ⟨w.heap.size,0,none⟩=some (.slice lo n1 lc)∧w'.cell? ⟨w.heap.size,1,none⟩=some (.slice po n2 pc))∧(w'.cell? ⟨w.heap.size+1,0,none⟩=some (.slice none 0 0)∧w'.cell? ⟨w.heap.size+1,1,none⟩=some (.slice none 0 0))∧w'.frozen? ⟨w.heap.size+1,0,none⟩=false∧w'.frozen? ⟨w.heap.size+1,1,none⟩=false):=Lib.hid (fun w' h=>by
  have k1:=h.at2 (Nat.le_refl _) HB1.out
  have k2:=h.at2 (Nat.le_refl _) HB2.out
  refine⟨⟨?_,?_⟩,⟨?_,?_⟩,by simp [World.frozen?,k2],by simp [World.frozen?,k2]⟩
  · rw [cell_of_row _ _ _ _ _ _ k1];rfl
  · rw [cell_of_row _ _ _ _ _ _ k1];rfl
  · rw [cell_of_row _ _ _ _ _ _ k2];rfl
  · rw [cell_of_row _ _ _ _ _ _ k2];rfl)
 clear hx hl hp hm e1 e2
 go_enter Tryz.func104,Tryz.ntmps104
 go_upto_region 1 with(fail)
 refine wp_world (fun W=>W=w2) (by rw [hw2]) (fun W hW=>?_)
 rw [hW]
 clear hW W hw2
 obtain⟨⟨c0,c1⟩,⟨d0,d1⟩,f0,f1⟩:=HQ.out w2 (Ex.refl _ _ _)
 have HQ1:Hid (∀w',Ex w2.heap.size (some (w.heap.size+1)) w2 w'→w'.cell? ⟨w.heap.size,0,none⟩=some (.slice lo n1 lc)∧w'.cell? ⟨w.heap.size,1,none⟩=some (.slice po n2 pc)):=Lib.hid (fun w' h=>by
  have k1:=(h.block w.heap.size (by omega) (by simp)).trans HB1.out
  refine⟨?_,?_⟩
  · rw [cell_of_row _ _ _ _ _ _ k1];rfl
  · rw [cell_of_row _ _ _ _ _ _ k1];rfl)
 clear d0 d1 f0 f1
 go_region_held3 (fun w'=>w'.cell? ⟨w.heap.size,0,none⟩=some (.slice lo n1 lc)∧w'.cell? ⟨w.heap.size,1,none⟩=some (.slice po n2 pc)) (exact HQ1.out _ (by repeat(first | with_reducible exact(HE5.out).weaken _ | with_reducible exact(HE4.out).weaken _ | with_reducible exact(Ex.refl _ _ _) | with_reducible refine Ex.setCell ?_ _ none _ (.inl rfl) | with_reducible refine Ex.drew ?_)))
  (first
    | (refine step_appE rfl (.const (.slice none 0 0)) (.tmp 4) _ 3 (by rfl) Tryz.underlying22 _ 1 8 Tryz.infoInt rfl (by decide) (by decide) iE iE_len one_iE w2.heap.size none 0 0 [] rfl (by rfl) lo n1 lc (by rfl) s.list HN.out.1 (OwnE.nil _ _ _ _ _) (ints_srcE (HL.out _ (by repeat(first | with_reducible exact HE5.out | with_reducible exact HE4.out | with_reducible exact Ex.refl _ _ _ | with_reducible refine Ex.allocX ?_ _ | with_reducible refine Ex.drew ?_))).1) (by omega) ((show Ex w2.heap.size none w2 _ from(by repeat(first | with_reducible exact HE5.out | with_reducible exact HE4.out | with_reducible exact Ex.refl _ _ _ | with_reducible refine Ex.allocX ?_ _ | with_reducible refine Ex.drew ?_))).size) n1 (by omega) ?_
       intro la lcap w4 ho hex hb hr
       have HO4:Hid (Sl intRep (fun b=>w2.heap.size≤b) w4 (.slice la n1 lcap) s.list):=Lib.hid (iE_slE HN.out.1 (by simpa using ho))
       have HE4:Hid (Ex w2.heap.size none w2 w4):=Lib.hid (Ex.trans (by repeat(first | with_reducible exact HE5.out | with_reducible exact HE4.out | with_reducible exact Ex.refl _ _ _ | with_reducible refine Ex.allocX ?_ _ | with_reducible refine Ex.drew ?_)) hex (Nat.le_refl _) (by simp))
       clear ho hex hb hr)
    | (refine step_appE rfl (.const (.slice none 0 0)) (.tmp 7) _ 77 (by rfl) Tryz.underlying33 _ 3 32 Tryz.infoPin rfl (by decide) (by decide) pinE pinE_len one_pinE w2.heap.size none 0 0 [] rfl (by rfl) po n2 pc (by rfl) s.pins HN.out.2 (OwnE.nil _ _ _ _ _) (val_cells (hk:=pinE_len) (h1:=one_pinE) (by decide) (HL.out _ (by repeat(first | with_reducible exact HE5.out | with_reducible exact HE4.out | with_reducible exact Ex.refl _ _ _ | with_reducible refine Ex.allocX ?_ _ | with_reducible refine Ex.drew ?_))).2) (by omega) ((show Ex w2.heap.size none w2 _ from(by repeat(first | with_reducible exact HE5.out | with_reducible exact HE4.out | with_reducible exact Ex.refl _ _ _ | with_reducible refine Ex.allocX ?_ _ | with_reducible refine Ex.drew ?_))).size) n2 (by omega) ?_
       intro pa pcap w5 ho hex hb hr
       have HO5:Hid (Sl pinRep (fun b=>w2.heap.size≤b) w5 (.slice pa n2 pcap) s.pins∧Sl intRep (fun b=>w2.heap.size≤b) w5 (.slice la n1 lcap) s.list):=Lib.hid (by
        refine⟨?_,(HO4.out.keep (by decide) fun b _ hlt=>(show Ex w4.heap.size none w4 _ from by repeat(first | with_reducible exact Ex.refl _ _ _ | with_reducible refine Ex.drew ?_)).block b hlt (by simp)).keep (by decide) fun b _ hlt=>(exNew hex hb).block b hlt (by simp)⟩
        rw [←HN.out.2]
        exact own_val_sl (by simpa using ho))
       have HE5:Hid (Ex w2.heap.size none w2 w5):=Lib.hid (Ex.trans (by repeat(first | with_reducible exact HE5.out | with_reducible exact HE4.out | with_reducible exact Ex.refl _ _ _ | with_reducible refine Ex.allocX ?_ _ | with_reducible refine Ex.drew ?_)) hex (Nat.le_refl _) (by simp))
       obtain⟨_,⟨d0,d1⟩,f0,f1⟩:=HQ.out w5 HE5.out
       clear ho hex hb hr)
    | fail)
 go_wp2
 refine bodyPost_ret (v:=.agg #[.slice la n1 lcap,.slice pa n2 pcap]) (by simp [results,Tryz.results104,go_sem,d0,d1]) rfl ?_
 have hz5:=HE5.out.size
 refine⟨⟨la,n1,lcap⟩,⟨pa,n2,pcap⟩,rfl,?_,?_⟩
 · have h:=HO5.out
   refine Lies.mono (P:=fun b=>w2.heap.size≤b) (Lies.keep (w:=w5) ⟨h.2,h.1⟩ fun b hb _=>?_) (fun b hb _=>by omega)
   iterate 2 refine set_far (by omega) ?_
   rfl
 · exact((HE2.out.trans HE5.out (by omega) (by simp)).setCell _ none _ (.inr (by omega))).setCell _ none _ (.inr (by omega))
def validC (e k s r:Int):Bool:=decide (0≤e) && decide (e < 40) && decide (0≤s) && decide (s < 64) && decide (0≤r) && decide (r≤1) && (if k=1 then decide (s=0) && decide (r=0) else decide (k=2) || decide (k=3))
def pinSt (l:List PinD):St:=⟨0,0,⟨#[]⟩,0,10,0,0,0,[],l,⟨#[]⟩,0,⟨#[]⟩⟩
def pinsOK (l:List PinD):Bool:=decide (checkI (pinSt l)=0)
def mostC (k:Int):Int:=if k=1 then 4294967295 else 1
def countC (k:Int):Int:=if k=1 then 2 else 1
def rightC (e k s r:Int) (l:List Int) (p:List PinD):Bool:=validC e k s r && pinsOK p && l.all (fun n=>decide (0≤n) && decide (n≤mostC k)) && decide ((l.length:Int)=countC k)
set_option maxHeartbeats 4000000 in
set_option maxRecDepth 100000 in
theorem validP_any (e k s r:Int) (w:World):Calls Tryz.prog 134 #[.agg #[.int .i64 e,.int .i64 k,.int .i64 s,.int .i64 r]] w fun q w'=>q=.returned (.bool (validC e k s r))∧Gr w w':=by
 by_cases h0:e < 0
 · have HV:Hid (validC e k s r=false):=Lib.hid (by unfold validC;simp;omega)
   have k0:decide (e < 0)=true:=decide_eq_true h0
   clear h0
   go_enter Tryz.func134,Tryz.ntmps134
   go_wp2
   go_ret
   exact⟨by rw [HV.out];rfl,(Gr.refl w).alloc _⟩
 have k0:decide (e < 0)=false:=decide_eq_false h0
 by_cases h1:40≤e
 · have HV:Hid (validC e k s r=false):=Lib.hid (by unfold validC;simp;omega)
   have k1:decide (40≤e)=true:=decide_eq_true h1
   clear h1
   go_enter Tryz.func134,Tryz.ntmps134
   go_wp2
   go_ret
   exact⟨by rw [HV.out];rfl,(Gr.refl w).alloc _⟩
 have k1:decide (40≤e)=false:=decide_eq_false h1
 by_cases h2:s < 0
 · have HV:Hid (validC e k s r=false):=Lib.hid (by unfold validC;simp;omega)
   have k2:decide (s < 0)=true:=decide_eq_true h2
   clear h2
   go_enter Tryz.func134,Tryz.ntmps134
   go_wp2
   go_ret
   exact⟨by rw [HV.out];rfl,(Gr.refl w).alloc _⟩
 have k2:decide (s < 0)=false:=decide_eq_false h2
 by_cases h3:64≤s
 · have HV:Hid (validC e k s r=false):=Lib.hid (by unfold validC;simp;omega)
   have k3:decide (64≤s)=true:=decide_eq_true h3
   clear h3
   go_enter Tryz.func134,Tryz.ntmps134
   go_wp2
   go_ret
   exact⟨by rw [HV.out];rfl,(Gr.refl w).alloc _⟩
 have k3:decide (64≤s)=false:=decide_eq_false h3
 by_cases h4:r < 0
 · have HV:Hid (validC e k s r=false):=Lib.hid (by unfold validC;simp;omega)
   have k4:decide (r < 0)=true:=decide_eq_true h4
   clear h4
   go_enter Tryz.func134,Tryz.ntmps134
   go_wp2
   go_ret
   exact⟨by rw [HV.out];rfl,(Gr.refl w).alloc _⟩
 have k4:decide (r < 0)=false:=decide_eq_false h4
 by_cases h5:1 < r
 · have HV:Hid (validC e k s r=false):=Lib.hid (by unfold validC;simp;omega)
   have k5:decide (1 < r)=true:=decide_eq_true h5
   clear h5
   go_enter Tryz.func134,Tryz.ntmps134
   go_wp2
   go_ret
   exact⟨by rw [HV.out];rfl,(Gr.refl w).alloc _⟩
 have k5:decide (1 < r)=false:=decide_eq_false h5
 have HB:=Lib.hid (⟨h0,h1,h2,h3,h4,h5⟩ : ¬e < 0∧ ¬40≤e∧ ¬s < 0∧ ¬64≤s∧ ¬r < 0∧ ¬1 < r)
 clear h0 h1 h2 h3 h4 h5
 have HV:Hid (validC e k s r=if k=1 then decide (s=0) && decide (r=0) else decide (k=2) || decide (k=3)):=Lib.hid (by
  obtain⟨h0,h1,h2,h3,h4,h5⟩:=HB.out
  unfold validC
  rw [decide_eq_true (show 0≤e by omega),decide_eq_true (show e < 40 by omega),decide_eq_true (show 0≤s by omega),decide_eq_true (show s < 64 by omega),decide_eq_true (show 0≤r by omega),decide_eq_true (show r≤1 by omega)]
  simp)
 by_cases t1:k=1
 · subst t1
   by_cases t2:s=0
   · subst t2
     by_cases t3:r=0
     · subst t3
       go_enter Tryz.func134,Tryz.ntmps134
       go_wp2
       go_ret
       exact⟨by rw [HV.out];rfl,(Gr.refl w).alloc _⟩
     · have j3: (r == 0)=false:=by simpa using t3
       have HR:Hid (decide (r=0)=false):=Lib.hid (decide_eq_false t3)
       clear t3
       go_enter Tryz.func134,Tryz.ntmps134
       go_wp2
       go_ret
       exact⟨by rw [HV.out,HR.out];rfl,(Gr.refl w).alloc _⟩
   · have j2: (s == 0)=false:=by simpa using t2
     have HR:Hid (decide (s=0)=false):=Lib.hid (decide_eq_false t2)
     clear t2
     go_enter Tryz.func134,Tryz.ntmps134
     go_wp2
     go_ret
     exact⟨by rw [HV.out,HR.out];rfl,(Gr.refl w).alloc _⟩
 · have j1: (k == 1)=false:=by simpa using t1
   have HK:Hid (validC e k s r= (decide (k=2) || decide (k=3))):=Lib.hid (by rw [HV.out,if_neg t1])
   clear t1
   by_cases t2:k=2
   · subst t2
     go_enter Tryz.func134,Tryz.ntmps134
     go_wp2
     go_ret
     exact⟨by rw [HK.out];rfl,(Gr.refl w).alloc _⟩
   · have j2: (k == 2)=false:=by simpa using t2
     have HR2:Hid (decide (k=2)=false):=Lib.hid (decide_eq_false t2)
     clear t2
     by_cases t3:k=3
     · subst t3
       go_enter Tryz.func134,Tryz.ntmps134
       go_wp2
       go_ret
       exact⟨by rw [HK.out];rfl,(Gr.refl w).alloc _⟩
     · have j3: (k == 3)=false:=by simpa using t3
       have HR3:Hid (decide (k=3)=false):=Lib.hid (decide_eq_false t3)
       clear t3
       go_enter Tryz.func134,Tryz.ntmps134
       go_wp2
       go_ret
       exact⟨by rw [HK.out,HR2.out,HR3.out];rfl,(Gr.refl w).alloc _⟩
set_option maxHeartbeats 4000000 in
set_option maxRecDepth 100000 in
theorem valid23_any (e k s r:Int) (w:World):Calls Tryz.prog 29 #[.agg #[.int .i64 e,.int .i64 k,.int .i64 s,.int .i64 r]] w fun q w'=>q=.returned (.bool (validC e k s r))∧Gr w w':=by
 by_cases h0:e < 0
 · have HV:Hid (validC e k s r=false):=Lib.hid (by unfold validC;simp;omega)
   have k0:decide (e < 0)=true:=decide_eq_true h0
   clear h0
   go_enter Tryz.func29,Tryz.ntmps29
   go_wp2
   go_ret
   exact⟨by rw [HV.out];rfl,(Gr.refl w).alloc _⟩
 have k0:decide (e < 0)=false:=decide_eq_false h0
 by_cases h1:40≤e
 · have HV:Hid (validC e k s r=false):=Lib.hid (by unfold validC;simp;omega)
   have k1:decide (40≤e)=true:=decide_eq_true h1
   clear h1
   go_enter Tryz.func29,Tryz.ntmps29
   go_wp2
   go_ret
   exact⟨by rw [HV.out];rfl,(Gr.refl w).alloc _⟩
 have k1:decide (40≤e)=false:=decide_eq_false h1
 by_cases h2:s < 0
 · have HV:Hid (validC e k s r=false):=Lib.hid (by unfold validC;simp;omega)
   have k2:decide (s < 0)=true:=decide_eq_true h2
   clear h2
   go_enter Tryz.func29,Tryz.ntmps29
   go_wp2
   go_ret
   exact⟨by rw [HV.out];rfl,(Gr.refl w).alloc _⟩
 have k2:decide (s < 0)=false:=decide_eq_false h2
 by_cases h3:64≤s
 · have HV:Hid (validC e k s r=false):=Lib.hid (by unfold validC;simp;omega)
   have k3:decide (64≤s)=true:=decide_eq_true h3
   clear h3
   go_enter Tryz.func29,Tryz.ntmps29
   go_wp2
   go_ret
   exact⟨by rw [HV.out];rfl,(Gr.refl w).alloc _⟩
 have k3:decide (64≤s)=false:=decide_eq_false h3
 by_cases h4:r < 0
 · have HV:Hid (validC e k s r=false):=Lib.hid (by unfold validC;simp;omega)
   have k4:decide (r < 0)=true:=decide_eq_true h4
   clear h4
   go_enter Tryz.func29,Tryz.ntmps29
   go_wp2
   go_ret
   exact⟨by rw [HV.out];rfl,(Gr.refl w).alloc _⟩
 have k4:decide (r < 0)=false:=decide_eq_false h4
 by_cases h5:1 < r
 · have HV:Hid (validC e k s r=false):=Lib.hid (by unfold validC;simp;omega)
   have k5:decide (1 < r)=true:=decide_eq_true h5
   clear h5
   go_enter Tryz.func29,Tryz.ntmps29
   go_wp2
   go_ret
   exact⟨by rw [HV.out];rfl,(Gr.refl w).alloc _⟩
 have k5:decide (1 < r)=false:=decide_eq_false h5
 have HB:=Lib.hid (⟨h0,h1,h2,h3,h4,h5⟩ : ¬e < 0∧ ¬40≤e∧ ¬s < 0∧ ¬64≤s∧ ¬r < 0∧ ¬1 < r)
 clear h0 h1 h2 h3 h4 h5
 have HV:Hid (validC e k s r=if k=1 then decide (s=0) && decide (r=0) else decide (k=2) || decide (k=3)):=Lib.hid (by
  obtain⟨h0,h1,h2,h3,h4,h5⟩:=HB.out
  unfold validC
  rw [decide_eq_true (show 0≤e by omega),decide_eq_true (show e < 40 by omega),decide_eq_true (show 0≤s by omega),decide_eq_true (show s < 64 by omega),decide_eq_true (show 0≤r by omega),decide_eq_true (show r≤1 by omega)]
  simp)
 by_cases t1:k=1
 · subst t1
   by_cases t2:s=0
   · subst t2
     by_cases t3:r=0
     · subst t3
       go_enter Tryz.func29,Tryz.ntmps29
       go_wp2
       go_ret
       exact⟨by rw [HV.out];rfl,(Gr.refl w).alloc _⟩
     · have j3: (r == 0)=false:=by simpa using t3
       have HR:Hid (decide (r=0)=false):=Lib.hid (decide_eq_false t3)
       clear t3
       go_enter Tryz.func29,Tryz.ntmps29
       go_wp2
       go_ret
       exact⟨by rw [HV.out,HR.out];rfl,(Gr.refl w).alloc _⟩
   · have j2: (s == 0)=false:=by simpa using t2
     have HR:Hid (decide (s=0)=false):=Lib.hid (decide_eq_false t2)
     clear t2
     go_enter Tryz.func29,Tryz.ntmps29
     go_wp2
     go_ret
     exact⟨by rw [HV.out,HR.out];rfl,(Gr.refl w).alloc _⟩
 · have j1: (k == 1)=false:=by simpa using t1
   have HK:Hid (validC e k s r= (decide (k=2) || decide (k=3))):=Lib.hid (by rw [HV.out,if_neg t1])
   clear t1
   by_cases t2:k=2
   · subst t2
     go_enter Tryz.func29,Tryz.ntmps29
     go_wp2
     go_ret
     exact⟨by rw [HK.out];rfl,(Gr.refl w).alloc _⟩
   · have j2: (k == 2)=false:=by simpa using t2
     have HR2:Hid (decide (k=2)=false):=Lib.hid (decide_eq_false t2)
     clear t2
     by_cases t3:k=3
     · subst t3
       go_enter Tryz.func29,Tryz.ntmps29
       go_wp2
       go_ret
       exact⟨by rw [HK.out];rfl,(Gr.refl w).alloc _⟩
     · have j3: (k == 3)=false:=by simpa using t3
       have HR3:Hid (decide (k=3)=false):=Lib.hid (decide_eq_false t3)
       clear t3
       go_enter Tryz.func29,Tryz.ntmps29
       go_wp2
       go_ret
       exact⟨by rw [HK.out,HR2.out,HR3.out];rfl,(Gr.refl w).alloc _⟩
set_option maxHeartbeats 4000000 in
set_option maxRecDepth 100000 in
theorem pinsP_ok {P:Nat→Prop} (po:Option Addr) (n pc:Nat) (l:List PinD) (w:World) (hn:l.length=n) (hp:SlAt pinRep P w po l) (hm:n≤100000) :
 Calls Tryz.prog 135 #[.slice po n pc] w fun e w'=>e=.returned (.bool (pinsOK l))∧Ex w.heap.size none w w':=by
 have hl:Lies P w (pinSt l,⟨none,0,0⟩,⟨po,n,pc⟩):=⟨Sl.nil _ _,po,pc,by show Value.slice po n pc=Value.slice po l.length pc;rw [hn],hp⟩
 obtain⟨q,hq⟩:∃q,q=checkI (pinSt l):=⟨_,rfl⟩
 have HC:Hid (Calls Tryz.prog 40 #[.agg #[.int .i64 0,.int .i64 0,.string ⟨#[]⟩,.int .i64 0,.int .i64 10,.int .i64 0,.int .i64 0,.int .i64 0,.slice none 0 0,.slice po n pc,.string ⟨#[]⟩,.int .i64 0,.string ⟨#[]⟩]] w fun e w'=>e=.returned (.int .i64 q)∧Ex w.heap.size none w w'):=Lib.hid (by
  rw [hq]
  exact checkP_any (pinSt l) none po 0 0 n pc w hl ⟨Nat.zero_le _,by show n≤_;omega⟩)
 have HQ:Hid (pinsOK l=decide (q=0)):=Lib.hid (by rw [hq];rfl)
 clear hl hq
 by_cases h0:q=0
 · have k0: (q == 0)=true:=by simpa using h0
   have HR:Hid (decide (q=0)=true):=Lib.hid (decide_eq_true h0)
   clear h0
   go_enter Tryz.func135,Tryz.ntmps135
   go_wp2_with (first
    | (go_at_call 40
       refine HC.out.mono ?_
       rintro e w1 ⟨rfl,hex⟩
       have HE:=Lib.hid hex
       clear hex)
    | fail)
   go_ret
   exact⟨by rw [HQ.out,HR.out];rfl,HE.out⟩
 · have k0: (q == 0)=false:=by simpa using h0
   have HR:Hid (decide (q=0)=false):=Lib.hid (decide_eq_false h0)
   clear h0
   go_enter Tryz.func135,Tryz.ntmps135
   go_wp2_with (first
    | (go_at_call 40
       refine HC.out.mono ?_
       rintro e w1 ⟨rfl,hex⟩
       have HE:=Lib.hid hex
       clear hex)
    | fail)
   go_ret
   exact⟨by rw [HQ.out,HR.out];rfl,HE.out⟩
theorem rightC_of {e k s r:Int} {l:List Int} {p:List PinD} (h1:validC e k s r=true) (h2:pinsOK p=true):rightC e k s r l p= (l.all (fun n=>decide (0≤n) && decide (n≤mostC k)) && decide ((l.length:Int)=countC k)):=by
 unfold rightC;rw [h1,h2];simp
theorem take_all {p:Int→Bool} {l:List Int} {k:Nat} {y:Int} (h: (l.take k).all p=true) (hy:l[k]? =some y) (hp:p y=true): (l.take (k+1)).all p=true:=by
 rw [List.take_add_one,hy,List.all_append,h]
 simp [hp]
set_option maxHeartbeats 8000000 in
set_option maxRecDepth 100000 in
theorem rightV_any {P:Nat→Prop} (e k s r:Int) (x:St×Sv×Sv) (w:World) (hx:Lies P w x) (hm:x.1.list.length≤100000∧x.1.pins.length≤100000) :
 Calls Tryz.prog 105 #[.agg #[.int .i64 e,.int .i64 k,.int .i64 s,.int .i64 r],coV x] w fun q w'=>q=.returned (.bool (rightC e k s r x.1.list x.1.pins))∧Ex w.heap.size none w w':=by
 obtain⟨lo,po,lc,pc,ex,hl,hp⟩:=lies_parts hx
 obtain⟨st,sv⟩:=x
 simp only at ex hl hp hm ⊢
 subst ex
 obtain⟨l,hll⟩:∃l,l=st.list:=⟨_,rfl⟩
 obtain⟨p,hpp⟩:∃p,p=st.pins:=⟨_,rfl⟩
 rw [←hll] at hl hm ⊢
 rw [←hpp] at hp hm ⊢
 obtain⟨n1,e1⟩:∃n,n=l.length:=⟨_,rfl⟩
 obtain⟨n2,e2⟩:∃n,n=p.length:=⟨_,rfl⟩
 simp only [coV,Sv.v]
 rw [←e1,←e2]
 have HN:Hid (l.length=n1∧p.length=n2):=Lib.hid ⟨e1.symm,e2.symm⟩
 have hn1:n1≤100000:=by omega
 have hn2:n2≤100000:=by omega
 obtain⟨w2,hw2⟩:∃w2:World,w2= (w.alloc (.cells #[.int .i64 e,.int .i64 k,.int .i64 s,.int .i64 r] 38)).alloc (.cells #[.slice lo n1 lc,.slice po n2 pc] 46):=⟨_,rfl⟩
 have HE2:Hid (Ex w.heap.size none w w2):=Lib.hid (by rw [hw2];exact(Ex.new w _).alloc (by simp) _)
 have hz2:w2.heap.size=w.heap.size+2:=by rw [hw2];simp
 have HB1:Hid (w2.heap[w.heap.size]? =some (.cells #[.int .i64 e,.int .i64 k,.int .i64 s,.int .i64 r] 38 (0,0))):=Lib.hid (by rw [hw2];exact heap_alloc2_old _ _ _)
 have HB2:Hid (w2.heap[w.heap.size+1]? =some (.cells #[.slice lo n1 lc,.slice po n2 pc] 46 (0,0))):=Lib.hid (by rw [hw2];exact heap_alloc2_new _ _ _)
 have HL:Hid (∀w',Ex w2.heap.size none w2 w'→IntsAt w' lo l∧SlAt pinRep P w' po p):=Lib.hid (fun w' h=>by
  have h2:Ex w.heap.size none w w':=HE2.out.trans h (by omega) (by simp)
  exact⟨(sl_ints (P:=P) ⟨lo,lc,rfl,hl.keep (by decide) fun b _ hb=>h2.block b hb (by simp)⟩).at',hp.keep (by decide) fun b _ hb=>h2.block b hb (by simp)⟩)
 have HQ:Hid (∀w',Ex w2.heap.size none w2 w'→(w'.cell? ⟨w.heap.size,0,none⟩=some (.int .i64 e)∧w'.cell? ⟨w.heap.size,1,none⟩=some (.int .i64 k)∧w'.cell? ⟨w.heap.size,2,none⟩=some (.int .i64 s)∧w'.cell? ⟨w.heap.size,3,none⟩=some (.int .i64 r))∧w'.cell? ⟨w.heap.size+1,0,none⟩=some (.slice lo n1 lc)∧w'.cell? ⟨w.heap.size+1,1,none⟩=some (.slice po n2 pc)):=Lib.hid (fun w' h=>by
  have k1:=h.at2 (Nat.le_refl _) HB1.out
  have k2:=h.at2 (Nat.le_refl _) HB2.out
  refine⟨⟨?_,?_,?_,?_⟩,?_,?_⟩
  · rw [cell_of_row _ _ _ _ _ _ k1];rfl
  · rw [cell_of_row _ _ _ _ _ _ k1];rfl
  · rw [cell_of_row _ _ _ _ _ _ k1];rfl
  · rw [cell_of_row _ _ _ _ _ _ k1];rfl
  · rw [cell_of_row _ _ _ _ _ _ k2];rfl
  · rw [cell_of_row _ _ _ _ _ _ k2];rfl)
 clear hx hl hp hm e1 e2 hll hpp
 obtain⟨vb,hvb⟩:∃vb,vb=validC e k s r:=⟨_,rfl⟩
 obtain⟨pb,hpb⟩:∃pb,pb=pinsOK p:=⟨_,rfl⟩
 have HVB:=Lib.hid hvb
 have HPB:=Lib.hid hpb
 clear hvb hpb
 cases vb with
 | false=>
   have HR:Hid (rightC e k s r l p=false):=Lib.hid (by unfold rightC;rw [←HVB.out];rfl)
   go_enter Tryz.func105,Tryz.ntmps105
   go_upto_region 1 with(fail)
   refine wp_world (fun W=>W=w2) (by rw [hw2]) (fun W hW=>?_)
   rw [hW]
   clear hW W hw2
   obtain⟨⟨c0,c1,c2,c3⟩,d0,d1⟩:=HQ.out w2 (Ex.refl _ _ _)
   go_wp2_with (first
    | (go_at_call 134
       refine(validP_any e k s r w2).mono ?_
       rw [←HVB.out]
       rintro q w3 ⟨rfl,hg⟩
       have HG:Hid (Ex w2.heap.size none w2 w3):=Lib.hid hg.ex
       clear hg)
    | fail)
   go_ret
   exact⟨by rw [HR.out];rfl,HE2.out.trans HG.out (by omega) (by simp)⟩
 | true=>
   cases pb with
   | false=>
     have HR:Hid (rightC e k s r l p=false):=Lib.hid (by unfold rightC;rw [←HVB.out,←HPB.out];rfl)
     go_enter Tryz.func105,Tryz.ntmps105
     go_upto_region 1 with(fail)
     refine wp_world (fun W=>W=w2) (by rw [hw2]) (fun W hW=>?_)
     rw [hW]
     clear hW W hw2
     obtain⟨⟨c0,c1,c2,c3⟩,d0,d1⟩:=HQ.out w2 (Ex.refl _ _ _)
     go_wp2_with (first
      | (go_at_call 134
         refine(validP_any e k s r w2).mono ?_
         rw [←HVB.out]
         rintro q w3 ⟨rfl,hg⟩
         have HG:Hid (Ex w2.heap.size none w2 w3):=Lib.hid hg.ex
         clear hg c0 c1 c2 c3 d0 d1
         obtain⟨⟨c0,c1,c2,c3⟩,d0,d1⟩:=HQ.out w3 HG.out)
      | (go_at_call 135
         refine(pinsP_ok (P:=P) po n2 pc p w3 HN.out.2 (HL.out w3 HG.out).2 hn2).mono ?_
         rw [←HPB.out]
         rintro q w4 ⟨rfl,hex⟩
         have HG4:Hid (Ex w2.heap.size none w2 w4):=Lib.hid (HG.out.trans hex HG.out.size (by simp))
         clear hex)
      | fail)
     go_ret
     exact⟨by rw [HR.out];rfl,HE2.out.trans HG4.out (by omega) (by simp)⟩
   | true=>
     have HRR:Hid (rightC e k s r l p= (l.all (fun n=>decide (0≤n) && decide (n≤mostC k)) && decide ((l.length:Int)=countC k))):=Lib.hid (rightC_of HVB.out.symm HPB.out.symm)
     by_cases t1:k=1
     · have j1: (k == 1)=true:=by simpa using t1
       have HMO:Hid (mostC k=4294967295∧countC k=2):=Lib.hid (by unfold countC mostC;rw [if_pos t1,if_pos t1];exact⟨rfl,rfl⟩)
       clear t1
       go_enter Tryz.func105,Tryz.ntmps105
       go_upto_region 1 with(fail)
       refine wp_world (fun W=>W=w2) (by rw [hw2]) (fun W hW=>?_)
       rw [hW]
       clear hW W hw2
       obtain⟨⟨c0,c1,c2,c3⟩,d0,d1⟩:=HQ.out w2 (Ex.refl _ _ _)
       go_upto_region 6 with(first
        | (go_at_call 134
           refine(validP_any e k s r w2).mono ?_
           rw [←HVB.out]
           rintro q w3 ⟨rfl,hg⟩
           have HG:Hid (Ex w2.heap.size none w2 w3):=Lib.hid hg.ex
           clear hg c0 c1 c2 c3 d0 d1
           obtain⟨⟨c0,c1,c2,c3⟩,d0,d1⟩:=HQ.out w3 HG.out)
        | (go_at_call 135
           refine(pinsP_ok (P:=P) po n2 pc p w3 HN.out.2 (HL.out w3 HG.out).2 hn2).mono ?_
           rw [←HPB.out]
           rintro q w4 ⟨rfl,hex⟩
           have HG4:Hid (Ex w2.heap.size none w2 w4):=Lib.hid (HG.out.trans hex HG.out.size (by simp))
           clear hex c0 c1 c2 c3 d0 d1
           obtain⟨⟨c0,c1,c2,c3⟩,d0,d1⟩:=HQ.out w4 HG4.out)
        | fail)
       go_wp2
       go_loopw [24] (fun i wr=>∃j:Nat,j≤n1∧i=.int .i64 j∧Hid ((l.take j).all (fun n=>decide (0≤n) && decide (n≤4294967295))=true)∧Ex w2.heap.size none w2 wr) (fun i _=>n1 - (intOf i).toNat)
       case atStart=>exact⟨0,Nat.zero_le _,rfl,Lib.hid (by simp),HG4.out⟩
       case round=>
        obtain⟨j,hj,rfl,HA,hex⟩:=hrel
        have HX:=Lib.hid hex
        clear hex c0 c1 c2 c3 d0 d1
        obtain⟨⟨c0,c1,c2,c3⟩,d0,d1⟩:=HQ.out wr HX.out
        by_cases hlt:j < n1
        · have hltI: (j:Int) < (n1:Int):=by omega
          obtain⟨b,off,y,rfl,hck,HY⟩:=(HL.out wr HX.out).1.get j (by rw [HN.out.1];exact hlt)
          have HYS:Hid (l[j]? =some y):=Lib.hid (by
           have h1:=HY.out
           have h2:j < l.length:=by rw [HN.out.1];exact hlt
           rw [List.getD_eq_getElem?_getD,List.getElem?_eq_getElem h2] at h1
           rw [List.getElem?_eq_getElem h2]
           exact congrArg some h1)
          by_cases t1:y < 0
          · have j1:decide (y < 0)=true:=decide_eq_true t1
            have HR:Hid (rightC e k s r l p=false):=Lib.hid (by
             rw [HRR.out,HMO.out.1]
             have:l.all (fun n=>decide (0≤n) && decide (n≤4294967295))=false:=by
              rw [Bool.eq_false_iff]
              intro h
              have:=List.all_eq_true.1 h y (List.mem_of_getElem? HYS.out)
              simp at this
              omega
             rw [this];rfl)
            clear t1
            go_wp2
            go_ret
            exact⟨by rw [HR.out];rfl,HE2.out.trans HX.out (by omega) (by simp)⟩
          · have j1:decide (y < 0)=false:=decide_eq_false t1
            by_cases t2:4294967295 < y
            · have j2:decide (4294967295 < y)=true:=decide_eq_true t2
              have HR:Hid (rightC e k s r l p=false):=Lib.hid (by
               rw [HRR.out,HMO.out.1]
               have:l.all (fun n=>decide (0≤n) && decide (n≤4294967295))=false:=by
                rw [Bool.eq_false_iff]
                intro h
                have:=List.all_eq_true.1 h y (List.mem_of_getElem? HYS.out)
                simp at this
                omega
               rw [this];rfl)
              clear t1 t2
              go_wp2
              go_ret
              exact⟨by rw [HR.out];rfl,HE2.out.trans HX.out (by omega) (by simp)⟩
            · have j2:decide (4294967295 < y)=false:=decide_eq_false t2
              have HA2:Hid ((l.take (j+1)).all (fun n=>decide (0≤n) && decide (n≤4294967295))=true):=Lib.hid (take_all HA.out HYS.out (by rw [decide_eq_true (by omega),decide_eq_true (by omega)];rfl))
              clear t1 t2
              go_wp2
              go_roundw
              case rel=>exact⟨j+1,by omega,by go_num,HA2,HX.out⟩
              case measure=>simp [intOf] <;> omega
        · obtain rfl:j=n1:=by omega
          have HAL:Hid (l.all (fun n=>decide (0≤n) && decide (n≤4294967295))=true):=Lib.hid (by have h:=HA.out;rwa [List.take_of_length_le (by rw [HN.out.1];exact Nat.le_refl _)] at h)
          have HF:Hid (rightC e k s r l p=decide ((j:Int)=2)):=Lib.hid (by rw [HRR.out,HMO.out.1,HMO.out.2,HAL.out,HN.out.1];rfl)
          by_cases t1: (j:Int)=2
          · have j1: ((j:Int) == 2)=true:=by simpa using t1
            have HD:Hid (decide ((j:Int)=2)=true):=Lib.hid (decide_eq_true t1)
            clear t1
            go_wp2
            go_ret
            exact⟨by rw [HF.out,HD.out];rfl,HE2.out.trans HX.out (by omega) (by simp)⟩
          · have j1: ((j:Int) == 2)=false:=by simpa using t1
            have HD:Hid (decide ((j:Int)=2)=false):=Lib.hid (decide_eq_false t1)
            clear t1
            go_wp2
            go_ret
            exact⟨by rw [HF.out,HD.out];rfl,HE2.out.trans HX.out (by omega) (by simp)⟩
     · have j1: (k == 1)=false:=by simpa using t1
       have HMO:Hid (mostC k=1∧countC k=1):=Lib.hid (by unfold countC mostC;rw [if_neg t1,if_neg t1];exact⟨rfl,rfl⟩)
       clear t1
       go_enter Tryz.func105,Tryz.ntmps105
       go_upto_region 1 with(fail)
       refine wp_world (fun W=>W=w2) (by rw [hw2]) (fun W hW=>?_)
       rw [hW]
       clear hW W hw2
       obtain⟨⟨c0,c1,c2,c3⟩,d0,d1⟩:=HQ.out w2 (Ex.refl _ _ _)
       go_upto_region 6 with(first
        | (go_at_call 134
           refine(validP_any e k s r w2).mono ?_
           rw [←HVB.out]
           rintro q w3 ⟨rfl,hg⟩
           have HG:Hid (Ex w2.heap.size none w2 w3):=Lib.hid hg.ex
           clear hg c0 c1 c2 c3 d0 d1
           obtain⟨⟨c0,c1,c2,c3⟩,d0,d1⟩:=HQ.out w3 HG.out)
        | (go_at_call 135
           refine(pinsP_ok (P:=P) po n2 pc p w3 HN.out.2 (HL.out w3 HG.out).2 hn2).mono ?_
           rw [←HPB.out]
           rintro q w4 ⟨rfl,hex⟩
           have HG4:Hid (Ex w2.heap.size none w2 w4):=Lib.hid (HG.out.trans hex HG.out.size (by simp))
           clear hex c0 c1 c2 c3 d0 d1
           obtain⟨⟨c0,c1,c2,c3⟩,d0,d1⟩:=HQ.out w4 HG4.out)
        | fail)
       go_wp2
       go_loopw [24] (fun i wr=>∃j:Nat,j≤n1∧i=.int .i64 j∧Hid ((l.take j).all (fun n=>decide (0≤n) && decide (n≤1))=true)∧Ex w2.heap.size none w2 wr) (fun i _=>n1 - (intOf i).toNat)
       case atStart=>exact⟨0,Nat.zero_le _,rfl,Lib.hid (by simp),HG4.out⟩
       case round=>
        obtain⟨j,hj,rfl,HA,hex⟩:=hrel
        have HX:=Lib.hid hex
        clear hex c0 c1 c2 c3 d0 d1
        obtain⟨⟨c0,c1,c2,c3⟩,d0,d1⟩:=HQ.out wr HX.out
        by_cases hlt:j < n1
        · have hltI: (j:Int) < (n1:Int):=by omega
          obtain⟨b,off,y,rfl,hck,HY⟩:=(HL.out wr HX.out).1.get j (by rw [HN.out.1];exact hlt)
          have HYS:Hid (l[j]? =some y):=Lib.hid (by
           have h1:=HY.out
           have h2:j < l.length:=by rw [HN.out.1];exact hlt
           rw [List.getD_eq_getElem?_getD,List.getElem?_eq_getElem h2] at h1
           rw [List.getElem?_eq_getElem h2]
           exact congrArg some h1)
          by_cases t1:y < 0
          · have j1:decide (y < 0)=true:=decide_eq_true t1
            have HR:Hid (rightC e k s r l p=false):=Lib.hid (by
             rw [HRR.out,HMO.out.1]
             have:l.all (fun n=>decide (0≤n) && decide (n≤1))=false:=by
              rw [Bool.eq_false_iff]
              intro h
              have:=List.all_eq_true.1 h y (List.mem_of_getElem? HYS.out)
              simp at this
              omega
             rw [this];rfl)
            clear t1
            go_wp2
            go_ret
            exact⟨by rw [HR.out];rfl,HE2.out.trans HX.out (by omega) (by simp)⟩
          · have j1:decide (y < 0)=false:=decide_eq_false t1
            by_cases t2:1 < y
            · have j2:decide (1 < y)=true:=decide_eq_true t2
              have HR:Hid (rightC e k s r l p=false):=Lib.hid (by
               rw [HRR.out,HMO.out.1]
               have:l.all (fun n=>decide (0≤n) && decide (n≤1))=false:=by
                rw [Bool.eq_false_iff]
                intro h
                have:=List.all_eq_true.1 h y (List.mem_of_getElem? HYS.out)
                simp at this
                omega
               rw [this];rfl)
              clear t1 t2
              go_wp2
              go_ret
              exact⟨by rw [HR.out];rfl,HE2.out.trans HX.out (by omega) (by simp)⟩
            · have j2:decide (1 < y)=false:=decide_eq_false t2
              have HA2:Hid ((l.take (j+1)).all (fun n=>decide (0≤n) && decide (n≤1))=true):=Lib.hid (take_all HA.out HYS.out (by rw [decide_eq_true (by omega),decide_eq_true (by omega)];rfl))
              clear t1 t2
              go_wp2
              go_roundw
              case rel=>exact⟨j+1,by omega,by go_num,HA2,HX.out⟩
              case measure=>simp [intOf] <;> omega
        · obtain rfl:j=n1:=by omega
          have HAL:Hid (l.all (fun n=>decide (0≤n) && decide (n≤1))=true):=Lib.hid (by have h:=HA.out;rwa [List.take_of_length_le (by rw [HN.out.1];exact Nat.le_refl _)] at h)
          have HF:Hid (rightC e k s r l p=decide ((j:Int)=1)):=Lib.hid (by rw [HRR.out,HMO.out.1,HMO.out.2,HAL.out,HN.out.1];rfl)
          by_cases t1: (j:Int)=1
          · have j1: ((j:Int) == 1)=true:=by simpa using t1
            have HD:Hid (decide ((j:Int)=1)=true):=Lib.hid (decide_eq_true t1)
            clear t1
            go_wp2
            go_ret
            exact⟨by rw [HF.out,HD.out];rfl,HE2.out.trans HX.out (by omega) (by simp)⟩
          · have j1: ((j:Int) == 1)=false:=by simpa using t1
            have HD:Hid (decide ((j:Int)=1)=false):=Lib.hid (decide_eq_false t1)
            clear t1
            go_wp2
            go_ret
            exact⟨by rw [HF.out,HD.out];rfl,HE2.out.trans HX.out (by omega) (by simp)⟩
section
attribute [local go_sem ↓] rowLoad_stv rowStore_stv
theorem Ex.thenW {a b c:World} (h:Ex a.heap.size none a b) (k:Ex b.heap.size none b c):Ex a.heap.size none a c:=h.trans k h.size (by simp)
end
def okB (a:Int) (s:St):Bool:=decide (s.author=a) && decide (checkI s=0) && sealedB s
theorem okB_iff {a:Int} {s:St}:okB a s=true ↔ s.author=a∧checkI s=0∧sealedB s=true:=by
 simp only [okB,Bool.and_eq_true,decide_eq_true_eq,and_assoc]
def linkRep:Rep St where
 k:=14
 R:=fun P w cs s=>∃l p,cs=linkE (s,l,p)∧Lies P w (s,l,p)
 len:=fun⟨l,p,h,_⟩=>by subst h;exact linkE_len _
 one:=fun⟨l,p,h,_⟩=>by subst h;exact one_linkE _
 keep:=fun⟨l,p,h,hs⟩ hx=>⟨l,p,h,hs.keep hx⟩
 mono:=fun⟨l,p,h,hs⟩ hx=>⟨l,p,h,hs.mono hx⟩
def sameDigS (s t:St):Bool:=s.dig.toList == t.dig.toList
def cptL (d:List St):List St:=cpt sameDigS d.toArray d.length
def LinksR (a:Int) (l ls:List St):Prop:=∃d:List St,d.Perm (l.filter (okB a))∧(∀(i j:Nat) (x y:St),i < j→d[i]? =some x→d[j]? =some y→ltNDs y x=false)∧ls=cptL d
end Go.Proofs.YtflhidfclfkjlaaGreat

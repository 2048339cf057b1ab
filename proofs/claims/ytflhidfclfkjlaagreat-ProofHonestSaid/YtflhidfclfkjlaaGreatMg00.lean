/- Plain words on slices of ints in memory, for whatever program: what a slice reads as, which blocks a call may turn, an append of one number. No statement of the seat is proved here. | How values of a type are held in memory, as a word on lists: numbers, texts, structs, slices of these. For whatever program. No statement of the seat is proved here. | The shelf's word on a row that a sort turns (HoldsK, sortWorldK) in the words of these texts. No statement of the seat. | copy at elements of k cells; a row out of the cells of its elements. For whatever program; no statement of the seat. | The row of int in the table of types: a fact, no statement of the seat. | Statements as data, and how memory holds them: words, no statement of the seat. | Plain Lean functions on lists of ints: what the Go functions of the Quota laws compute. No program in sight. | ref03.SameInts, SamePins: contracts, no statement of the seat. | ref03.Same: words for its contract, no statement of the seat. | A region that draws its order, whose operations read and whose callees may lay blocks of their own: walked once, in the order of the text, at the class of worlds in which no old block has been turned. For whatever program; no statement of the seat. | ref03.Copy: a contract, no statement of the seat. | Rows of cells stored, loaded, and laid as the one element of a slice, as one step of a region. No statement of the seat. | made.Mod: contracts, no statement of the seat. | Dice: Roll, Next, Some, Keys: contracts, no statement of the seat. | Dice.One: a contract, no statement of the seat. -/
import Derived.WalkKit
import Derived.WalkSpells
import Derived.WalkLawsBesides
import Derived.Lib.Hide
import Derived.Deep.QuietTactic
import Derived.BigQuiet
import Derived.Deep.MidRow
import Derived.Laws.StructEq
import Derived.Shelf.SlSortCmp.InsertionK
import Derived.Deep.Upon
import Derived.Laws.CopyOwn
import Derived.Test.YtflhidfclfkjlaaGreatRows
import Derived.PlainAid
import Derived.Great.BuildSlice
import Derived.Laws.Rows
namespace Go.Proofs.YtflhidfclfkjlaaGreat
open Go.RowKit
structure Ex (B:Nat) (p:Option Nat) (w w' :World):Prop where
 os:w'.os=w.os
 tape:w'.tape=w.tape
 output:w'.output=w.output
 size:w.heap.size≤w'.heap.size
 block:∀k,k < B→some k≠p→w'.heap[k]? =w.heap[k]?
theorem Ex.refl (B:Nat) (p:Option Nat) (w:World):Ex B p w w:=⟨rfl,rfl,rfl,Nat.le_refl _,fun _ _ _=>rfl⟩
theorem Ex.trans {B B' :Nat} {p p' :Option Nat} {a b c:World} (h:Ex B p a b) (k:Ex B' p' b c) (hB:B≤B') (hp:∀q,p' =some q→q < B→p=some q):Ex B p a c :=
 ⟨k.os.trans h.os,k.tape.trans h.tape,k.output.trans h.output,Nat.le_trans h.size k.size,fun i hi hne=>
   (k.block i (Nat.lt_of_lt_of_le hi hB) (fun e=>hne (by rw [hp i e.symm hi]))).trans (h.block i hi hne)⟩
theorem Ex.weaken {B:Nat} {w w' :World} (h:Ex B none w w') (p:Option Nat):Ex B p w w':=⟨h.os,h.tape,h.output,h.size,fun i hi _=>h.block i hi (by simp)⟩
theorem Ex.mono {B B' :Nat} {p:Option Nat} {w w' :World} (h:Ex B p w w') (hB:B'≤B):Ex B' p w w':=⟨h.os,h.tape,h.output,h.size,fun i hi=>h.block i (Nat.lt_of_lt_of_le hi hB)⟩
theorem Ex.below {B:Nat} {w w' :World} (h:Ex B none w w'):Below B w w':=⟨h.os,h.tape,h.output,h.size,fun i hi=>h.block i hi (by simp)⟩
theorem Ex.above {B q:Nat} {w w' :World} (h:Ex B (some q) w w') (hq:B≤q):Ex B none w w':=⟨h.os,h.tape,h.output,h.size,fun i hi _=>h.block i hi (by simp;omega)⟩
theorem Ex.grown {B:Nat} {p row:Option Nat} {a w w' :World} (h:Ex B p a w) (hg:w.grownBy w' row) (hB:B≤w.heap.size) (hr:∀k,row=some k→B≤k):Ex B p a w' :=
 ⟨hg.os.trans h.os,hg.tape.trans h.tape,hg.output.trans h.output,Nat.le_trans h.size hg.size,fun k hk hne=>(hg.block k (by omega) (fun e=>by have:=hr k e.symm;omega)).trans (h.block k hk hne)⟩
theorem Ex.alloc {B:Nat} {p:Option Nat} {a w:World} (h:Ex B p a w) (hB:B≤w.heap.size) (o:Obj):Ex B p a (w.alloc o):=h.grown (World.grownBy_alloc w o none) hB (by simp)
theorem Ex.new (w:World) (o:Obj):Ex w.heap.size none w (w.alloc o):=(Ex.refl _ _ _).alloc (Nat.le_refl _) o
theorem Ex.drew {B:Nat} {p:Option Nat} {a w:World} (h:Ex B p a w):Ex B p a w.drew:=⟨h.os,h.tape,h.output,h.size,h.block⟩
theorem Ex.drewN {B n:Nat} {p:Option Nat} {a w:World} (h:Ex B p a w):Ex B p a (w.drewN n):=⟨h.os,h.tape,h.output,h.size,h.block⟩
theorem Ex.setCell {B q:Nat} {p:Option Nat} {a w:World} (h:Ex B p a w) (o:Nat) (s:Option Nat) (u:Value) (hq:p=some q∨B≤q):Ex B p a (w.setCell ⟨q,o,s⟩ u) :=
 ⟨h.os,h.tape,h.output,by simpa [World.setCell] using h.size,fun k hk hne=>(Below.heap_setCell _ _ _ _ (by
   show k≠q
   rcases hq with hq | hq
   · intro e;exact hne (by rw [hq,e])
   · omega)).trans (h.block k hk hne)⟩
theorem own_keep {w w' :World} {base e size n B:Nat} {p:Option Nat} {v:Value} {xs:List Value} (h:w.ownsRow base e size v n xs) (hx:Ex B p w w') (hB:w.heap.size≤B) (hp:∀q,p=some q→q < base):w'.ownsRow base e size v n xs:=by
 obtain⟨h1,h2⟩:=h
 refine⟨h1,?_⟩
 rcases h2 with h2 | ⟨g,cap,cur,hv,hg,hh,r⟩
 · exact Or.inl h2
 · refine Or.inr ⟨g,cap,cur,hv,hg,?_,r⟩
   have hlt:=(Array.getElem?_eq_some_iff.1 hh).1
   rw [hx.block g (by omega) (fun e=>by have:=hp g e.symm;omega)]
   exact hh
def IntsAt (w:World) (ao:Option Addr) (xs:List Int):Prop :=
 ∀j,j < xs.length→∃b off,ao=some ⟨b,off,none⟩∧∀i,i < xs.length→w.cell? ⟨b,off+i,none⟩=some (.int .i64 (xs.getD i 0))
def Away (q:Nat) (ao:Option Addr):Prop:=∀a,ao=some a→a.block≠q
theorem IntsAt.keep {w w' :World} {ao:Option Addr} {xs:List Int} {B:Nat} {p:Option Nat} (h:IntsAt w ao xs) (hb:Ex B p w w') (hB:w.heap.size≤B) (hp:∀q,p=some q→xs≠[]→Away q ao):IntsAt w' ao xs:=by
 intro j hj
 obtain⟨b,off,e,hc⟩:=h j hj
 refine⟨b,off,e,fun i hi=>?_⟩
 have h1:=hc i hi
 have h2:b < w.heap.size:=World.block_lt_of_cell? w _ h1
 exact(World.cell?_of_block (w:=w) (hb.block b (by omega) (fun e'=>hp b e'.symm (by intro h;simp [h] at hj) _ e rfl))).trans h1
theorem IntsAt.get {w:World} {ao:Option Addr} {xs:List Int} (h:IntsAt w ao xs) (k:Nat) (hk:k < xs.length):∃b off y,ao=some ⟨b,off,none⟩∧w.cell? ⟨b,off+k,none⟩=some (.int .i64 y)∧Hid (xs.getD k 0=y):=by
 obtain⟨b,off,e,hc⟩:=h k hk
 exact⟨b,off,_,e,hc k hk,rfl⟩
theorem IntsAt.lt {w:World} {ao:Option Addr} {xs:List Int} (h:IntsAt w ao xs) (hne:xs≠[]):∀a,ao=some a→a.block < w.heap.size:=by
 intro a ha
 obtain⟨b,off,e,hc⟩:=h 0 (List.length_pos_iff.2 hne)
 rw [e] at ha;cases ha
 exact World.block_lt_of_cell? w _ (hc 0 (List.length_pos_iff.2 hne))
theorem IntsAt.nil (w:World) (ao:Option Addr):IntsAt w ao []:=fun j hj=>by cases hj
def Ints (w:World) (v:Value) (xs:List Int):Prop:=∃ao cap,v=.slice ao xs.length cap∧IntsAt w ao xs
theorem Ints.keep {w w' :World} {v:Value} {xs:List Int} {B:Nat} (h:Ints w v xs) (hx:Ex B none w w') (hB:w.heap.size≤B):Ints w' v xs:=by
 obtain⟨ao,cap,e,h⟩:=h
 exact⟨ao,cap,e,h.keep hx hB (by simp)⟩
theorem Ints.nil (w:World):Ints w (.slice none 0 0) []:=⟨none,0,rfl,IntsAt.nil _ _⟩
theorem IntsAt.lit (w:World) (xs:List Int):IntsAt (w.alloc (.cells (xs.map (Value.int .i64)).toArray 3)) (some ⟨w.heap.size,0,none⟩) xs:=by
 intro j hj
 refine⟨_,_,rfl,fun i hi=>?_⟩
 rw [cell_of_row _ _ _ _ _ _ (heap_alloc_new w _)]
 simp [List.getD,hi]
theorem Ints.lit {w:World} (xs:List Int) {n g:Nat} (hg:g=w.heap.size) (hn:n=xs.length):Ints (w.alloc (.cells (xs.map (Value.int .i64)).toArray 3)) (.slice (some ⟨g,0,none⟩) n n) xs:=by
 subst hn hg;exact⟨_,_,rfl,IntsAt.lit w xs⟩
def OwnI (w:World) (base:Nat) (ao:Option Addr) (cap:Nat) (xs:List Int):Prop:=w.ownsRow base 3 1 (.slice ao xs.length cap) xs.length (xs.map (Value.int .i64))
theorem OwnI.nil (w:World) (base:Nat):OwnI w base none 0 []:=World.ownsRow_nil w base _ 1
theorem OwnI.keep {w w' :World} {base B:Nat} {p:Option Nat} {ao:Option Addr} {cap:Nat} {xs:List Int} (h:OwnI w base ao cap xs) (hx:Ex B p w w') (hB:w.heap.size≤B) (hp:∀q,p=some q→q < base):OwnI w' base ao cap xs:=own_keep h hx hB hp
theorem OwnI.lt {w:World} {base:Nat} {ao:Option Addr} {cap:Nat} {xs:List Int} (h:OwnI w base ao cap xs):∀a,ao=some a→base≤a.block∧a.block < w.heap.size:=by
 intro a e;subst e;exact World.ownsRow.lt h _ rfl
theorem OwnI.ints {w:World} {base:Nat} {ao:Option Addr} {cap:Nat} {xs:List Int} (h:OwnI w base ao cap xs):IntsAt w ao xs:=by
 intro j hj
 rcases h.2 with⟨_,h0⟩ | ⟨g,cap',cur,hv,_⟩
 · omega
 · simp only [Value.slice.injEq] at hv
   obtain⟨rfl,_,rfl⟩:=hv
   refine⟨g,0,rfl,fun i hi=>?_⟩
   have:=World.ownsRow.cells h (g:=g) rfl i (.int .i64 (xs.getD i 0)) (by simp [List.getD,hi])
   simpa [Addr.add_lit] using this
theorem OwnI.v {w:World} {base:Nat} {ao:Option Addr} {cap:Nat} {xs:List Int} (h:OwnI w base ao cap xs):Ints w (.slice ao xs.length cap) xs:=⟨_,_,rfl,h.ints⟩
theorem asB {P:Program} {f:FuncId} {args:Array Value} {w:World} {a b:Bool} {R:World→Prop} (h:Calls P f args w fun e w'=>e=.returned (.bool a)∧R w') (hab:a=b):Calls P f args w fun e w'=>e=.returned (.bool b)∧R w':=by
 subst hab;exact h
theorem ints_of_row {w:World} {a:Option Addr} {len cap:Nat} {zs:List Int} (h: (a=none∧len=0∧cap=0∧zs=[])∨
 ∃x,a=some x∧len≤cap∧cap≤maxLen∧zs.length=cap∧(∀i,i < zs.length→w.cell? (x.add i)=some (.int .i64 (zs.getD i 0)))∧∀n∈zs,(Lit.int .i64 n).wf=true) :
 Ints w (.slice a len cap) (zs.take len)∧(zs.take len).length≤9223372036854775807∧∀n∈zs.take len,(Lit.int .i64 n).wf=true:=by
 rcases h with⟨rfl,rfl,rfl,rfl⟩ | ⟨x,rfl,h1,h2,h3,h4,h5⟩
 · exact⟨Ints.nil w,by simp,by simp⟩
 · have hl: (zs.take len).length=len:=by simp;omega
   unfold maxLen at h2
   refine⟨⟨some x,cap,by rw [hl],fun j hj=>?_⟩,by omega,fun n hn=>h5 n (List.mem_of_mem_take hn)⟩
   obtain⟨b,off,spot⟩:=x
   have h0:=h4 0 (by omega)
   have hs:spot=none:=by simpa [Addr.add] using World.cell?_spot h0
   subst hs
   refine⟨b,off,rfl,fun i hi=>?_⟩
   have:=h4 i (by omega)
   rw [Addr.add_lit] at this
   rw [this]
   simp only [List.getD,List.getElem?_take]
   rw [if_pos (by omega)]
theorem OwnI.cap {w:World} {base:Nat} {ao:Option Addr} {cap:Nat} {xs:List Int} (h:OwnI w base ao cap xs):xs.length≤cap:=by
 rcases h.2 with⟨hv,h0⟩ | ⟨g,cap',cur,hv,_,_,hn,_⟩
 · omega
 · simp only [Value.slice.injEq] at hv
   obtain⟨_,_,rfl⟩:=hv
   exact hn
theorem IntsAt.take {w:World} {ao:Option Addr} {xs:List Int} (h:IntsAt w ao xs) (k:Nat):IntsAt w ao (xs.take k):=by
 intro j hj
 have hj' :j < xs.length:=by simp at hj;omega
 obtain⟨b,off,e,hc⟩:=h j hj'
 refine⟨b,off,e,fun i hi=>?_⟩
 have hi' :i < xs.length∧i < k:=by simp at hi;omega
 rw [hc i hi'.1]
 simp [List.getD,hi'.2]
def IntsO (p:Nat) (w:World) (v:Value) (xs:List Int):Prop:=∃ao cap,v=.slice ao xs.length cap∧IntsAt w ao xs∧(xs≠[]→Away p ao)
theorem Ints.at' {w:World} {ao:Option Addr} {n cap:Nat} {xs:List Int} (h:Ints w (.slice ao n cap) xs):IntsAt w ao xs:=by
 obtain⟨ao',cap',e,h⟩:=h
 cases e;exact h
theorem own_shape {w:World} {base e size n:Nat} {v:Value} {xs:List Value} (h:w.ownsRow base e size v n xs):∃ao cap,v=.slice ao n cap:=by
 rcases h.2 with⟨rfl,rfl⟩ | ⟨g,cap,_,rfl,_⟩
 · exact⟨none,0,rfl⟩
 · exact⟨_,cap,rfl⟩
theorem wpList_appI {P:Program} {w0 w:World} {ops:Array Oper} {rest:List Oper} {o:Oper} {a:Act} {Q:Exit→Act→World→Prop} (hgd:o.guard=none) (s x:Operand) (t:TypeId)
 (ho:o.op=.call { callee:=.builtin .append,args:=#[s,x],argTypes:=#[t,t] })
 (ht:P.underlying t=some (.slice 3)) (hinfo: (P.info? 3).map (fun i=>(i.zero,i.size,i.bytes))=some (some (.int .i64 0),1,8))
 (base:Nat) (ao:Option Addr) (cap:Nat) (xs:List Int) (g:Nat) (y:Int) (hs:a.eval s=.slice ao xs.length cap) (hx:a.eval x=.slice (some ⟨g,0,none⟩) 1 1)
 (hown:OwnI w0 base ao cap xs) (hw:Ex w0.heap.size none w0 w) (hcell:w.cell? ⟨g,0,none⟩=some (.int .i64 y)) (hlen:xs.length≤1000000000000) (hbase:base≤w0.heap.size)
 (h:∀ao' cap' w',OwnI w' base ao' cap' (xs ++ [y])→Ex base none w0 w'→wpList P ops Q rest (a.put o.dst (.slice ao' (xs.length+1) cap')) w'):wpList P ops Q (o :: rest) a w:=by
 obtain⟨i0,hi,hz0,hz1,hz2⟩:=info_parts hinfo
 have hown' :OwnI w base ao cap xs:=hown.keep hw (Nat.le_refl _) (by simp)
 have hsz:=hw.size
 refine wpList_append_own _ hgd s x t ho base 3 i0 (.int .i64 0) 1 8 ht hi hz0 hz1 hz2 rfl (by decide) _ _ _ hs hown' ⟨g,0,none⟩ 1 1 [.int .i64 y] hx rfl ?_ ?_ (by simp only [maxLen];omega) (by omega) (by omega) ?_
 · intro j u hj
   match j,hj with
   | 0,hj=>simp at hj;subst hj;simpa [Addr.add] using hcell
 · intro u hu;simp at hu;subst hu;rfl
 · intro v' w' ho' hg _
   obtain⟨ao',cap',rfl⟩:=own_shape ho'
   refine h ao' cap' w' ?_ ((hw.mono hbase).grown hg (by omega) ?_)
   · simpa [OwnI] using ho'
   · intro k hk
     have:=World.ownsRow.lt hown' k hk
     exact this.1
theorem run_append_none {P:Program} {w:World} (base:Nat) (t ty e:TypeId) (i:TypeInfo) (size:Nat) (ht:P.underlying t=some (.slice e)) (hi:P.info? e=some i)
 (v:Value) (n c:Nat) (xs:List Value) (hown:w.ownsRow base e size v n xs) :
 (Builtin.append_ #[t,t] ty #[v,.slice none 0 c]).run P w=.ok v w:=by
 rcases hown.2 with⟨rfl,rfl⟩ | ⟨g,cap,cur,rfl,_,_,hnc,_⟩
 · simp [Builtin.append_,run_underlying ht,sizeOf,typeInfo,hi,Builtin.lenOf,Builtin.firstCells]
 · simp [Builtin.append_,run_underlying ht,sizeOf,typeInfo,hi,Builtin.lenOf,Builtin.firstCells,hnc,storeCells]
theorem wpList_appIs {P:Program} {w0 w:World} {ops:Array Oper} {rest:List Oper} {o:Oper} {a:Act} {Q:Exit→Act→World→Prop} (hgd:o.guard=none) (s x:Operand) (t:TypeId)
 (ho:o.op=.call { callee:=.builtin .append,args:=#[s,x],argTypes:=#[t,t] })
 (ht:P.underlying t=some (.slice 3)) (hinfo: (P.info? 3).map (fun i=>(i.zero,i.size,i.bytes))=some (some (.int .i64 0),1,8))
 (base:Nat) (ao:Option Addr) (cap:Nat) (xs ys:List Int) (v u:Value) (n:Nat) (hn:n=xs.length) (hv:v=.slice ao n cap) (hs:a.eval s=v) (hx:a.eval x=u) (hu:Ints w u ys)
 (hown:OwnI w0 base ao cap xs) (hw:Ex w0.heap.size none w0 w) (hlen:xs.length+ys.length≤1000000000000) (hbase:base≤w0.heap.size)
 (h:∀ao' cap' w',OwnI w' base ao' cap' (xs ++ ys)→Ex base none w0 w'→wpList P ops Q rest (a.put o.dst (.slice ao' (xs.length+ys.length) cap')) w'):wpList P ops Q (o :: rest) a w:=by
 subst hn
 obtain⟨i0,hi,hz0,hz1,hz2⟩:=info_parts hinfo
 have hown' :OwnI w base ao cap xs:=hown.keep hw (Nat.le_refl _) (by simp)
 have hsz:=hw.size
 subst hv
 obtain⟨so,sc,rfl,hr⟩:=hu
 cases so with
 | none=>
   have hy:ys=[]:=by
    cases ys with
    | nil=>rfl
    | cons y r=>obtain⟨b,off,e,_⟩:=hr 0 (by simp);cases e
   subst hy
   refine wpList_plain hgd fun K hK=>?_
   have hrun:=run_append_none (P:=P) (w:=w) base t o.type 3 i0 1 ht hi _ _ sc _ hown'
   unfold Oper.wp
   simp only [List.length_nil] at hx
   simp [execOp,ho,resolve,invoke,builtin,hs,hx,hrun,Result.andThen]
   exact hK _ _ (by simpa using h ao cap w (by simpa using hown') (hw.mono hbase))
 | some ad=>
   refine wpList_append_own _ hgd s x t ho base 3 i0 (.int .i64 0) 1 8 ht hi hz0 hz1 hz2 rfl (by decide) _ _ _ hs hown' ad ys.length sc (ys.map (Value.int .i64)) hx (by simp) ?_ (ints_oneCell _ _) (by simp only [maxLen];omega) (by omega) (by omega) ?_
   · intro j u hj
     have hjl:j < ys.length:=by
      have:=(List.getElem?_eq_some_iff.1 hj).1
      simpa using this
     obtain⟨b,off,e,hc⟩:=hr j hjl
     cases e
     rw [Addr.add_lit,hc j hjl]
     rw [←hj];simp [List.getD,hjl]
   · intro v' w' ho' hg _
     obtain⟨ao',cap',rfl⟩:=own_shape ho'
     refine h ao' cap' w' ?_ ((hw.mono hbase).grown hg (by omega) ?_)
     · simpa [OwnI] using ho'
     · intro k hk
       exact(World.ownsRow.lt hown' k hk).1
theorem take_succ_getD (xs:List Int) (k:Nat) (h:k < xs.length):xs.take (k+1)=xs.take k ++ [xs.getD k 0]:=by
 rw [List.take_add_one,List.getElem?_eq_getElem h];simp [List.getD,h]
theorem drewN_add (w:World) (n m:Nat): (w.drewN n).drewN m=w.drewN (n+m):=by simp [World.drewN,Nat.add_assoc]
theorem ret_int {k:IntKind} {a b:Int} (h:a=b):Ending.returned (.int k a)=.returned (.int k b):=by rw [h]
theorem ret_bool {a b:Bool} (h:a=b):Ending.returned (.bool a)=.returned (.bool b):=by rw [h]
section
structure Rep (α:Type) where
 k:Nat
 R: (Nat→Prop)→World→List Value→α→Prop
 len:∀{P w cs x},R P w cs x→cs.length=k
 one:∀{P w cs x},R P w cs x→∀v∈cs,v.oneCell' =true
 keep:∀{P w w' cs x},R P w cs x→(∀b,P b→b < w.heap.size→w'.heap[b]? =w.heap[b]?)→R P w' cs x
 mono:∀{P P' w cs x},R P w cs x→(∀b,P b→b < w.heap.size→P' b)→R P' w cs x
def intRep:Rep Int where
 k:=1
 R:=fun _ _ cs n=>cs=[.int .i64 n]
 len:=fun h=>by subst h;rfl
 one:=fun h=>by subst h;intro v hv;simp at hv;subst hv;rfl
 keep:=fun h _=>h
 mono:=fun h _=>h
def strRep:Rep ByteArray where
 k:=1
 R:=fun _ _ cs s=>cs=[.string s]
 len:=fun h=>by subst h;rfl
 one:=fun h=>by subst h;intro v hv;simp at hv;subst hv;rfl
 keep:=fun h _=>h
 mono:=fun h _=>h
section
variable {α:Type} (r:Rep α)
def SlAt (P:Nat→Prop) (w:World) (ao:Option Addr) (xs:List α):Prop :=
 ∀i (h:i < xs.length),∃b off cs,ao=some ⟨b,off,none⟩∧P b∧w.rangeAt b (off+i * r.k) cs∧r.R P w cs xs[i]
def Sl (P:Nat→Prop) (w:World) (v:Value) (xs:List α):Prop:=∃ao cap,v=.slice ao xs.length cap∧SlAt r P w ao xs
variable {r}
theorem rangeAt_lt {w:World} {b o:Nat} {cs:List Value} (h:w.rangeAt b o cs) (hc:0 < cs.length):b < w.heap.size :=
 World.block_lt_of_cell? w ⟨b,o+0,none⟩ (h 0 cs[0] (by simp [hc]))
theorem rangeAt_keep {w w' :World} {b o:Nat} {cs:List Value} (h:w.rangeAt b o cs) (hb:w'.heap[b]? =w.heap[b]?):w'.rangeAt b o cs:=fun j v hv=>
 (World.cell?_of_block (w:=w) (a:=⟨b,o+j,none⟩) hb).trans (h j v hv)
theorem SlAt.keep {P:Nat→Prop} {w w' :World} {ao:Option Addr} {xs:List α} (h:SlAt r P w ao xs) (hk:0 < r.k) (hx:∀b,P b→b < w.heap.size→w'.heap[b]? =w.heap[b]?):SlAt r P w' ao xs:=by
 intro i hi
 obtain⟨b,off,cs,e,hp,hr,hR⟩:=h i hi
 exact⟨b,off,cs,e,hp,rangeAt_keep hr (hx b hp (rangeAt_lt hr (by rw [r.len hR];exact hk))),r.keep hR hx⟩
theorem SlAt.mono {P P' :Nat→Prop} {w:World} {ao:Option Addr} {xs:List α} (h:SlAt r P w ao xs) (hk:0 < r.k) (hx:∀b,P b→b < w.heap.size→P' b):SlAt r P' w ao xs:=by
 intro i hi
 obtain⟨b,off,cs,e,hp,hr,hR⟩:=h i hi
 exact⟨b,off,cs,e,hx b hp (rangeAt_lt hr (by rw [r.len hR];exact hk)),hr,r.mono hR hx⟩
theorem SlAt.nil (P:Nat→Prop) (w:World) (ao:Option Addr):SlAt r P w ao []:=fun i hi=>by cases hi
theorem SlAt.get {P:Nat→Prop} {w:World} {ao:Option Addr} {xs:List α} (h:SlAt r P w ao xs) (i:Nat) (hi:i < xs.length):∃b off cs x,ao=some ⟨b,off,none⟩∧P b∧w.rangeAt b (off+i * r.k) cs∧r.R P w cs x∧Hid (xs[i]? =some x):=by
 obtain⟨b,off,cs,e,hp,hr,hR⟩:=h i hi
 exact⟨b,off,cs,xs[i],e,hp,hr,hR,by show _=_;simp [hi]⟩
theorem Sl.at' {P:Nat→Prop} {w:World} {ao:Option Addr} {n cap:Nat} {xs:List α} (h:Sl r P w (.slice ao n cap) xs):SlAt r P w ao xs:=by
 obtain⟨ao',cap',e,h⟩:=h
 cases e;exact h
theorem Sl.keep {P:Nat→Prop} {w w' :World} {v:Value} {xs:List α} (h:Sl r P w v xs) (hk:0 < r.k) (hx:∀b,P b→b < w.heap.size→w'.heap[b]? =w.heap[b]?):Sl r P w' v xs:=by
 obtain⟨ao,cap,e,h⟩:=h
 exact⟨ao,cap,e,h.keep hk hx⟩
theorem Sl.mono {P P' :Nat→Prop} {w:World} {v:Value} {xs:List α} (h:Sl r P w v xs) (hk:0 < r.k) (hx:∀b,P b→b < w.heap.size→P' b):Sl r P' w v xs:=by
 obtain⟨ao,cap,e,h⟩:=h
 exact⟨ao,cap,e,h.mono hk hx⟩
theorem Sl.nil (P:Nat→Prop) (w:World):Sl r P w (.slice none 0 0) ([]:List α):=⟨none,0,rfl,SlAt.nil _ _ _⟩
theorem SlAt.take {P:Nat→Prop} {w:World} {ao:Option Addr} {xs:List α} (h:SlAt r P w ao xs) (n:Nat):SlAt r P w ao (xs.take n):=by
 intro i hi
 have hi' :i < xs.length:=by simp at hi;omega
 obtain⟨b,off,cs,e,hp,hr,hR⟩:=h i hi'
 exact⟨b,off,cs,e,hp,hr,by simpa using hR⟩
theorem SlAt.drop {P:Nat→Prop} {w:World} {b off:Nat} {xs:List α} (h:SlAt r P w (some ⟨b,off,none⟩) xs) (n:Nat):SlAt r P w (some ⟨b,off+n * r.k,none⟩) (xs.drop n):=by
 intro i hi
 have hi' :n+i < xs.length:=by simp at hi;omega
 obtain⟨b',off',cs,e,hp,hr,hR⟩:=h (n+i) hi'
 cases e
 exact⟨b,_,cs,rfl,hp,by rw [show off+n * r.k+i * r.k=off+ (n+i) * r.k by rw [Nat.add_mul];omega];exact hr,by simpa using hR⟩
def slRep (r:Rep α) (hk:0 < r.k):Rep (List α) where
 k:=1
 R:=fun P w cs xs=>∃v,cs=[v]∧Sl r P w v xs
 len:=fun⟨v,h,_⟩=>by subst h;rfl
 one:=fun⟨v,h,hs⟩=>by
  subst h;intro u hu;simp at hu;subst hu
  obtain⟨ao,cap,e,_⟩:=hs
  subst e;rfl
 keep:=fun⟨v,h,hs⟩ hx=>⟨v,h,hs.keep hk hx⟩
 mono:=fun⟨v,h,hs⟩ hx=>⟨v,h,hs.mono hk hx⟩
end
end
end Go.Proofs.YtflhidfclfkjlaaGreat
namespace Go.Proofs.YtflhidfclfkjlaaGreat
open Go.RowKit Go.Sort
theorem tape_setCells (g:Nat):∀(vs:List Value) (o:Nat) (w:World),(w.setCells g o vs).tape=w.tape
 | [],_,_=>rfl
 | v :: r,o,w=>by rw [World.setCells,tape_setCells g r];rfl
theorem ex_sortWorldK {α:Type} [Inhabited α] (enc:α→List Value) (k:Nat) (w:World) (g off n:Nat) (d:Array α) (os:Array Obj):Ex w.heap.size (some g) w (sortWorldK enc k w g off n d os):=by
 unfold sortWorldK
 refine⟨rfl,rfl,rfl,?_,fun i hi hne=>?_⟩
 · rw [size_grow]
   unfold putRowK putRow mapBlock Go.Sort.ahead
   simp
 · rw [heap_grow_old _ _ (by unfold putRowK putRow mapBlock Go.Sort.ahead;simpa using hi)]
   unfold putRowK putRow mapBlock Go.Sort.ahead
   simp only [Array.getElem?_modify]
   rw [if_neg (by intro e;exact hne (by rw [e]))]
theorem holdsK_range {α:Type} [Inhabited α] {enc:α→List Value} {k:Nat} {w:World} {g off:Nat} {d:Array α} (hk:∀x,(enc x).length=k) (h:HoldsK enc k w g off d) (i:Nat) (hi:i < d.size):w.rangeAt g (off+i * k) (enc d[i]!):=by
 intro j v hv
 have hj:j < k:=by rw [←hk d[i]!];exact(List.getElem?_eq_some_iff.1 hv).1
 have:=(h.cell hi hj).1
 rw [this,getElem!_def,hv]
theorem holdsK_of {α:Type} [Inhabited α] {enc:α→List Value} {k:Nat} {w:World} {g off:Nat} {d:Array α} (h:∀i c,i < d.size→c < k→w.cell? ⟨g,off+i * k+c,none⟩=some (enc d[i]!)[c]!∧w.frozen? ⟨g,off+i * k+c,none⟩=false):HoldsK enc k w g off d:=fun t ht=>by
 have ht' :t < d.size * k:=by simpa using ht
 have k0:0 < k:=by
  rcases Nat.eq_zero_or_pos k with h0 | h0
  · subst h0;simp at ht'
  · exact h0
 have e:t / k * k+t % k=t:=Nat.div_add_mod' t k
 have:=h (t / k) (t % k) (Nat.div_lt_of_lt_mul (by rw [Nat.mul_comm];exact ht')) (Nat.mod_lt _ k0)
 rw [Nat.add_assoc,e] at this
 rw [get_flatK _ _ _ t ht']
 exact this
theorem ex_setCells (w:World) (g o:Nat) (vs:List Value):Ex w.heap.size (some g) w (w.setCells g o vs):=by
 have h:=World.keptBut_setCells g (may:=fun _=>True) vs o w (fun _ _=>trivial)
 refine⟨World.os_setCells w g o vs,tape_setCells g vs o w,World.output_setCells w g o vs,by rw [size_setCells];exact Nat.le_refl _,fun k hk hne=>World.heap_setCells_other w g o vs hk (fun e=>hne (by rw [e]))⟩
theorem holdsK_first {α:Type} [Inhabited α] {enc:α→List Value} {k:Nat} {w:World} {g off:Nat} {d d' :Array α} (h:HoldsK enc k w g off d) (hs:d'.size≤d.size) (he:∀t,t < d'.size→d'[t]! =d[t]!):HoldsK enc k w g off d' :=
 holdsK_of fun i c hi hc=>by rw [he i hi];exact HoldsK.cell h (by omega) hc
theorem holdsK_set {α:Type} [Inhabited α] {enc:α→List Value} {k:Nat} (hk:∀x,(enc x).length=k) {w:World} {g off:Nat} {d:Array α} (h:HoldsK enc k w g off d) (i:Nat) (x:α) (hi:i < d.size):HoldsK enc k (w.setCells g (off+i * k) (enc x)) g off (d.setIfInBounds i x) :=
 holdsK_of fun j c hj hc=>by
  have hj' :j < d.size:=by simpa using hj
  rw [World.frozen?_setCells]
  refine⟨?_,(HoldsK.cell h hj' hc).2⟩
  by_cases e:j=i
  · subst e
    rw [World.cell?_setCells_in g (enc x) (off+j * k) w (fun c hc=>by rw [hk] at hc;rw [(HoldsK.cell h hj' hc).1];rfl) c (by rw [hk];exact hc)]
    rw [getElem!_pos (d.setIfInBounds j x) j hj,Array.getElem_setIfInBounds,if_pos rfl,getElem!_pos (enc x) c (by rw [hk];exact hc)]
    exact hj'
  · rw [World.cell?_setCells_out g (enc x) (off+i * k) w _ (fun _ _=>by
     rw [hk]
     show off+j * k+c < off+i * k∨off+i * k+k≤off+j * k+c
     rcases Nat.lt_or_gt_of_ne e with h' | h'
     · have:=Nat.mul_le_mul_right k (show j+1≤i by omega);rw [Nat.add_mul,Nat.one_mul] at this;omega
     · have:=Nat.mul_le_mul_right k (show i+1≤j by omega);rw [Nat.add_mul,Nat.one_mul] at this;omega),(HoldsK.cell h hj' hc).1]
    rw [getElem!_pos (d.setIfInBounds i x) j hj,Array.getElem_setIfInBounds,if_neg (Ne.symm e),getElem!_pos d j hj']
theorem holdsK_behind {α:Type} [Inhabited α] {enc:α→List Value} {k:Nat} {w:World} {g off:Nat} {d:Array α} (h:HoldsK enc k w g off d) (s:Nat) (vs:List Value) (hs:d.size * k≤s):HoldsK enc k (w.setCells g (off+s) vs) g off d :=
 holdsK_of fun i c hi hc=>by
  rw [World.frozen?_setCells]
  refine⟨?_,(HoldsK.cell h hi hc).2⟩
  rw [World.cell?_setCells_out g vs (off+s) w _ (fun _ _=>Or.inl (by
   show off+i * k+c < off+s
   have:=Nat.mul_le_mul_right k (show i+1≤d.size from hi);rw [Nat.add_mul,Nat.one_mul] at this;omega)),(HoldsK.cell h hi hc).1]
section
variable {α:Type} [Inhabited α]
def flatL (enc:α→List Value) (xs:List α):List Value:=xs.flatMap enc
omit [Inhabited α] in
theorem flatL_len {enc:α→List Value} {k:Nat} (hk:∀x,(enc x).length=k) (xs:List α): (flatL enc xs).length=xs.length * k:=by
 induction xs with
 | nil=>simp [flatL]
 | cons x r ih=>simp only [flatL,List.flatMap_cons,List.length_append,hk,List.length_cons,Nat.add_mul,Nat.one_mul] at *;omega
omit [Inhabited α] in
theorem flatL_get {enc:α→List Value} {k:Nat} (hk:∀x,(enc x).length=k):∀(xs:List α) (i c:Nat) (h:i < xs.length),c < k→(flatL enc xs)[i * k+c]? = (enc xs[i])[c]?
 | [],i,c,h,_=>by simp at h
 | x :: r,0,c,h,hc=>by
   simp only [flatL,List.flatMap_cons,Nat.zero_mul,Nat.zero_add]
   rw [List.getElem?_append_left (by rw [hk];exact hc)];rfl
 | x :: r,i+1,c,h,hc=>by
   simp only [flatL,List.flatMap_cons]
   rw [List.getElem?_append_right (by rw [hk,Nat.add_mul,Nat.one_mul];omega),hk,show(i+1) * k+c - k=i * k+c by rw [Nat.add_mul,Nat.one_mul];omega]
   exact flatL_get hk r i c (by simpa using h) hc
omit [Inhabited α] in
theorem flatL_one {enc:α→List Value} (h1:∀x,∀v∈enc x,v.oneCell' =true) (xs:List α):∀v∈flatL enc xs,v.oneCell' =true:=fun v hv=>by
 simp only [flatL,List.mem_flatMap] at hv
 obtain⟨x,_,hv⟩:=hv
 exact h1 x v hv
theorem holdsK_flat {enc:α→List Value} {k:Nat} (hk:∀x,(enc x).length=k) {w:World} {g off:Nat} {xs:List α} (hc:∀j v,(flatL enc xs)[j]? =some v→w.cell? ⟨g,off+j,none⟩=some v) (hf:∀j,j < (flatL enc xs).length→w.frozen? ⟨g,off+j,none⟩=false):HoldsK enc k w g off xs.toArray :=
 holdsK_of fun i c hi hcc=>by
  have hi' :i < xs.length:=by simpa using hi
  have e:=flatL_get hk xs i c hi' hcc
  have hlen:c < (enc xs[i]).length:=by rw [hk];exact hcc
  rw [List.getElem?_eq_getElem hlen] at e
  have hb:i * k+c < (flatL enc xs).length:=(List.getElem?_eq_some_iff.1 e).1
  rw [Nat.add_assoc]
  refine⟨?_,hf _ hb⟩
  rw [hc _ _ e,getElem!_pos xs.toArray i (by simpa using hi'),List.getElem_toArray,getElem!_pos (enc xs[i]) c hlen]
theorem own_there {w:World} {base e size n cap:Nat} {xs:List Value} {g o:Nat} (h:w.ownsRow base e size (.slice (some ⟨g,o,none⟩) n cap) n xs):o=0∧base≤g∧g < w.heap.size∧n≤cap∧(∀(j:Nat) (v:Value),xs[j]? =some v→w.cell? ⟨g,j,none⟩=some v)∧∀j,w.frozen? ⟨g,j,none⟩=false:=by
 rcases h.2 with⟨h1,h2⟩ | ⟨g',cap',cur,hv,hg,hh,hn,hcm,hcur,hpre⟩
 · cases h1
 · cases hv
   refine⟨rfl,hg,(Array.getElem?_eq_some_iff.1 hh).1,hn,fun j v hj=>?_,fun j=>by simp [World.frozen?,hh]⟩
   rw [←hpre] at hj
   have:cur.toList[j]? =some v:=by
    rw [List.getElem?_take] at hj
    split at hj
    · exact hj
    · cases hj
   simp only [World.cell?,hh]
   simpa using this
theorem own_holdsK {enc:α→List Value} {k:Nat} (hk:∀x,(enc x).length=k) {w:World} {base e n cap:Nat} {xs:List α} {g o:Nat} (h:w.ownsRow base e k (.slice (some ⟨g,o,none⟩) n cap) n (flatL enc xs)):HoldsK enc k w g 0 xs.toArray:=by
 obtain⟨_,_,_,_,h1,h2⟩:=own_there h
 exact holdsK_flat hk (fun j v hv=>by rw [Nat.zero_add];exact h1 j v hv) (fun j _=>by rw [Nat.zero_add];exact h2 j)
def OwnE (enc:α→List Value) (k:Nat) (e:TypeId) (w:World) (base:Nat) (ao:Option Addr) (cap:Nat) (xs:List α):Prop:=w.ownsRow base e k (.slice ao xs.length cap) xs.length (flatL enc xs)
omit [Inhabited α] in
theorem OwnE.nil (enc:α→List Value) (k:Nat) (e:TypeId) (w:World) (base:Nat):OwnE enc k e w base none 0 []:=World.ownsRow_nil w base e k
omit [Inhabited α] in
theorem OwnE.keep {enc:α→List Value} {k:Nat} {e:TypeId} {w w' :World} {base B:Nat} {p:Option Nat} {ao:Option Addr} {cap:Nat} {xs:List α} (h:OwnE enc k e w base ao cap xs) (hx:Ex B p w w') (hB:w.heap.size≤B) (hp:∀q,p=some q→q < base):OwnE enc k e w' base ao cap xs:=own_keep h hx hB hp
omit [Inhabited α] in
theorem OwnE.lt {enc:α→List Value} {k:Nat} {e:TypeId} {w:World} {base:Nat} {ao:Option Addr} {cap:Nat} {xs:List α} (h:OwnE enc k e w base ao cap xs):∀a,ao=some a→base≤a.block∧a.block < w.heap.size:=by
 intro a e;subst e;exact World.ownsRow.lt h _ rfl
omit [Inhabited α] in
theorem OwnE.cases {enc:α→List Value} {k:Nat} {e:TypeId} {w:World} {base:Nat} {ao:Option Addr} {cap:Nat} {xs:List α} (h:OwnE enc k e w base ao cap xs): (ao=none∧cap=0∧xs=[])∨∃g,ao=some ⟨g,0,none⟩∧base≤g∧g < w.heap.size∧xs.length≤cap:=by
 rcases h.2 with⟨h1,h2⟩ | ⟨g,cap',cur,hv,hg,hh,hn,_⟩
 · simp only [Value.slice.injEq] at h1
   obtain⟨rfl,_,rfl⟩:=h1
   exact Or.inl ⟨rfl,rfl,List.eq_nil_of_length_eq_zero h2⟩
 · cases hv;exact Or.inr ⟨g,rfl,hg,(Array.getElem?_eq_some_iff.1 hh).1,hn⟩
theorem OwnE.holds {enc:α→List Value} {k:Nat} (hk:∀x,(enc x).length=k) {e:TypeId} {w:World} {base g o cap:Nat} {xs:List α} (h:OwnE enc k e w base (some ⟨g,o,none⟩) cap xs):HoldsK enc k w g 0 xs.toArray:=own_holdsK hk h
omit [Inhabited α] in
theorem wpList_appE {P:Program} {w0 w:World} {ops:Array Oper} {rest:List Oper} {o:Oper} {a:Act} {Q:Exit→Act→World→Prop} (hgd:o.guard=none) (s x:Operand) (t e:TypeId)
 (ho:o.op=.call { callee:=.builtin .append,args:=#[s,x],argTypes:=#[t,t] })
 (ht:P.underlying t=some (.slice e)) (z:Value) (k bytes:Nat) (hinfo: (P.info? e).map (fun i=>(i.zero,i.size,i.bytes))=some (some z,k,bytes)) (hzc:z.cells.size=k) (hk0:0 < k) (hb:bytes≤1000)
 (enc:α→List Value) (hk:∀x,(enc x).length=k) (h1:∀x,∀v∈enc x,v.oneCell' =true)
 (base:Nat) (ao:Option Addr) (cap:Nat) (xs ys:List α) (v u:Value) (n:Nat) (hn:n=xs.length) (hv:v=.slice ao n cap) (hs:a.eval s=v) (so:Option Addr) (m sc:Nat) (hx:a.eval x=u) (hu:u=.slice so m sc) (hm:m=ys.length)
 (hsrc:ys.length=0∨∃ad,so=some ad∧∀(j:Nat) (v:Value),(flatL enc ys)[j]? =some v→w.cell? (ad.add j)=some v)
 (hown:OwnE enc k e w0 base ao cap xs) (hw:Ex w0.heap.size none w0 w) (hlen:xs.length+ys.length≤10000000) (hbase:base≤w0.heap.size)
 (h:∀ao' cap' w',OwnE enc k e w' base ao' cap' (xs ++ ys)→Ex base none w0 w'→wpList P ops Q rest (a.put o.dst (.slice ao' (xs.length+ys.length) cap')) w'):wpList P ops Q (o :: rest) a w:=by
 subst hn hm hu hv
 obtain⟨i0,hi,hz0,hz1,hz2⟩:=info_parts hinfo
 have hown' :OwnE enc k e w base ao cap xs:=hown.keep hw (Nat.le_refl _) (by simp)
 have hsz:=hw.size
 have key:∀so ad,so=some ad→a.eval x=.slice so ys.length sc→(∀(j:Nat) (v:Value),(flatL enc ys)[j]? =some v→w.cell? (ad.add j)=some v)→wpList P ops Q (o :: rest) a w:=fun so ad e1 hx hsrc=>by
  subst e1
  refine wpList_append_own _ hgd s x t ho base e i0 z k bytes ht hi hz0 hz1 hz2 hzc hk0 _ _ _ hs hown' ad ys.length sc (flatL enc ys) hx (flatL_len hk ys) hsrc (flatL_one h1 ys) (by simp only [maxLen];omega) ?_ (by omega) ?_
  · have:=Nat.mul_le_mul hlen hb;omega
  · intro v' w' ho' hg _
    obtain⟨ao',cap',rfl⟩:=own_shape ho'
    refine h ao' cap' w' ?_ ((hw.mono hbase).grown hg (by omega) ?_)
    · unfold OwnE
      have e1:flatL enc (xs ++ ys)=flatL enc xs ++ flatL enc ys:=by simp [flatL]
      rw [e1,List.length_append];exact ho'
    · intro q hq
      exact(World.ownsRow.lt hown' q hq).1
 rcases hsrc with h0 | ⟨ad,e1,hc⟩
 · have hy:ys=[]:=List.eq_nil_of_length_eq_zero h0
   cases so with
   | some ad=>exact key _ ad rfl hx (fun j v hv=>by subst hy;simp [flatL] at hv)
   | none=>
     subst hy
     refine wpList_plain hgd fun K hK=>?_
     have hrun:=run_append_none (P:=P) (w:=w) base t o.type e i0 k ht hi _ _ sc _ hown'
     unfold Oper.wp
     simp only [List.length_nil] at hx
     simp [execOp,ho,resolve,invoke,builtin,hs,hx,hrun,Result.andThen]
     exact hK _ _ (by simpa using h ao cap w (by simpa using hown') (hw.mono hbase))
 · exact key so ad e1 hx hc
omit [Inhabited α] in
theorem lit_cells {enc:α→List Value} {w:World} {x:α} {t:TypeId} {cs:Array Value} (h:cs.toList=enc x): ([x]:List α).length=0∨∃ad,some (⟨w.heap.size,0,none⟩:Addr)=some ad∧∀(j:Nat) (v:Value),(flatL enc [x])[j]? =some v→(w.alloc (.cells cs t)).cell? (ad.add j)=some v:=by
 refine Or.inr ⟨_,rfl,fun j v hv=>?_⟩
 rw [Addr.add_lit,Nat.zero_add,cell_of_row _ _ _ _ _ _ (heap_alloc_new w _)]
 simp only [flatL,List.flatMap_cons,List.flatMap_nil,List.append_nil] at hv
 rw [←h] at hv
 simpa using hv
end
end Go.Proofs.YtflhidfclfkjlaaGreat
namespace Go.Proofs.YtflhidfclfkjlaaGreat
open Go.RowKit
theorem Tryz.infoInt: (Tryz.prog.info? 3).map (fun i=>(i.zero,i.size,i.bytes))=some (some (.int .i64 0),1,8):=by kernel_rfl
end Go.Proofs.YtflhidfclfkjlaaGreat
namespace Go.Proofs.YtflhidfclfkjlaaGreat
open Go.RowKit Go.Sort
abbrev PinD:=Int×Int×ByteArray
def pinE (p:PinD):List Value:=[.int .i64 p.1,.int .i64 p.2.1,.string p.2.2]
theorem pinE_len (p:PinD): (pinE p).length=3:=rfl
theorem one_pinE:∀p,∀v∈pinE p,v.oneCell' =true:=fun p v hv=>by simp [pinE] at hv;rcases hv with rfl | rfl | rfl <;> rfl
def valRep {α:Type} (enc:α→List Value) (k:Nat) (hk:∀x,(enc x).length=k) (h1:∀x,∀v∈enc x,v.oneCell' =true):Rep α where
 k:=k
 R:=fun _ _ cs x=>cs=enc x
 len:=fun h=>by subst h;exact hk _
 one:=fun h=>by subst h;exact h1 _
 keep:=fun h _=>h
 mono:=fun h _=>h
def pinRep:Rep PinD:=valRep pinE 3 pinE_len one_pinE
structure St where
 author:Int
 number:Int
 prev:ByteArray
 time:Int
 kind:Int
 a:Int
 b:Int
 c:Int
 list:List Int
 pins:List PinD
 body:ByteArray
 key:Int
 dig:ByteArray
instance:Inhabited St:=⟨⟨0,0,⟨#[]⟩,0,0,0,0,0,[],[],⟨#[]⟩,0,⟨#[]⟩⟩⟩
def sameS (s t:St):Bool :=
 decide (s.author=t.author) && decide (s.number=t.number) && decide (s.prev=t.prev) && decide (s.time=t.time) && decide (s.kind=t.kind) && decide (s.a=t.a) && decide (s.b=t.b) && decide (s.c=t.c) &&
 decide (s.list=t.list) && decide (s.pins=t.pins) && decide (s.body=t.body) && (decide (s.key=t.key) && decide (s.dig=t.dig))
theorem sameS_iff {s t:St}:sameS s t=true ↔ s=t:=by
 constructor
 · intro h
   simp only [sameS,Bool.and_eq_true,decide_eq_true_eq] at h
   obtain⟨⟨⟨⟨⟨⟨⟨⟨⟨⟨⟨h1,h2⟩,h3⟩,h4⟩,h5⟩,h6⟩,h7⟩,h8⟩,h9⟩,h10⟩,h11⟩,h12,h13⟩:=h
   obtain⟨_,_,_,_,_,_,_,_,_,_,_,_,_⟩:=s
   simp only at h1 h2 h3 h4 h5 h6 h7 h8 h9 h10 h11 h12 h13
   subst h1 h2 h3 h4 h5 h6 h7 h8 h9 h10 h11 h12 h13
   rfl
 · rintro rfl
   simp [sameS]
structure Sv where
 ao:Option Addr
 n:Nat
 c:Nat
instance:Inhabited Sv:=⟨⟨none,0,0⟩⟩
def Sv.v (x:Sv):Value:=.slice x.ao x.n x.c
def stE (x:St×Sv×Sv):List Value :=
 [.int .i64 x.1.author,.int .i64 x.1.number,.string x.1.prev,.int .i64 x.1.time,.int .i64 x.1.kind,.int .i64 x.1.a,.int .i64 x.1.b,.int .i64 x.1.c,x.2.1.v,x.2.2.v,.string x.1.body,.int .i64 x.1.key,.string x.1.dig]
theorem stE_len (x:St×Sv×Sv): (stE x).length=13:=rfl
theorem one_stE:∀x,∀v∈stE x,v.oneCell' =true:=fun x v hv=>by
 simp only [stE,List.mem_cons,List.not_mem_nil,or_false] at hv
 rcases hv with rfl | rfl | rfl | rfl | rfl | rfl | rfl | rfl | rfl | rfl | rfl | rfl | rfl <;> rfl
def Lies (P:Nat→Prop) (w:World) (x:St×Sv×Sv):Prop:=Sl intRep P w x.2.1.v x.1.list∧Sl pinRep P w x.2.2.v x.1.pins
theorem Lies.keep {P:Nat→Prop} {w w' :World} {x:St×Sv×Sv} (h:Lies P w x) (hx:∀b,P b→b < w.heap.size→w'.heap[b]? =w.heap[b]?):Lies P w' x:=⟨h.1.keep (by decide) hx,h.2.keep (by decide) hx⟩
theorem Lies.mono {P P' :Nat→Prop} {w:World} {x:St×Sv×Sv} (h:Lies P w x) (hx:∀b,P b→b < w.heap.size→P' b):Lies P' w x:=⟨h.1.mono (by decide) hx,h.2.mono (by decide) hx⟩
def stRep:Rep St where
 k:=13
 R:=fun P w cs s=>∃l p,cs=stE (s,l,p)∧Lies P w (s,l,p)
 len:=fun⟨l,p,h,_⟩=>by subst h;exact stE_len _
 one:=fun⟨l,p,h,_⟩=>by subst h;exact one_stE _
 keep:=fun⟨l,p,h,hs⟩ hx=>⟨l,p,h,hs.keep hx⟩
 mono:=fun⟨l,p,h,hs⟩ hx=>⟨l,p,h,hs.mono hx⟩
theorem sl_ints {P:Nat→Prop} {w:World} {v:Value} {xs:List Int} (h:Sl intRep P w v xs):Ints w v xs:=by
 obtain⟨ao,cap,rfl,h⟩:=h
 refine⟨ao,cap,rfl,fun j hj=>?_⟩
 obtain⟨b,off,cs,e,hp,hr,hR⟩:=h 0 (by omega)
 refine⟨b,off,e,fun i hi=>?_⟩
 obtain⟨b',off',cs',e',hp',hr',hR'⟩:=h i hi
 rw [e] at e';cases e'
 have:=hr' 0 (.int .i64 xs[i]) (by rw [show cs' =_ from hR'];rfl)
 rw [show off+i=off+i * intRep.k+0 by simp [intRep]]
 rw [this];simp [List.getD,hi]
theorem ints_sl {P:Nat→Prop} {w:World} {v:Value} {xs:List Int} (h:Ints w v xs) (hP:∀ao n c,v=.slice ao n c→xs≠[]→∀a,ao=some a→P a.block):Sl intRep P w v xs:=by
 obtain⟨ao,cap,rfl,h⟩:=h
 refine⟨ao,cap,rfl,fun i hi=>?_⟩
 obtain⟨b,off,e,hc⟩:=h i hi
 refine⟨b,off,[.int .i64 xs[i]],e,hP _ _ _ rfl (by intro h0;subst h0;simp at hi) _ e,fun j v hv=>?_,rfl⟩
 match j,hv with
 | 0,hv=>
   simp at hv;subst hv
   have:=hc i hi
   rw [show off+i * intRep.k+0=off+i by simp [intRep]]
   rw [this];simp [List.getD,hi]
 | j+1,hv=>simp at hv
theorem val_cells {α:Type} {enc:α→List Value} {k:Nat} {hk:∀x,(enc x).length=k} {h1:∀x,∀v∈enc x,v.oneCell' =true} (hk0:0 < k) {P:Nat→Prop} {w:World} {ao:Option Addr} {xs:List α} (h:SlAt (valRep enc k hk h1) P w ao xs):xs.length=0∨∃ad,ao=some ad∧∀(j:Nat) (v:Value),(flatL enc xs)[j]? =some v→w.cell? (ad.add j)=some v:=by
 rcases Nat.eq_zero_or_pos xs.length with h0 | h0
 · exact Or.inl h0
 · obtain⟨b,off,_,e,_,_,_⟩:=h 0 h0
   refine Or.inr ⟨_,e,fun j v hv=>?_⟩
   have hl:=flatL_len hk xs
   have hj:=(List.getElem?_eq_some_iff.1 hv).1
   have hi:j / k < xs.length:=Nat.div_lt_of_lt_mul (by rw [Nat.mul_comm];omega)
   obtain⟨b',off',cs,e',_,hr,hR⟩:=h (j / k) hi
   rw [e] at e';cases e'
   have hm:j / k * k+j % k=j:=Nat.div_add_mod' j k
   have hg:=flatL_get hk xs (j / k) (j % k) hi (Nat.mod_lt _ hk0)
   rw [hm,hv] at hg
   have hcs:cs=enc xs[j / k]:=hR
   have:=hr (j % k) v (by rw [hcs];exact hg.symm)
   rw [Addr.add_lit,←hm,←Nat.add_assoc]
   exact this
theorem val_sl {α:Type} [Inhabited α] {enc:α→List Value} {k:Nat} {hk:∀x,(enc x).length=k} {h1:∀x,∀v∈enc x,v.oneCell' =true} {P:Nat→Prop} {w:World} {g:Nat} {xs:List α} (hP:P g) (h:HoldsK enc k w g 0 xs.toArray):SlAt (valRep enc k hk h1) P w (some ⟨g,0,none⟩) xs:=fun i hi=>by
 refine⟨g,0,enc xs[i],rfl,hP,?_,rfl⟩
 have:=holdsK_range hk h i (by simpa using hi)
 rwa [getElem!_pos xs.toArray i hi,List.getElem_toArray] at this
theorem st_sl {P:Nat→Prop} {w:World} {g:Nat} {xs:List (St×Sv×Sv)} (hP:P g) (h:HoldsK stE 13 w g 0 xs.toArray) (hl:∀x∈xs,Lies P w x):SlAt stRep P w (some ⟨g,0,none⟩) (xs.map (·.1)):=fun i hi=>by
 have hi' :i < xs.length:=by simpa using hi
 refine⟨g,0,stE xs[i],rfl,hP,?_,xs[i].2.1,xs[i].2.2,by simp,by simpa using hl _ (List.getElem_mem hi')⟩
 have:=holdsK_range stE_len h i (by simpa using hi')
 rwa [getElem!_pos xs.toArray i hi',List.getElem_toArray] at this
end Go.Proofs.YtflhidfclfkjlaaGreat
namespace Go.Proofs.YtflhidfclfkjlaaGreat
def hasI (xs:List Int) (x:Int):Bool:=xs.contains x
theorem hasI_iff {xs:List Int} {x:Int}:hasI xs x=true ↔ x∈xs:=by simp [hasI]
theorem hasI_snoc (xs:List Int) (y x:Int):hasI (xs ++ [y]) x= (hasI xs x || y == x):=by
 unfold hasI;rw [Bool.eq_iff_iff];simp [List.mem_append,Bool.or_eq_true,@eq_comm _ x y]
theorem hasI_get {xs:List Int} {x:Int} {k:Nat} (hk:k < xs.length) (h:xs.getD k 0=x):hasI xs x=true:=by
 rw [hasI_iff];subst h;simp [List.getD,hk]
theorem take_snoc (xs:List Int) (k:Nat) (h:k < xs.length):xs.take (k+1)=xs.take k ++ [xs.getD k 0]:=by
 rw [List.take_add_one,List.getElem?_eq_getElem h];simp [List.getD,h]
theorem hasI_take_succ {xs:List Int} {x:Int} {k:Nat} (hk:k < xs.length) (h:hasI (xs.take k) x=false) (hne:xs.getD k 0≠x):hasI (xs.take (k+1)) x=false:=by
 rw [take_snoc xs k hk,hasI_snoc,h];simpa using hne
def keysTo (c:Int→Bool):Nat→List Int
 | 0=>[]
 | k+1=>keysTo c k ++ (if c k then [(k:Int)] else [])
theorem keysTo_le (c:Int→Bool) (k:Nat): (keysTo c k).length≤k:=by
 induction k with
 | zero=>simp [keysTo]
 | succ k ih=>simp only [keysTo,List.length_append];split <;> simp <;> omega
def joinI (a b:List Int):List Int:=keysTo (fun k=>hasI a k || hasI b k) 64
def minusI (a b:List Int):List Int:=keysTo (fun k=>hasI a k && !hasI b k) 64
def modI (n m:Int):Int:=if m < 1 then 0 else n % m
theorem modI_pos {n m:Int} (h:1≤m):modI n m=n % m:=by unfold modI;rw [if_neg (by omega)]
theorem modI_bd {n m:Int} (h:1≤m):0≤modI n m∧modI n m < m:=by
 rw [modI_pos h];exact⟨Int.emod_nonneg _ (by omega),Int.emod_lt_of_pos _ (by omega)⟩
def dVal (d:List Int) (n:Int):Int:=match d with | []=>0 | x :: _=>modI x n
theorem dVal_bd {d:List Int} {n:Int} (h:1≤n):0≤dVal d n∧dVal d n < n:=by
 cases d with
 | nil=>simp [dVal];omega
 | cons x r=>exact modI_bd h
def someTo (d:List Int):Nat→List Int×List Int
 | 0=>([],d)
 | k+1=>((someTo d k).1 ++ (if dVal (someTo d k).2 3=0 then [(k:Int)] else []),(someTo d k).2.tail)
theorem someTo_le (d:List Int) (k:Nat): (someTo d k).1.length≤k:=by
 induction k with
 | zero=>simp [someTo]
 | succ k ih=>simp only [someTo,List.length_append];split <;> simp <;> omega
def keysD (d:List Int) (n:Int):List Int×List Int :=
 if (someTo d n.toNat).1=[] then([dVal (someTo d n.toNat).2 n],(someTo d n.toNat).2.tail) else someTo d n.toNat
def newcTo (xs old:List Int) (q:Int):Nat→List Int
 | 0=>[]
 | k+1=>if ((newcTo xs old q k).length:Int) < q∧hasI old (xs.getD k 0)=false∧hasI (newcTo xs old q k) (xs.getD k 0)=false then newcTo xs old q k ++ [xs.getD k 0] else newcTo xs old q k
def newc (xs old:List Int) (q:Int):List Int:=newcTo xs old q xs.length
def fitsI (old next:List Int) (q:Int):Bool:=decide (((newc next old next.length).length:Int)≤q)
def thereTo (g ks:List Int):Nat→Nat
 | 0=>0
 | k+1=>thereTo g ks k+ (if hasI g (ks.getD k 0) then 1 else 0)
def mostI (g ks:List Int) (e q:Int):Int:=min (ks.length:Int) (thereTo g ks ks.length+e * q)
end Go.Proofs.YtflhidfclfkjlaaGreat
namespace Go.Proofs.YtflhidfclfkjlaaGreat
open Go.RowKit Go.Sort
theorem same_take3 {xs ys:List Int} {k:Nat} (h:xs.take k=ys.take k) (h1:k < xs.length) (h2:k < ys.length) (he:xs.getD k 0=ys.getD k 0):xs.take (k+1)=ys.take (k+1):=by
 rw [take_snoc xs k h1,take_snoc ys k h2,h,he]
theorem same_takeG {α:Type} {xs ys:List α} {k:Nat} {x y:α} (h:xs.take k=ys.take k) (h1:xs[k]? =some x) (h2:ys[k]? =some y) (he:x=y):xs.take (k+1)=ys.take (k+1):=by
 rw [List.take_add_one,List.take_add_one,h,h1,h2,he]
set_option maxHeartbeats 400000 in
theorem same03Ints_any (v1 v2:Value) (xs ys:List Int) (w:World) (hv1:Ints w v1 xs) (hv2:Ints w v2 ys) (hm:xs.length≤9223372036854775807) :
 Calls Tryz.prog 136 #[v1,v2] w fun e w'=>e=.returned (.bool (decide (xs=ys)))∧Ex w.heap.size none w w':=by
 obtain⟨ao,cap,rfl,hx⟩:=hv1
 obtain⟨bo,cbp,rfl,hy⟩:=hv2
 by_cases hl:xs.length=ys.length
 · have hl1: ((xs.length:Int) != ys.length)=false:=by simp [hl]
   have HL:=Lib.hid hl
   go_enter Tryz.func136,Tryz.ntmps136
   clear hl
   go_wp2
   clear hl1
   go_loopw [5] (fun i wr=>∃k:Nat,k≤xs.length∧i=.int .i64 k∧xs.take k=ys.take k∧∃n,w.drewN n=wr) (fun i _=>xs.length - (intOf i).toNat)
   case atStart=>exact⟨0,Nat.zero_le _,rfl,by simp,0,rfl⟩
   case round=>
    obtain⟨k,hk,rfl,ht,n,rfl⟩:=hrel
    have HT:=Lib.hid ht
    clear ht
    by_cases hlt:k < xs.length
    · have hlt2:k < ys.length:=by have:=HL.out;omega
      obtain⟨b,off,y,rfl,hck,HY⟩:=hx.get k hlt
      obtain⟨b',off',z,rfl,hcz,HZ⟩:=hy.get k hlt2
      by_cases he:y=z
      · have hb: (y != z)=false:=by simpa using he
        have HR:=Lib.hid (same_take3 HT.out hlt hlt2 (by rw [HY.out,HZ.out,he]))
        clear he
        go_wp2
        go_quiet (fail)
        go_wp2
        go_roundw
        case rel=>exact⟨k+1,by omega,by go_num,HR.out,_,rfl⟩
        case measure=>simp [intOf];omega
      · have hb: (y != z)=true:=by simpa using he
        have HR:Hid (xs≠ys):=fun h=>he (by rw [←HY.out,←HZ.out,h])
        clear he
        go_wp2
        go_quiet (fail)
        go_wp2
        go_ret
        exact⟨ret_bool (by simp [HR.out]),by repeat(first | exact Ex.refl _ _ _ | refine Ex.drewN ?_)⟩
    · have HR:Hid (xs=ys):=by
       have h:=HT.out
       have:=HL.out
       rwa [List.take_of_length_le (by omega),List.take_of_length_le (by omega)] at h
      go_wp2
      go_ret
      exact⟨ret_bool (by simp [HR.out]),by repeat(first | exact Ex.refl _ _ _ | refine Ex.drewN ?_)⟩
 · have hl1: ((xs.length:Int) != ys.length)=true:=by simp;omega
   have HR:Hid (xs≠ys):=fun h=>hl (by rw [h])
   clear hl
   go_enter Tryz.func136,Tryz.ntmps136
   go_wp2
   go_ret
   exact⟨ret_bool (by simp [HR.out]),Ex.refl _ _ _⟩
theorem bytes_inj {a b:ByteArray}:a.toList=b.toList ↔ a=b:=by
 constructor
 · intro h
   rw [ByteArray.toList_eq,ByteArray.toList_eq] at h
   obtain⟨⟨x⟩⟩:=a
   obtain⟨⟨y⟩⟩:=b
   simp at h;subst h;rfl
 · rintro rfl;rfl
theorem pins_neq (y z:PinD):∀w,(binOp .neq 77 (.agg (pinE y).toArray) (.agg (pinE z).toArray)).run Tryz.prog w=.ok (.bool (!decide (y=z))) w:=fun w=>by
 obtain⟨y1,y2,y3⟩:=y
 obtain⟨z1,z2,z3⟩:=z
 simp [pinE,go_sem,bytes_inj]
 by_cases h1:y1=z1 <;> by_cases h2:y2=z2 <;> by_cases h3:y3=z3 <;> simp [h1,h2,h3]
set_option maxHeartbeats 400000 in
theorem same03Pins_any {P Q:Nat→Prop} (v1 v2:Value) (xs ys:List PinD) (w:World) (hv1:Sl pinRep P w v1 xs) (hv2:Sl pinRep Q w v2 ys) (hm:xs.length≤9223372036854775807) :
 Calls Tryz.prog 137 #[v1,v2] w fun e w'=>e=.returned (.bool (decide (xs=ys)))∧Ex w.heap.size none w w':=by
 obtain⟨ao,cap,rfl,hx⟩:=hv1
 obtain⟨bo,cbp,rfl,hy⟩:=hv2
 by_cases hl:xs.length=ys.length
 · have hl1: ((xs.length:Int) != ys.length)=false:=by simp [hl]
   have HL:=Lib.hid hl
   go_enter Tryz.func137,Tryz.ntmps137
   clear hl
   go_wp2
   clear hl1
   go_loopw [5] (fun i wr=>∃k:Nat,k≤xs.length∧i=.int .i64 k∧xs.take k=ys.take k∧∃n,w.drewN n=wr) (fun i _=>xs.length - (intOf i).toNat)
   case atStart=>exact⟨0,Nat.zero_le _,rfl,by simp,0,rfl⟩
   case round=>
    obtain⟨k,hk,rfl,ht,n,rfl⟩:=hrel
    have HT:=Lib.hid ht
    clear ht
    by_cases hlt:k < xs.length
    · have hlt2:k < ys.length:=by have:=HL.out;omega
      obtain⟨b,off,cs,y,rfl,_,hr,hR,HY⟩:=hx.get k hlt
      obtain⟨b',off',cs',z,rfl,_,hr',hR',HZ⟩:=hy.get k hlt2
      have c0:∀q,(w.drewN q).cell? ⟨b,off+k * 3,none⟩=some (.int .i64 y.1):=fun q=>hr 0 _ (by rw [show cs=_ from hR];rfl)
      have c1:∀q,(w.drewN q).cell? ⟨b,off+k * 3+1,none⟩=some (.int .i64 y.2.1):=fun q=>hr 1 _ (by rw [show cs=_ from hR];rfl)
      have c2:∀q,(w.drewN q).cell? ⟨b,off+k * 3+2,none⟩=some (.string y.2.2):=fun q=>hr 2 _ (by rw [show cs=_ from hR];rfl)
      have d0:∀q,(w.drewN q).cell? ⟨b',off' +k * 3,none⟩=some (.int .i64 z.1):=fun q=>hr' 0 _ (by rw [show cs' =_ from hR'];rfl)
      have d1:∀q,(w.drewN q).cell? ⟨b',off' +k * 3+1,none⟩=some (.int .i64 z.2.1):=fun q=>hr' 1 _ (by rw [show cs' =_ from hR'];rfl)
      have d2:∀q,(w.drewN q).cell? ⟨b',off' +k * 3+2,none⟩=some (.string z.2.2):=fun q=>hr' 2 _ (by rw [show cs' =_ from hR'];rfl)
      have hne:=pins_neq y z
      clear hr hR hr' hR'
      by_cases he:y=z
      · have HR:=Lib.hid (same_takeG HT.out HY.out HZ.out he)
        have hne' :∀w,(binOp .neq 77 (.agg #[.int .i64 y.1,.int .i64 y.2.1,.string y.2.2]) (.agg #[.int .i64 z.1,.int .i64 z.2.1,.string z.2.2])).run Tryz.prog w=.ok (.bool false) w:=fun w=>by
         have:=hne w;rw [decide_eq_true he] at this;exact this
        clear hne he
        go_wp2_with fail
        go_quiet (fail)
        go_wp2
        go_roundw
        case rel=>exact⟨k+1,by omega,by go_num,HR.out,_,rfl⟩
        case measure=>simp [intOf];omega
      · have HR:Hid (xs≠ys):=fun h=>he (by have:=HY.out;rw [h,HZ.out] at this;cases this;rfl)
        have hne' :∀w,(binOp .neq 77 (.agg #[.int .i64 y.1,.int .i64 y.2.1,.string y.2.2]) (.agg #[.int .i64 z.1,.int .i64 z.2.1,.string z.2.2])).run Tryz.prog w=.ok (.bool true) w:=fun w=>by
         have:=hne w;rw [decide_eq_false he] at this;exact this
        clear hne he
        go_wp2_with fail
        go_quiet (fail)
        go_wp2
        go_ret
        exact⟨ret_bool (by simp [HR.out]),by repeat(first | exact Ex.refl _ _ _ | refine Ex.drewN ?_)⟩
    · have HR:Hid (xs=ys):=by
       have h:=HT.out
       have:=HL.out
       rwa [List.take_of_length_le (by omega),List.take_of_length_le (by omega)] at h
      go_wp2
      go_ret
      exact⟨ret_bool (by simp [HR.out]),by repeat(first | exact Ex.refl _ _ _ | refine Ex.drewN ?_)⟩
 · have hl1: ((xs.length:Int) != ys.length)=true:=by simp;omega
   have HR:Hid (xs≠ys):=fun h=>hl (by rw [h])
   clear hl
   go_enter Tryz.func137,Tryz.ntmps137
   go_wp2
   go_ret
   exact⟨ret_bool (by simp [HR.out]),Ex.refl _ _ _⟩
theorem seal_eql (k l:Int) (d e:ByteArray):∀w,(binOp .eql 49 (.agg #[.int .i64 k,.string d]) (.agg #[.int .i64 l,.string e])).run Tryz.prog w=.ok (.bool (decide (k=l) && decide (d=e))) w:=fun w=>by
 simp [go_sem,bytes_inj]
 by_cases h1:k=l <;> by_cases h2:d=e <;> simp [h1,h2]
theorem bytes_beq {a b:ByteArray} (h:a=b): (a == b)=true∧(a.toList == b.toList)=true:=by
 subst h
 refine⟨?_,by simp⟩
 rw [beq_toListBytes];simp
theorem bytes_nbeq {a b:ByteArray} (h : ¬a=b): (a == b)=false∧(a.toList == b.toList)=false:=by
 have h2: (a.toList == b.toList)=false:=by
  rw [Bool.eq_false_iff];intro h'
  exact h (bytes_inj.1 (by simpa using h'))
 exact⟨by rw [beq_toListBytes];exact h2,h2⟩
theorem ex_two {w:World} (o1 o2:Obj):Ex w.heap.size none w ((w.alloc o1).alloc o2):=(Ex.new w o1).trans ((Ex.new _ o2).mono (by simp)) (Nat.le_refl _) (by simp)
structure ExW (w:World) where
 w' :World
 ex:Ex w.heap.size none w w'
instance (w:World):Inhabited (ExW w):=⟨⟨w,Ex.refl _ _ _⟩⟩
theorem wp_region_quiet_ex {P:Program} {id:Nat} {Q:Exit→Act→World→Prop} {a:Act} {w:World} {l:List Oper} (hm:P.follows .mixedOrders=true) (hB:Region.lexB .any l.toArray=true)
 (h:wpQuiet P l.toArray (fun v=>∃p:ExW w,v=p.w') (fun a'=>∀v,(∃p:ExW w,v=p.w')→Q .normal a' v) l a): (Code.region id l.toArray true).wp P Q a w :=
 wp_region_quiet (C:=fun v=>∃p:ExW w,v=p.w') hm hB ⟨⟨w.drew,(Ex.refl _ _ _).drew⟩,rfl⟩ (by simpa using h)
theorem calls_ex_of {P:Program} {f:FuncId} {args:Array Value} {w:World} {p:ExW w} {v:Value} (h:Calls P f args p.w' fun e w'=>e=.returned v∧Ex p.w'.heap.size none p.w' w'):Calls P f args p.w' fun e w''=>e=.returned v∧∃q:ExW w,w'' =q.w' :=
 h.mono fun _ _ ⟨he,hx⟩=>⟨he,⟨_,p.ex.trans hx p.ex.size (by simp)⟩,rfl⟩
theorem ExW.lies {P:Nat→Prop} {w:World} (p:ExW w) {x:St×Sv×Sv} (h:Lies P w x):Lies P p.w' x:=h.keep fun b _ hb=>p.ex.block b hb (by simp)
theorem st_at {w:World} {b o:Nat} {x:St×Sv×Sv} (h:w.rangeAt b o (stE x)) :
 w.cell? ⟨b,o,none⟩=some (.int .i64 x.1.author)∧w.cell? ⟨b,o+1,none⟩=some (.int .i64 x.1.number)∧w.cell? ⟨b,o+2,none⟩=some (.string x.1.prev)∧w.cell? ⟨b,o+3,none⟩=some (.int .i64 x.1.time)∧
 w.cell? ⟨b,o+4,none⟩=some (.int .i64 x.1.kind)∧w.cell? ⟨b,o+5,none⟩=some (.int .i64 x.1.a)∧w.cell? ⟨b,o+6,none⟩=some (.int .i64 x.1.b)∧w.cell? ⟨b,o+7,none⟩=some (.int .i64 x.1.c)∧
 w.cell? ⟨b,o+8,none⟩=some x.2.1.v∧w.cell? ⟨b,o+9,none⟩=some x.2.2.v∧w.cell? ⟨b,o+10,none⟩=some (.string x.1.body)∧w.cell? ⟨b,o+11,none⟩=some (.int .i64 x.1.key)∧w.cell? ⟨b,o+12,none⟩=some (.string x.1.dig) :=
 ⟨h 0 _ rfl,h 1 _ rfl,h 2 _ rfl,h 3 _ rfl,h 4 _ rfl,h 5 _ rfl,h 6 _ rfl,h 7 _ rfl,h 8 _ rfl,h 9 _ rfl,h 10 _ rfl,h 11 _ rfl,h 12 _ rfl⟩
theorem ExW.st_at {w:World} {b o:Nat} {x:St×Sv×Sv} (h:w.rangeAt b o (stE x)) (p:ExW w) :
 p.w'.cell? ⟨b,o,none⟩=some (.int .i64 x.1.author)∧p.w'.cell? ⟨b,o+1,none⟩=some (.int .i64 x.1.number)∧p.w'.cell? ⟨b,o+2,none⟩=some (.string x.1.prev)∧p.w'.cell? ⟨b,o+3,none⟩=some (.int .i64 x.1.time)∧
 p.w'.cell? ⟨b,o+4,none⟩=some (.int .i64 x.1.kind)∧p.w'.cell? ⟨b,o+5,none⟩=some (.int .i64 x.1.a)∧p.w'.cell? ⟨b,o+6,none⟩=some (.int .i64 x.1.b)∧p.w'.cell? ⟨b,o+7,none⟩=some (.int .i64 x.1.c)∧
 p.w'.cell? ⟨b,o+8,none⟩=some x.2.1.v∧p.w'.cell? ⟨b,o+9,none⟩=some x.2.2.v∧p.w'.cell? ⟨b,o+10,none⟩=some (.string x.1.body)∧p.w'.cell? ⟨b,o+11,none⟩=some (.int .i64 x.1.key)∧p.w'.cell? ⟨b,o+12,none⟩=some (.string x.1.dig) :=
 Go.Proofs.YtflhidfclfkjlaaGreat.st_at (rangeAt_keep h (p.ex.block b (rangeAt_lt h (by rw [stE_len];omega)) (by simp)))
theorem Tryz.infoPin: (Tryz.prog.info? 77).map (fun i=>(i.zero,i.size,i.bytes))=some (some (.agg #[.int .i64 0,.int .i64 0,.string ⟨#[]⟩]),3,32):=by kernel_rfl
theorem ex_two0 {w:World} (o1 o2:Obj):Ex w.heap.size none w ((w.alloc o1).alloc o2):=(Ex.new w o1).trans ((Ex.new _ o2).mono (by simp)) (Nat.le_refl _) (by simp)
theorem ex_two_trans {w w' :World} {o1 o2:Obj} (h:Ex ((w.alloc o1).alloc o2).heap.size none ((w.alloc o1).alloc o2) w'):Ex w.heap.size none w w':=(ex_two0 o1 o2).trans (h.mono (by simp <;> omega)) (Nat.le_refl _) (by simp)
theorem set_far {w:World} {b q o:Nat} {v:Value} {x:Option Obj} (h:b≠q) (e:w.heap[b]? =x): (w.setCell ⟨q,o,none⟩ v).heap[b]? =x:=(Below.heap_setCell _ _ _ _ (show b≠q from h)).trans e
theorem bcell {W w1:World} (hb:Below W.heap.size W w1): (∀b o,b < W.heap.size→w1.cell? ⟨b,o,none⟩=W.cell? ⟨b,o,none⟩)∧(∀b o,b < W.heap.size→w1.frozen? ⟨b,o,none⟩=W.frozen? ⟨b,o,none⟩) :=
 ⟨fun b o h=>hb.cell (p:=⟨b,o,none⟩) h,fun b o h=>hb.frozen (p:=⟨b,o,none⟩) h⟩
theorem own_ints_sl {w:World} {base:Nat} {ao:Option Addr} {cap:Nat} {xs:List Int} (h:OwnI w base ao cap xs):Sl intRep (fun b=>base≤b) w (.slice ao xs.length cap) xs :=
 ints_sl h.v (fun ao' n c e _ a ha=>by cases e;exact(h.lt a ha).1)
theorem own_val_sl {α:Type} [Inhabited α] {enc:α→List Value} {k:Nat} {hk:∀x,(enc x).length=k} {h1:∀x,∀v∈enc x,v.oneCell' =true} {w:World} {base:Nat} {e:TypeId} {ao:Option Addr} {cap:Nat} {xs:List α} (h:OwnE enc k e w base ao cap xs):Sl (valRep enc k hk h1) (fun b=>base≤b) w (.slice ao xs.length cap) xs:=by
 refine⟨ao,cap,rfl,?_⟩
 rcases h.cases with⟨_,_,h0⟩ | ⟨g,rfl,h2,_,_⟩
 · subst h0;exact SlAt.nil _ _ _
 · exact val_sl h2 (h.holds hk)
set_option maxHeartbeats 2000000 in
set_option maxRecDepth 100000 in
theorem copy03_any {P:Nat→Prop} (s:St) (lo po:Option Addr) (ln lc pn pc:Nat) (w:World) (hx1:Sl intRep P w (.slice lo ln lc) s.list) (hx2:Sl pinRep P w (.slice po pn pc) s.pins) (hm:s.list.length≤1000000) (hm2:s.pins.length≤1000000) :
 Calls Tryz.prog 52 #[.agg #[.int .i64 s.author,.int .i64 s.number,.string s.prev,.int .i64 s.time,.int .i64 s.kind,.int .i64 s.a,.int .i64 s.b,.int .i64 s.c,.slice lo ln lc,.slice po pn pc,.string s.body,.int .i64 s.key,.string s.dig]] w fun e w'=>
  ∃l p:Sv,e=.returned (.agg (stE (s,l,p)).toArray)∧Lies (fun b=>w.heap.size≤b) w' (s,l,p)∧Ex w.heap.size none w w':=by
 have HX1:=Lib.hid hx1
 have HX2:=Lib.hid hx2
 obtain⟨x0,c0,e0,r0⟩:=hx1
 obtain⟨x1,c1,e1,r1⟩:=hx2
 clear r0 r1
 simp only [Value.slice.injEq] at e0 e1
 obtain⟨rfl,rfl,rfl⟩:=e0
 obtain⟨rfl,rfl,rfl⟩:=e1
 go_enter Tryz.func52,Tryz.ntmps52
 go_wp2_with (first
  | (at_builtin;refine wpList_appIs rfl (.const (.slice none 0 0)) (.tmp 4) _ rfl Tryz.underlying22 Tryz.infoInt _ none 0 [] s.list (.slice none 0 0) _ 0 rfl rfl (by rfl) (by rfl) (sl_ints (HX1.out.keep (by decide) (fun b _ hb=>(ex_two0 _ _).block b hb (by simp)))) (OwnI.nil _ _) (Ex.refl _ _ _) (by simp;omega) (Nat.le_refl _) ?_;intro la lcap w1 hown1 hex1;obtain⟨hc1,hf1⟩:=bcell hex1.below;have hz1:=hex1.size;simp at hz1;have hy1:w.heap.size < w1.heap.size:=(by omega);have hx1:w.heap.size+1 < w1.heap.size:=(by omega);have HE1:Hid (Ex w.heap.size none w w1):=ex_two_trans hex1;have HO1:=Lib.hid hown1;clear hown1 hex1)
  | (at_builtin
     have _tt:=HE1
     refine wpList_appE rfl (.const (.slice none 0 0)) (.tmp 8) _ 77 rfl Tryz.underlying33 (.agg #[.int .i64 0,.int .i64 0,.string ⟨#[]⟩]) 3 32 Tryz.infoPin rfl (by decide) (by decide) pinE pinE_len one_pinE _ none 0 [] s.pins (.slice none 0 0) _ 0 rfl rfl (by rfl) po s.pins.length pc (by rfl) rfl rfl (val_cells (hk:=pinE_len) (h1:=one_pinE) (by decide) (HX2.out.keep (by decide) (fun b _ hb=>(HE1.out.setCell 8 none _ (Or.inr (Nat.le_refl _))).block b hb (by simp))).at') (OwnE.nil _ _ _ _ _) (Ex.refl _ _ _) (by simp;omega) (Nat.le_refl _) ?_
     intro pa pcap w2 hown2 hex2
     obtain⟨hc2,hf2⟩:=bcell hex2.below
     have hz2:=hex2.size
     simp at hz2
     have hy2:w.heap.size < w2.heap.size:=(by omega)
     have hx2:w.heap.size+1 < w2.heap.size:=(by omega)
     have HE2:Hid (Ex w.heap.size none w w2):=((HE1.out.setCell (q:=w.heap.size) 8 none (.slice la s.list.length lcap) (Or.inr (Nat.le_refl _))).trans (hex2.mono (by simp <;> omega)) (Nat.le_refl _) (by simp))
     have HO2:=Lib.hid hown2
     have HX12:=Lib.hid hex2
     clear hown2 hex2
     have q8:w2.cell? ⟨w.heap.size,8,none⟩=some (.slice la s.list.length lcap):=(hc2 w.heap.size 8 (by simpa using hy1)).trans (World.cell?_setCell_same _ _ _ (show w1.cell? ⟨w.heap.size,8,none⟩=some (.slice lo s.list.length lc) from(hc1 w.heap.size 8 (by simp <;> omega)).trans (by go_simp)))
     have qs:=fun(o:Nat) (h:o≠8)=>((hc2 w.heap.size o (by simpa using hy1)).trans (World.cell?_setCell_other _ _ _ _ (by simp <;> omega))).trans (hc1 w.heap.size o (by simp <;> omega))
     have qr:=fun(o:Nat)=>((hc2 (w.heap.size+1) o (by simpa using hx1)).trans (World.cell?_setCell_other _ _ _ _ (by simp))).trans (hc1 (w.heap.size+1) o (by simp <;> omega))
     clear hc1 hc2))
 refine bodyPost_ret (v:=.agg #[.int .i64 s.author,.int .i64 s.number,.string s.prev,.int .i64 s.time,.int .i64 s.kind,.int .i64 s.a,.int .i64 s.b,.int .i64 s.c,.slice la s.list.length lcap,.slice pa s.pins.length pcap,.string s.body,.int .i64 s.key,.string s.dig]) (by simp [results,Tryz.results52,go_sem,qr]) rfl ?_
 have hO1:OwnI w2 (w.heap.size+2) la lcap s.list:=by
  have h1:=HO1.out
  have h2:Ex w1.heap.size (some w.heap.size) w1 w2:=((Ex.refl w1.heap.size (some w.heap.size) w1).setCell (q:=w.heap.size) 8 none (.slice la s.list.length lcap) (Or.inl rfl)).trans HX12.out (by simp) (by simp)
  have h3:=h1.keep h2 (Nat.le_refl _) (fun q e=>by cases e;simp <;> omega)
  simpa using h3
 have hO2:OwnE pinE 3 77 w2 (w.heap.size+2) pa pcap s.pins:=by
  have h1:=HO2.out
  refine⟨by simpa using h1.1,?_⟩
  rcases h1.2 with h | ⟨g,cap,cur,h3,h4,h5⟩
  · exact Or.inl (by simpa using h)
  · exact Or.inr ⟨g,cap,cur,by simpa using h3,by simp at h4;omega,by simpa using h5⟩
 refine⟨⟨la,s.list.length,lcap⟩,⟨pa,s.pins.length,pcap⟩,rfl,?_,?_⟩
 · refine Lies.mono (P:=fun b=>w.heap.size+2≤b) (Lies.keep (w:=w2) ⟨own_ints_sl hO1,own_val_sl hO2⟩ fun b hb _=>?_) (fun b hb _=>by omega)
   iterate 14 refine set_far (by omega) ?_
   rfl
 · iterate 14 refine Ex.setCell ?_ _ none _ (Or.inr (by omega))
   exact HE2.out
end Go.Proofs.YtflhidfclfkjlaaGreat
namespace Go.Proofs.YtflhidfclfkjlaaGreat
open Go.RowKit
def rowStore (t:TypeId) (a:Addr) (v:Value):Sem Unit:=storeVar t a v
theorem run_rowStore {P:Program} (w:World) (g:Nat) (t ty:TypeId) (old cells:Array Value) (hg:w.heap[g]? =some (.cells old t (0,0))) (hi: (P.info? ty).map (·.size)=some cells.size)
 (ho:old.size=cells.size) (h1:cells.all (·.oneCell')=true): (rowStore ty ⟨g,0,none⟩ (.agg cells)).run P w=.ok () (w.setRow g cells):=run_storeVar_row w g t ty old cells hg hi ho h1
def rowLoad (t:TypeId) (a:Addr):Sem Value:=loadVar t a
theorem run_rowLoad {P:Program} (w:World) (g:Nat) (t ty:TypeId) (cs:Array Value) (fr:Nat×Nat) (d:TypeDesc) (hg:w.heap[g]? =some (.cells cs t fr))
 (hu:P.underlying ty=some d) (hd: (match d with | .struct _ | .array _ _=>true | _=>false)=true) (hi: (P.info? ty).map (·.size)=some cs.size) :
 (rowLoad ty ⟨g,0,none⟩).run P w=.ok (.agg cs) w:=run_loadVar_row w g t ty cs fr d hg hu hd hi
def rowBuild (t:TypeId) (n:Nat) (ps:Array (Nat×Value)):Sem Value:=Instr.buildSlice t n ps
theorem fill_one (n:Nat) (zs cs:Array Value) (hz:zs.size=n) (hc:cs.size=n) (hp:0 < n):Instr.fill (fun i=>some (i * n,n)) zs [(0,.agg cs)]=some cs:=by
 obtain⟨r,h1,h2,h3⟩:=Great.fill_dense hp [.agg cs] 0 zs (by intro v hv;simp only [List.mem_singleton] at hv;subst hv;exact hc) (by simp;omega)
 have e:r=cs:=by
  apply Array.ext_getElem?
  intro k
  rw [h3 k]
  by_cases hk:k < n
  · rw [if_pos (by simp;exact hk)]
    simp [Nat.div_eq_of_lt hk,Nat.mod_eq_of_lt hk,Value.cells]
  · rw [if_neg (by simp;omega),Array.getElem?_eq_none (by omega),Array.getElem?_eq_none (by omega)]
 rw [e] at h1
 exact h1
theorem run_rowBuild {P:Program} (w:World) (t e:TypeId) (cs:Array Value) (n bytes:Nat) (z:Value) (hu:P.underlying t=some (.slice e)) (hi: (P.info? e).map (fun i=>(i.zero,i.size,i.bytes))=some (some z,n,bytes))
 (hn:0 < n) (hb:n≤1000) (hc:cs.size=n): (rowBuild t 1 #[(0,.agg cs)]).run P w=.ok (.slice (some ⟨w.heap.size,0,none⟩) 1 1) (w.alloc (.cells cs e)):=by
 cases hq:P.info? e with
 | none=>rw [hq] at hi;cases hi
 | some ie=>
   rw [hq] at hi
   simp only [Option.map_some,Option.some.injEq,Prod.mk.injEq] at hi
   obtain⟨h1,h2,_⟩:=hi
   refine run_buildSlice w t e 1 _ cs ie z hu hq h1 (by rw [h2];omega) (by rw [h2];omega) ?_
   rw [h2]
   exact fill_one n _ cs (by simp) hc hn
theorem box_cell {w:World} {g:Nat} {v:Value} {t:TypeId} (h:w.heap[g]? =some (.cells #[v] t (0,0))):w.cell? ⟨g,0,none⟩=some v:=by rw [cell_of_row _ _ _ _ _ _ h];rfl
theorem tmod_neg {n m:Int} (hm:1≤m) (h:n.tmod m < 0):n.tmod m+m=modI n m:=by
 rw [modI_pos hm,Int.tmod_eq_emod]
 rw [Int.tmod_eq_emod] at h
 split at h <;> rename_i h' <;> simp only [h',↓reduceIte] at h ⊢
 · have:=Int.emod_nonneg n (show m≠0 by omega);omega
 · have: (m.natAbs:Int)=m:=by omega
   omega
theorem tmod_pos {n m:Int} (hm:1≤m) (h : ¬n.tmod m < 0):n.tmod m=modI n m:=by
 rw [modI_pos hm,Int.tmod_eq_emod]
 rw [Int.tmod_eq_emod] at h
 have:=Int.emod_lt_of_pos n (show 0 < m by omega)
 split at h <;> rename_i h' <;> simp only [h',↓reduceIte] at h ⊢
 · simp
 · have: (m.natAbs:Int)=m:=by omega
   omega
theorem tmod_bd {n m:Int} (hm:1≤m) : -m≤n.tmod m∧n.tmod m < m:=by
 by_cases h:n.tmod m < 0
 · have:=tmod_neg hm h;have:=modI_bd (n:=n) hm;omega
 · have:=tmod_pos hm h;have:=modI_bd (n:=n) hm;omega
set_option maxHeartbeats 400000 in
theorem mod_any (n m:Int) (w:World) (hm:m≤4611686018427387904) :
 Calls Tryz.prog 28 #[.int .i64 n,.int .i64 m] w fun e w'=>e=.returned (.int .i64 (modI n m))∧w=w':=by
 by_cases h1:m < 1
 · go_enter Tryz.func28,Tryz.ntmps28
   go_wp2
   go_ret
   exact⟨ret_int (by unfold modI;rw [if_pos h1]),rfl⟩
 · obtain⟨b1,b2⟩:=tmod_bd (n:=n) (show 1≤m by omega)
   by_cases h2:n.tmod m < 0
   · have H:=Lib.hid (tmod_neg (show 1≤m by omega) h2)
     go_enter Tryz.func28,Tryz.ntmps28
     go_wp2
     go_ret
     exact⟨ret_int H.out,rfl⟩
   · have H:=Lib.hid (tmod_pos (show 1≤m by omega) h2)
     go_enter Tryz.func28,Tryz.ntmps28
     go_wp2
     go_ret
     exact⟨ret_int H.out,rfl⟩
def DiceAt (N:Nat) (w:World) (p:Nat) (d:List Int):Prop :=
 ∃(L:List Int) (at' :Nat) (ao:Option Addr) (cap:Nat),w.heap[p]? =some (.cells #[.slice ao L.length cap,.int .i64 at'] 71 (0,0))∧at'≤L.length∧d=L.drop at'∧L.length≤1000000∧IntsAt w ao L∧(L≠[]→∀a,ao=some a→a.block < N∧a.block≠p)∧p < N
theorem DiceAt.keep {N:Nat} {w w' :World} {p B:Nat} {d:List Int} (h:DiceAt N w p d) (hx:Ex B none w w') (hB:N≤B):DiceAt N w' p d:=by
 obtain⟨L,at',ao,cap,h1,h2,h3,h4,h5,h6,h7⟩:=h
 refine⟨L,at',ao,cap,?_,h2,h3,h4,fun j hj=>?_,h6,h7⟩
 · rw [hx.block p (by omega) (by simp)]
   exact h1
 · obtain⟨b,off,e,hc⟩:=h5 j hj
   refine⟨b,off,e,fun i hi=>?_⟩
   have hbN:b < N:=(h6 (by intro h;simp [h] at hj) _ e).1
   exact(World.cell?_of_block (w:=w) (hx.block b (by omega) (by simp))).trans (hc i hi)
theorem DiceAt.lt {N:Nat} {w:World} {p:Nat} {d:List Int} (h:DiceAt N w p d):p < N:=by
 obtain⟨L,at',ao,cap,_,_,_,_,_,_,h7⟩:=h
 exact h7
theorem cell_at {w:World} {b o:Nat} {cs:Array Value} {e:TypeId} {fr:Nat×Nat} {v:Value} (h:w.heap[b]? =some (.cells cs e fr)) (hv:cs[o]? =some v):w.cell? ⟨b,o,none⟩=some v:=by
 simp [World.cell?,h,hv]
theorem free_at {w:World} {b o:Nat} {cs:Array Value} {e:TypeId} (h:w.heap[b]? =some (.cells cs e (0,0))):w.frozen? ⟨b,o,none⟩=false:=by
 simp [World.frozen?,h]
theorem own_lit {base:Nat} (w:World) (hb:base≤w.heap.size) (xs:List Int) (n:Nat) (hn:xs.length=n) (hm:n≤maxLen) (hx:0 < n):OwnI (w.alloc (.cells (xs.map (Value.int .i64)).toArray 3)) base (some ⟨w.heap.size,0,none⟩) n xs:=by
 subst hn
 refine⟨by simp,.inr ⟨w.heap.size,xs.length,_,rfl,hb,heap_alloc_new w _,Nat.le_refl _,hm,by simp,?_⟩⟩
 rw [List.take_of_length_le (by simp)]
theorem own_lit1 {base:Nat} (w:World) (hb:base≤w.heap.size) (x:Int):OwnI (w.alloc (.cells #[.int .i64 x] 3)) base (some ⟨w.heap.size,0,none⟩) 1 [x]:=own_lit w hb [x] 1 rfl (by decide) (by decide)
theorem heap_setCell {w:World} {b o:Nat} {cs:Array Value} {e:TypeId} {fr:Nat×Nat} (h:w.heap[b]? =some (.cells cs e fr)) (v:Value): (w.setCell ⟨b,o,none⟩ v).heap[b]? =some (.cells (cs.setIfInBounds o v) e fr):=by
 simp [World.setCell,Array.getElem?_modify,h]
set_option maxHeartbeats 400000 in
theorem next_any (N p:Nat) (d:List Int) (n:Int) (w:World) (hd:DiceAt N w p d) (hn:n≤4611686018427387904) :
 Calls Tryz.prog 9 #[.pointer (some ⟨p,0,none⟩),.int .i64 n] w fun e w'=>e=.returned (.int .i64 (dVal d n))∧DiceAt N w' p d.tail∧Ex w.heap.size (some p) w w':=by
 obtain⟨L,k,ao,cap,hh,hk,hdl,hL,hx,haw,hpN⟩:=hd
 have c0:=cell_at (o:=0) hh rfl
 have c1:=cell_at (o:=1) hh rfl
 have f1:=free_at (o:=1) hh
 by_cases hlt:k < L.length
 · obtain⟨b,off,y,rfl,hck,HY⟩:=hx.get k hlt
   have hbp:b≠p:=(haw (by intro h;simp [h] at hlt) _ rfl).2
   have HA:=Lib.hid haw
   have hdd:d=y :: L.drop (k+1):=by
    rw [hdl,List.drop_eq_getElem_cons hlt,←HY.out];simp [List.getD,hlt]
   have HD:=Lib.hid hdd
   have HH:=Lib.hid hh
   have HX:=Lib.hid hx
   clear hdd hdl hh hx haw
   have hbp2:p≠b:=fun h=>hbp h.symm
   go_enter Tryz.func9,Tryz.ntmps9
   go_wp2
   go_quiet (fail)
   go_wp2
   go_quiet ((go_at_call 28;exact Calls.quiet_of_same ((mod_any _ _ _ hn).mono fun _ _ h=>⟨h.1,h.2.symm⟩)))
   go_wp2
   go_ret
   refine⟨by rw [HD.out];rfl,?_,(((Ex.refl _ _ _).drewN).setCell _ _ _ (Or.inl rfl)).drewN⟩
   refine⟨L,k+1,some ⟨b,off,none⟩,cap,?_,by omega,by rw [HD.out];rfl,hL,fun j hj=>?_,HA.out,hpN⟩
   · exact(heap_setCell (w:=w) (o:=1) HH.out (.int .i64 ((k:Int)+1))).trans (by simp)
   · obtain⟨b',off',e,hc⟩:=HX.out j hj
     refine⟨b',off',e,fun i hi=>?_⟩
     cases e
     exact(World.cell?_setCell_other (w:=w) _ _ _ (by simp)).trans (hc i hi)
 · have hd0:d=[]:=by rw [hdl,List.drop_eq_nil_of_le (by omega)]
   have hge:L.length≤k:=by omega
   have HH:DiceAt N w p []:=⟨L,k,ao,cap,hh,hk,by rw [List.drop_eq_nil_of_le (by omega)],hL,hx,haw,hpN⟩
   have HH:=Lib.hid HH
   subst hd0
   clear hdl hh hx haw
   go_enter Tryz.func9,Tryz.ntmps9
   go_wp2
   go_quiet (fail)
   go_wp2
   go_ret
   exact⟨rfl,HH.out,(Ex.refl _ _ _).drewN⟩
set_option maxHeartbeats 400000 in
theorem madeRoll_any (v1:Value) (L:List Int) (w:World) (hv1:Ints w v1 L) (hL:L.length≤1000000) :
 Calls Tryz.prog 22 #[v1] w fun e w'=>∃p,e=.returned (.pointer (some ⟨p,0,none⟩))∧DiceAt (p+1) w' p L∧w.heap.size≤p∧p+1≤w'.heap.size∧Ex w.heap.size none w w':=by
 obtain⟨ao,cap,rfl,hx⟩:=hv1
 have HX:=Lib.hid hx
 clear hx
 go_enter Tryz.func22,Tryz.ntmps22
 go_wp2
 go_ret
 exact⟨_,rfl,⟨L,0,ao,cap,heap_alloc_new w _,Nat.zero_le _,rfl,hL,HX.out.keep (Ex.new w _) (Nat.le_refl _) (by simp),fun hne a ha=>by have:=HX.out.lt hne a ha;omega,by omega⟩,Nat.le_refl _,by simp,Ex.new w _⟩
set_option maxHeartbeats 400000 in
theorem one_any (N p:Nat) (d:List Int) (n:Int) (w:World) (hd:DiceAt N w p d) (h1:1≤n) (hn:n≤4611686018427387904) :
 Calls Tryz.prog 10 #[.pointer (some ⟨p,0,none⟩),.int .i64 n] w fun e w'=>e=.returned (.bool (dVal d n == n - 1))∧DiceAt N w' p d.tail∧Ex w.heap.size (some p) w w':=by
 go_enter Tryz.func10,Tryz.ntmps10
 go_wp2_with fail
 refine(next_any N p d n w hd hn).mono ?_
 rintro e w1 ⟨rfl,hd1,hex1⟩
 go_wp2
 go_ret
 exact⟨rfl,hd1,hex1⟩
end Go.Proofs.YtflhidfclfkjlaaGreat

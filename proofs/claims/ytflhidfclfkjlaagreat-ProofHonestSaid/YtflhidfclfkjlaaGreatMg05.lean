/- bits.RotateLeft32 as digest.block calls it. No statement of the seat. | Numbers in their cells, by value. No statement of the seat. | Lists of numbers as what append takes and gives. No statement of the seat. | lists.Where: a contract, no statement of the seat. | append of statements to a slice of statements that the call owns, one or many, in a plain region or in one that draws its order. No statement of the seat. | append of a slice to an empty one: nothing that was there is turned. No statement of the seat. | ref05.before: by author, number and the digest's bytes. No statement of the seat. | Small functions of the epochs: contracts, no statement of the seat. | An order that keeps what is equal is unique; the reference's order by insertion is such a one. Plain, no program in sight. | append of statements, as AppT has it, with whatever predicate on the blocks that the lists lie in. No statement of the seat. | The closures that the program's epoch hands about: contracts, no statement of the seat. | Owned slices of statements with a lower base. No statement of the seat. -/
import Derived.Test.YtflhidfclfkjlaaGreatMg04
import Derived.Outline
import Derived.IntWalk
import Derived.Test.YtflhidfclfkjlaaGreatMg00
import Derived.Deep.RegionLawGrows
import Derived.Maps.AppendAt
import Derived.Deep.RegionLaw
import Derived.Test.YtflhidfclfkjlaaGreatMg02
import Derived.Test.YtflhidfclfkjlaaGreatMg01
import Derived.Sort.Grow
import Derived.Deep.RegionHeld3
import Derived.OwnWalk
namespace Go.Proofs.YtflhidfclfkjlaaGreat
open Go.RowKit Go.Sort
theorem u_turnL (x:UInt32) (m:Nat) (h1:1≤m) (h2:m≤31):bits .or .u32 ((x.toNat:Int) * 2 ^ m % 4294967296) ((x.toNat:Int) / 2 ^ (32 - m))= ((turnU x (32 - m)).toNat:Int):=by
 rw [u_shl x m (by omega),u_shr x (32 - m) (by omega),u_or,UInt32.or_comm]
 unfold turnU
 rw [show 32 - (32 - m)=m by omega]
set_option maxHeartbeats 1000000 in
theorem rot_any (x:UInt32) (z:Int) (m:Nat) (hz:bits .and .u64 (IntKind.u64.wrap z) 31= (m:Int)) (h1:1≤m) (h2:m≤31) (w:World):Calls Tryz.prog 161 #[.int .u32 x.toNat,.int .i64 z] w fun e w'=>e=.returned (.int .u32 (turnU x (32 - m)).toNat)∧w=w':=by
 go_enter Tryz.func161,Tryz.ntmps161
 go_wp2
 go_ret
 exact⟨by rw [u_turnL x m h1 h2];rfl,rfl⟩
set_option maxHeartbeats 1000000 in
theorem turnP_any (x:UInt32) (z:Int) (hb:z∈[2,6,7,11,13,17,18,19,22,25]) (w:World):Calls Tryz.prog 160 #[.int .u32 x.toNat,.int .i64 z] w fun e w'=>e=.returned (.int .u32 (turnU x z.toNat).toNat)∧w=w':=by
 obtain⟨m,hm,h1,h2,h3,hzb⟩:∃m:Nat,bits .and .u64 (IntKind.u64.wrap (-z)) 31= (m:Int)∧1≤m∧m≤31∧32 - m=z.toNat∧(0≤z∧z≤31):=by
  simp only [List.mem_cons,List.not_mem_nil,or_false] at hb
  rcases hb with rfl | rfl | rfl | rfl | rfl | rfl | rfl | rfl | rfl | rfl
  · exact⟨30,by decide,by omega,by omega,rfl,by omega⟩
  · exact⟨26,by decide,by omega,by omega,rfl,by omega⟩
  · exact⟨25,by decide,by omega,by omega,rfl,by omega⟩
  · exact⟨21,by decide,by omega,by omega,rfl,by omega⟩
  · exact⟨19,by decide,by omega,by omega,rfl,by omega⟩
  · exact⟨15,by decide,by omega,by omega,rfl,by omega⟩
  · exact⟨14,by decide,by omega,by omega,rfl,by omega⟩
  · exact⟨13,by decide,by omega,by omega,rfl,by omega⟩
  · exact⟨10,by decide,by omega,by omega,rfl,by omega⟩
  · exact⟨7,by decide,by omega,by omega,rfl,by omega⟩
 have hw:IntKind.i64.wrap (-z) = -z:=IntWalk.i64_in _ (by omega)
 clear hb
 go_enter Tryz.func160,Tryz.ntmps160
 go_wp2_with (go_at_call 161;refine(rot_any x (-z) m hm h1 h2 _).mono ?_;rw [h3];rintro e w' ⟨rfl,rfl⟩)
 go_ret
 exact⟨rfl,rfl⟩
def iE (n:Int):List Value:=[.int .i64 n]
theorem iE_len (n:Int): (iE n).length=1:=rfl
theorem one_iE:∀n,∀v∈iE n,v.oneCell' =true:=fun n v hv=>by simp [iE] at hv;subst hv;rfl
theorem flat_iE (xs:List Int):flatL iE xs=xs.map (Value.int .i64):=by
 induction xs with
 | nil=>rfl
 | cons x r ih=>unfold flatL at *;simp [iE,ih]
theorem ints_srcE {w:World} {ao:Option Addr} {n c:Nat} {xs:List Int} (h:Ints w (.slice ao n c) xs):xs.length=0∨∃ad,ao=some ad∧∀(j:Nat) (v:Value),(flatL iE xs)[j]? =some v→w.cell? (ad.add j)=some v:=by
 rcases Nat.eq_zero_or_pos xs.length with h0 | h0
 · exact .inl h0
 · obtain⟨b,off,e,hc⟩:=h.at' 0 h0
   refine .inr ⟨_,e,fun j v hv=>?_⟩
   have hf:=flat_iE xs
   rw [hf] at hv
   have hj:j < xs.length:=by have:=(List.getElem?_eq_some_iff.1 hv).1;simpa using this
   rw [Addr.add_lit,hc j hj]
   rw [←hv];simp [List.getD,hj]
theorem iE_slE {w:World} {base n:Nat} {ro:Option Addr} {rc:Nat} {xs:List Int} (hn:xs.length=n) (h:OwnE iE 1 3 w base ro rc xs):Sl intRep (fun b=>base≤b) w (.slice ro n rc) xs:=by
 subst hn
 refine own_ints_sl ?_
 have hf:=flat_iE xs
 unfold OwnI
 rw [←hf];exact h
def TestI (f:Nat) (cb:Array Value) (w0:World) (n:Nat) (p:Nat→Bool):Prop :=
 ∀(w:World) (k:Nat),Ex w0.heap.size none w0 w→k < n→Calls Tryz.prog f (#[.int .i64 ((k:Nat):Int)] ++ cb) w fun e w'=>e=.returned (.bool (p k))∧Ex w.heap.size none w w'
def OwnT (w:World) (rb base:Nat) (ao:Option Addr) (cap:Nat) (l:List St):Prop :=
 ∃xs:List (St×Sv×Sv),xs.map (·.1)=l∧OwnE stE 13 51 w rb ao cap xs∧∀x∈xs,Lies (fun b=>base≤b∧rowOf ao≠some b) w x
theorem OwnS.t {w:World} {base:Nat} {ao:Option Addr} {cap:Nat} {l:List St} (h:OwnS w base ao cap l):OwnT w base base ao cap l:=h
theorem OwnE.lower {α:Type} {enc:α→List Value} {k:Nat} {e:TypeId} {w:World} {base base' :Nat} {ao:Option Addr} {cap:Nat} {xs:List α} (h:OwnE enc k e w base ao cap xs) (hb:base'≤base):OwnE enc k e w base' ao cap xs:=by
 refine⟨h.1,?_⟩
 rcases h.2 with h | ⟨g,c,cur,e1,e2,e3⟩
 · exact .inl h
 · exact .inr ⟨g,c,cur,e1,by omega,e3⟩
theorem OwnT.s {w:World} {rb base:Nat} {ao:Option Addr} {cap:Nat} {l:List St} (h:OwnT w rb base ao cap l) (hb:base≤rb):OwnS w base ao cap l:=by
 obtain⟨xs,e,h1,h2⟩:=h
 exact⟨xs,e,h1.lower hb,h2⟩
theorem OwnT.nil (w:World) (rb base:Nat):OwnT w rb base none 0 []:=⟨[],rfl,OwnE.nil _ _ _ _ _,fun x hx=>by simp at hx⟩
theorem OwnT.keep {w w' :World} {rb base B:Nat} {ao:Option Addr} {cap:Nat} {l:List St} (h:OwnT w rb base ao cap l) (hx:Ex B none w w') (hB:w.heap.size≤B):OwnT w' rb base ao cap l:=by
 obtain⟨xs,e,h1,h2⟩:=h
 exact⟨xs,e,h1.keep hx hB (by simp),fun x hxx=>(h2 x hxx).keep fun b _ hb=>hx.block b (by omega) (by simp)⟩
theorem OwnT.len {w:World} {rb base:Nat} {ao:Option Addr} {cap:Nat} {l:List St} (h:OwnT w rb base ao cap l):l.length≤cap:=by
 obtain⟨xs,rfl,h1,_⟩:=h
 rcases h1.cases with⟨_,rfl,h0⟩ | ⟨g,_,_,_,hc⟩
 · subst h0;exact Nat.le_refl _
 · simpa using hc
theorem flatL_cut (xs:List (St×Sv×Sv)) (j:Nat):flatL stE xs=flatL stE (xs.take j) ++ flatL stE (xs.drop j):=by
 unfold flatL
 rw [←List.flatMap_append,List.take_append_drop]
theorem add_block (a:Addr) (j:Nat): (a.add j).block=a.block:=by unfold Addr.add;split <;> rfl
theorem OwnT.row {w:World} {rb base:Nat} {ao:Option Addr} {cap:Nat} {l:List St} (h:OwnT w rb base ao cap l) (b:Nat) (hb:rowOf ao=some b):b < w.heap.size:=by
 obtain⟨xs,_,h1,_⟩:=h
 cases ao with
 | none=>cases hb
 | some ad=>simp [rowOf] at hb;subst hb;exact(h1.lt _ rfl).2
theorem OwnT.row_ge {w:World} {rb base:Nat} {ao:Option Addr} {cap:Nat} {l:List St} (h:OwnT w rb base ao cap l) (b:Nat) (hb:rowOf ao=some b):rb≤b:=by
 obtain⟨xs,_,h1,_⟩:=h
 cases ao with
 | none=>cases hb
 | some ad=>simp [rowOf] at hb;subst hb;exact(h1.lt _ rfl).1
def Src (w:World) (so:Option Addr) (ys:List (St×Sv×Sv)):Prop:=ys.length=0∨∃ad,so=some ad∧∀(j:Nat) (v:Value),(flatL stE ys)[j]? =some v→w.cell? (ad.add j)=some v
theorem Src.keep {w w' :World} {so:Option Addr} {ys:List (St×Sv×Sv)} (h:Src w so ys) (hx:∀b,rowOf so=some b→b < w.heap.size→w'.heap[b]? =w.heap[b]?):Src w' so ys:=by
 rcases h with h | ⟨ad,e,h⟩
 · exact .inl h
 · refine .inr ⟨ad,e,fun j v hv=>?_⟩
   have h1:=h j v hv
   have hb: (ad.add j).block=ad.block:=add_block _ _
   have h2:=World.block_lt_of_cell? w _ h1
   exact(World.cell?_of_block (w:=w) (by rw [hb];exact hx _ (by rw [e];rfl) (by rw [←hb];exact h2))).trans h1
theorem OwnT.parts {w:World} {rb base:Nat} {ao:Option Addr} {cap:Nat} {l:List St} (h:OwnT w rb base ao cap l) (j:Nat) (hj:j≤l.length) :
 ∃(xs:List (St×Sv×Sv)) (a2:Option Addr),xs.map (·.1)=l∧(∀x∈xs,Lies (fun b=>base≤b∧rowOf ao≠some b) w x)∧Src w ao (xs.take j)∧(if cap=j then ao else ao.map (fun x=>x.add (j * 13)))=a2∧Src w a2 (xs.drop j)∧rowOf a2=rowOf ao∧∀b,rowOf ao=some b→b < w.heap.size:=by
 obtain⟨xs,rfl,h1,h2⟩:=h
 have hj' :j≤xs.length:=by simpa using hj
 refine⟨xs,_,rfl,h2,?_,rfl,?_,?_,?_⟩
 · rcases h1.cases with⟨_,_,h0⟩ | ⟨g,rfl,hb,_,_⟩
   · subst h0;exact .inl (by simp)
   · refine .inr ⟨_,rfl,fun i v hv=>?_⟩
     obtain⟨_,_,_,_,hc,_⟩:=own_there h1
     rw [Addr.add_lit,Nat.zero_add]
     refine hc i v ?_
     have e:flatL stE xs=flatL stE (xs.take j) ++ flatL stE (xs.drop j):=flatL_cut xs j
     rw [e,List.getElem?_append_left (List.getElem?_eq_some_iff.1 hv).1]
     exact hv
 · by_cases hc:cap=j
   · rw [if_pos hc]
     refine .inl ?_
     rcases h1.cases with⟨_,_,h0⟩ | ⟨g,_,_,_,hl⟩
     · subst h0;simp
     · simp;omega
   · rw [if_neg hc]
     rcases h1.cases with⟨_,_,h0⟩ | ⟨g,rfl,hb,_,_⟩
     · subst h0;exact .inl (by simp)
     · refine .inr ⟨_,rfl,fun i v hv=>?_⟩
       obtain⟨_,_,_,_,hc,_⟩:=own_there h1
       show w.cell? (((⟨g,0,none⟩:Addr).add (j * 13)).add i)=some v
       rw [Addr.add_lit,Addr.add_lit,Nat.zero_add]
       refine hc (j * 13+i) v ?_
       have e:flatL stE xs=flatL stE (xs.take j) ++ flatL stE (xs.drop j):=flatL_cut xs j
       have hl: (flatL stE (xs.take j)).length=j * 13:=by rw [flatL_len stE_len,List.length_take,Nat.min_eq_left hj']
       rw [e,List.getElem?_append_right (by omega),hl,Nat.add_sub_cancel_left]
       exact hv
 · by_cases hc:cap=j
   · rw [if_pos hc]
   · rw [if_neg hc];cases ao with
     | none=>rfl
     | some ad=>exact congrArg some (add_block _ _)
 · intro b hb
   cases ao with
   | none=>cases hb
   | some ad=>simp [rowOf] at hb;subst hb;exact(h1.lt _ rfl).2
theorem wp_appT {P:Program} {w:World} {o:Oper} {a:Act} {K:Act→World→Prop} {Q:Exit→Act→World→Prop} (s u:Operand) (t:TypeId)
 (ho:o.op=.call { callee:=.builtin .append,args:=#[s,u],argTypes:=#[t,t] }) (ht:P.underlying t=some (.slice 51))
 (hinfo: (P.info? 51).map (fun i=>(i.zero,i.size,i.bytes))=some (some (.agg #[.int .i64 0,.int .i64 0,.string ⟨#[]⟩,.int .i64 0,.int .i64 0,.int .i64 0,.int .i64 0,.int .i64 0,.slice none 0 0,.slice none 0 0,.string ⟨#[]⟩,.int .i64 0,.string ⟨#[]⟩]),13,160))
 (rb base:Nat) (ao:Option Addr) (cap n:Nat) (l:List St) (hn:l.length=n) (hs:a.eval s=.slice ao n cap) (so:Option Addr) (m sc:Nat) (hu:a.eval u=.slice so m sc) (ys:List (St×Sv×Sv)) (hm:ys.length=m)
 (hown:OwnT w rb base ao cap l) (hsrc:Src w so ys) (hx:∀x∈ys,Lies (fun b=>base≤b∧rowOf ao≠some b) w x) (hlen:n+m≤10000000) (hbase:rb≤w.heap.size) (r:Nat) (hr:n+m=r)
 (h:∀ao' cap' w',OwnT w' rb base ao' cap' (l ++ ys.map (·.1))→Ex rb none w w'→(∀b,b < w.heap.size→rowOf ao≠some b→w'.heap[b]? =w.heap[b]?)→(rowOf ao' =rowOf ao∨rowOf ao' =some w.heap.size)→K (a.put o.dst (.slice ao' r cap')) w'):o.wp P a w K Q:=by
 subst hr hn hm
 obtain⟨i0,hi,hz0,hz1,hz2⟩:=info_parts hinfo
 obtain⟨xs,rfl,h1,h2⟩:=hown
 have e1: (xs.map (·.1)).length=xs.length:=by simp
 rw [e1] at hs hlen h
 have key:∀so ad,so=some ad→a.eval u=.slice so ys.length sc→(∀(j:Nat) (v:Value),(flatL stE ys)[j]? =some v→w.cell? (ad.add j)=some v)→o.wp P a w K Q:=fun so ad e2 hu hc=>by
  subst e2
  obtain⟨v',w',hr,ho',hg,_,hnew⟩:=run_append_own_at (P:=P) w rb t o.type 51 i0 _ 13 160 ht hi hz0 hz1 hz2 rfl (by decide) _ _ _ h1 ad ys.length sc (flatL stE ys) (flatL_len stE_len ys) hc (flatL_one one_stE ys) (by simp only [maxLen];omega) (by omega) hbase
  obtain⟨ao',cap',rfl⟩:=own_shape ho'
  have hrow: (Value.slice ao xs.length cap).ownBlock=rowOf ao:=by cases ao <;> rfl
  have hrow' : (Value.slice ao' (xs.length+ys.length) cap').ownBlock=rowOf ao':=by cases ao' <;> rfl
  rw [hrow] at hg hnew
  rw [hrow'] at hnew
  have hkeep:∀y,Lies (fun b=>base≤b∧rowOf ao≠some b) w y→Lies (fun b=>base≤b∧rowOf ao'≠some b) w' y:=fun y hy=>by
   refine Lies.mono (P:=fun b=>(base≤b∧rowOf ao≠some b)∧b < w.heap.size) (Lies.keep (w:=w) (hy.mono fun b hb hlt=>⟨hb,hlt⟩) fun b hb hlt=>hg.block b hlt (fun e=>hb.1.2 e.symm)) (fun b hb _=>⟨hb.1.1,fun e=>?_⟩)
   rcases hb with⟨⟨_,hb1⟩,hb2⟩
   rcases hnew with h0 | h0
   · exact hb1 (h0 ▸ e)
   · rw [e] at h0;cases h0;omega
  unfold Oper.wp execOp
  simp only [ho,resolve,invoke,builtin,Sem.run_bind,Sem.run_pure,Result.andThen_ok,List.map_toArray,List.map_cons,List.map_nil,hs,hu,hr]
  refine h ao' cap' w' ⟨xs ++ ys,by simp,?_,fun y hy=>?_⟩ ?_ (fun b hb hne=>hg.block b hb (fun e=>hne e.symm)) hnew
  · unfold OwnE
    have e2:flatL stE (xs ++ ys)=flatL stE xs ++ flatL stE ys:=by simp [flatL]
    rw [e2,List.length_append];exact ho'
  · simp only [List.mem_append] at hy
    rcases hy with hy | hy
    · exact hkeep y (h2 y hy)
    · exact hkeep y (hx y hy)
  · refine⟨hg.os,hg.tape,hg.output,hg.size,fun k hk _=>hg.block k (by omega) (fun e=>?_)⟩
    cases ao with
    | none=>cases e
    | some ad=>
      have:=(h1.lt ad rfl).1
      simp [rowOf] at e
      omega
 rcases hsrc with h0 | ⟨ad,e2,hc⟩
 · have hy:ys=[]:=List.eq_nil_of_length_eq_zero h0
   cases so with
   | some ad=>exact key _ ad rfl hu (fun j v hv=>by subst hy;simp [flatL] at hv)
   | none=>
     subst hy
     have hrun:=run_append_none (P:=P) (w:=w) rb t o.type _ i0 13 ht hi _ _ sc _ h1
     unfold Oper.wp execOp
     simp only [ho,resolve,invoke,builtin,Sem.run_bind,Sem.run_pure,Result.andThen_ok,List.map_toArray,List.map_cons,List.map_nil,hs,hu,List.length_nil,hrun]
     exact h ao cap w ⟨xs,by simp,h1,h2⟩ (Ex.refl _ _ _) (fun _ _ _=>rfl) (.inl rfl)
 · exact key so ad e2 hu hc
theorem step_appT {P:Program} {w:World} {ops:Array Oper} {o:Oper} {a:Act} {K:Act→World→Prop} {Q:Exit→Act→World→Prop} {E:Prop} (hgd:o.guard=none) (s u:Operand) (t:TypeId)
 (ho:o.op=.call { callee:=.builtin .append,args:=#[s,u],argTypes:=#[t,t] }) (ht:P.underlying t=some (.slice 51))
 (hinfo: (P.info? 51).map (fun i=>(i.zero,i.size,i.bytes))=some (some (.agg #[.int .i64 0,.int .i64 0,.string ⟨#[]⟩,.int .i64 0,.int .i64 0,.int .i64 0,.int .i64 0,.int .i64 0,.slice none 0 0,.slice none 0 0,.string ⟨#[]⟩,.int .i64 0,.string ⟨#[]⟩]),13,160))
 (rb base:Nat) (ao:Option Addr) (cap n:Nat) (l:List St) (hn:l.length=n) (hs:a.eval s=.slice ao n cap) (so:Option Addr) (m sc:Nat) (hu:a.eval u=.slice so m sc) (ys:List (St×Sv×Sv)) (hm:ys.length=m)
 (hown:OwnT w rb base ao cap l) (hsrc:Src w so ys) (hx:∀x∈ys,Lies (fun b=>base≤b∧rowOf ao≠some b) w x) (hlen:n+m≤10000000) (hbase:rb≤w.heap.size) (r:Nat) (hr:n+m=r)
 (h:∀ao' cap' w',OwnT w' rb base ao' cap' (l ++ ys.map (·.1))→Ex rb none w w'→(∀b,b < w.heap.size→rowOf ao≠some b→w'.heap[b]? =w.heap[b]?)→(rowOf ao' =rowOf ao∨rowOf ao' =some w.heap.size)→K (a.put o.dst (.slice ao' r cap')) w') :
 if Region.wanted o (yielded ops a.tmps)=true then o.wp P a w K Q else E:=by
 rw [if_pos (show Region.wanted o (yielded ops a.tmps)=true by simp [Region.wanted,hgd])]
 exact wp_appT s u t ho ht hinfo rb base ao cap n l hn hs so m sc hu ys hm hown hsrc hx hlen hbase r hr h
theorem wpList_appT {P:Program} {w:World} {ops:Array Oper} {rest:List Oper} {o:Oper} {a:Act} {Q:Exit→Act→World→Prop} (hgd:o.guard=none) (s u:Operand) (t:TypeId)
 (ho:o.op=.call { callee:=.builtin .append,args:=#[s,u],argTypes:=#[t,t] }) (ht:P.underlying t=some (.slice 51))
 (hinfo: (P.info? 51).map (fun i=>(i.zero,i.size,i.bytes))=some (some (.agg #[.int .i64 0,.int .i64 0,.string ⟨#[]⟩,.int .i64 0,.int .i64 0,.int .i64 0,.int .i64 0,.int .i64 0,.slice none 0 0,.slice none 0 0,.string ⟨#[]⟩,.int .i64 0,.string ⟨#[]⟩]),13,160))
 (rb base:Nat) (ao:Option Addr) (cap n:Nat) (l:List St) (hn:l.length=n) (hs:a.eval s=.slice ao n cap) (so:Option Addr) (m sc:Nat) (hu:a.eval u=.slice so m sc) (ys:List (St×Sv×Sv)) (hm:ys.length=m)
 (hown:OwnT w rb base ao cap l) (hsrc:Src w so ys) (hx:∀x∈ys,Lies (fun b=>base≤b∧rowOf ao≠some b) w x) (hlen:n+m≤10000000) (hbase:rb≤w.heap.size) (r:Nat) (hr:n+m=r)
 (h:∀ao' cap' w',OwnT w' rb base ao' cap' (l ++ ys.map (·.1))→Ex rb none w w'→(∀b,b < w.heap.size→rowOf ao≠some b→w'.heap[b]? =w.heap[b]?)→(rowOf ao' =rowOf ao∨rowOf ao' =some w.heap.size)→wpList P ops Q rest (a.put o.dst (.slice ao' r cap')) w'):wpList P ops Q (o :: rest) a w :=
 wpList_plain hgd fun _K hK=>wp_appT s u t ho ht hinfo rb base ao cap n l hn hs so m sc hu ys hm hown hsrc hx hlen hbase r hr fun ao' cap' w' h1 h2 h3 h4=>hK _ _ (h ao' cap' w' h1 h2 h3 h4)
theorem run_append_empty {P:Program} (t e ty:TypeId) (i:TypeInfo) (ht:P.underlying t=some (.slice e)) (hi:P.info? e=some i) (w:World) (g:Nat) (so:Option Addr) (c:Nat) :
 (Builtin.append_ #[t,t] ty #[.slice (some ⟨g,0,none⟩) 0 0,.slice so 0 c]).run P w=.ok (.slice (some ⟨g,0,none⟩) 0 0) w:=by
 cases so with
 | none=>simp [Builtin.append_,run_underlying ht,sizeOf,typeInfo,hi,Builtin.lenOf,Builtin.firstCells,storeCells]
 | some ad=>simp [Builtin.append_,run_underlying ht,sizeOf,typeInfo,hi,Builtin.lenOf,Builtin.firstCells,storeCells,loadCells,loadCellsFrom]
theorem own_slK {α:Type} [Inhabited α] {enc:α→List Value} {k:Nat} {hk:∀x,(enc x).length=k} {h1:∀x,∀v∈enc x,v.oneCell' =true} {e:TypeId} {w:World} {base n:Nat} {ao:Option Addr} {ac:Nat} {xs:List α} (hn:xs.length=n) (h:OwnE enc k e w base ao ac xs):Sl (valRep enc k hk h1) (fun b=>base≤b) w (.slice ao n ac) xs:=by
 subst hn
 refine⟨ao,ac,rfl,?_⟩
 rcases h.cases with⟨_,_,rfl⟩ | ⟨g,rfl,hg,_,_⟩
 · exact SlAt.nil _ _ _
 · exact val_sl hg (h.holds hk)
def Fact.own {α:Type} (enc:α→List Value) (k:Nat) (e:TypeId) (base n:Nat) (xs:List α):Fact:=⟨fun v w=>∃ao ac,v=.slice ao n ac∧OwnE enc k e w base ao ac xs,fun⟨ao,ac,h1,h2⟩ hx=>⟨ao,ac,h1,h2.keep hx (Nat.le_refl _) (by simp)⟩⟩
theorem own_empty {α:Type} {enc:α→List Value} {k:Nat} {e:TypeId} {w:World} {base g:Nat} (h:w.heap[g]? =some (.cells #[] e (0,0))) (hb:base≤g):OwnE enc k e w base (some ⟨g,0,none⟩) 0 []:=⟨by simp [flatL],.inr ⟨g,0,#[],rfl,hb,h,Nat.le_refl _,by simp,by simp,by simp [flatL]⟩⟩
theorem own_away {α:Type} {enc:α→List Value} {k:Nat} {e t:TypeId} {w:World} {base g:Nat} {ao:Option Addr} {ac:Nat} {xs:List α} (h:OwnE enc k e w base ao ac xs) {cs:Array Value} (hg:w.heap[g]? =some (.cells cs t (0,0))) (ht:e≠t):rowOf ao≠some g:=by
 intro hr
 rcases h.2 with⟨h1,_⟩ | ⟨g',cap',cur,hv,_,hh,_⟩
 · simp only [Value.slice.injEq] at h1
   rw [h1.1] at hr;cases hr
 · simp only [Value.slice.injEq] at hv
   rw [hv.1] at hr
   have:g' =g:=Option.some.inj hr
   subst this
   rw [hh] at hg
   cases hg
   exact ht rfl
theorem wp_appN {α:Type} {P:Program} {w:World} {o:Oper} {a:Act} {K:Act→World→Prop} {Q:Exit→Act→World→Prop} (hgd:o.guard=none) (s u:Operand) (t e:TypeId)
 (ho:o.op=.call { callee:=.builtin .append,args:=#[s,u],argTypes:=#[t,t] }) (ht:P.underlying t=some (.slice e)) (z:Value) (k bytes:Nat)
 (hinfo: (P.info? e).map (fun i=>(i.zero,i.size,i.bytes))=some (some z,k,bytes)) (hzc:z.cells.size=k) (hk0:0 < k) (hb:bytes≤1000)
 (enc:α→List Value) (hk:∀x,(enc x).length=k) (h1:∀x,∀v∈enc x,v.oneCell' =true)
 (base b:Nat) (hs:a.eval s=.slice (some ⟨b,0,none⟩) 0 0) (hbb:base≤b) (hbe:w.heap[b]? =some (.cells #[] e (0,0))) (so:Option Addr) (m c:Nat) (hu:a.eval u=.slice so m c) (ys:List α) (hm:ys.length=m)
 (hsrc:ys.length=0∨∃ad,so=some ad∧∀(j:Nat) (v:Value),(flatL enc ys)[j]? =some v→w.cell? (ad.add j)=some v) (h2:m≤1000000) (hbw:base≤w.heap.size)
 (hK:∀v w',Ex w.heap.size none w w'→(Fact.own enc k e base m ys).p v w'→K (a.put o.dst v) w'):o.wp P a w K Q:=by
 obtain⟨i0,hi,hz0,hz1,hz2⟩:=info_parts hinfo
 rcases Nat.eq_zero_or_pos m with h0 | h0
 · subst h0
   have hy:ys=[]:=List.eq_nil_of_length_eq_zero hm
   subst hy
   have hrun:=run_append_empty (P:=P) t e o.type i0 ht hi w b so c
   unfold Oper.wp
   simp [execOp,ho,resolve,invoke,builtin,hs,hu,hrun,Result.andThen]
   exact hK _ _ (Ex.refl _ _ _) ⟨some ⟨b,0,none⟩,0,rfl,own_empty hbe hbb⟩
 · rcases hsrc with hy | ⟨ad,rfl,hc⟩
   · omega
   · have hmb:m * bytes≤1000000 * 1000:=Nat.mul_le_mul h2 hb
     have H:=step_append_grows (P:=P) (ops:=#[]) (E:=True) (Q:=Q) (K:=K) (w:=w) hgd s u t ho e i0 z k bytes ht hi hz0 hz1 hz2 hzc hk0 (some ⟨b,0,none⟩) 0 0 [] hs (fun h=>by cases h) (by simp) (fun _ _ j u h=>by simp at h) ad m c (flatL enc ys) hu (by rw [flatL_len hk,hm]) hc (flatL_one h1 ys) (by omega) (by simp only [maxLen];omega) (by rw [Nat.zero_add];omega) (fun v' w' hown hgr=>by
      obtain⟨ao',cap',rfl⟩:=own_shape hown
      rw [Nat.zero_add,List.nil_append] at hown
      rw [Nat.zero_add]
      have hO:OwnE enc k e w' w.heap.size ao' cap' ys:=by unfold OwnE;rw [hm];exact hown
      exact hK _ _ ((Ex.refl _ _ w).grown hgr (Nat.le_refl _) (by simp)) ⟨ao',cap',rfl,hO.lowerE hbw⟩)
     rwa [if_pos (show Region.wanted o (yielded #[] a.tmps)=true by simp [Region.wanted,hgd])] at H
def before05B (s t:St):Bool:=if s.author=t.author then(if s.number=t.number then Op.bytesLess s.dig.toList t.dig.toList else decide (s.number < t.number)) else decide (s.author < t.author)
set_option maxHeartbeats 1000000 in
set_option maxRecDepth 100000 in
theorem before05_any (x y:St×Sv×Sv) (w:World):Calls Tryz.prog 55 #[.agg (stE x).toArray,.agg (stE y).toArray] w fun e w'=>e=.returned (.bool (before05B x.1 y.1))∧Ex w.heap.size none w w':=by
 obtain⟨s,⟨lo,ln,lc⟩,⟨po,pn,pc⟩⟩:=x
 obtain⟨t,⟨lo',ln',lc'⟩,⟨po',pn',pc'⟩⟩:=y
 simp only [stE,Sv.v]
 by_cases h1:s.author=t.author
 · have d1: (s.author != t.author)=false:=by simp [h1]
   by_cases h2:s.number=t.number
   · have d2: (s.number != t.number)=false:=by simp [h2]
     have HK:Hid (before05B s t=Op.bytesLess s.dig.toList t.dig.toList):=by show _=_;simp [before05B,h1,h2]
     clear h1 h2
     go_enter Tryz.func55,Tryz.ntmps55
     go_wp2
     go_ret
     exact⟨by rw [HK.out];rfl,ex_two _ _⟩
   · have d2: (s.number != t.number)=true:=by simp [h2]
     have HK:Hid (before05B s t=decide (s.number < t.number)):=by show _=_;simp [before05B,h1,h2]
     clear h1 h2
     go_enter Tryz.func55,Tryz.ntmps55
     go_wp2
     go_ret
     exact⟨by rw [HK.out];rfl,ex_two _ _⟩
 · have d1: (s.author != t.author)=true:=by simp [h1]
   have HK:Hid (before05B s t=decide (s.author < t.author)):=by show _=_;simp [before05B,h1]
   clear h1
   go_enter Tryz.func55,Tryz.ntmps55
   go_wp2
   go_ret
   exact⟨by rw [HK.out];rfl,ex_two _ _⟩
def ofI (t n:Int):Int:=if t < 0∨n < 1 then -1 else t / n
def beforeB (s t:St):Bool:=decide (s.time < t.time) || (decide (s.time=t.time) && (decide (s.author < t.author) || (decide (s.author=t.author) && decide (s.number < t.number))))
end Go.Proofs.YtflhidfclfkjlaaGreat
namespace Go.Proofs.YtflhidfclfkjlaaGreat
open Go.Sort
section
section
variable {α:Type}
def Rises (lt:α→α→Bool) (l:List α):Prop:=l.Pairwise (fun a b=>lt b a=false)
def posI (lt:α→α→Bool) (l:List α) (x:α):Nat→Nat
 | 0=>0
 | k+1=>match l[k]? with | some y=>if lt x y then posI lt l x k else k+1 | none=>k+1
def insI (lt:α→α→Bool) (l:List α) (x:α):List α:=l.take (posI lt l x l.length) ++ x :: l.drop (posI lt l x l.length)
def orderI (lt:α→α→Bool) (l:List α):List α:=l.foldl (insI lt) []
end
end
end Go.Proofs.YtflhidfclfkjlaaGreat
namespace Go.Proofs.YtflhidfclfkjlaaGreat
open Go.RowKit Go.Sort
def OwnG (w:World) (rb:Nat) (G:Nat→Prop) (ao:Option Addr) (cap:Nat) (l:List St):Prop :=
 ∃xs:List (St×Sv×Sv),xs.map (·.1)=l∧OwnE stE 13 51 w rb ao cap xs∧∀x∈xs,Lies (fun b=>G b∧rowOf ao≠some b) w x
theorem OwnG.nil (w:World) (rb:Nat) (G:Nat→Prop):OwnG w rb G none 0 []:=⟨[],rfl,OwnE.nil _ _ _ _ _,fun x hx=>by simp at hx⟩
theorem OwnG.keep {w w' :World} {rb B:Nat} {G:Nat→Prop} {ao:Option Addr} {cap:Nat} {l:List St} (h:OwnG w rb G ao cap l) (hx:Ex B none w w') (hB:w.heap.size≤B):OwnG w' rb G ao cap l:=by
 obtain⟨xs,e,h1,h2⟩:=h
 exact⟨xs,e,h1.keep hx hB (by simp),fun x hxx=>(h2 x hxx).keep fun b _ hb=>hx.block b (by omega) (by simp)⟩
theorem OwnG.len {w:World} {rb:Nat} {G:Nat→Prop} {ao:Option Addr} {cap:Nat} {l:List St} (h:OwnG w rb G ao cap l):l.length≤cap:=by
 obtain⟨xs,rfl,h1,_⟩:=h
 rcases h1.cases with⟨_,rfl,h0⟩ | ⟨g,_,_,_,hc⟩
 · subst h0;exact Nat.le_refl _
 · simpa using hc
theorem OwnG.row {w:World} {rb:Nat} {G:Nat→Prop} {ao:Option Addr} {cap:Nat} {l:List St} (h:OwnG w rb G ao cap l) (b:Nat) (hb:rowOf ao=some b):b < w.heap.size:=by
 obtain⟨xs,_,h1,_⟩:=h
 cases ao with
 | none=>cases hb
 | some ad=>simp [rowOf] at hb;subst hb;exact(h1.lt _ rfl).2
theorem OwnG.row_ge {w:World} {rb:Nat} {G:Nat→Prop} {ao:Option Addr} {cap:Nat} {l:List St} (h:OwnG w rb G ao cap l) (b:Nat) (hb:rowOf ao=some b):rb≤b:=by
 obtain⟨xs,_,h1,_⟩:=h
 cases ao with
 | none=>cases hb
 | some ad=>simp [rowOf] at hb;subst hb;exact(h1.lt _ rfl).1
theorem OwnG.parts {w:World} {rb:Nat} {G:Nat→Prop} {ao:Option Addr} {cap:Nat} {l:List St} (h:OwnG w rb G ao cap l) (j:Nat) (hj:j≤l.length) :
 ∃(xs:List (St×Sv×Sv)) (a2:Option Addr),xs.map (·.1)=l∧(∀x∈xs,Lies (fun b=>G b∧rowOf ao≠some b) w x)∧Src w ao (xs.take j)∧(if cap=j then ao else ao.map (fun x=>x.add (j * 13)))=a2∧Src w a2 (xs.drop j)∧rowOf a2=rowOf ao∧∀b,rowOf ao=some b→b < w.heap.size:=by
 obtain⟨xs,rfl,h1,h2⟩:=h
 have hj' :j≤xs.length:=by simpa using hj
 refine⟨xs,_,rfl,h2,?_,rfl,?_,?_,?_⟩
 · rcases h1.cases with⟨_,_,h0⟩ | ⟨g,rfl,hb,_,_⟩
   · subst h0;exact .inl (by simp)
   · refine .inr ⟨_,rfl,fun i v hv=>?_⟩
     obtain⟨_,_,_,_,hc,_⟩:=own_there h1
     rw [Addr.add_lit,Nat.zero_add]
     refine hc i v ?_
     have e:flatL stE xs=flatL stE (xs.take j) ++ flatL stE (xs.drop j):=flatL_cut xs j
     rw [e,List.getElem?_append_left (List.getElem?_eq_some_iff.1 hv).1]
     exact hv
 · by_cases hc:cap=j
   · rw [if_pos hc]
     refine .inl ?_
     rcases h1.cases with⟨_,_,h0⟩ | ⟨g,_,_,_,hl⟩
     · subst h0;simp
     · simp;omega
   · rw [if_neg hc]
     rcases h1.cases with⟨_,_,h0⟩ | ⟨g,rfl,hb,_,_⟩
     · subst h0;exact .inl (by simp)
     · refine .inr ⟨_,rfl,fun i v hv=>?_⟩
       obtain⟨_,_,_,_,hc,_⟩:=own_there h1
       show w.cell? (((⟨g,0,none⟩:Addr).add (j * 13)).add i)=some v
       rw [Addr.add_lit,Addr.add_lit,Nat.zero_add]
       refine hc (j * 13+i) v ?_
       have e:flatL stE xs=flatL stE (xs.take j) ++ flatL stE (xs.drop j):=flatL_cut xs j
       have hl: (flatL stE (xs.take j)).length=j * 13:=by rw [flatL_len stE_len,List.length_take,Nat.min_eq_left hj']
       rw [e,List.getElem?_append_right (by omega),hl,Nat.add_sub_cancel_left]
       exact hv
 · by_cases hc:cap=j
   · rw [if_pos hc]
   · rw [if_neg hc];cases ao with
     | none=>rfl
     | some ad=>exact congrArg some (add_block _ _)
 · intro b hb
   cases ao with
   | none=>cases hb
   | some ad=>simp [rowOf] at hb;subst hb;exact(h1.lt _ rfl).2
theorem wp_appG {P:Program} {w:World} {o:Oper} {a:Act} {K:Act→World→Prop} {Q:Exit→Act→World→Prop} (s u:Operand) (t:TypeId)
 (ho:o.op=.call { callee:=.builtin .append,args:=#[s,u],argTypes:=#[t,t] }) (ht:P.underlying t=some (.slice 51))
 (hinfo: (P.info? 51).map (fun i=>(i.zero,i.size,i.bytes))=some (some (.agg #[.int .i64 0,.int .i64 0,.string ⟨#[]⟩,.int .i64 0,.int .i64 0,.int .i64 0,.int .i64 0,.int .i64 0,.slice none 0 0,.slice none 0 0,.string ⟨#[]⟩,.int .i64 0,.string ⟨#[]⟩]),13,160))
 (rb:Nat) (G:Nat→Prop) (ao:Option Addr) (cap n:Nat) (l:List St) (hn:l.length=n) (hs:a.eval s=.slice ao n cap) (so:Option Addr) (m sc:Nat) (hu:a.eval u=.slice so m sc) (ys:List (St×Sv×Sv)) (hm:ys.length=m)
 (hown:OwnG w rb G ao cap l) (hsrc:Src w so ys) (hx:∀x∈ys,Lies (fun b=>G b∧rowOf ao≠some b) w x) (hlen:n+m≤10000000) (hbase:rb≤w.heap.size) (r:Nat) (hr:n+m=r)
 (h:∀ao' cap' w',OwnG w' rb G ao' cap' (l ++ ys.map (·.1))→Ex rb none w w'→(∀b,b < w.heap.size→rowOf ao≠some b→w'.heap[b]? =w.heap[b]?)→(rowOf ao' =rowOf ao∨rowOf ao' =some w.heap.size)→K (a.put o.dst (.slice ao' r cap')) w'):o.wp P a w K Q:=by
 subst hr hn hm
 obtain⟨i0,hi,hz0,hz1,hz2⟩:=info_parts hinfo
 obtain⟨xs,rfl,h1,h2⟩:=hown
 have e1: (xs.map (·.1)).length=xs.length:=by simp
 rw [e1] at hs hlen h
 have key:∀so ad,so=some ad→a.eval u=.slice so ys.length sc→(∀(j:Nat) (v:Value),(flatL stE ys)[j]? =some v→w.cell? (ad.add j)=some v)→o.wp P a w K Q:=fun so ad e2 hu hc=>by
  subst e2
  obtain⟨v',w',hr,ho',hg,_,hnew⟩:=run_append_own_at (P:=P) w rb t o.type 51 i0 _ 13 160 ht hi hz0 hz1 hz2 rfl (by decide) _ _ _ h1 ad ys.length sc (flatL stE ys) (flatL_len stE_len ys) hc (flatL_one one_stE ys) (by simp only [maxLen];omega) (by omega) hbase
  obtain⟨ao',cap',rfl⟩:=own_shape ho'
  have hrow: (Value.slice ao xs.length cap).ownBlock=rowOf ao:=by cases ao <;> rfl
  have hrow' : (Value.slice ao' (xs.length+ys.length) cap').ownBlock=rowOf ao':=by cases ao' <;> rfl
  rw [hrow] at hg hnew
  rw [hrow'] at hnew
  have hkeep:∀y,Lies (fun b=>G b∧rowOf ao≠some b) w y→Lies (fun b=>G b∧rowOf ao'≠some b) w' y:=fun y hy=>by
   refine Lies.mono (P:=fun b=>(G b∧rowOf ao≠some b)∧b < w.heap.size) (Lies.keep (w:=w) (hy.mono fun b hb hlt=>⟨hb,hlt⟩) fun b hb hlt=>hg.block b hlt (fun e=>hb.1.2 e.symm)) (fun b hb _=>⟨hb.1.1,fun e=>?_⟩)
   rcases hb with⟨⟨_,hb1⟩,hb2⟩
   rcases hnew with h0 | h0
   · exact hb1 (h0 ▸ e)
   · rw [e] at h0;cases h0;omega
  unfold Oper.wp execOp
  simp only [ho,resolve,invoke,builtin,Sem.run_bind,Sem.run_pure,Result.andThen_ok,List.map_toArray,List.map_cons,List.map_nil,hs,hu,hr]
  refine h ao' cap' w' ⟨xs ++ ys,by simp,?_,fun y hy=>?_⟩ ?_ (fun b hb hne=>hg.block b hb (fun e=>hne e.symm)) hnew
  · unfold OwnE
    have e2:flatL stE (xs ++ ys)=flatL stE xs ++ flatL stE ys:=by simp [flatL]
    rw [e2,List.length_append];exact ho'
  · simp only [List.mem_append] at hy
    rcases hy with hy | hy
    · exact hkeep y (h2 y hy)
    · exact hkeep y (hx y hy)
  · refine⟨hg.os,hg.tape,hg.output,hg.size,fun k hk _=>hg.block k (by omega) (fun e=>?_)⟩
    cases ao with
    | none=>cases e
    | some ad=>
      have:=(h1.lt ad rfl).1
      simp [rowOf] at e
      omega
 rcases hsrc with h0 | ⟨ad,e2,hc⟩
 · have hy:ys=[]:=List.eq_nil_of_length_eq_zero h0
   cases so with
   | some ad=>exact key _ ad rfl hu (fun j v hv=>by subst hy;simp [flatL] at hv)
   | none=>
     subst hy
     have hrun:=run_append_none (P:=P) (w:=w) rb t o.type _ i0 13 ht hi _ _ sc _ h1
     unfold Oper.wp execOp
     simp only [ho,resolve,invoke,builtin,Sem.run_bind,Sem.run_pure,Result.andThen_ok,List.map_toArray,List.map_cons,List.map_nil,hs,hu,List.length_nil,hrun]
     exact h ao cap w ⟨xs,by simp,h1,h2⟩ (Ex.refl _ _ _) (fun _ _ _=>rfl) (.inl rfl)
 · exact key so ad e2 hu hc
theorem step_appG {P:Program} {w:World} {ops:Array Oper} {o:Oper} {a:Act} {K:Act→World→Prop} {Q:Exit→Act→World→Prop} {E:Prop} (hgd:o.guard=none) (s u:Operand) (t:TypeId)
 (ho:o.op=.call { callee:=.builtin .append,args:=#[s,u],argTypes:=#[t,t] }) (ht:P.underlying t=some (.slice 51))
 (hinfo: (P.info? 51).map (fun i=>(i.zero,i.size,i.bytes))=some (some (.agg #[.int .i64 0,.int .i64 0,.string ⟨#[]⟩,.int .i64 0,.int .i64 0,.int .i64 0,.int .i64 0,.int .i64 0,.slice none 0 0,.slice none 0 0,.string ⟨#[]⟩,.int .i64 0,.string ⟨#[]⟩]),13,160))
 (rb:Nat) (G:Nat→Prop) (ao:Option Addr) (cap n:Nat) (l:List St) (hn:l.length=n) (hs:a.eval s=.slice ao n cap) (so:Option Addr) (m sc:Nat) (hu:a.eval u=.slice so m sc) (ys:List (St×Sv×Sv)) (hm:ys.length=m)
 (hown:OwnG w rb G ao cap l) (hsrc:Src w so ys) (hx:∀x∈ys,Lies (fun b=>G b∧rowOf ao≠some b) w x) (hlen:n+m≤10000000) (hbase:rb≤w.heap.size) (r:Nat) (hr:n+m=r)
 (h:∀ao' cap' w',OwnG w' rb G ao' cap' (l ++ ys.map (·.1))→Ex rb none w w'→(∀b,b < w.heap.size→rowOf ao≠some b→w'.heap[b]? =w.heap[b]?)→(rowOf ao' =rowOf ao∨rowOf ao' =some w.heap.size)→K (a.put o.dst (.slice ao' r cap')) w') :
 if Region.wanted o (yielded ops a.tmps)=true then o.wp P a w K Q else E:=by
 rw [if_pos (show Region.wanted o (yielded ops a.tmps)=true by simp [Region.wanted,hgd])]
 exact wp_appG s u t ho ht hinfo rb G ao cap n l hn hs so m sc hu ys hm hown hsrc hx hlen hbase r hr h
theorem OwnG.keepG {w w' :World} {rb:Nat} {G:Nat→Prop} {ao:Option Addr} {cap:Nat} {l:List St} (h:OwnG w rb G ao cap l) (hr:∀b,rowOf ao=some b→b < w.heap.size→w'.heap[b]? =w.heap[b]?) (hl:∀b,G b→b < w.heap.size→w'.heap[b]? =w.heap[b]?):OwnG w' rb G ao cap l:=by
 obtain⟨xs,e,h1,h2⟩:=h
 refine⟨xs,e,?_,fun x hx=>(h2 x hx).keep fun b hb hlt=>hl b hb.1 hlt⟩
 obtain⟨k1,k2⟩:=h1
 refine⟨k1,?_⟩
 rcases k2 with k2 | ⟨g,c,cur,hv,hg,hh,r⟩
 · exact .inl k2
 · refine .inr ⟨g,c,cur,hv,hg,?_,r⟩
   have hlt:=(Array.getElem?_eq_some_iff.1 hh).1
   rw [hr g ?_ hlt]
   · exact hh
   · simp only [Value.slice.injEq] at hv
     rw [hv.1];rfl
theorem OwnG.monoG {w:World} {rb:Nat} {G G' :Nat→Prop} {ao:Option Addr} {cap:Nat} {l:List St} (h:OwnG w rb G ao cap l) (hg:∀b,G b→b < w.heap.size→G' b):OwnG w rb G' ao cap l:=by
 obtain⟨xs,e,h1,h2⟩:=h
 exact⟨xs,e,h1,fun x hx=>(h2 x hx).mono fun b hb hlt=>⟨hg b hb.1 hlt,hb.2⟩⟩
theorem OwnG.lowG {w:World} {rb rb' :Nat} {G:Nat→Prop} {ao:Option Addr} {cap:Nat} {l:List St} (h:OwnG w rb G ao cap l) (hb:rb'≤rb):OwnG w rb' G ao cap l:=by
 obtain⟨xs,e,h1,h2⟩:=h
 exact⟨xs,e,h1.lower hb,h2⟩
def OwnZ (g base:Nat) (w:World) (ao:Option Addr) (cap:Nat) (l:List St):Prop:=OwnG w base (fun b=>base≤b∧b≠g) ao cap l∧rowOf ao≠some g
theorem OwnZ.s {g base:Nat} {w:World} {ao:Option Addr} {cap:Nat} {l:List St} (h:OwnZ g base w ao cap l):OwnS w base ao cap l:=h.1.monoG (G':=fun b=>base≤b) fun _b hb _=>hb.1
theorem OwnZ.keep {g base:Nat} {w w' :World} {ao:Option Addr} {cap:Nat} {l:List St} (h:OwnZ g base w ao cap l) (hx:∀b,base≤b→b≠g→b < w.heap.size→w'.heap[b]? =w.heap[b]?):OwnZ g base w' ao cap l :=
 ⟨h.1.keepG (fun b hb hlt=>hx b (h.1.row_ge b hb) (fun e=>h.2 (by rw [hb,e])) hlt) (fun b hb hlt=>hx b hb.1 hb.2 hlt),h.2⟩
theorem OwnZ.of {g base:Nat} {w:World} {ao:Option Addr} {cap:Nat} {l:List St} (h:OwnS w base ao cap l) (hg:w.heap.size≤g):OwnZ g base w ao cap l :=
 ⟨OwnG.monoG (G:=fun b=>base≤b) h fun b hb hlt=>⟨hb,by omega⟩,fun e=>by have:=h.t.row g e;omega⟩
def byTime (x y:St×Sv×Sv):Int:=(([cmpI x.1.time y.1.time,cmpI x.1.author y.1.author,cmpI x.1.number y.1.number]:List Int).find? (· != 0)).getD 0
def GrowsTo (w w' :World):Prop:=∃q os',w' =grow (w.drewN q) os'
theorem OwnS.lower {w:World} {base base' :Nat} {ao:Option Addr} {cap:Nat} {l:List St} (h:OwnS w base ao cap l) (hb:base'≤base):OwnS w base' ao cap l:=by
 obtain⟨xs,e,h1,h2⟩:=h
 refine⟨xs,e,⟨h1.1,?_⟩,fun x hx=>(h2 x hx).mono fun b hbb _=>⟨by omega,hbb.2⟩⟩
 rcases h1.2 with h | ⟨g,c,cur,e1,e2,e3⟩
 · exact .inl h
 · exact .inr ⟨g,c,cur,e1,by omega,e3⟩
end Go.Proofs.YtflhidfclfkjlaaGreat
